/- Contracts of the shelf, laid at this program (printed by gen_lay.py) -/
import Derived.Test.YtmmecapgnmlaiaaGreatDoorProg
import Derived.WalkKit
import Derived.KernelRfl
import Derived.Ground.NamesProg
import Derived.Shelf.Slices.In.SortNone
import Derived.Shelf.Sort.Plain
namespace Go.Proofs
open Go.Shelf
def Go.Proofs.Tryz.laysSortI_ren : Ren :=
{
  f := fun x =>
    match x with
    | 189 => 85
    | 125 => 142
    | 257 => 143
    | 128 => 194
    | 129 => 195
    | 294 => 196
    | 295 => 197
    | 296 => 198
    | 297 => 199
    | 298 => 200
    | 299 => 201
    | 216 => 202
    | 300 => 203
    | 301 => 204
    | 328 => 245
    | 329 => 241
    | 330 => 242
    | 331 => 246
    | 332 => 247
    | 215 => 166
    | 343 => 272
    | n => n,
  t := fun x =>
    match x with
    | 28 => 39
    | 3 => 3
    | 46 => 199
    | 0 => 0
    | 51 => 242
    | 53 => 244
    | 4 => 4
    | 183 => 236
    | 182 => 235
    | 131 => 210
    | 5 => 5
    | 9 => 9
    | 218 => 281
    | 222 => 285
    | 228 => 305
    | 229 => 306
    | n => n,
  g := fun x =>
    x }
theorem Go.Proofs.Tryz.laysSortI : Lays.n189 Tryz.prog Tryz.laysSortI_ren :=
{ mixed := Eq.refl true, f125 := Eq.trans Tryz.func142 (congrArg some (by kernel_rfl)),
  f128 := Eq.trans Tryz.func194 (congrArg some (by kernel_rfl)),
  f129 := Eq.trans Tryz.func195 (congrArg some (by kernel_rfl)),
  f189 := Eq.trans Tryz.func85 (congrArg some (by kernel_rfl)),
  f215 := Eq.trans Tryz.func166 (congrArg some (by kernel_rfl)),
  f216 := Eq.trans Tryz.func202 (congrArg some (by kernel_rfl)),
  f257 := Eq.trans Tryz.func143 (congrArg some (by kernel_rfl)),
  f294 := Eq.trans Tryz.func196 (congrArg some (by kernel_rfl)),
  f295 := Eq.trans Tryz.func197 (congrArg some (by kernel_rfl)),
  f296 := Eq.trans Tryz.func198 (congrArg some (by kernel_rfl)),
  f297 := Eq.trans Tryz.func199 (congrArg some (by kernel_rfl)),
  f298 := Eq.trans Tryz.func200 (congrArg some (by kernel_rfl)),
  f299 := Eq.trans Tryz.func201 (congrArg some (by kernel_rfl)),
  f300 := Eq.trans Tryz.func203 (congrArg some (by kernel_rfl)),
  f301 := Eq.trans Tryz.func204 (congrArg some (by kernel_rfl)),
  f328 := Eq.trans Tryz.func245 (congrArg some (by kernel_rfl)),
  f329 := Eq.trans Tryz.func241 (congrArg some (by kernel_rfl)),
  f330 := Eq.trans Tryz.func242 (congrArg some (by kernel_rfl)),
  f331 := Eq.trans Tryz.func246 (congrArg some (by kernel_rfl)),
  f332 := Eq.trans Tryz.func247 (congrArg some (by kernel_rfl)),
  f343 := Eq.trans Tryz.func272 (congrArg some (by kernel_rfl)), t0 := Tryz.underlying0,
  a0 := Tryz.isAgg0, z0 := Tryz.sizeOf0, v0 := Tryz.zeroValue0, t3 := Tryz.underlying3, a3 := Tryz.isAgg3,
  z3 := Tryz.sizeOf3, v3 := Tryz.zeroValue3, t4 := Tryz.underlying4, a4 := Tryz.isAgg4, z4 := Tryz.sizeOf4,
  v4 := Tryz.zeroValue4, t5 := Tryz.underlying5, a5 := Tryz.isAgg5, z5 := Tryz.sizeOf5, v5 := Tryz.zeroValue5,
  t9 := Tryz.underlying9, a9 := Tryz.isAgg9, z9 := Tryz.sizeOf9, v9 := Tryz.zeroValue9, t28 := Tryz.underlying39,
  a28 := Tryz.isAgg39, z28 := Tryz.sizeOf39, v28 := Tryz.zeroValue39, t46 := Tryz.underlying199, a46 := Tryz.isAgg199,
  z46 := Tryz.sizeOf199, v46 := Tryz.zeroValue199, t51 := Tryz.underlying242, a51 := Tryz.isAgg242,
  z51 := Tryz.sizeOf242, v51 := Tryz.zeroValue242, t53 := Tryz.underlying244, a53 := Tryz.isAgg244,
  z53 := Tryz.sizeOf244, v53 := Tryz.zeroValue244, t131 := Tryz.underlying210, a131 := Tryz.isAgg210,
  z131 := Tryz.sizeOf210, v131 := Tryz.zeroValue210, t182 := Tryz.underlying235, a182 := Tryz.isAgg235,
  z182 := Tryz.sizeOf235, v182 := Tryz.zeroValue235, t183 := Tryz.underlying236, a183 := Tryz.isAgg236,
  z183 := Tryz.sizeOf236, v183 := Tryz.zeroValue236, t218 := Tryz.underlying281, a218 := Tryz.isAgg281,
  z218 := Tryz.sizeOf281, v218 := Tryz.zeroValue281, t222 := Tryz.underlying285, a222 := Tryz.isAgg285,
  z222 := Tryz.sizeOf285, v222 := Tryz.zeroValue285, t228 := Tryz.underlying305, a228 := Tryz.isAgg305,
  z228 := Tryz.sizeOf305, v228 := Tryz.zeroValue305, t229 := Tryz.underlying306, a229 := Tryz.isAgg306,
  z229 := Tryz.sizeOf306, v229 := Tryz.zeroValue306 }
end Go.Proofs
