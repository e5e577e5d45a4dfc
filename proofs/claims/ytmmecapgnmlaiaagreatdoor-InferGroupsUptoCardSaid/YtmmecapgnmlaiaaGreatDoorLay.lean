/- Contracts of the shelf, laid at this program (printed by gen_lay.py) -/
import Derived.Test.YtmmecapgnmlaiaaGreatDoorProg
import Derived.WalkKit
import Derived.KernelRfl
import Derived.Ground.NamesProg
import Derived.Shelf.Slices.In.SortNone
import Derived.Shelf.Sort.Plain
namespace Go.Proofs
open Go.Shelf
def Go.Proofs.Tryz.laysSort_ren : Ren :=
{
  f := fun x =>
    match x with
    | 190 => 176
    | 125 => 142
    | 258 => 237
    | 128 => 194
    | 129 => 195
    | 302 => 261
    | 303 => 262
    | 304 => 263
    | 305 => 264
    | 306 => 265
    | 307 => 266
    | 308 => 267
    | 309 => 268
    | 310 => 269
    | 333 => 283
    | 329 => 241
    | 330 => 242
    | 334 => 284
    | 335 => 285
    | 336 => 165
    | 344 => 288
    | n => n,
  t := fun x =>
    match x with
    | 31 => 22
    | 9 => 9
    | 3 => 3
    | 46 => 199
    | 0 => 0
    | 51 => 242
    | 53 => 244
    | 4 => 4
    | 183 => 236
    | 182 => 235
    | 131 => 210
    | 5 => 5
    | 218 => 281
    | 222 => 285
    | 228 => 305
    | 229 => 306
    | n => n,
  g := fun x =>
    x }
theorem Go.Proofs.Tryz.laysSort : Lays.n190 Tryz.prog Tryz.laysSort_ren :=
{ mixed := Eq.refl true, f125 := Eq.trans Tryz.func142 (congrArg some (by kernel_rfl)),
  f128 := Eq.trans Tryz.func194 (congrArg some (by kernel_rfl)),
  f129 := Eq.trans Tryz.func195 (congrArg some (by kernel_rfl)),
  f190 := Eq.trans Tryz.func176 (congrArg some (by kernel_rfl)),
  f258 := Eq.trans Tryz.func237 (congrArg some (by kernel_rfl)),
  f302 := Eq.trans Tryz.func261 (congrArg some (by kernel_rfl)),
  f303 := Eq.trans Tryz.func262 (congrArg some (by kernel_rfl)),
  f304 := Eq.trans Tryz.func263 (congrArg some (by kernel_rfl)),
  f305 := Eq.trans Tryz.func264 (congrArg some (by kernel_rfl)),
  f306 := Eq.trans Tryz.func265 (congrArg some (by kernel_rfl)),
  f307 := Eq.trans Tryz.func266 (congrArg some (by kernel_rfl)),
  f308 := Eq.trans Tryz.func267 (congrArg some (by kernel_rfl)),
  f309 := Eq.trans Tryz.func268 (congrArg some (by kernel_rfl)),
  f310 := Eq.trans Tryz.func269 (congrArg some (by kernel_rfl)),
  f329 := Eq.trans Tryz.func241 (congrArg some (by kernel_rfl)),
  f330 := Eq.trans Tryz.func242 (congrArg some (by kernel_rfl)),
  f333 := Eq.trans Tryz.func283 (congrArg some (by kernel_rfl)),
  f334 := Eq.trans Tryz.func284 (congrArg some (by kernel_rfl)),
  f335 := Eq.trans Tryz.func285 (congrArg some (by kernel_rfl)),
  f336 := Eq.trans Tryz.func165 (congrArg some (by kernel_rfl)),
  f344 := Eq.trans Tryz.func288 (congrArg some (by kernel_rfl)), t0 := Tryz.underlying0,
  a0 := Tryz.isAgg0, z0 := Tryz.sizeOf0, v0 := Tryz.zeroValue0, t3 := Tryz.underlying3, a3 := Tryz.isAgg3,
  z3 := Tryz.sizeOf3, v3 := Tryz.zeroValue3, t4 := Tryz.underlying4, a4 := Tryz.isAgg4, z4 := Tryz.sizeOf4,
  v4 := Tryz.zeroValue4, t5 := Tryz.underlying5, a5 := Tryz.isAgg5, z5 := Tryz.sizeOf5, v5 := Tryz.zeroValue5,
  t9 := Tryz.underlying9, a9 := Tryz.isAgg9, z9 := Tryz.sizeOf9, v9 := Tryz.zeroValue9, t31 := Tryz.underlying22,
  a31 := Tryz.isAgg22, z31 := Tryz.sizeOf22, v31 := Tryz.zeroValue22, t46 := Tryz.underlying199, a46 := Tryz.isAgg199,
  z46 := Tryz.sizeOf199, v46 := Tryz.zeroValue199, t51 := Tryz.underlying242, a51 := Tryz.isAgg242,
  z51 := Tryz.sizeOf242, v51 := Tryz.zeroValue242, t53 := Tryz.underlying244, a53 := Tryz.isAgg244,
  z53 := Tryz.sizeOf244, v53 := Tryz.zeroValue244, t131 := Tryz.underlying210, a131 := Tryz.isAgg210,
  z131 := Tryz.sizeOf210, v131 := Tryz.zeroValue210, t182 := Tryz.underlying235, a182 := Tryz.isAgg235,
  z182 := Tryz.sizeOf235, v182 := Tryz.zeroValue235, t183 := Tryz.underlying236, a183 := Tryz.isAgg236,
  z183 := Tryz.sizeOf236, v183 := Tryz.zeroValue236, t218 := Tryz.underlying281, a218 := Tryz.isAgg281,
  z218 := Tryz.sizeOf281, v218 := Tryz.zeroValue281, t222 := Tryz.underlying285, a222 := Tryz.isAgg285,
  z222 := Tryz.sizeOf285, v222 := Tryz.zeroValue285, t228 := Tryz.underlying305, a228 := Tryz.isAgg305,
  z228 := Tryz.sizeOf305, v228 := Tryz.zeroValue305, t229 := Tryz.underlying306, a229 := Tryz.isAgg306,
  z229 := Tryz.sizeOf306, v229 := Tryz.zeroValue306 }
end Go.Proofs
