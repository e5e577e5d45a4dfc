/- Contracts of the shelf, laid at this program (printed by gen_lay.py) -/
import Derived.Test.YtnfndgmlnoeelaaGreatDoorProg
import Derived.WalkKit
import Derived.KernelRfl
import Derived.Ground.NamesProg
import Derived.Shelf.Slices.In.SortNone
import Derived.Shelf.Sort.Plain
namespace Go.Proofs
open Go.Shelf
def Go.Proofs.Tryz.laysSort_ren : Ren :=
{
  f := fun x =>
    match x with
    | 190 => 156
    | 125 => 104
    | 258 => 175
    | 128 => 142
    | 129 => 143
    | 302 => 181
    | 303 => 182
    | 304 => 183
    | 305 => 184
    | 306 => 185
    | 307 => 186
    | 308 => 187
    | 309 => 188
    | 310 => 189
    | 333 => 194
    | 329 => 160
    | 330 => 161
    | 334 => 195
    | 335 => 196
    | 336 => 145
    | 344 => 199
    | n => n,
  t := fun x =>
    match x with
    | 31 => 55
    | 9 => 9
    | 3 => 3
    | 46 => 179
    | 0 => 0
    | 51 => 213
    | 53 => 26
    | 4 => 4
    | 183 => 207
    | 182 => 206
    | 131 => 152
    | 5 => 5
    | 218 => 229
    | 222 => 233
    | 228 => 247
    | 229 => 248
    | n => n,
  g := fun x =>
    x }
theorem Go.Proofs.Tryz.laysSort : Lays.n190 Tryz.prog Tryz.laysSort_ren :=
{ mixed := Eq.refl true, f125 := Eq.trans Tryz.func104 (congrArg some (by kernel_rfl)),
  f128 := Eq.trans Tryz.func142 (congrArg some (by kernel_rfl)),
  f129 := Eq.trans Tryz.func143 (congrArg some (by kernel_rfl)),
  f190 := Eq.trans Tryz.func156 (congrArg some (by kernel_rfl)),
  f258 := Eq.trans Tryz.func175 (congrArg some (by kernel_rfl)),
  f302 := Eq.trans Tryz.func181 (congrArg some (by kernel_rfl)),
  f303 := Eq.trans Tryz.func182 (congrArg some (by kernel_rfl)),
  f304 := Eq.trans Tryz.func183 (congrArg some (by kernel_rfl)),
  f305 := Eq.trans Tryz.func184 (congrArg some (by kernel_rfl)),
  f306 := Eq.trans Tryz.func185 (congrArg some (by kernel_rfl)),
  f307 := Eq.trans Tryz.func186 (congrArg some (by kernel_rfl)),
  f308 := Eq.trans Tryz.func187 (congrArg some (by kernel_rfl)),
  f309 := Eq.trans Tryz.func188 (congrArg some (by kernel_rfl)),
  f310 := Eq.trans Tryz.func189 (congrArg some (by kernel_rfl)),
  f329 := Eq.trans Tryz.func160 (congrArg some (by kernel_rfl)),
  f330 := Eq.trans Tryz.func161 (congrArg some (by kernel_rfl)),
  f333 := Eq.trans Tryz.func194 (congrArg some (by kernel_rfl)),
  f334 := Eq.trans Tryz.func195 (congrArg some (by kernel_rfl)),
  f335 := Eq.trans Tryz.func196 (congrArg some (by kernel_rfl)),
  f336 := Eq.trans Tryz.func145 (congrArg some (by kernel_rfl)),
  f344 := Eq.trans Tryz.func199 (congrArg some (by kernel_rfl)), t0 := Tryz.underlying0,
  a0 := Tryz.isAgg0, z0 := Tryz.sizeOf0, v0 := Tryz.zeroValue0, t3 := Tryz.underlying3, a3 := Tryz.isAgg3,
  z3 := Tryz.sizeOf3, v3 := Tryz.zeroValue3, t4 := Tryz.underlying4, a4 := Tryz.isAgg4, z4 := Tryz.sizeOf4,
  v4 := Tryz.zeroValue4, t5 := Tryz.underlying5, a5 := Tryz.isAgg5, z5 := Tryz.sizeOf5, v5 := Tryz.zeroValue5,
  t9 := Tryz.underlying9, a9 := Tryz.isAgg9, z9 := Tryz.sizeOf9, v9 := Tryz.zeroValue9, t31 := Tryz.underlying55,
  a31 := Tryz.isAgg55, z31 := Tryz.sizeOf55, v31 := Tryz.zeroValue55, t46 := Tryz.underlying179, a46 := Tryz.isAgg179,
  z46 := Tryz.sizeOf179, v46 := Tryz.zeroValue179, t51 := Tryz.underlying213, a51 := Tryz.isAgg213,
  z51 := Tryz.sizeOf213, v51 := Tryz.zeroValue213, t53 := Tryz.underlying26, a53 := Tryz.isAgg26, z53 := Tryz.sizeOf26,
  v53 := Tryz.zeroValue26, t131 := Tryz.underlying152, a131 := Tryz.isAgg152, z131 := Tryz.sizeOf152,
  v131 := Tryz.zeroValue152, t182 := Tryz.underlying206, a182 := Tryz.isAgg206, z182 := Tryz.sizeOf206,
  v182 := Tryz.zeroValue206, t183 := Tryz.underlying207, a183 := Tryz.isAgg207, z183 := Tryz.sizeOf207,
  v183 := Tryz.zeroValue207, t218 := Tryz.underlying229, a218 := Tryz.isAgg229, z218 := Tryz.sizeOf229,
  v218 := Tryz.zeroValue229, t222 := Tryz.underlying233, a222 := Tryz.isAgg233, z222 := Tryz.sizeOf233,
  v222 := Tryz.zeroValue233, t228 := Tryz.underlying247, a228 := Tryz.isAgg247, z228 := Tryz.sizeOf247,
  v228 := Tryz.zeroValue247, t229 := Tryz.underlying248, a229 := Tryz.isAgg248, z229 := Tryz.sizeOf248,
  v229 := Tryz.zeroValue248 }
end Go.Proofs
