/- Contracts of the shelf, laid at this program (printed by gen_lay.py) -/
import Derived.Test.YtlpipoihinceiaaGreatDoorProg
import Derived.WalkKit
import Derived.KernelRfl
import Derived.Ground.NamesProg
import Derived.Shelf.Slices.In.SortNone
import Derived.Shelf.Sort.Plain
namespace Go.Proofs
open Go.Shelf
def Go.Proofs.Tryz.laysSort_ren : Ren :=
{
  f := fun x =>
    match x with
    | 190 => 164
    | 125 => 125
    | 258 => 211
    | 128 => 177
    | 129 => 178
    | 302 => 227
    | 303 => 228
    | 304 => 229
    | 305 => 230
    | 306 => 231
    | 307 => 232
    | 308 => 233
    | 309 => 234
    | 310 => 235
    | 333 => 246
    | 329 => 216
    | 330 => 217
    | 334 => 247
    | 335 => 248
    | 336 => 126
    | 344 => 252
    | n => n,
  t := fun x =>
    match x with
    | 31 => 22
    | 9 => 9
    | 3 => 3
    | 46 => 179
    | 0 => 0
    | 51 => 221
    | 53 => 223
    | 4 => 4
    | 183 => 215
    | 182 => 214
    | 131 => 97
    | 5 => 5
    | 218 => 264
    | 222 => 268
    | 228 => 284
    | 229 => 285
    | n => n,
  g := fun x =>
    x }
theorem Go.Proofs.Tryz.laysSort : Lays.n190 Tryz.prog Tryz.laysSort_ren :=
{ mixed := Eq.refl true, f125 := Eq.trans Tryz.func125 (congrArg some (by kernel_rfl)),
  f128 := Eq.trans Tryz.func177 (congrArg some (by kernel_rfl)),
  f129 := Eq.trans Tryz.func178 (congrArg some (by kernel_rfl)),
  f190 := Eq.trans Tryz.func164 (congrArg some (by kernel_rfl)),
  f258 := Eq.trans Tryz.func211 (congrArg some (by kernel_rfl)),
  f302 := Eq.trans Tryz.func227 (congrArg some (by kernel_rfl)),
  f303 := Eq.trans Tryz.func228 (congrArg some (by kernel_rfl)),
  f304 := Eq.trans Tryz.func229 (congrArg some (by kernel_rfl)),
  f305 := Eq.trans Tryz.func230 (congrArg some (by kernel_rfl)),
  f306 := Eq.trans Tryz.func231 (congrArg some (by kernel_rfl)),
  f307 := Eq.trans Tryz.func232 (congrArg some (by kernel_rfl)),
  f308 := Eq.trans Tryz.func233 (congrArg some (by kernel_rfl)),
  f309 := Eq.trans Tryz.func234 (congrArg some (by kernel_rfl)),
  f310 := Eq.trans Tryz.func235 (congrArg some (by kernel_rfl)),
  f329 := Eq.trans Tryz.func216 (congrArg some (by kernel_rfl)),
  f330 := Eq.trans Tryz.func217 (congrArg some (by kernel_rfl)),
  f333 := Eq.trans Tryz.func246 (congrArg some (by kernel_rfl)),
  f334 := Eq.trans Tryz.func247 (congrArg some (by kernel_rfl)),
  f335 := Eq.trans Tryz.func248 (congrArg some (by kernel_rfl)),
  f336 := Eq.trans Tryz.func126 (congrArg some (by kernel_rfl)),
  f344 := Eq.trans Tryz.func252 (congrArg some (by kernel_rfl)), t0 := Tryz.underlying0,
  a0 := Tryz.isAgg0, z0 := Tryz.sizeOf0, v0 := Tryz.zeroValue0, t3 := Tryz.underlying3, a3 := Tryz.isAgg3,
  z3 := Tryz.sizeOf3, v3 := Tryz.zeroValue3, t4 := Tryz.underlying4, a4 := Tryz.isAgg4, z4 := Tryz.sizeOf4,
  v4 := Tryz.zeroValue4, t5 := Tryz.underlying5, a5 := Tryz.isAgg5, z5 := Tryz.sizeOf5, v5 := Tryz.zeroValue5,
  t9 := Tryz.underlying9, a9 := Tryz.isAgg9, z9 := Tryz.sizeOf9, v9 := Tryz.zeroValue9, t31 := Tryz.underlying22,
  a31 := Tryz.isAgg22, z31 := Tryz.sizeOf22, v31 := Tryz.zeroValue22, t46 := Tryz.underlying179, a46 := Tryz.isAgg179,
  z46 := Tryz.sizeOf179, v46 := Tryz.zeroValue179, t51 := Tryz.underlying221, a51 := Tryz.isAgg221,
  z51 := Tryz.sizeOf221, v51 := Tryz.zeroValue221, t53 := Tryz.underlying223, a53 := Tryz.isAgg223,
  z53 := Tryz.sizeOf223, v53 := Tryz.zeroValue223, t131 := Tryz.underlying97, a131 := Tryz.isAgg97,
  z131 := Tryz.sizeOf97, v131 := Tryz.zeroValue97, t182 := Tryz.underlying214, a182 := Tryz.isAgg214,
  z182 := Tryz.sizeOf214, v182 := Tryz.zeroValue214, t183 := Tryz.underlying215, a183 := Tryz.isAgg215,
  z183 := Tryz.sizeOf215, v183 := Tryz.zeroValue215, t218 := Tryz.underlying264, a218 := Tryz.isAgg264,
  z218 := Tryz.sizeOf264, v218 := Tryz.zeroValue264, t222 := Tryz.underlying268, a222 := Tryz.isAgg268,
  z222 := Tryz.sizeOf268, v222 := Tryz.zeroValue268, t228 := Tryz.underlying284, a228 := Tryz.isAgg284,
  z228 := Tryz.sizeOf284, v228 := Tryz.zeroValue284, t229 := Tryz.underlying285, a229 := Tryz.isAgg285,
  z229 := Tryz.sizeOf285, v229 := Tryz.zeroValue285 }
end Go.Proofs
