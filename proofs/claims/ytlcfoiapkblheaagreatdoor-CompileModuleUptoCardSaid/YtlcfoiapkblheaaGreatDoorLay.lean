/- Contracts of the shelf, laid at this program (printed by gen_lay.py) -/
import Derived.Test.YtlcfoiapkblheaaGreatDoorProg
import Derived.WalkKit
import Derived.KernelRfl
import Derived.Ground.NamesProg
import Derived.Shelf.Slices.In.SortNone
import Derived.Shelf.Sort.Plain
namespace Go.Proofs
open Go.Shelf
def Go.Proofs.Tryz.laysSort_ren : Ren :=
{
  f := fun x =>
    match x with
    | 190 => 193
    | 125 => 148
    | 258 => 233
    | 128 => 202
    | 129 => 203
    | 302 => 247
    | 303 => 248
    | 304 => 249
    | 305 => 250
    | 306 => 251
    | 307 => 252
    | 308 => 253
    | 309 => 254
    | 310 => 255
    | 333 => 264
    | 329 => 235
    | 330 => 236
    | 334 => 265
    | 335 => 266
    | 336 => 149
    | 344 => 269
    | n => n,
  t := fun x =>
    match x with
    | 31 => 22
    | 9 => 9
    | 3 => 3
    | 46 => 203
    | 0 => 0
    | 51 => 243
    | 53 => 245
    | 4 => 4
    | 183 => 237
    | 182 => 236
    | 131 => 124
    | 5 => 5
    | 218 => 279
    | 222 => 283
    | 228 => 293
    | 229 => 294
    | n => n,
  g := fun x =>
    x }
theorem Go.Proofs.Tryz.laysSort : Lays.n190 Tryz.prog Tryz.laysSort_ren :=
{ mixed := Eq.refl true, f125 := Eq.trans Tryz.func148 (congrArg some (by kernel_rfl)),
  f128 := Eq.trans Tryz.func202 (congrArg some (by kernel_rfl)),
  f129 := Eq.trans Tryz.func203 (congrArg some (by kernel_rfl)),
  f190 := Eq.trans Tryz.func193 (congrArg some (by kernel_rfl)),
  f258 := Eq.trans Tryz.func233 (congrArg some (by kernel_rfl)),
  f302 := Eq.trans Tryz.func247 (congrArg some (by kernel_rfl)),
  f303 := Eq.trans Tryz.func248 (congrArg some (by kernel_rfl)),
  f304 := Eq.trans Tryz.func249 (congrArg some (by kernel_rfl)),
  f305 := Eq.trans Tryz.func250 (congrArg some (by kernel_rfl)),
  f306 := Eq.trans Tryz.func251 (congrArg some (by kernel_rfl)),
  f307 := Eq.trans Tryz.func252 (congrArg some (by kernel_rfl)),
  f308 := Eq.trans Tryz.func253 (congrArg some (by kernel_rfl)),
  f309 := Eq.trans Tryz.func254 (congrArg some (by kernel_rfl)),
  f310 := Eq.trans Tryz.func255 (congrArg some (by kernel_rfl)),
  f329 := Eq.trans Tryz.func235 (congrArg some (by kernel_rfl)),
  f330 := Eq.trans Tryz.func236 (congrArg some (by kernel_rfl)),
  f333 := Eq.trans Tryz.func264 (congrArg some (by kernel_rfl)),
  f334 := Eq.trans Tryz.func265 (congrArg some (by kernel_rfl)),
  f335 := Eq.trans Tryz.func266 (congrArg some (by kernel_rfl)),
  f336 := Eq.trans Tryz.func149 (congrArg some (by kernel_rfl)),
  f344 := Eq.trans Tryz.func269 (congrArg some (by kernel_rfl)), t0 := Tryz.underlying0,
  a0 := Tryz.isAgg0, z0 := Tryz.sizeOf0, v0 := Tryz.zeroValue0, t3 := Tryz.underlying3, a3 := Tryz.isAgg3,
  z3 := Tryz.sizeOf3, v3 := Tryz.zeroValue3, t4 := Tryz.underlying4, a4 := Tryz.isAgg4, z4 := Tryz.sizeOf4,
  v4 := Tryz.zeroValue4, t5 := Tryz.underlying5, a5 := Tryz.isAgg5, z5 := Tryz.sizeOf5, v5 := Tryz.zeroValue5,
  t9 := Tryz.underlying9, a9 := Tryz.isAgg9, z9 := Tryz.sizeOf9, v9 := Tryz.zeroValue9, t31 := Tryz.underlying22,
  a31 := Tryz.isAgg22, z31 := Tryz.sizeOf22, v31 := Tryz.zeroValue22, t46 := Tryz.underlying203, a46 := Tryz.isAgg203,
  z46 := Tryz.sizeOf203, v46 := Tryz.zeroValue203, t51 := Tryz.underlying243, a51 := Tryz.isAgg243,
  z51 := Tryz.sizeOf243, v51 := Tryz.zeroValue243, t53 := Tryz.underlying245, a53 := Tryz.isAgg245,
  z53 := Tryz.sizeOf245, v53 := Tryz.zeroValue245, t131 := Tryz.underlying124, a131 := Tryz.isAgg124,
  z131 := Tryz.sizeOf124, v131 := Tryz.zeroValue124, t182 := Tryz.underlying236, a182 := Tryz.isAgg236,
  z182 := Tryz.sizeOf236, v182 := Tryz.zeroValue236, t183 := Tryz.underlying237, a183 := Tryz.isAgg237,
  z183 := Tryz.sizeOf237, v183 := Tryz.zeroValue237, t218 := Tryz.underlying279, a218 := Tryz.isAgg279,
  z218 := Tryz.sizeOf279, v218 := Tryz.zeroValue279, t222 := Tryz.underlying283, a222 := Tryz.isAgg283,
  z222 := Tryz.sizeOf283, v222 := Tryz.zeroValue283, t228 := Tryz.underlying293, a228 := Tryz.isAgg293,
  z228 := Tryz.sizeOf293, v228 := Tryz.zeroValue293, t229 := Tryz.underlying294, a229 := Tryz.isAgg294,
  z229 := Tryz.sizeOf294, v229 := Tryz.zeroValue294 }
end Go.Proofs
