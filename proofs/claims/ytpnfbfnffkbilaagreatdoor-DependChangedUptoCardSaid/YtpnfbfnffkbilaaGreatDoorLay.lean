/- Contracts of the shelf, laid at this program (printed by gen_lay.py) -/
import Derived.Test.YtpnfbfnffkbilaaGreatDoorProg
import Derived.WalkKit
import Derived.KernelRfl
import Derived.Ground.NamesProg
import Derived.Shelf.Slices.In.SortNone
import Derived.Shelf.Sort.Plain
namespace Go.Proofs
open Go.Shelf
def Go.Proofs.Tryz.laysSort_ren : Ren :=
{
  f := fun x =>
    match x with
    | 190 => 132
    | 125 => 105
    | 258 => 166
    | 128 => 143
    | 129 => 144
    | 302 => 183
    | 303 => 184
    | 304 => 185
    | 305 => 186
    | 306 => 187
    | 307 => 188
    | 308 => 189
    | 309 => 190
    | 310 => 191
    | 333 => 200
    | 329 => 168
    | 330 => 169
    | 334 => 201
    | 335 => 202
    | 336 => 146
    | 344 => 208
    | n => n,
  t := fun x =>
    match x with
    | 31 => 45
    | 9 => 9
    | 3 => 3
    | 46 => 141
    | 0 => 0
    | 51 => 171
    | 53 => 173
    | 4 => 4
    | 183 => 164
    | 182 => 163
    | 131 => 168
    | 5 => 5
    | 218 => 190
    | 222 => 194
    | 228 => 205
    | 229 => 206
    | n => n,
  g := fun x =>
    x }
theorem Go.Proofs.Tryz.laysSort : Lays.n190 Tryz.prog Tryz.laysSort_ren :=
{ mixed := Eq.refl true, f125 := Eq.trans Tryz.func105 (congrArg some (by kernel_rfl)),
  f128 := Eq.trans Tryz.func143 (congrArg some (by kernel_rfl)),
  f129 := Eq.trans Tryz.func144 (congrArg some (by kernel_rfl)),
  f190 := Eq.trans Tryz.func132 (congrArg some (by kernel_rfl)),
  f258 := Eq.trans Tryz.func166 (congrArg some (by kernel_rfl)),
  f302 := Eq.trans Tryz.func183 (congrArg some (by kernel_rfl)),
  f303 := Eq.trans Tryz.func184 (congrArg some (by kernel_rfl)),
  f304 := Eq.trans Tryz.func185 (congrArg some (by kernel_rfl)),
  f305 := Eq.trans Tryz.func186 (congrArg some (by kernel_rfl)),
  f306 := Eq.trans Tryz.func187 (congrArg some (by kernel_rfl)),
  f307 := Eq.trans Tryz.func188 (congrArg some (by kernel_rfl)),
  f308 := Eq.trans Tryz.func189 (congrArg some (by kernel_rfl)),
  f309 := Eq.trans Tryz.func190 (congrArg some (by kernel_rfl)),
  f310 := Eq.trans Tryz.func191 (congrArg some (by kernel_rfl)),
  f329 := Eq.trans Tryz.func168 (congrArg some (by kernel_rfl)),
  f330 := Eq.trans Tryz.func169 (congrArg some (by kernel_rfl)),
  f333 := Eq.trans Tryz.func200 (congrArg some (by kernel_rfl)),
  f334 := Eq.trans Tryz.func201 (congrArg some (by kernel_rfl)),
  f335 := Eq.trans Tryz.func202 (congrArg some (by kernel_rfl)),
  f336 := Eq.trans Tryz.func146 (congrArg some (by kernel_rfl)),
  f344 := Eq.trans Tryz.func208 (congrArg some (by kernel_rfl)), t0 := Tryz.underlying0,
  a0 := Tryz.isAgg0, z0 := Tryz.sizeOf0, v0 := Tryz.zeroValue0, t3 := Tryz.underlying3, a3 := Tryz.isAgg3,
  z3 := Tryz.sizeOf3, v3 := Tryz.zeroValue3, t4 := Tryz.underlying4, a4 := Tryz.isAgg4, z4 := Tryz.sizeOf4,
  v4 := Tryz.zeroValue4, t5 := Tryz.underlying5, a5 := Tryz.isAgg5, z5 := Tryz.sizeOf5, v5 := Tryz.zeroValue5,
  t9 := Tryz.underlying9, a9 := Tryz.isAgg9, z9 := Tryz.sizeOf9, v9 := Tryz.zeroValue9, t31 := Tryz.underlying45,
  a31 := Tryz.isAgg45, z31 := Tryz.sizeOf45, v31 := Tryz.zeroValue45, t46 := Tryz.underlying141, a46 := Tryz.isAgg141,
  z46 := Tryz.sizeOf141, v46 := Tryz.zeroValue141, t51 := Tryz.underlying171, a51 := Tryz.isAgg171,
  z51 := Tryz.sizeOf171, v51 := Tryz.zeroValue171, t53 := Tryz.underlying173, a53 := Tryz.isAgg173,
  z53 := Tryz.sizeOf173, v53 := Tryz.zeroValue173, t131 := Tryz.underlying168, a131 := Tryz.isAgg168,
  z131 := Tryz.sizeOf168, v131 := Tryz.zeroValue168, t182 := Tryz.underlying163, a182 := Tryz.isAgg163,
  z182 := Tryz.sizeOf163, v182 := Tryz.zeroValue163, t183 := Tryz.underlying164, a183 := Tryz.isAgg164,
  z183 := Tryz.sizeOf164, v183 := Tryz.zeroValue164, t218 := Tryz.underlying190, a218 := Tryz.isAgg190,
  z218 := Tryz.sizeOf190, v218 := Tryz.zeroValue190, t222 := Tryz.underlying194, a222 := Tryz.isAgg194,
  z222 := Tryz.sizeOf194, v222 := Tryz.zeroValue194, t228 := Tryz.underlying205, a228 := Tryz.isAgg205,
  z228 := Tryz.sizeOf205, v228 := Tryz.zeroValue205, t229 := Tryz.underlying206, a229 := Tryz.isAgg206,
  z229 := Tryz.sizeOf206, v229 := Tryz.zeroValue206 }
end Go.Proofs
