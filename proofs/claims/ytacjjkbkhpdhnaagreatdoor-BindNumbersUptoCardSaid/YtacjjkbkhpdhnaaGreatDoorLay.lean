/- Contracts of the shelf, laid at this program (printed by gen_lay.py) -/
import Derived.Test.YtacjjkbkhpdhnaaGreatDoorProg
import Derived.WalkKit
import Derived.KernelRfl
import Derived.Ground.NamesProg
import Derived.Shelf.Slices.In.SortNone
import Derived.Shelf.Sort.Plain
namespace Go.Proofs
open Go.Shelf
def Go.Proofs.Tryz.laysSort_ren : Ren :=
{
  f := fun x =>
    match x with
    | 190 => 134
    | 125 => 108
    | 258 => 168
    | 128 => 146
    | 129 => 147
    | 302 => 183
    | 303 => 184
    | 304 => 185
    | 305 => 186
    | 306 => 187
    | 307 => 188
    | 308 => 189
    | 309 => 190
    | 310 => 191
    | 333 => 198
    | 329 => 171
    | 330 => 172
    | 334 => 199
    | 335 => 200
    | 336 => 109
    | 344 => 203
    | n => n,
  t := fun x =>
    match x with
    | 31 => 22
    | 9 => 9
    | 3 => 3
    | 46 => 138
    | 0 => 0
    | 51 => 168
    | 53 => 146
    | 4 => 4
    | 183 => 162
    | 182 => 161
    | 131 => 90
    | 5 => 5
    | 218 => 190
    | 222 => 194
    | 228 => 208
    | 229 => 209
    | n => n,
  g := fun x =>
    x }
theorem Go.Proofs.Tryz.laysSort : Lays.n190 Tryz.prog Tryz.laysSort_ren :=
{ mixed := Eq.refl true, f125 := Eq.trans Tryz.func108 (congrArg some (by kernel_rfl)),
  f128 := Eq.trans Tryz.func146 (congrArg some (by kernel_rfl)),
  f129 := Eq.trans Tryz.func147 (congrArg some (by kernel_rfl)),
  f190 := Eq.trans Tryz.func134 (congrArg some (by kernel_rfl)),
  f258 := Eq.trans Tryz.func168 (congrArg some (by kernel_rfl)),
  f302 := Eq.trans Tryz.func183 (congrArg some (by kernel_rfl)),
  f303 := Eq.trans Tryz.func184 (congrArg some (by kernel_rfl)),
  f304 := Eq.trans Tryz.func185 (congrArg some (by kernel_rfl)),
  f305 := Eq.trans Tryz.func186 (congrArg some (by kernel_rfl)),
  f306 := Eq.trans Tryz.func187 (congrArg some (by kernel_rfl)),
  f307 := Eq.trans Tryz.func188 (congrArg some (by kernel_rfl)),
  f308 := Eq.trans Tryz.func189 (congrArg some (by kernel_rfl)),
  f309 := Eq.trans Tryz.func190 (congrArg some (by kernel_rfl)),
  f310 := Eq.trans Tryz.func191 (congrArg some (by kernel_rfl)),
  f329 := Eq.trans Tryz.func171 (congrArg some (by kernel_rfl)),
  f330 := Eq.trans Tryz.func172 (congrArg some (by kernel_rfl)),
  f333 := Eq.trans Tryz.func198 (congrArg some (by kernel_rfl)),
  f334 := Eq.trans Tryz.func199 (congrArg some (by kernel_rfl)),
  f335 := Eq.trans Tryz.func200 (congrArg some (by kernel_rfl)),
  f336 := Eq.trans Tryz.func109 (congrArg some (by kernel_rfl)),
  f344 := Eq.trans Tryz.func203 (congrArg some (by kernel_rfl)), t0 := Tryz.underlying0,
  a0 := Tryz.isAgg0, z0 := Tryz.sizeOf0, v0 := Tryz.zeroValue0, t3 := Tryz.underlying3, a3 := Tryz.isAgg3,
  z3 := Tryz.sizeOf3, v3 := Tryz.zeroValue3, t4 := Tryz.underlying4, a4 := Tryz.isAgg4, z4 := Tryz.sizeOf4,
  v4 := Tryz.zeroValue4, t5 := Tryz.underlying5, a5 := Tryz.isAgg5, z5 := Tryz.sizeOf5, v5 := Tryz.zeroValue5,
  t9 := Tryz.underlying9, a9 := Tryz.isAgg9, z9 := Tryz.sizeOf9, v9 := Tryz.zeroValue9, t31 := Tryz.underlying22,
  a31 := Tryz.isAgg22, z31 := Tryz.sizeOf22, v31 := Tryz.zeroValue22, t46 := Tryz.underlying138, a46 := Tryz.isAgg138,
  z46 := Tryz.sizeOf138, v46 := Tryz.zeroValue138, t51 := Tryz.underlying168, a51 := Tryz.isAgg168,
  z51 := Tryz.sizeOf168, v51 := Tryz.zeroValue168, t53 := Tryz.underlying146, a53 := Tryz.isAgg146,
  z53 := Tryz.sizeOf146, v53 := Tryz.zeroValue146, t131 := Tryz.underlying90, a131 := Tryz.isAgg90,
  z131 := Tryz.sizeOf90, v131 := Tryz.zeroValue90, t182 := Tryz.underlying161, a182 := Tryz.isAgg161,
  z182 := Tryz.sizeOf161, v182 := Tryz.zeroValue161, t183 := Tryz.underlying162, a183 := Tryz.isAgg162,
  z183 := Tryz.sizeOf162, v183 := Tryz.zeroValue162, t218 := Tryz.underlying190, a218 := Tryz.isAgg190,
  z218 := Tryz.sizeOf190, v218 := Tryz.zeroValue190, t222 := Tryz.underlying194, a222 := Tryz.isAgg194,
  z222 := Tryz.sizeOf194, v222 := Tryz.zeroValue194, t228 := Tryz.underlying208, a228 := Tryz.isAgg208,
  z228 := Tryz.sizeOf208, v228 := Tryz.zeroValue208, t229 := Tryz.underlying209, a229 := Tryz.isAgg209,
  z229 := Tryz.sizeOf209, v229 := Tryz.zeroValue209 }
end Go.Proofs
