/- Contracts of the shelf, laid at this program (printed by gen_lay.py) -/
import Derived.Test.YtdobpmbgngomlaaGreatDoorProg
import Derived.WalkKit
import Derived.KernelRfl
import Derived.Ground.NamesProg
import Derived.Shelf.Slices.In.SortNone
import Derived.Shelf.Sort.Plain
namespace Go.Proofs
open Go.Shelf
def Go.Proofs.Tryz.laysSort_ren : Ren :=
{
  f := fun x =>
    match x with
    | 190 => 123
    | 125 => 93
    | 258 => 158
    | 128 => 134
    | 129 => 135
    | 302 => 176
    | 303 => 177
    | 304 => 178
    | 305 => 179
    | 306 => 180
    | 307 => 181
    | 308 => 182
    | 309 => 183
    | 310 => 184
    | 333 => 198
    | 329 => 161
    | 330 => 162
    | 334 => 199
    | 335 => 200
    | 336 => 171
    | 344 => 210
    | n => n,
  t := fun x =>
    match x with
    | 31 => 38
    | 9 => 9
    | 3 => 3
    | 46 => 147
    | 0 => 0
    | 51 => 181
    | 53 => 183
    | 4 => 4
    | 183 => 175
    | 182 => 174
    | 131 => 104
    | 5 => 5
    | 218 => 200
    | 222 => 204
    | 228 => 215
    | 229 => 216
    | n => n,
  g := fun x =>
    x }
theorem Go.Proofs.Tryz.laysSort : Lays.n190 Tryz.prog Tryz.laysSort_ren :=
{ mixed := Eq.refl true, f125 := Eq.trans Tryz.func93 (congrArg some (by kernel_rfl)),
  f128 := Eq.trans Tryz.func134 (congrArg some (by kernel_rfl)),
  f129 := Eq.trans Tryz.func135 (congrArg some (by kernel_rfl)),
  f190 := Eq.trans Tryz.func123 (congrArg some (by kernel_rfl)),
  f258 := Eq.trans Tryz.func158 (congrArg some (by kernel_rfl)),
  f302 := Eq.trans Tryz.func176 (congrArg some (by kernel_rfl)),
  f303 := Eq.trans Tryz.func177 (congrArg some (by kernel_rfl)),
  f304 := Eq.trans Tryz.func178 (congrArg some (by kernel_rfl)),
  f305 := Eq.trans Tryz.func179 (congrArg some (by kernel_rfl)),
  f306 := Eq.trans Tryz.func180 (congrArg some (by kernel_rfl)),
  f307 := Eq.trans Tryz.func181 (congrArg some (by kernel_rfl)),
  f308 := Eq.trans Tryz.func182 (congrArg some (by kernel_rfl)),
  f309 := Eq.trans Tryz.func183 (congrArg some (by kernel_rfl)),
  f310 := Eq.trans Tryz.func184 (congrArg some (by kernel_rfl)),
  f329 := Eq.trans Tryz.func161 (congrArg some (by kernel_rfl)),
  f330 := Eq.trans Tryz.func162 (congrArg some (by kernel_rfl)),
  f333 := Eq.trans Tryz.func198 (congrArg some (by kernel_rfl)),
  f334 := Eq.trans Tryz.func199 (congrArg some (by kernel_rfl)),
  f335 := Eq.trans Tryz.func200 (congrArg some (by kernel_rfl)),
  f336 := Eq.trans Tryz.func171 (congrArg some (by kernel_rfl)),
  f344 := Eq.trans Tryz.func210 (congrArg some (by kernel_rfl)), t0 := Tryz.underlying0,
  a0 := Tryz.isAgg0, z0 := Tryz.sizeOf0, v0 := Tryz.zeroValue0, t3 := Tryz.underlying3, a3 := Tryz.isAgg3,
  z3 := Tryz.sizeOf3, v3 := Tryz.zeroValue3, t4 := Tryz.underlying4, a4 := Tryz.isAgg4, z4 := Tryz.sizeOf4,
  v4 := Tryz.zeroValue4, t5 := Tryz.underlying5, a5 := Tryz.isAgg5, z5 := Tryz.sizeOf5, v5 := Tryz.zeroValue5,
  t9 := Tryz.underlying9, a9 := Tryz.isAgg9, z9 := Tryz.sizeOf9, v9 := Tryz.zeroValue9, t31 := Tryz.underlying38,
  a31 := Tryz.isAgg38, z31 := Tryz.sizeOf38, v31 := Tryz.zeroValue38, t46 := Tryz.underlying147, a46 := Tryz.isAgg147,
  z46 := Tryz.sizeOf147, v46 := Tryz.zeroValue147, t51 := Tryz.underlying181, a51 := Tryz.isAgg181,
  z51 := Tryz.sizeOf181, v51 := Tryz.zeroValue181, t53 := Tryz.underlying183, a53 := Tryz.isAgg183,
  z53 := Tryz.sizeOf183, v53 := Tryz.zeroValue183, t131 := Tryz.underlying104, a131 := Tryz.isAgg104,
  z131 := Tryz.sizeOf104, v131 := Tryz.zeroValue104, t182 := Tryz.underlying174, a182 := Tryz.isAgg174,
  z182 := Tryz.sizeOf174, v182 := Tryz.zeroValue174, t183 := Tryz.underlying175, a183 := Tryz.isAgg175,
  z183 := Tryz.sizeOf175, v183 := Tryz.zeroValue175, t218 := Tryz.underlying200, a218 := Tryz.isAgg200,
  z218 := Tryz.sizeOf200, v218 := Tryz.zeroValue200, t222 := Tryz.underlying204, a222 := Tryz.isAgg204,
  z222 := Tryz.sizeOf204, v222 := Tryz.zeroValue204, t228 := Tryz.underlying215, a228 := Tryz.isAgg215,
  z228 := Tryz.sizeOf215, v228 := Tryz.zeroValue215, t229 := Tryz.underlying216, a229 := Tryz.isAgg216,
  z229 := Tryz.sizeOf216, v229 := Tryz.zeroValue216 }
end Go.Proofs
