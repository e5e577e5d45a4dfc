/- Contracts of the shelf, laid at this program (printed by gen_lay.py) -/
import Derived.Test.YtdobpmbgngomlaaGreatDoorProg
import Derived.WalkKit
import Derived.KernelRfl
import Derived.Ground.SlsfProg
import Derived.Shelf.SlSortCmp.NoneTotal
namespace Go.Proofs
open Go.Shelf
def Go.Proofs.Tryz.sortN_ren : Ren :=
{
  f := fun x =>
    match x with
    | 6 => 51
    | 15 => 93
    | 14 => 92
    | 28 => 134
    | 29 => 135
    | 20 => 126
    | 21 => 127
    | 22 => 128
    | 23 => 129
    | 24 => 130
    | 25 => 131
    | 26 => 132
    | 27 => 133
    | 46 => 160
    | 47 => 161
    | 48 => 162
    | 49 => 163
    | 50 => 164
    | 57 => 185
    | n => n,
  t := fun x =>
    match x with
    | 22 => 30
    | 24 => 24
    | 25 => 101
    | 3 => 3
    | 39 => 147
    | 0 => 0
    | 53 => 181
    | 55 => 183
    | 4 => 4
    | 46 => 175
    | 45 => 174
    | 50 => 104
    | 5 => 5
    | 9 => 9
    | 66 => 200
    | 70 => 204
    | 76 => 215
    | 77 => 216
    | n => n,
  g := fun x =>
    x }
theorem Go.Proofs.Tryz.sortN : SlLaysF0.n6 Tryz.prog Tryz.sortN_ren :=
{ mixed := Eq.refl true,
  f6 :=
    Exists.intro "slices.SortFunc[[]cordwood/api.Name,cordwood/api.Name]"
      ⟨of_decide_eq_true (id (Eq.refl true)),
        Eq.trans Tryz.func51
          (by kernel_rfl)⟩,
  f14 :=
    Exists.intro "slices.pdqsortCmpFunc[cordwood/api.Name]"
      ⟨of_decide_eq_true (id (Eq.refl true)),
        Eq.trans Tryz.func92
          (by kernel_rfl)⟩,
  f15 := Eq.trans Tryz.func93 (congrArg some (by kernel_rfl)),
  f20 :=
    Exists.intro "slices.insertionSortCmpFunc[cordwood/api.Name]"
      ⟨of_decide_eq_true (id (Eq.refl true)),
        Eq.trans Tryz.func126
          (by kernel_rfl)⟩,
  f21 :=
    Exists.intro "slices.heapSortCmpFunc[cordwood/api.Name]"
      ⟨of_decide_eq_true (id (Eq.refl true)),
        Eq.trans Tryz.func127
          (by kernel_rfl)⟩,
  f22 :=
    Exists.intro "slices.breakPatternsCmpFunc[cordwood/api.Name]"
      ⟨of_decide_eq_true (id (Eq.refl true)),
        Eq.trans Tryz.func128
          (by kernel_rfl)⟩,
  f23 :=
    Exists.intro "slices.choosePivotCmpFunc[cordwood/api.Name]"
      ⟨of_decide_eq_true (id (Eq.refl true)),
        Eq.trans Tryz.func129
          (by kernel_rfl)⟩,
  f24 :=
    Exists.intro "slices.reverseRangeCmpFunc[cordwood/api.Name]"
      ⟨of_decide_eq_true (id (Eq.refl true)),
        Eq.trans Tryz.func130
          (by kernel_rfl)⟩,
  f25 :=
    Exists.intro "slices.partialInsertionSortCmpFunc[cordwood/api.Name]"
      ⟨of_decide_eq_true (id (Eq.refl true)),
        Eq.trans Tryz.func131
          (by kernel_rfl)⟩,
  f26 :=
    Exists.intro "slices.partitionEqualCmpFunc[cordwood/api.Name]"
      ⟨of_decide_eq_true (id (Eq.refl true)),
        Eq.trans Tryz.func132
          (by kernel_rfl)⟩,
  f27 :=
    Exists.intro "slices.partitionCmpFunc[cordwood/api.Name]"
      ⟨of_decide_eq_true (id (Eq.refl true)),
        Eq.trans Tryz.func133
          (by kernel_rfl)⟩,
  f28 := Eq.trans Tryz.func134 (congrArg some (by kernel_rfl)),
  f29 := Eq.trans Tryz.func135 (congrArg some (by kernel_rfl)),
  f46 :=
    Exists.intro "slices.siftDownCmpFunc[cordwood/api.Name]"
      ⟨of_decide_eq_true (id (Eq.refl true)),
        Eq.trans Tryz.func160
          (by kernel_rfl)⟩,
  f47 := Eq.trans Tryz.func161 (congrArg some (by kernel_rfl)),
  f48 := Eq.trans Tryz.func162 (congrArg some (by kernel_rfl)),
  f49 :=
    Exists.intro "slices.medianAdjacentCmpFunc[cordwood/api.Name]"
      ⟨of_decide_eq_true (id (Eq.refl true)),
        Eq.trans Tryz.func163
          (by kernel_rfl)⟩,
  f50 :=
    Exists.intro "slices.medianCmpFunc[cordwood/api.Name]"
      ⟨of_decide_eq_true (id (Eq.refl true)),
        Eq.trans Tryz.func164
          (by kernel_rfl)⟩,
  f57 :=
    Exists.intro "slices.order2CmpFunc[cordwood/api.Name]"
      ⟨of_decide_eq_true (id (Eq.refl true)),
        Eq.trans Tryz.func185
          (by kernel_rfl)⟩,
  t0 := Tryz.underlying0, a0 := Tryz.isAgg0, z0 := Tryz.sizeOf0, v0 := Tryz.zeroValue0, t3 := Tryz.underlying3,
  a3 := Tryz.isAgg3, z3 := Tryz.sizeOf3, v3 := Tryz.zeroValue3, t4 := Tryz.underlying4, a4 := Tryz.isAgg4,
  z4 := Tryz.sizeOf4, v4 := Tryz.zeroValue4, t5 := Tryz.underlying5, a5 := Tryz.isAgg5, z5 := Tryz.sizeOf5,
  v5 := Tryz.zeroValue5, t9 := Tryz.underlying9, a9 := Tryz.isAgg9, z9 := Tryz.sizeOf9, v9 := Tryz.zeroValue9,
  t22 := Tryz.underlying30, a22 := Tryz.isAgg30, z22 := Tryz.sizeOf30, v22 := Tryz.zeroValue30,
  t25 := Tryz.underlying101, a25 := Tryz.isAgg101, z25 := Tryz.sizeOf101, v25 := Tryz.zeroValue101,
  t39 := Tryz.underlying147, a39 := Tryz.isAgg147, z39 := Tryz.sizeOf147, v39 := Tryz.zeroValue147,
  t45 := Tryz.underlying174, a45 := Tryz.isAgg174, z45 := Tryz.sizeOf174, v45 := Tryz.zeroValue174,
  t46 := Tryz.underlying175, a46 := Tryz.isAgg175, z46 := Tryz.sizeOf175, v46 := Tryz.zeroValue175,
  t50 := Tryz.underlying104, a50 := Tryz.isAgg104, z50 := Tryz.sizeOf104, v50 := Tryz.zeroValue104,
  t53 := Tryz.underlying181, a53 := Tryz.isAgg181, z53 := Tryz.sizeOf181, v53 := Tryz.zeroValue181,
  t55 := Tryz.underlying183, a55 := Tryz.isAgg183, z55 := Tryz.sizeOf183, v55 := Tryz.zeroValue183,
  t66 := Tryz.underlying200, a66 := Tryz.isAgg200, z66 := Tryz.sizeOf200, v66 := Tryz.zeroValue200,
  t70 := Tryz.underlying204, a70 := Tryz.isAgg204, z70 := Tryz.sizeOf204, v70 := Tryz.zeroValue204,
  t76 := Tryz.underlying215, a76 := Tryz.isAgg215, z76 := Tryz.sizeOf215, v76 := Tryz.zeroValue215,
  t77 := Tryz.underlying216, a77 := Tryz.isAgg216, z77 := Tryz.sizeOf216, v77 := Tryz.zeroValue216 }
end Go.Proofs
