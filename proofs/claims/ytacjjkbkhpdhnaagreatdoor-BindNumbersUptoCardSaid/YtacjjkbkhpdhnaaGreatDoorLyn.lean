/- Contracts of the shelf, laid at this program (printed by gen_lay.py) -/
import Derived.Test.YtacjjkbkhpdhnaaGreatDoorProg
import Derived.WalkKit
import Derived.KernelRfl
import Derived.Ground.SlsfProg
import Derived.Shelf.SlSortCmp.NoneTotal
namespace Go.Proofs
open Go.Shelf
def Go.Proofs.Tryz.sortN_ren : Ren :=
{
  f := fun x =>
    match x with
    | 6 => 56
    | 15 => 108
    | 14 => 107
    | 28 => 146
    | 29 => 147
    | 20 => 138
    | 21 => 139
    | 22 => 140
    | 23 => 141
    | 24 => 142
    | 25 => 143
    | 26 => 144
    | 27 => 145
    | 46 => 170
    | 47 => 171
    | 48 => 172
    | 49 => 173
    | 50 => 174
    | 57 => 192
    | n => n,
  t := fun x =>
    match x with
    | 22 => 36
    | 24 => 71
    | 25 => 83
    | 3 => 3
    | 39 => 138
    | 0 => 0
    | 53 => 168
    | 55 => 146
    | 4 => 4
    | 46 => 162
    | 45 => 161
    | 50 => 90
    | 5 => 5
    | 9 => 9
    | 66 => 190
    | 70 => 194
    | 76 => 208
    | 77 => 209
    | n => n,
  g := fun x =>
    x }
theorem Go.Proofs.Tryz.sortN : SlLaysF0.n6 Tryz.prog Tryz.sortN_ren :=
{ mixed := Eq.refl true,
  f6 :=
    Exists.intro "slices.SortFunc[[]cordwood/api.Name,cordwood/api.Name]"
      ⟨of_decide_eq_true (id (Eq.refl true)),
        Eq.trans Tryz.func56
          (by kernel_rfl)⟩,
  f14 :=
    Exists.intro "slices.pdqsortCmpFunc[cordwood/api.Name]"
      ⟨of_decide_eq_true (id (Eq.refl true)),
        Eq.trans Tryz.func107
          (by kernel_rfl)⟩,
  f15 := Eq.trans Tryz.func108 (congrArg some (by kernel_rfl)),
  f20 :=
    Exists.intro "slices.insertionSortCmpFunc[cordwood/api.Name]"
      ⟨of_decide_eq_true (id (Eq.refl true)),
        Eq.trans Tryz.func138
          (by kernel_rfl)⟩,
  f21 :=
    Exists.intro "slices.heapSortCmpFunc[cordwood/api.Name]"
      ⟨of_decide_eq_true (id (Eq.refl true)),
        Eq.trans Tryz.func139
          (by kernel_rfl)⟩,
  f22 :=
    Exists.intro "slices.breakPatternsCmpFunc[cordwood/api.Name]"
      ⟨of_decide_eq_true (id (Eq.refl true)),
        Eq.trans Tryz.func140
          (by kernel_rfl)⟩,
  f23 :=
    Exists.intro "slices.choosePivotCmpFunc[cordwood/api.Name]"
      ⟨of_decide_eq_true (id (Eq.refl true)),
        Eq.trans Tryz.func141
          (by kernel_rfl)⟩,
  f24 :=
    Exists.intro "slices.reverseRangeCmpFunc[cordwood/api.Name]"
      ⟨of_decide_eq_true (id (Eq.refl true)),
        Eq.trans Tryz.func142
          (by kernel_rfl)⟩,
  f25 :=
    Exists.intro "slices.partialInsertionSortCmpFunc[cordwood/api.Name]"
      ⟨of_decide_eq_true (id (Eq.refl true)),
        Eq.trans Tryz.func143
          (by kernel_rfl)⟩,
  f26 :=
    Exists.intro "slices.partitionEqualCmpFunc[cordwood/api.Name]"
      ⟨of_decide_eq_true (id (Eq.refl true)),
        Eq.trans Tryz.func144
          (by kernel_rfl)⟩,
  f27 :=
    Exists.intro "slices.partitionCmpFunc[cordwood/api.Name]"
      ⟨of_decide_eq_true (id (Eq.refl true)),
        Eq.trans Tryz.func145
          (by kernel_rfl)⟩,
  f28 := Eq.trans Tryz.func146 (congrArg some (by kernel_rfl)),
  f29 := Eq.trans Tryz.func147 (congrArg some (by kernel_rfl)),
  f46 :=
    Exists.intro "slices.siftDownCmpFunc[cordwood/api.Name]"
      ⟨of_decide_eq_true (id (Eq.refl true)),
        Eq.trans Tryz.func170
          (by kernel_rfl)⟩,
  f47 := Eq.trans Tryz.func171 (congrArg some (by kernel_rfl)),
  f48 := Eq.trans Tryz.func172 (congrArg some (by kernel_rfl)),
  f49 :=
    Exists.intro "slices.medianAdjacentCmpFunc[cordwood/api.Name]"
      ⟨of_decide_eq_true (id (Eq.refl true)),
        Eq.trans Tryz.func173
          (by kernel_rfl)⟩,
  f50 :=
    Exists.intro "slices.medianCmpFunc[cordwood/api.Name]"
      ⟨of_decide_eq_true (id (Eq.refl true)),
        Eq.trans Tryz.func174
          (by kernel_rfl)⟩,
  f57 :=
    Exists.intro "slices.order2CmpFunc[cordwood/api.Name]"
      ⟨of_decide_eq_true (id (Eq.refl true)),
        Eq.trans Tryz.func192
          (by kernel_rfl)⟩,
  t0 := Tryz.underlying0, a0 := Tryz.isAgg0, z0 := Tryz.sizeOf0, v0 := Tryz.zeroValue0, t3 := Tryz.underlying3,
  a3 := Tryz.isAgg3, z3 := Tryz.sizeOf3, v3 := Tryz.zeroValue3, t4 := Tryz.underlying4, a4 := Tryz.isAgg4,
  z4 := Tryz.sizeOf4, v4 := Tryz.zeroValue4, t5 := Tryz.underlying5, a5 := Tryz.isAgg5, z5 := Tryz.sizeOf5,
  v5 := Tryz.zeroValue5, t9 := Tryz.underlying9, a9 := Tryz.isAgg9, z9 := Tryz.sizeOf9, v9 := Tryz.zeroValue9,
  t22 := Tryz.underlying36, a22 := Tryz.isAgg36, z22 := Tryz.sizeOf36, v22 := Tryz.zeroValue36,
  t25 := Tryz.underlying83, a25 := Tryz.isAgg83, z25 := Tryz.sizeOf83, v25 := Tryz.zeroValue83,
  t39 := Tryz.underlying138, a39 := Tryz.isAgg138, z39 := Tryz.sizeOf138, v39 := Tryz.zeroValue138,
  t45 := Tryz.underlying161, a45 := Tryz.isAgg161, z45 := Tryz.sizeOf161, v45 := Tryz.zeroValue161,
  t46 := Tryz.underlying162, a46 := Tryz.isAgg162, z46 := Tryz.sizeOf162, v46 := Tryz.zeroValue162,
  t50 := Tryz.underlying90, a50 := Tryz.isAgg90, z50 := Tryz.sizeOf90, v50 := Tryz.zeroValue90,
  t53 := Tryz.underlying168, a53 := Tryz.isAgg168, z53 := Tryz.sizeOf168, v53 := Tryz.zeroValue168,
  t55 := Tryz.underlying146, a55 := Tryz.isAgg146, z55 := Tryz.sizeOf146, v55 := Tryz.zeroValue146,
  t66 := Tryz.underlying190, a66 := Tryz.isAgg190, z66 := Tryz.sizeOf190, v66 := Tryz.zeroValue190,
  t70 := Tryz.underlying194, a70 := Tryz.isAgg194, z70 := Tryz.sizeOf194, v70 := Tryz.zeroValue194,
  t76 := Tryz.underlying208, a76 := Tryz.isAgg208, z76 := Tryz.sizeOf208, v76 := Tryz.zeroValue208,
  t77 := Tryz.underlying209, a77 := Tryz.isAgg209, z77 := Tryz.sizeOf209, v77 := Tryz.zeroValue209 }
end Go.Proofs
