/- Contracts of the shelf, laid at this program (printed by gen_lay.py) -/
import Derived.Test.YtpnfbfnffkbilaaGreatDoorProg
import Derived.WalkKit
import Derived.KernelRfl
import Derived.Ground.SlsfProg
import Derived.Shelf.SlSortCmp.NoneTotal
namespace Go.Proofs
open Go.Shelf
def Go.Proofs.Tryz.sortN_ren : Ren :=
{
  f := fun x =>
    match x with
    | 6 => 74
    | 15 => 105
    | 14 => 104
    | 28 => 143
    | 29 => 144
    | 20 => 135
    | 21 => 136
    | 22 => 137
    | 23 => 138
    | 24 => 139
    | 25 => 140
    | 26 => 141
    | 27 => 142
    | 46 => 167
    | 47 => 168
    | 48 => 169
    | 49 => 170
    | 50 => 171
    | 57 => 192
    | n => n,
  t := fun x =>
    match x with
    | 22 => 26
    | 24 => 28
    | 25 => 68
    | 3 => 3
    | 39 => 141
    | 0 => 0
    | 53 => 171
    | 55 => 173
    | 4 => 4
    | 46 => 164
    | 45 => 163
    | 50 => 168
    | 5 => 5
    | 9 => 9
    | 66 => 190
    | 70 => 194
    | 76 => 205
    | 77 => 206
    | n => n,
  g := fun x =>
    x }
theorem Go.Proofs.Tryz.sortN : SlLaysF0.n6 Tryz.prog Tryz.sortN_ren :=
{ mixed := Eq.refl true,
  f6 :=
    Exists.intro "slices.SortFunc[[]cordwood/api.Name,cordwood/api.Name]"
      ⟨of_decide_eq_true (id (Eq.refl true)),
        Eq.trans Tryz.func74
          (by kernel_rfl)⟩,
  f14 :=
    Exists.intro "slices.pdqsortCmpFunc[cordwood/api.Name]"
      ⟨of_decide_eq_true (id (Eq.refl true)),
        Eq.trans Tryz.func104
          (by kernel_rfl)⟩,
  f15 := Eq.trans Tryz.func105 (congrArg some (by kernel_rfl)),
  f20 :=
    Exists.intro "slices.insertionSortCmpFunc[cordwood/api.Name]"
      ⟨of_decide_eq_true (id (Eq.refl true)),
        Eq.trans Tryz.func135
          (by kernel_rfl)⟩,
  f21 :=
    Exists.intro "slices.heapSortCmpFunc[cordwood/api.Name]"
      ⟨of_decide_eq_true (id (Eq.refl true)),
        Eq.trans Tryz.func136
          (by kernel_rfl)⟩,
  f22 :=
    Exists.intro "slices.breakPatternsCmpFunc[cordwood/api.Name]"
      ⟨of_decide_eq_true (id (Eq.refl true)),
        Eq.trans Tryz.func137
          (by kernel_rfl)⟩,
  f23 :=
    Exists.intro "slices.choosePivotCmpFunc[cordwood/api.Name]"
      ⟨of_decide_eq_true (id (Eq.refl true)),
        Eq.trans Tryz.func138
          (by kernel_rfl)⟩,
  f24 :=
    Exists.intro "slices.reverseRangeCmpFunc[cordwood/api.Name]"
      ⟨of_decide_eq_true (id (Eq.refl true)),
        Eq.trans Tryz.func139
          (by kernel_rfl)⟩,
  f25 :=
    Exists.intro "slices.partialInsertionSortCmpFunc[cordwood/api.Name]"
      ⟨of_decide_eq_true (id (Eq.refl true)),
        Eq.trans Tryz.func140
          (by kernel_rfl)⟩,
  f26 :=
    Exists.intro "slices.partitionEqualCmpFunc[cordwood/api.Name]"
      ⟨of_decide_eq_true (id (Eq.refl true)),
        Eq.trans Tryz.func141
          (by kernel_rfl)⟩,
  f27 :=
    Exists.intro "slices.partitionCmpFunc[cordwood/api.Name]"
      ⟨of_decide_eq_true (id (Eq.refl true)),
        Eq.trans Tryz.func142
          (by kernel_rfl)⟩,
  f28 := Eq.trans Tryz.func143 (congrArg some (by kernel_rfl)),
  f29 := Eq.trans Tryz.func144 (congrArg some (by kernel_rfl)),
  f46 :=
    Exists.intro "slices.siftDownCmpFunc[cordwood/api.Name]"
      ⟨of_decide_eq_true (id (Eq.refl true)),
        Eq.trans Tryz.func167
          (by kernel_rfl)⟩,
  f47 := Eq.trans Tryz.func168 (congrArg some (by kernel_rfl)),
  f48 := Eq.trans Tryz.func169 (congrArg some (by kernel_rfl)),
  f49 :=
    Exists.intro "slices.medianAdjacentCmpFunc[cordwood/api.Name]"
      ⟨of_decide_eq_true (id (Eq.refl true)),
        Eq.trans Tryz.func170
          (by kernel_rfl)⟩,
  f50 :=
    Exists.intro "slices.medianCmpFunc[cordwood/api.Name]"
      ⟨of_decide_eq_true (id (Eq.refl true)),
        Eq.trans Tryz.func171
          (by kernel_rfl)⟩,
  f57 :=
    Exists.intro "slices.order2CmpFunc[cordwood/api.Name]"
      ⟨of_decide_eq_true (id (Eq.refl true)),
        Eq.trans Tryz.func192
          (by kernel_rfl)⟩,
  t0 := Tryz.underlying0, a0 := Tryz.isAgg0, z0 := Tryz.sizeOf0, v0 := Tryz.zeroValue0, t3 := Tryz.underlying3,
  a3 := Tryz.isAgg3, z3 := Tryz.sizeOf3, v3 := Tryz.zeroValue3, t4 := Tryz.underlying4, a4 := Tryz.isAgg4,
  z4 := Tryz.sizeOf4, v4 := Tryz.zeroValue4, t5 := Tryz.underlying5, a5 := Tryz.isAgg5, z5 := Tryz.sizeOf5,
  v5 := Tryz.zeroValue5, t9 := Tryz.underlying9, a9 := Tryz.isAgg9, z9 := Tryz.sizeOf9, v9 := Tryz.zeroValue9,
  t22 := Tryz.underlying26, a22 := Tryz.isAgg26, z22 := Tryz.sizeOf26, v22 := Tryz.zeroValue26,
  t25 := Tryz.underlying68, a25 := Tryz.isAgg68, z25 := Tryz.sizeOf68, v25 := Tryz.zeroValue68,
  t39 := Tryz.underlying141, a39 := Tryz.isAgg141, z39 := Tryz.sizeOf141, v39 := Tryz.zeroValue141,
  t45 := Tryz.underlying163, a45 := Tryz.isAgg163, z45 := Tryz.sizeOf163, v45 := Tryz.zeroValue163,
  t46 := Tryz.underlying164, a46 := Tryz.isAgg164, z46 := Tryz.sizeOf164, v46 := Tryz.zeroValue164,
  t50 := Tryz.underlying168, a50 := Tryz.isAgg168, z50 := Tryz.sizeOf168, v50 := Tryz.zeroValue168,
  t53 := Tryz.underlying171, a53 := Tryz.isAgg171, z53 := Tryz.sizeOf171, v53 := Tryz.zeroValue171,
  t55 := Tryz.underlying173, a55 := Tryz.isAgg173, z55 := Tryz.sizeOf173, v55 := Tryz.zeroValue173,
  t66 := Tryz.underlying190, a66 := Tryz.isAgg190, z66 := Tryz.sizeOf190, v66 := Tryz.zeroValue190,
  t70 := Tryz.underlying194, a70 := Tryz.isAgg194, z70 := Tryz.sizeOf194, v70 := Tryz.zeroValue194,
  t76 := Tryz.underlying205, a76 := Tryz.isAgg205, z76 := Tryz.sizeOf205, v76 := Tryz.zeroValue205,
  t77 := Tryz.underlying206, a77 := Tryz.isAgg206, z77 := Tryz.sizeOf206, v77 := Tryz.zeroValue206 }
end Go.Proofs
