/- Contracts of the shelf, laid at this program (printed by gen_lay.py) -/
import Derived.Test.YtlcfoiapkblheaaGreatDoorProg
import Derived.WalkKit
import Derived.KernelRfl
import Derived.Ground.SlsfProg
import Derived.Shelf.SlSortCmp.NoneTotal
namespace Go.Proofs
open Go.Shelf
def Go.Proofs.Tryz.sortN_ren : Ren :=
{
  f := fun x =>
    match x with
    | 6 => 68
    | 15 => 148
    | 14 => 147
    | 28 => 202
    | 29 => 203
    | 20 => 194
    | 21 => 195
    | 22 => 196
    | 23 => 197
    | 24 => 198
    | 25 => 199
    | 26 => 200
    | 27 => 201
    | 46 => 234
    | 47 => 235
    | 48 => 236
    | 49 => 237
    | 50 => 238
    | 57 => 256
    | n => n,
  t := fun x =>
    match x with
    | 22 => 45
    | 24 => 48
    | 25 => 108
    | 3 => 3
    | 39 => 203
    | 0 => 0
    | 53 => 243
    | 55 => 245
    | 4 => 4
    | 46 => 237
    | 45 => 236
    | 50 => 124
    | 5 => 5
    | 9 => 9
    | 66 => 279
    | 70 => 283
    | 76 => 293
    | 77 => 294
    | n => n,
  g := fun x =>
    x }
theorem Go.Proofs.Tryz.sortN : SlLaysF0.n6 Tryz.prog Tryz.sortN_ren :=
{ mixed := Eq.refl true,
  f6 :=
    Exists.intro "slices.SortFunc[[]cordwood/api.Name,cordwood/api.Name]"
      ⟨of_decide_eq_true (id (Eq.refl true)),
        Eq.trans Tryz.func68
          (by kernel_rfl)⟩,
  f14 :=
    Exists.intro "slices.pdqsortCmpFunc[cordwood/api.Name]"
      ⟨of_decide_eq_true (id (Eq.refl true)),
        Eq.trans Tryz.func147
          (by kernel_rfl)⟩,
  f15 := Eq.trans Tryz.func148 (congrArg some (by kernel_rfl)),
  f20 :=
    Exists.intro "slices.insertionSortCmpFunc[cordwood/api.Name]"
      ⟨of_decide_eq_true (id (Eq.refl true)),
        Eq.trans Tryz.func194
          (by kernel_rfl)⟩,
  f21 :=
    Exists.intro "slices.heapSortCmpFunc[cordwood/api.Name]"
      ⟨of_decide_eq_true (id (Eq.refl true)),
        Eq.trans Tryz.func195
          (by kernel_rfl)⟩,
  f22 :=
    Exists.intro "slices.breakPatternsCmpFunc[cordwood/api.Name]"
      ⟨of_decide_eq_true (id (Eq.refl true)),
        Eq.trans Tryz.func196
          (by kernel_rfl)⟩,
  f23 :=
    Exists.intro "slices.choosePivotCmpFunc[cordwood/api.Name]"
      ⟨of_decide_eq_true (id (Eq.refl true)),
        Eq.trans Tryz.func197
          (by kernel_rfl)⟩,
  f24 :=
    Exists.intro "slices.reverseRangeCmpFunc[cordwood/api.Name]"
      ⟨of_decide_eq_true (id (Eq.refl true)),
        Eq.trans Tryz.func198
          (by kernel_rfl)⟩,
  f25 :=
    Exists.intro "slices.partialInsertionSortCmpFunc[cordwood/api.Name]"
      ⟨of_decide_eq_true (id (Eq.refl true)),
        Eq.trans Tryz.func199
          (by kernel_rfl)⟩,
  f26 :=
    Exists.intro "slices.partitionEqualCmpFunc[cordwood/api.Name]"
      ⟨of_decide_eq_true (id (Eq.refl true)),
        Eq.trans Tryz.func200
          (by kernel_rfl)⟩,
  f27 :=
    Exists.intro "slices.partitionCmpFunc[cordwood/api.Name]"
      ⟨of_decide_eq_true (id (Eq.refl true)),
        Eq.trans Tryz.func201
          (by kernel_rfl)⟩,
  f28 := Eq.trans Tryz.func202 (congrArg some (by kernel_rfl)),
  f29 := Eq.trans Tryz.func203 (congrArg some (by kernel_rfl)),
  f46 :=
    Exists.intro "slices.siftDownCmpFunc[cordwood/api.Name]"
      ⟨of_decide_eq_true (id (Eq.refl true)),
        Eq.trans Tryz.func234
          (by kernel_rfl)⟩,
  f47 := Eq.trans Tryz.func235 (congrArg some (by kernel_rfl)),
  f48 := Eq.trans Tryz.func236 (congrArg some (by kernel_rfl)),
  f49 :=
    Exists.intro "slices.medianAdjacentCmpFunc[cordwood/api.Name]"
      ⟨of_decide_eq_true (id (Eq.refl true)),
        Eq.trans Tryz.func237
          (by kernel_rfl)⟩,
  f50 :=
    Exists.intro "slices.medianCmpFunc[cordwood/api.Name]"
      ⟨of_decide_eq_true (id (Eq.refl true)),
        Eq.trans Tryz.func238
          (by kernel_rfl)⟩,
  f57 :=
    Exists.intro "slices.order2CmpFunc[cordwood/api.Name]"
      ⟨of_decide_eq_true (id (Eq.refl true)),
        Eq.trans Tryz.func256
          (by kernel_rfl)⟩,
  t0 := Tryz.underlying0, a0 := Tryz.isAgg0, z0 := Tryz.sizeOf0, v0 := Tryz.zeroValue0, t3 := Tryz.underlying3,
  a3 := Tryz.isAgg3, z3 := Tryz.sizeOf3, v3 := Tryz.zeroValue3, t4 := Tryz.underlying4, a4 := Tryz.isAgg4,
  z4 := Tryz.sizeOf4, v4 := Tryz.zeroValue4, t5 := Tryz.underlying5, a5 := Tryz.isAgg5, z5 := Tryz.sizeOf5,
  v5 := Tryz.zeroValue5, t9 := Tryz.underlying9, a9 := Tryz.isAgg9, z9 := Tryz.sizeOf9, v9 := Tryz.zeroValue9,
  t22 := Tryz.underlying45, a22 := Tryz.isAgg45, z22 := Tryz.sizeOf45, v22 := Tryz.zeroValue45,
  t25 := Tryz.underlying108, a25 := Tryz.isAgg108, z25 := Tryz.sizeOf108, v25 := Tryz.zeroValue108,
  t39 := Tryz.underlying203, a39 := Tryz.isAgg203, z39 := Tryz.sizeOf203, v39 := Tryz.zeroValue203,
  t45 := Tryz.underlying236, a45 := Tryz.isAgg236, z45 := Tryz.sizeOf236, v45 := Tryz.zeroValue236,
  t46 := Tryz.underlying237, a46 := Tryz.isAgg237, z46 := Tryz.sizeOf237, v46 := Tryz.zeroValue237,
  t50 := Tryz.underlying124, a50 := Tryz.isAgg124, z50 := Tryz.sizeOf124, v50 := Tryz.zeroValue124,
  t53 := Tryz.underlying243, a53 := Tryz.isAgg243, z53 := Tryz.sizeOf243, v53 := Tryz.zeroValue243,
  t55 := Tryz.underlying245, a55 := Tryz.isAgg245, z55 := Tryz.sizeOf245, v55 := Tryz.zeroValue245,
  t66 := Tryz.underlying279, a66 := Tryz.isAgg279, z66 := Tryz.sizeOf279, v66 := Tryz.zeroValue279,
  t70 := Tryz.underlying283, a70 := Tryz.isAgg283, z70 := Tryz.sizeOf283, v70 := Tryz.zeroValue283,
  t76 := Tryz.underlying293, a76 := Tryz.isAgg293, z76 := Tryz.sizeOf293, v76 := Tryz.zeroValue293,
  t77 := Tryz.underlying294, a77 := Tryz.isAgg294, z77 := Tryz.sizeOf294, v77 := Tryz.zeroValue294 }
end Go.Proofs
