/- Contracts of the shelf, laid at this program (printed by gen_lay.py) -/
import Derived.Test.YtlpipoihinceiaaGreatDoorProg
import Derived.WalkKit
import Derived.KernelRfl
import Derived.Ground.SlsfProg
import Derived.Shelf.SlSortCmp.NoneTotal
namespace Go.Proofs
open Go.Shelf
def Go.Proofs.Tryz.sortN_ren : Ren :=
{
  f := fun x =>
    match x with
    | 6 => 58
    | 15 => 125
    | 14 => 124
    | 28 => 177
    | 29 => 178
    | 20 => 169
    | 21 => 170
    | 22 => 171
    | 23 => 172
    | 24 => 173
    | 25 => 174
    | 26 => 175
    | 27 => 176
    | 46 => 215
    | 47 => 216
    | 48 => 217
    | 49 => 218
    | 50 => 219
    | 57 => 239
    | n => n,
  t := fun x =>
    match x with
    | 22 => 36
    | 24 => 78
    | 25 => 89
    | 3 => 3
    | 39 => 179
    | 0 => 0
    | 53 => 221
    | 55 => 223
    | 4 => 4
    | 46 => 215
    | 45 => 214
    | 50 => 97
    | 5 => 5
    | 9 => 9
    | 66 => 264
    | 70 => 268
    | 76 => 284
    | 77 => 285
    | n => n,
  g := fun x =>
    x }
theorem Go.Proofs.Tryz.sortN : SlLaysF0.n6 Tryz.prog Tryz.sortN_ren :=
{ mixed := Eq.refl true,
  f6 :=
    Exists.intro "slices.SortFunc[[]cordwood/api.Name,cordwood/api.Name]"
      ⟨of_decide_eq_true (id (Eq.refl true)),
        Eq.trans Tryz.func58
          (by kernel_rfl)⟩,
  f14 :=
    Exists.intro "slices.pdqsortCmpFunc[cordwood/api.Name]"
      ⟨of_decide_eq_true (id (Eq.refl true)),
        Eq.trans Tryz.func124
          (by kernel_rfl)⟩,
  f15 := Eq.trans Tryz.func125 (congrArg some (by kernel_rfl)),
  f20 :=
    Exists.intro "slices.insertionSortCmpFunc[cordwood/api.Name]"
      ⟨of_decide_eq_true (id (Eq.refl true)),
        Eq.trans Tryz.func169
          (by kernel_rfl)⟩,
  f21 :=
    Exists.intro "slices.heapSortCmpFunc[cordwood/api.Name]"
      ⟨of_decide_eq_true (id (Eq.refl true)),
        Eq.trans Tryz.func170
          (by kernel_rfl)⟩,
  f22 :=
    Exists.intro "slices.breakPatternsCmpFunc[cordwood/api.Name]"
      ⟨of_decide_eq_true (id (Eq.refl true)),
        Eq.trans Tryz.func171
          (by kernel_rfl)⟩,
  f23 :=
    Exists.intro "slices.choosePivotCmpFunc[cordwood/api.Name]"
      ⟨of_decide_eq_true (id (Eq.refl true)),
        Eq.trans Tryz.func172
          (by kernel_rfl)⟩,
  f24 :=
    Exists.intro "slices.reverseRangeCmpFunc[cordwood/api.Name]"
      ⟨of_decide_eq_true (id (Eq.refl true)),
        Eq.trans Tryz.func173
          (by kernel_rfl)⟩,
  f25 :=
    Exists.intro "slices.partialInsertionSortCmpFunc[cordwood/api.Name]"
      ⟨of_decide_eq_true (id (Eq.refl true)),
        Eq.trans Tryz.func174
          (by kernel_rfl)⟩,
  f26 :=
    Exists.intro "slices.partitionEqualCmpFunc[cordwood/api.Name]"
      ⟨of_decide_eq_true (id (Eq.refl true)),
        Eq.trans Tryz.func175
          (by kernel_rfl)⟩,
  f27 :=
    Exists.intro "slices.partitionCmpFunc[cordwood/api.Name]"
      ⟨of_decide_eq_true (id (Eq.refl true)),
        Eq.trans Tryz.func176
          (by kernel_rfl)⟩,
  f28 := Eq.trans Tryz.func177 (congrArg some (by kernel_rfl)),
  f29 := Eq.trans Tryz.func178 (congrArg some (by kernel_rfl)),
  f46 :=
    Exists.intro "slices.siftDownCmpFunc[cordwood/api.Name]"
      ⟨of_decide_eq_true (id (Eq.refl true)),
        Eq.trans Tryz.func215
          (by kernel_rfl)⟩,
  f47 := Eq.trans Tryz.func216 (congrArg some (by kernel_rfl)),
  f48 := Eq.trans Tryz.func217 (congrArg some (by kernel_rfl)),
  f49 :=
    Exists.intro "slices.medianAdjacentCmpFunc[cordwood/api.Name]"
      ⟨of_decide_eq_true (id (Eq.refl true)),
        Eq.trans Tryz.func218
          (by kernel_rfl)⟩,
  f50 :=
    Exists.intro "slices.medianCmpFunc[cordwood/api.Name]"
      ⟨of_decide_eq_true (id (Eq.refl true)),
        Eq.trans Tryz.func219
          (by kernel_rfl)⟩,
  f57 :=
    Exists.intro "slices.order2CmpFunc[cordwood/api.Name]"
      ⟨of_decide_eq_true (id (Eq.refl true)),
        Eq.trans Tryz.func239
          (by kernel_rfl)⟩,
  t0 := Tryz.underlying0, a0 := Tryz.isAgg0, z0 := Tryz.sizeOf0, v0 := Tryz.zeroValue0, t3 := Tryz.underlying3,
  a3 := Tryz.isAgg3, z3 := Tryz.sizeOf3, v3 := Tryz.zeroValue3, t4 := Tryz.underlying4, a4 := Tryz.isAgg4,
  z4 := Tryz.sizeOf4, v4 := Tryz.zeroValue4, t5 := Tryz.underlying5, a5 := Tryz.isAgg5, z5 := Tryz.sizeOf5,
  v5 := Tryz.zeroValue5, t9 := Tryz.underlying9, a9 := Tryz.isAgg9, z9 := Tryz.sizeOf9, v9 := Tryz.zeroValue9,
  t22 := Tryz.underlying36, a22 := Tryz.isAgg36, z22 := Tryz.sizeOf36, v22 := Tryz.zeroValue36,
  t25 := Tryz.underlying89, a25 := Tryz.isAgg89, z25 := Tryz.sizeOf89, v25 := Tryz.zeroValue89,
  t39 := Tryz.underlying179, a39 := Tryz.isAgg179, z39 := Tryz.sizeOf179, v39 := Tryz.zeroValue179,
  t45 := Tryz.underlying214, a45 := Tryz.isAgg214, z45 := Tryz.sizeOf214, v45 := Tryz.zeroValue214,
  t46 := Tryz.underlying215, a46 := Tryz.isAgg215, z46 := Tryz.sizeOf215, v46 := Tryz.zeroValue215,
  t50 := Tryz.underlying97, a50 := Tryz.isAgg97, z50 := Tryz.sizeOf97, v50 := Tryz.zeroValue97,
  t53 := Tryz.underlying221, a53 := Tryz.isAgg221, z53 := Tryz.sizeOf221, v53 := Tryz.zeroValue221,
  t55 := Tryz.underlying223, a55 := Tryz.isAgg223, z55 := Tryz.sizeOf223, v55 := Tryz.zeroValue223,
  t66 := Tryz.underlying264, a66 := Tryz.isAgg264, z66 := Tryz.sizeOf264, v66 := Tryz.zeroValue264,
  t70 := Tryz.underlying268, a70 := Tryz.isAgg268, z70 := Tryz.sizeOf268, v70 := Tryz.zeroValue268,
  t76 := Tryz.underlying284, a76 := Tryz.isAgg284, z76 := Tryz.sizeOf284, v76 := Tryz.zeroValue284,
  t77 := Tryz.underlying285, a77 := Tryz.isAgg285, z77 := Tryz.sizeOf285, v77 := Tryz.zeroValue285 }
end Go.Proofs
