/- Contracts of the shelf, laid at this program (printed by gen_lay.py) -/
import Derived.Test.YtnfndgmlnoeelaaGreatDoorProg
import Derived.WalkKit
import Derived.KernelRfl
import Derived.Ground.SlsfProg
import Derived.Shelf.SlSortCmp.NoneTotal
namespace Go.Proofs
open Go.Shelf
def Go.Proofs.Tryz.sortN_ren : Ren :=
{
  f := fun x =>
    match x with
    | 6 => 70
    | 15 => 104
    | 14 => 103
    | 28 => 142
    | 29 => 143
    | 20 => 134
    | 21 => 135
    | 22 => 136
    | 23 => 137
    | 24 => 138
    | 25 => 139
    | 26 => 140
    | 27 => 141
    | 46 => 159
    | 47 => 160
    | 48 => 161
    | 49 => 162
    | 50 => 163
    | 57 => 176
    | n => n,
  t := fun x =>
    match x with
    | 22 => 47
    | 24 => 24
    | 25 => 120
    | 3 => 3
    | 39 => 179
    | 0 => 0
    | 53 => 213
    | 55 => 26
    | 4 => 4
    | 46 => 207
    | 45 => 206
    | 50 => 152
    | 5 => 5
    | 9 => 9
    | 66 => 229
    | 70 => 233
    | 76 => 247
    | 77 => 248
    | n => n,
  g := fun x =>
    x }
theorem Go.Proofs.Tryz.sortN : SlLaysF0.n6 Tryz.prog Tryz.sortN_ren :=
{ mixed := Eq.refl true,
  f6 :=
    Exists.intro "slices.SortFunc[[]cordwood/api.Name,cordwood/api.Name]"
      ⟨of_decide_eq_true (id (Eq.refl true)),
        Eq.trans Tryz.func70
          (by kernel_rfl)⟩,
  f14 :=
    Exists.intro "slices.pdqsortCmpFunc[cordwood/api.Name]"
      ⟨of_decide_eq_true (id (Eq.refl true)),
        Eq.trans Tryz.func103
          (by kernel_rfl)⟩,
  f15 := Eq.trans Tryz.func104 (congrArg some (by kernel_rfl)),
  f20 :=
    Exists.intro "slices.insertionSortCmpFunc[cordwood/api.Name]"
      ⟨of_decide_eq_true (id (Eq.refl true)),
        Eq.trans Tryz.func134
          (by kernel_rfl)⟩,
  f21 :=
    Exists.intro "slices.heapSortCmpFunc[cordwood/api.Name]"
      ⟨of_decide_eq_true (id (Eq.refl true)),
        Eq.trans Tryz.func135
          (by kernel_rfl)⟩,
  f22 :=
    Exists.intro "slices.breakPatternsCmpFunc[cordwood/api.Name]"
      ⟨of_decide_eq_true (id (Eq.refl true)),
        Eq.trans Tryz.func136
          (by kernel_rfl)⟩,
  f23 :=
    Exists.intro "slices.choosePivotCmpFunc[cordwood/api.Name]"
      ⟨of_decide_eq_true (id (Eq.refl true)),
        Eq.trans Tryz.func137
          (by kernel_rfl)⟩,
  f24 :=
    Exists.intro "slices.reverseRangeCmpFunc[cordwood/api.Name]"
      ⟨of_decide_eq_true (id (Eq.refl true)),
        Eq.trans Tryz.func138
          (by kernel_rfl)⟩,
  f25 :=
    Exists.intro "slices.partialInsertionSortCmpFunc[cordwood/api.Name]"
      ⟨of_decide_eq_true (id (Eq.refl true)),
        Eq.trans Tryz.func139
          (by kernel_rfl)⟩,
  f26 :=
    Exists.intro "slices.partitionEqualCmpFunc[cordwood/api.Name]"
      ⟨of_decide_eq_true (id (Eq.refl true)),
        Eq.trans Tryz.func140
          (by kernel_rfl)⟩,
  f27 :=
    Exists.intro "slices.partitionCmpFunc[cordwood/api.Name]"
      ⟨of_decide_eq_true (id (Eq.refl true)),
        Eq.trans Tryz.func141
          (by kernel_rfl)⟩,
  f28 := Eq.trans Tryz.func142 (congrArg some (by kernel_rfl)),
  f29 := Eq.trans Tryz.func143 (congrArg some (by kernel_rfl)),
  f46 :=
    Exists.intro "slices.siftDownCmpFunc[cordwood/api.Name]"
      ⟨of_decide_eq_true (id (Eq.refl true)),
        Eq.trans Tryz.func159
          (by kernel_rfl)⟩,
  f47 := Eq.trans Tryz.func160 (congrArg some (by kernel_rfl)),
  f48 := Eq.trans Tryz.func161 (congrArg some (by kernel_rfl)),
  f49 :=
    Exists.intro "slices.medianAdjacentCmpFunc[cordwood/api.Name]"
      ⟨of_decide_eq_true (id (Eq.refl true)),
        Eq.trans Tryz.func162
          (by kernel_rfl)⟩,
  f50 :=
    Exists.intro "slices.medianCmpFunc[cordwood/api.Name]"
      ⟨of_decide_eq_true (id (Eq.refl true)),
        Eq.trans Tryz.func163
          (by kernel_rfl)⟩,
  f57 :=
    Exists.intro "slices.order2CmpFunc[cordwood/api.Name]"
      ⟨of_decide_eq_true (id (Eq.refl true)),
        Eq.trans Tryz.func176
          (by kernel_rfl)⟩,
  t0 := Tryz.underlying0, a0 := Tryz.isAgg0, z0 := Tryz.sizeOf0, v0 := Tryz.zeroValue0, t3 := Tryz.underlying3,
  a3 := Tryz.isAgg3, z3 := Tryz.sizeOf3, v3 := Tryz.zeroValue3, t4 := Tryz.underlying4, a4 := Tryz.isAgg4,
  z4 := Tryz.sizeOf4, v4 := Tryz.zeroValue4, t5 := Tryz.underlying5, a5 := Tryz.isAgg5, z5 := Tryz.sizeOf5,
  v5 := Tryz.zeroValue5, t9 := Tryz.underlying9, a9 := Tryz.isAgg9, z9 := Tryz.sizeOf9, v9 := Tryz.zeroValue9,
  t22 := Tryz.underlying47, a22 := Tryz.isAgg47, z22 := Tryz.sizeOf47, v22 := Tryz.zeroValue47,
  t25 := Tryz.underlying120, a25 := Tryz.isAgg120, z25 := Tryz.sizeOf120, v25 := Tryz.zeroValue120,
  t39 := Tryz.underlying179, a39 := Tryz.isAgg179, z39 := Tryz.sizeOf179, v39 := Tryz.zeroValue179,
  t45 := Tryz.underlying206, a45 := Tryz.isAgg206, z45 := Tryz.sizeOf206, v45 := Tryz.zeroValue206,
  t46 := Tryz.underlying207, a46 := Tryz.isAgg207, z46 := Tryz.sizeOf207, v46 := Tryz.zeroValue207,
  t50 := Tryz.underlying152, a50 := Tryz.isAgg152, z50 := Tryz.sizeOf152, v50 := Tryz.zeroValue152,
  t53 := Tryz.underlying213, a53 := Tryz.isAgg213, z53 := Tryz.sizeOf213, v53 := Tryz.zeroValue213,
  t55 := Tryz.underlying26, a55 := Tryz.isAgg26, z55 := Tryz.sizeOf26, v55 := Tryz.zeroValue26,
  t66 := Tryz.underlying229, a66 := Tryz.isAgg229, z66 := Tryz.sizeOf229, v66 := Tryz.zeroValue229,
  t70 := Tryz.underlying233, a70 := Tryz.isAgg233, z70 := Tryz.sizeOf233, v70 := Tryz.zeroValue233,
  t76 := Tryz.underlying247, a76 := Tryz.isAgg247, z76 := Tryz.sizeOf247, v76 := Tryz.zeroValue247,
  t77 := Tryz.underlying248, a77 := Tryz.isAgg248, z77 := Tryz.sizeOf248, v77 := Tryz.zeroValue248 }
end Go.Proofs
