/- Contracts of the shelf, laid at this program (printed by gen_lay.py) -/
import Derived.Test.YtmmecapgnmlaiaaGreatDoorProg
import Derived.WalkKit
import Derived.KernelRfl
import Derived.Ground.SlsfProg
import Derived.Shelf.SlSortCmp.NoneTotal
namespace Go.Proofs
open Go.Shelf
def Go.Proofs.Tryz.sortG_ren : Ren :=
{
  f := fun x =>
    match x with
    | 6 => 76
    | 15 => 142
    | 14 => 141
    | 28 => 194
    | 29 => 195
    | 20 => 186
    | 21 => 187
    | 22 => 188
    | 23 => 189
    | 24 => 190
    | 25 => 191
    | 26 => 192
    | 27 => 193
    | 46 => 240
    | 47 => 241
    | 48 => 242
    | 49 => 243
    | 50 => 244
    | 57 => 271
    | n => n,
  t := fun x =>
    match x with
    | 22 => 28
    | 24 => 39
    | 25 => 125
    | 3 => 3
    | 39 => 199
    | 0 => 0
    | 53 => 242
    | 55 => 244
    | 4 => 4
    | 46 => 236
    | 45 => 235
    | 50 => 210
    | 5 => 5
    | 9 => 9
    | 66 => 281
    | 70 => 285
    | 76 => 305
    | 77 => 306
    | n => n,
  g := fun x =>
    x }
theorem Go.Proofs.Tryz.sortG : SlLaysF.n6 Tryz.prog Tryz.sortG_ren :=
{ mixed := Eq.refl true,
  f6 :=
    Exists.intro "slices.SortFunc[[][]int,[]int]"
      ⟨of_decide_eq_true (id (Eq.refl true)),
        Eq.trans Tryz.func76
          (by kernel_rfl)⟩,
  f14 :=
    Exists.intro "slices.pdqsortCmpFunc[[]int]"
      ⟨of_decide_eq_true (id (Eq.refl true)),
        Eq.trans Tryz.func141
          (by kernel_rfl)⟩,
  f15 := Eq.trans Tryz.func142 (congrArg some (by kernel_rfl)),
  f20 :=
    Exists.intro "slices.insertionSortCmpFunc[[]int]"
      ⟨of_decide_eq_true (id (Eq.refl true)),
        Eq.trans Tryz.func186
          (by kernel_rfl)⟩,
  f21 :=
    Exists.intro "slices.heapSortCmpFunc[[]int]"
      ⟨of_decide_eq_true (id (Eq.refl true)),
        Eq.trans Tryz.func187
          (by kernel_rfl)⟩,
  f22 :=
    Exists.intro "slices.breakPatternsCmpFunc[[]int]"
      ⟨of_decide_eq_true (id (Eq.refl true)),
        Eq.trans Tryz.func188
          (by kernel_rfl)⟩,
  f23 :=
    Exists.intro "slices.choosePivotCmpFunc[[]int]"
      ⟨of_decide_eq_true (id (Eq.refl true)),
        Eq.trans Tryz.func189
          (by kernel_rfl)⟩,
  f24 :=
    Exists.intro "slices.reverseRangeCmpFunc[[]int]"
      ⟨of_decide_eq_true (id (Eq.refl true)),
        Eq.trans Tryz.func190
          (by kernel_rfl)⟩,
  f25 :=
    Exists.intro "slices.partialInsertionSortCmpFunc[[]int]"
      ⟨of_decide_eq_true (id (Eq.refl true)),
        Eq.trans Tryz.func191
          (by kernel_rfl)⟩,
  f26 :=
    Exists.intro "slices.partitionEqualCmpFunc[[]int]"
      ⟨of_decide_eq_true (id (Eq.refl true)),
        Eq.trans Tryz.func192
          (by kernel_rfl)⟩,
  f27 :=
    Exists.intro "slices.partitionCmpFunc[[]int]"
      ⟨of_decide_eq_true (id (Eq.refl true)),
        Eq.trans Tryz.func193
          (by kernel_rfl)⟩,
  f28 := Eq.trans Tryz.func194 (congrArg some (by kernel_rfl)),
  f29 := Eq.trans Tryz.func195 (congrArg some (by kernel_rfl)),
  f46 :=
    Exists.intro "slices.siftDownCmpFunc[[]int]"
      ⟨of_decide_eq_true (id (Eq.refl true)),
        Eq.trans Tryz.func240
          (by kernel_rfl)⟩,
  f47 := Eq.trans Tryz.func241 (congrArg some (by kernel_rfl)),
  f48 := Eq.trans Tryz.func242 (congrArg some (by kernel_rfl)),
  f49 :=
    Exists.intro "slices.medianAdjacentCmpFunc[[]int]"
      ⟨of_decide_eq_true (id (Eq.refl true)),
        Eq.trans Tryz.func243
          (by kernel_rfl)⟩,
  f50 :=
    Exists.intro "slices.medianCmpFunc[[]int]"
      ⟨of_decide_eq_true (id (Eq.refl true)),
        Eq.trans Tryz.func244
          (by kernel_rfl)⟩,
  f57 :=
    Exists.intro "slices.order2CmpFunc[[]int]"
      ⟨of_decide_eq_true (id (Eq.refl true)),
        Eq.trans Tryz.func271
          (by kernel_rfl)⟩,
  t0 := Tryz.underlying0, a0 := Tryz.isAgg0, z0 := Tryz.sizeOf0, v0 := Tryz.zeroValue0, t3 := Tryz.underlying3,
  a3 := Tryz.isAgg3, z3 := Tryz.sizeOf3, v3 := Tryz.zeroValue3, t4 := Tryz.underlying4, a4 := Tryz.isAgg4,
  z4 := Tryz.sizeOf4, v4 := Tryz.zeroValue4, t5 := Tryz.underlying5, a5 := Tryz.isAgg5, z5 := Tryz.sizeOf5,
  v5 := Tryz.zeroValue5, t9 := Tryz.underlying9, a9 := Tryz.isAgg9, z9 := Tryz.sizeOf9, v9 := Tryz.zeroValue9,
  t22 := Tryz.underlying28, a22 := Tryz.isAgg28, z22 := Tryz.sizeOf28, v22 := Tryz.zeroValue28, a24 := Tryz.isAgg39,
  z24 := Tryz.sizeOf39, t25 := Tryz.underlying125, a25 := Tryz.isAgg125, z25 := Tryz.sizeOf125,
  v25 := Tryz.zeroValue125, t39 := Tryz.underlying199, a39 := Tryz.isAgg199, z39 := Tryz.sizeOf199,
  v39 := Tryz.zeroValue199, t45 := Tryz.underlying235, a45 := Tryz.isAgg235, z45 := Tryz.sizeOf235,
  v45 := Tryz.zeroValue235, t46 := Tryz.underlying236, a46 := Tryz.isAgg236, z46 := Tryz.sizeOf236,
  v46 := Tryz.zeroValue236, t50 := Tryz.underlying210, a50 := Tryz.isAgg210, z50 := Tryz.sizeOf210,
  v50 := Tryz.zeroValue210, t53 := Tryz.underlying242, a53 := Tryz.isAgg242, z53 := Tryz.sizeOf242,
  v53 := Tryz.zeroValue242, t55 := Tryz.underlying244, a55 := Tryz.isAgg244, z55 := Tryz.sizeOf244,
  v55 := Tryz.zeroValue244, t66 := Tryz.underlying281, a66 := Tryz.isAgg281, z66 := Tryz.sizeOf281,
  v66 := Tryz.zeroValue281, t70 := Tryz.underlying285, a70 := Tryz.isAgg285, z70 := Tryz.sizeOf285,
  v70 := Tryz.zeroValue285, t76 := Tryz.underlying305, a76 := Tryz.isAgg305, z76 := Tryz.sizeOf305,
  v76 := Tryz.zeroValue305, t77 := Tryz.underlying306, a77 := Tryz.isAgg306, z77 := Tryz.sizeOf306,
  v77 := Tryz.zeroValue306 }
def Go.Proofs.Tryz.sortG0_ren : Ren :=
{
  f := fun x =>
    match x with
    | 6 => 76
    | 15 => 142
    | 14 => 141
    | 28 => 194
    | 29 => 195
    | 20 => 186
    | 21 => 187
    | 22 => 188
    | 23 => 189
    | 24 => 190
    | 25 => 191
    | 26 => 192
    | 27 => 193
    | 46 => 240
    | 47 => 241
    | 48 => 242
    | 49 => 243
    | 50 => 244
    | 57 => 271
    | n => n,
  t := fun x =>
    match x with
    | 22 => 28
    | 24 => 39
    | 25 => 125
    | 3 => 3
    | 39 => 199
    | 0 => 0
    | 53 => 242
    | 55 => 244
    | 4 => 4
    | 46 => 236
    | 45 => 235
    | 50 => 210
    | 5 => 5
    | 9 => 9
    | 66 => 281
    | 70 => 285
    | 76 => 305
    | 77 => 306
    | n => n,
  g := fun x =>
    x }
theorem Go.Proofs.Tryz.sortG0 : SlLaysF0.n6 Tryz.prog Tryz.sortG0_ren :=
{ mixed := Eq.refl true,
  f6 :=
    Exists.intro "slices.SortFunc[[][]int,[]int]"
      ⟨of_decide_eq_true (id (Eq.refl true)),
        Eq.trans Tryz.func76
          (by kernel_rfl)⟩,
  f14 :=
    Exists.intro "slices.pdqsortCmpFunc[[]int]"
      ⟨of_decide_eq_true (id (Eq.refl true)),
        Eq.trans Tryz.func141
          (by kernel_rfl)⟩,
  f15 := Eq.trans Tryz.func142 (congrArg some (by kernel_rfl)),
  f20 :=
    Exists.intro "slices.insertionSortCmpFunc[[]int]"
      ⟨of_decide_eq_true (id (Eq.refl true)),
        Eq.trans Tryz.func186
          (by kernel_rfl)⟩,
  f21 :=
    Exists.intro "slices.heapSortCmpFunc[[]int]"
      ⟨of_decide_eq_true (id (Eq.refl true)),
        Eq.trans Tryz.func187
          (by kernel_rfl)⟩,
  f22 :=
    Exists.intro "slices.breakPatternsCmpFunc[[]int]"
      ⟨of_decide_eq_true (id (Eq.refl true)),
        Eq.trans Tryz.func188
          (by kernel_rfl)⟩,
  f23 :=
    Exists.intro "slices.choosePivotCmpFunc[[]int]"
      ⟨of_decide_eq_true (id (Eq.refl true)),
        Eq.trans Tryz.func189
          (by kernel_rfl)⟩,
  f24 :=
    Exists.intro "slices.reverseRangeCmpFunc[[]int]"
      ⟨of_decide_eq_true (id (Eq.refl true)),
        Eq.trans Tryz.func190
          (by kernel_rfl)⟩,
  f25 :=
    Exists.intro "slices.partialInsertionSortCmpFunc[[]int]"
      ⟨of_decide_eq_true (id (Eq.refl true)),
        Eq.trans Tryz.func191
          (by kernel_rfl)⟩,
  f26 :=
    Exists.intro "slices.partitionEqualCmpFunc[[]int]"
      ⟨of_decide_eq_true (id (Eq.refl true)),
        Eq.trans Tryz.func192
          (by kernel_rfl)⟩,
  f27 :=
    Exists.intro "slices.partitionCmpFunc[[]int]"
      ⟨of_decide_eq_true (id (Eq.refl true)),
        Eq.trans Tryz.func193
          (by kernel_rfl)⟩,
  f28 := Eq.trans Tryz.func194 (congrArg some (by kernel_rfl)),
  f29 := Eq.trans Tryz.func195 (congrArg some (by kernel_rfl)),
  f46 :=
    Exists.intro "slices.siftDownCmpFunc[[]int]"
      ⟨of_decide_eq_true (id (Eq.refl true)),
        Eq.trans Tryz.func240
          (by kernel_rfl)⟩,
  f47 := Eq.trans Tryz.func241 (congrArg some (by kernel_rfl)),
  f48 := Eq.trans Tryz.func242 (congrArg some (by kernel_rfl)),
  f49 :=
    Exists.intro "slices.medianAdjacentCmpFunc[[]int]"
      ⟨of_decide_eq_true (id (Eq.refl true)),
        Eq.trans Tryz.func243
          (by kernel_rfl)⟩,
  f50 :=
    Exists.intro "slices.medianCmpFunc[[]int]"
      ⟨of_decide_eq_true (id (Eq.refl true)),
        Eq.trans Tryz.func244
          (by kernel_rfl)⟩,
  f57 :=
    Exists.intro "slices.order2CmpFunc[[]int]"
      ⟨of_decide_eq_true (id (Eq.refl true)),
        Eq.trans Tryz.func271
          (by kernel_rfl)⟩,
  t0 := Tryz.underlying0, a0 := Tryz.isAgg0, z0 := Tryz.sizeOf0, v0 := Tryz.zeroValue0, t3 := Tryz.underlying3,
  a3 := Tryz.isAgg3, z3 := Tryz.sizeOf3, v3 := Tryz.zeroValue3, t4 := Tryz.underlying4, a4 := Tryz.isAgg4,
  z4 := Tryz.sizeOf4, v4 := Tryz.zeroValue4, t5 := Tryz.underlying5, a5 := Tryz.isAgg5, z5 := Tryz.sizeOf5,
  v5 := Tryz.zeroValue5, t9 := Tryz.underlying9, a9 := Tryz.isAgg9, z9 := Tryz.sizeOf9, v9 := Tryz.zeroValue9,
  t22 := Tryz.underlying28, a22 := Tryz.isAgg28, z22 := Tryz.sizeOf28, v22 := Tryz.zeroValue28,
  t25 := Tryz.underlying125, a25 := Tryz.isAgg125, z25 := Tryz.sizeOf125, v25 := Tryz.zeroValue125,
  t39 := Tryz.underlying199, a39 := Tryz.isAgg199, z39 := Tryz.sizeOf199, v39 := Tryz.zeroValue199,
  t45 := Tryz.underlying235, a45 := Tryz.isAgg235, z45 := Tryz.sizeOf235, v45 := Tryz.zeroValue235,
  t46 := Tryz.underlying236, a46 := Tryz.isAgg236, z46 := Tryz.sizeOf236, v46 := Tryz.zeroValue236,
  t50 := Tryz.underlying210, a50 := Tryz.isAgg210, z50 := Tryz.sizeOf210, v50 := Tryz.zeroValue210,
  t53 := Tryz.underlying242, a53 := Tryz.isAgg242, z53 := Tryz.sizeOf242, v53 := Tryz.zeroValue242,
  t55 := Tryz.underlying244, a55 := Tryz.isAgg244, z55 := Tryz.sizeOf244, v55 := Tryz.zeroValue244,
  t66 := Tryz.underlying281, a66 := Tryz.isAgg281, z66 := Tryz.sizeOf281, v66 := Tryz.zeroValue281,
  t70 := Tryz.underlying285, a70 := Tryz.isAgg285, z70 := Tryz.sizeOf285, v70 := Tryz.zeroValue285,
  t76 := Tryz.underlying305, a76 := Tryz.isAgg305, z76 := Tryz.sizeOf305, v76 := Tryz.zeroValue305,
  t77 := Tryz.underlying306, a77 := Tryz.isAgg306, z77 := Tryz.sizeOf306, v77 := Tryz.zeroValue306 }
end Go.Proofs
