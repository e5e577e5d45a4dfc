/- Contracts of the shelf, laid at this program (printed by gen_lay.py) -/
import Derived.Test.YtacjjkbkhpdhnaaGreatDoorProg
import Derived.WalkKit
import Derived.KernelRfl
import Derived.Ground.SlsfProg
import Derived.Shelf.SlSortCmp.InsertionK
namespace Go.Proofs
open Go.Shelf
def Go.Proofs.Tryz.insD_ren : Ren :=
{
  f := fun x =>
    match x with
    | 20 => 156
    | n => n,
  t := fun x =>
    match x with
    | 24 => 63
    | 22 => 23
    | 3 => 3
    | 25 => 123
    | 4 => 4
    | 0 => 0
    | n => n,
  g := fun x =>
    x }
theorem Go.Proofs.Tryz.insD : SlLaysF0.n20 Tryz.prog Tryz.insD_ren :=
{ mixed := Eq.refl true,
  f20 :=
    Exists.intro "slices.insertionSortCmpFunc[cordwood/api.Decl]"
      ⟨of_decide_eq_true (id (Eq.refl true)),
        Eq.trans Tryz.func156
          (by kernel_rfl)⟩,
  t0 := Tryz.underlying0, a0 := Tryz.isAgg0, z0 := Tryz.sizeOf0, v0 := Tryz.zeroValue0, t3 := Tryz.underlying3,
  a3 := Tryz.isAgg3, z3 := Tryz.sizeOf3, v3 := Tryz.zeroValue3, t4 := Tryz.underlying4, a4 := Tryz.isAgg4,
  z4 := Tryz.sizeOf4, v4 := Tryz.zeroValue4, t22 := Tryz.underlying23, a22 := Tryz.isAgg23, z22 := Tryz.sizeOf23,
  v22 := Tryz.zeroValue23, t25 := Tryz.underlying123, a25 := Tryz.isAgg123, z25 := Tryz.sizeOf123,
  v25 := Tryz.zeroValue123 }
end Go.Proofs
