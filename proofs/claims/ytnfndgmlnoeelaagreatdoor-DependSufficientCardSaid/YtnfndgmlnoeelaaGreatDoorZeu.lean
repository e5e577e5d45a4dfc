/- What came in bounds the number of nodes of the expressions in it -/
import Derived.Test.YtnfndgmlnoeelaaGreatDoorZln
import Derived.Test.YtnfndgmlnoeelaaGreatDoorRows
import Derived.Test.YtnfndgmlnoeelaaGreatDoorZlu
namespace Go.Proofs.YtnfndgmlnoeelaaGreatDoor
open Go.RowKit Go.Proofs Go.ChangeShapes Go.WideShapes Go.Joins
section
variable {H : Type} {enc : TypeId × Value → H} {W : World}
end
end Go.Proofs.YtnfndgmlnoeelaaGreatDoor
/- An expression that came in -/
namespace Go.Proofs.YtnfndgmlnoeelaaGreatDoor
open Go.RowKit Go.Proofs Go.ChangeShapes Go.WideShapes Go.Joins
section
variable {H : Type} {enc : TypeId × Value → H} {W : World}
end
end Go.Proofs.YtnfndgmlnoeelaaGreatDoor
/- A number of 16 bits that came in as data -/
namespace Go.Proofs.YtnfndgmlnoeelaaGreatDoor
open Go.RowKit Go.Proofs Go.ChangeShapes Go.WideShapes Go.Joins

section
variable {H : Type} {enc : TypeId × Value → H} {W : World}
set_option maxRecDepth 100000 in
theorem open_u16 {b0 : Nat} {v : Value} {d : DataW H} {p : List MemPlace} (hv : Value.okWide Tryz.prog W .any b0 25 v) (h : DataW.Trod enc Tryz.prog W 0 (fun _ => true) true 25 v d p) :
  ∃ a : Int,v = .int .u16 a ∧ 0 ≤ a ∧ a ≤ 65535:=by
 obtain ⟨a,rfl⟩:=okWide_int Tryz.underlying25 hv
 obtain ⟨fuel,hf⟩:=h
 simp only [Value.cells] at hf
 obtain ⟨i,e,_,hw⟩:=DataW.trod_int Tryz.underlying25 hf
 simp only [List.cons.injEq,Value.int.injEq,true_and,and_true] at e
 subst e
 refine ⟨a,rfl,?_⟩
 simp only [Lit.wf,Bool.and_eq_true,decide_eq_true_eq] at hw
 exact ⟨hw.1,hw.2⟩
end
end Go.Proofs.YtnfndgmlnoeelaaGreatDoor
