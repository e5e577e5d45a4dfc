/- ref24.Less; words for With -/
import Derived.Test.YtnfndgmlnoeelaaGreatDoorZlo
import Derived.Test.YtnfndgmlnoeelaaGreatDoorZlq
import Derived.Test.YtnfndgmlnoeelaaGreatDoorApn
import Derived.Deep.AppendLies
import Derived.Deep.RegionHeld3
import Derived.Test.YtnfndgmlnoeelaaGreatDoorChk
namespace Go.Proofs.YtnfndgmlnoeelaaGreatDoor
open Go.RowKit Go.Proofs Go.Shelf
def OwnN (W : World) (A : Option Addr) (c : Nat) (l : List (ByteArray × Int)) : Prop:=W.ownsRow 0 24 2 (.slice A l.length c) l.length (namesC l)
theorem OwnN.nil (W : World) : OwnN W none 0 []:=World.ownsRow_nil W 0 24 2
theorem OwnN.below {W X : World} {B : Nat} {A : Option Addr} {c : Nat} {l : List (ByteArray × Int)} (h : OwnN W A c l) (hb : Below B W X) (hB : W.heap.size ≤ B) : OwnN X A c l:=by
 refine ⟨h.1,?_⟩
 rcases h.2 with h | ⟨g,cap,cur,h1,h2,h3,h4⟩
 ·exact .inl h
 ·have hg : g < W.heap.size:=by
   by_cases hlt : g < W.heap.size
   ·exact hlt
   ·rw [Array.getElem?_eq_none (by omega)] at h3;cases h3
  exact .inr ⟨g,cap,cur,h1,h2,(hb.block g (by omega)).trans h3,h4⟩
theorem OwnN.of {W : World} {base : Nat} {v : Value} {l : List (ByteArray × Int)} (h : W.ownsRow base 24 2 v l.length (namesC l)) : ∃ A c,v = .slice A l.length c ∧ OwnN W A c l:=by
 rcases h.2 with ⟨h1,h2⟩ | ⟨g,cap,cur,h1,h2,h3,h4⟩
 ·obtain rfl : l = []:=List.length_eq_zero_iff.1 h2
  exact ⟨none,0,by rw [h1];rfl,OwnN.nil W⟩
 ·exact ⟨some ⟨g,0,none⟩,cap,h1,h.1,.inr ⟨g,cap,cur,rfl,Nat.zero_le _,h3,h4⟩⟩
theorem OwnN.cells {W : World} {A : Option Addr} {c : Nat} {l : List (ByteArray × Int)} (h : OwnN W A c l) : (l = [] ∧ A = none ∧ c = 0) ∨ ∃ g,A = some ⟨g,0,none⟩ ∧ g < W.heap.size ∧ l.length ≤ c ∧ c ≤ 9223372036854775807 ∧ ∀ q u,(namesC l)[q]? = some u → W.cell? ⟨g,q,none⟩ = some u:=by
 rcases h.2 with ⟨h1,h2⟩ | ⟨g,cap,cur,h1,h2,h3,h4,h5,h6⟩
 ·simp only [Value.slice.injEq] at h1
  exact .inl ⟨List.length_eq_zero_iff.1 h2,h1.1,h1.2.2⟩
 ·simp only [Value.slice.injEq,true_and] at h1
  obtain ⟨rfl,rfl⟩:=h1
  have hg : g < W.heap.size:=by
   by_cases hlt : g < W.heap.size
   ·exact hlt
   ·rw [Array.getElem?_eq_none (by omega)] at h3;cases h3
  refine .inr ⟨g,rfl,hg,h4,by unfold maxLen at h5;exact h5,fun q u hu => ?_⟩
  have hlt:=(List.getElem?_eq_some_iff.1 hu).1
  rw [namesC_length] at hlt
  exact (h.cellAt q hlt).trans hu
end Go.Proofs.YtnfndgmlnoeelaaGreatDoor
/- ref24.With (printed by gen_ywt.py) -/
namespace Go.Proofs.YtnfndgmlnoeelaaGreatDoor
open Go.RowKit Go.Proofs Go.Shelf
theorem below_drew' {B : Nat} {w w' : World} (h : Below B w w') : Below B w w'.drew:=⟨h.os,h.tape,h.output,h.size,h.block⟩
theorem namesC_one : ∀ (l : List (ByteArray × Int)),∀ u ∈ namesC l,u.oneCell' = true
 | [],u,h => by simp [namesC] at h
 | x :: r,u,h => by
  rw [namesC,List.mem_append] at h
  rcases h with h | h
  ·simp [encN] at h
   rcases h with rfl | rfl <;> rfl
  ·exact namesC_one r u h
theorem OwnN.news {W : World} {A : Option Addr} {c : Nat} {l : List (ByteArray × Int)} (h : OwnN W A c l) (j : Nat) :
  (A = none → min j l.length = 0) ∧ ∀ ad,A = some ad → ∀ q u,(namesC (l.take j))[q]? = some u → W.cell? (ad.add q) = some u:=by
 rcases h.cells with ⟨rfl,rfl,rfl⟩ | ⟨g,rfl,hg,hc1,hc2,hcell⟩
 ·exact ⟨(fun _ => by simp),(fun ad e => by cases e)⟩
 ·refine ⟨(fun e => by cases e),fun ad e q u hu => ?_⟩
  cases e
  rw [← namesC_take,List.getElem?_take] at hu
  split at hu
  ·have:=hcell q u hu
   cases q <;> simpa [Addr.add] using this
  ·cases hu
end Go.Proofs.YtnfndgmlnoeelaaGreatDoor
