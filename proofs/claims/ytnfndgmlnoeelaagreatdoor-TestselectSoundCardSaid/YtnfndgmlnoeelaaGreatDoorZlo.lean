/- ref20: letter, digit, word, Word, slash, Label -/
import Derived.Test.YtnfndgmlnoeelaaGreatDoorZlc
import Derived.Lib.IndexLaws
import Derived.Test.YtnfndgmlnoeelaaGreatDoorZlg
import Derived.Test.YtnfndgmlnoeelaaGreatDoorZlp
namespace Go.Proofs.YtnfndgmlnoeelaaGreatDoor
open Go.RowKit Go.Proofs Go.Shelf
end Go.Proofs.YtnfndgmlnoeelaaGreatDoor
/- ref20: slash, Label -/
namespace Go.Proofs.YtnfndgmlnoeelaaGreatDoor
open Go.RowKit Go.Proofs Go.Shelf
end Go.Proofs.YtnfndgmlnoeelaaGreatDoor
/- ref21: Has, Reserved, Name -/
namespace Go.Proofs.YtnfndgmlnoeelaaGreatDoor
open Go.RowKit Go.Proofs Go.Shelf
end Go.Proofs.YtnfndgmlnoeelaaGreatDoor
/- ref21.With: a list with one more string -/
namespace Go.Proofs.YtnfndgmlnoeelaaGreatDoor
open Go.RowKit Go.Proofs Go.Shelf
theorem SlS.news {W : World} {B : Nat} {A : Option Addr} {c : Nat} {l : List ByteArray} (h : SlS W B A c l) :
  (A = none → l.length = 0) ∧ ∀ ad,A = some ad → ∀ j u,(l.map Value.string)[j]? = some u → W.cell? (ad.add j) = some u:=by
 refine ⟨fun hA => ?_,fun a' e j u hu => ?_⟩
 ·cases l with
  | nil => rfl
  | cons x r => obtain ⟨b,o,e,_⟩:=h.2.2 (by simp);rw [hA] at e;cases e
 ·rw [List.getElem?_map] at hu
  obtain ⟨s,hs1,rfl⟩:=Option.map_eq_some_iff.1 hu
  obtain ⟨b,o,e',hb,hcell⟩:=h.2.2 (by intro e;subst e;simp at hs1)
  rw [e] at e'
  cases e'
  have:=hcell j s hs1
  cases j <;> simpa [Addr.add] using this
theorem SlS.take {W : World} {B : Nat} {A : Option Addr} {c : Nat} {l : List ByteArray} (h : SlS W B A c l) (k : Nat) : SlS W B A c (l.take k):=by
 refine ⟨by have:=h.1;simp;omega,h.2.1,fun hne => ?_⟩
 obtain ⟨b,o,e,hb,hc⟩:=h.2.2 (by intro e;subst e;simp at hne)
 exact ⟨b,o,e,hb,fun j s hj => hc j s (by
  rw [List.getElem?_take] at hj
  split at hj
  ·exact hj
  ·cases hj)⟩
theorem SlS.drop {W : World} {B : Nat} {g c : Nat} {l : List ByteArray} (h : SlS W B (some ⟨g,0,none⟩) c l) (k : Nat) (hk : k < c) : SlS W B (some ⟨g,k,none⟩) (c - k) (l.drop k):=by
 refine ⟨by have:=h.1;simp;omega,by have:=h.2.1;omega,fun hne => ?_⟩
 obtain ⟨b,o,e,hb,hc⟩:=h.2.2 (by intro e;subst e;simp at hne)
 simp only [Option.some.injEq,Addr.mk.injEq,and_true] at e
 obtain ⟨rfl,rfl⟩:=e
 exact ⟨g,k,rfl,hb,fun j s hj => by
  rw [List.getElem?_drop] at hj
  have:=hc (k + j) s hj
  rwa [Nat.zero_add] at this⟩
def OwnS (W : World) (g c : Nat) (l : List ByteArray) : Prop:=VarsAt W (some ⟨g,0,none⟩) c l
theorem OwnS.of {W : World} {base : Nat} {v : Value} {l : List ByteArray} (h : W.ownsRow base 9 1 v l.length (l.map .string)) (hne : l ≠ []) : ∃ g c,v = .slice (some ⟨g,0,none⟩) l.length c ∧ OwnS W g c l:=by
 rcases h.2 with ⟨h1,h2⟩ | ⟨g,cap,cur,h1,h2,h3,h4⟩
 ·exact absurd (List.length_eq_zero_iff.1 h2) hne
 ·exact ⟨g,cap,h1,h.1,.inr ⟨g,cap,cur,rfl,Nat.zero_le _,h3,h4⟩⟩
end Go.Proofs.YtnfndgmlnoeelaaGreatDoor
