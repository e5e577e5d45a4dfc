/- ref24.face, counts, used -/
import Derived.Test.YtacjjkbkhpdhnaaGreatDoorZpg
import Derived.Test.YtacjjkbkhpdhnaaGreatDoorZlo
import Derived.Test.YtacjjkbkhpdhnaaGreatDoorZpf
import Derived.Test.YtacjjkbkhpdhnaaGreatDoorChk
import Derived.Test.YtacjjkbkhpdhnaaGreatDoorZpa
import Derived.Test.YtacjjkbkhpdhnaaGreatDoorZlp
import Derived.Deep.RegionHeld3
import Derived.Test.YtacjjkbkhpdhnaaGreatDoorZpc
namespace Go.Proofs.YtacjjkbkhpdhnaaGreatDoor
open Go.RowKit Go.Proofs Go.Shelf
theorem below_drewK {B : Nat} {w w' : World} (h : Below B w w') : Below B w w'.drew := ⟨h.os, h.tape, h.output, h.size, h.block⟩
end Go.Proofs.YtacjjkbkhpdhnaaGreatDoor
/- ref24.Clash -/
namespace Go.Proofs.YtacjjkbkhpdhnaaGreatDoor
open Go.RowKit Go.Proofs Go.Shelf
def sameN (x y : Dc) : Bool := (decide (x.names.length = 1) && decide (y.names.length = 1)) && ((nameOf x).toList == (nameOf y).toList)
theorem name_cell {W : World} {B : Nat} {A : Option Addr} {c : Nat} {l : List ByteArray} (h : SlS W B A c l) (h1 : l.length = 1) : ∃ b o, A = some ⟨b, o, none⟩ ∧ b < B ∧ W.cell? ⟨b, o, none⟩ = some (.string (l.headD ⟨#[]⟩)) := by
  obtain ⟨s, rfl⟩ := List.length_eq_one_iff.1 h1
  obtain ⟨b, o, e, hb, hc⟩ := h.2.2 (by simp)
  exact ⟨b, o, e, hb, by have := hc 0 s rfl; simpa using this⟩
theorem hasN_snoc (met : List ByteArray) (x y : ByteArray) : hasN (met ++ [x]) y = (hasN met y || (x.toList == y.toList)) := by
  simp [hasN, List.any_append, ByteArray.toList_eq]
end Go.Proofs.YtacjjkbkhpdhnaaGreatDoor
/- A row of declarations that grows, held by the last cell of a box; their names and bodies lie elsewhere -/
namespace Go.Proofs.YtacjjkbkhpdhnaaGreatDoor
open Go.RowKit Go.Proofs Go.Shelf
theorem dcC_app : ∀ (a b : List Dc), dcC (a ++ b) = dcC a ++ dcC b
  | [], _ => rfl
  | x :: r, b => by simp only [List.cons_append, dcC, dcC_app r b, List.append_assoc]
theorem Fo.At.atP {w : World} {B : Nat} : ∀ {s : Fo} {b o : Nat}, s.At w B b o → s.AtP w (· < B) b o
  | .nil, _, _, _ => trivial
  | .cons _ _ _ _ _ _ _ s r, b, o, h => by
    obtain ⟨h0, h1, h2, h3, h4, ⟨h5, hc, hm, hs⟩, hr⟩ := h
    refine ⟨h0, h1, h2, h3, h4, ⟨h5, hc, hm, fun hne => ?_⟩, Fo.At.atP hr⟩
    obtain ⟨b', o', e, hb', hs'⟩ := hs hne
    exact ⟨b', o', e, hb', Fo.At.atP hs'⟩
theorem Fo.Sl.slP {w : World} {B : Nat} {A : Option Addr} {c : Nat} {s : Fo} (h : s.Sl w B A c) : s.SlP w (· < B) A c :=
  ⟨h.1, h.2.1, fun hne => by
    obtain ⟨b, o, e, hb, hs⟩ := h.2.2 hne
    exact ⟨b, o, e, hb, hs.atP⟩⟩
def NmP (w : World) (P : Nat → Prop) (A : Option Addr) (c : Nat) (l : List ByteArray) : Prop :=
  l.length ≤ c ∧ c ≤ maxLen ∧ (l ≠ [] → ∃ b o, A = some ⟨b, o, none⟩ ∧ P b ∧ ∀ j s, l[j]? = some s → w.cell? ⟨b, o + j, none⟩ = some (.string s))
theorem NmP.keep {w w' : World} {P P' : Nat → Prop} {A : Option Addr} {c : Nat} {l : List ByteArray} (h : NmP w P A c l) (hP : ∀ k, P k → P' k) (hk : ∀ p : Addr, P p.block → w'.cell? p = w.cell? p) : NmP w' P' A c l :=
  ⟨h.1, h.2.1, fun hne => by
    obtain ⟨b, o, e, hb, hs⟩ := h.2.2 hne
    exact ⟨b, o, e, hP _ hb, fun j s hj => (hk ⟨b, o + j, none⟩ hb).trans (hs j s hj)⟩⟩
theorem NmP.sls {w : World} {P : Nat → Prop} {B : Nat} {A : Option Addr} {c : Nat} {l : List ByteArray} (h : NmP w P A c l) (hP : ∀ k, P k → k < B) : SlS w B A c l :=
  ⟨h.1, h.2.1, fun hne => by
    obtain ⟨b, o, e, hb, hs⟩ := h.2.2 hne
    exact ⟨b, o, e, hP _ hb, hs⟩⟩
theorem SlS.nmP {w : World} {B : Nat} {A : Option Addr} {c : Nat} {l : List ByteArray} (h : SlS w B A c l) : NmP w (· < B) A c l :=
  ⟨h.1, h.2.1, fun hne => by
    obtain ⟨b, o, e, hb, hs⟩ := h.2.2 hne
    exact ⟨b, o, e, hb, hs⟩⟩
def Dc.Lies (x : Dc) (w : World) (P : Nat → Prop) : Prop := NmP w P x.nA x.nc x.names ∧ x.s.SlP w P x.A x.c
theorem Dc.Lies.keep {x : Dc} {w w' : World} {P P' : Nat → Prop} (h : x.Lies w P) (hP : ∀ k, P k → P' k) (hk : ∀ p : Addr, P p.block → w'.cell? p = w.cell? p) : x.Lies w' P' := ⟨h.1.keep hP hk, h.2.keep hP hk⟩
theorem Dc.Ok.lies {x : Dc} {w : World} {B : Nat} (h : x.Ok w B) : x.Lies w (· < B) := ⟨h.1.nmP, h.2.slP⟩
structure DRw (L : Nat) (W1 : World) (B : Nat) (hd : List Value) (ty : TypeId) (v : Value) (es : List Dc) (X : World) : Prop where
  nb : X.heap[B]? = some (.cells (hd ++ [v]).toArray ty (0, 0))
  own : X.ownsRow (B + 1) 63 11 v es.length (dcC es)
  sub : ∀ x ∈ es, x.Lies X (fun q => (q < L ∨ B < q) ∧ q < X.heap.size ∧ v.ownBlock ≠ some q)
  bw : Below B W1 X
  hL : L ≤ B
section
variable {L : Nat} {W1 : World} {B : Nat} {hd : List Value} {ty : TypeId} {v : Value} {es : List Dc} {X : World}
theorem DRw.keep (h : DRw L W1 B hd ty v es X) {Y : World} (hb : Below X.heap.size X Y) : DRw L W1 B hd ty v es Y :=
  ⟨(hb.block _ (lt_of_block h.nb)).trans h.nb, row_keepE h.own fun _ _ _ _ hc => hb.block _ (lt_of_block hc),
    fun x hx => (h.sub x hx).keep (fun _ hq => ⟨hq.1, Nat.lt_of_lt_of_le hq.2.1 hb.size, hq.2.2⟩) (fun _ hp => hb.cell hp.2.1), h.bw.trans (hb.mono (Nat.le_of_lt (lt_of_block h.nb))), h.hL⟩
theorem DRw.push (h : DRw L W1 B hd ty v es X) {Y : World} (hg : X.grownBy Y v.ownBlock) {v' : Value} {x : Dc}
    (hx : x.Lies X (fun q => (q < L ∨ B < q) ∧ q < X.heap.size ∧ v.ownBlock ≠ some q))
    (hown : Y.ownsRow (B + 1) 63 11 v' (es.length + 1) (dcC es ++ x.cells.toList))
    (hat : v'.ownBlock = v.ownBlock ∨ v'.ownBlock = some X.heap.size) :
    DRw L W1 B hd ty v' (es ++ [x]) (Y.setCell ⟨B, hd.length, none⟩ v') := by
  have hlo : ∀ q, q ≤ B → some q ≠ v.ownBlock := fun q hq e => by have := (World.ownsRow.lt h.own q e.symm).1; omega
  have hlt := lt_of_block h.nb
  have hkeep : ∀ q, q < B → (Y.setCell ⟨B, hd.length, none⟩ v').heap[q]? = X.heap[q]? := fun q hq => (Below.heap_setCell _ _ _ _ (by simp <;> omega)).trans (hg.block q (by omega) (hlo q (by omega)))
  have hnbY : Y.heap[B]? = _ := (hg.block B hlt (hlo B (Nat.le_refl _))).trans h.nb
  have hcell : ∀ p : Addr, ((p.block < L ∨ B < p.block) ∧ p.block < X.heap.size ∧ v.ownBlock ≠ some p.block) → (Y.setCell ⟨B, hd.length, none⟩ v').cell? p = X.cell? p := fun p hp =>
    World.cell?_of_block ((heap_setCell_other _ _ _ _ (by have := hp.1; have := h.hL; simp; omega)).trans (hg.block p.block hp.2.1 (fun e => hp.2.2 e.symm)))
  have hP : ∀ q, ((q < L ∨ B < q) ∧ q < X.heap.size ∧ v.ownBlock ≠ some q) → ((q < L ∨ B < q) ∧ q < (Y.setCell ⟨B, hd.length, none⟩ v').heap.size ∧ v'.ownBlock ≠ some q) := fun q hq => by
    have h1 := hg.size
    refine ⟨hq.1, by simp [World.setCell] at h1 ⊢; omega, fun e => ?_⟩
    rcases hat with h2 | h2
    · exact hq.2.2 (h2.symm.trans e)
    · rw [h2] at e
      have := Option.some.inj e
      omega
  refine ⟨?_, ?_, fun y hy => ?_, ⟨hg.os.trans h.bw.os, hg.tape.trans h.bw.tape, hg.output.trans h.bw.output, ?_, fun q hq => (hkeep q hq).trans (h.bw.block q hq)⟩, h.hL⟩
  · have h1 := heap_setCell_same Y B hd.length _ ty v' hnbY
    rw [h1]
    congr 2
    apply Array.ext'
    simp
  · rw [List.length_append, dcC_app]
    refine ownsRow_setCell_other (by simpa [dcC] using hown) (fun e => ?_) _
    have := (World.ownsRow.lt hown B e).1
    omega
  · rcases List.mem_append.1 hy with hy | hy
    · exact (h.sub y hy).keep hP hcell
    · obtain rfl := List.mem_singleton.1 hy
      exact hx.keep hP hcell
  · have h1 := hg.size
    have h2 := h.bw.size
    simp [World.setCell] at h1 ⊢
    omega
theorem DRw.sld (h : DRw L W1 B hd ty v es X) : ∃ A c, v = .slice A es.length c ∧ SlD X X.heap.size A c es := by
  by_cases h0 : es.length = 0
  · obtain ⟨A, c, rfl⟩ := own_formR h.own
    have hc : es.length ≤ c ∧ c ≤ maxLen := by
      rcases h.own.2 with ⟨e, _⟩ | ⟨g, cap, cur, e, _, _, h1, h2, _⟩
      · simp only [Value.slice.injEq] at e
        unfold maxLen
        omega
      · simp only [Value.slice.injEq] at e
        omega
    refine ⟨A, c, rfl, hc.1, hc.2, fun hne => ?_⟩
    exact absurd (List.length_eq_zero_iff.1 h0) hne
  · obtain ⟨g, c, rfl, hc1, hc2⟩ := own_posR h.own (by omega)
    refine ⟨_, c, rfl, hc1, by unfold maxLen; omega, fun _ => ⟨g, 0, rfl, (World.ownsRow.lt h.own g rfl).2, fun j x hx => ⟨fun q u hq => ?_, ?_⟩⟩⟩
    · have hjl := (List.getElem?_eq_some_iff.1 hx).1
      have hql : q < 11 := (Array.getElem?_eq_some_iff.1 hq).1
      have h1 := h.own.cellAt (j * 11 + q) (by omega)
      rw [dcC_at es j x hx q u hq] at h1
      rw [Nat.zero_add]
      exact h1
    · have h1 := h.sub x (List.mem_of_getElem? hx)
      exact ⟨h1.1.sls fun _ hk => hk.2.1, Fo.SlP.sl (fun _ hk => hk.2.1) h1.2⟩
end
end Go.Proofs.YtacjjkbkhpdhnaaGreatDoor
