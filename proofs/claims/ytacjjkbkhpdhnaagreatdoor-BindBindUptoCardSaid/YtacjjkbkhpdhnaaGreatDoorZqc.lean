/- A row of declarations that grows, held by the last cell of a box; their names and bodies lie elsewhere -/
import Derived.Test.YtacjjkbkhpdhnaaGreatDoorZpf
import Derived.Test.YtacjjkbkhpdhnaaGreatDoorZpc
import Derived.Test.YtacjjkbkhpdhnaaGreatDoorZpn
import Derived.Test.YtacjjkbkhpdhnaaGreatDoorZpe
namespace Go.Proofs.YtacjjkbkhpdhnaaGreatDoor
open Go.RowKit Go.Proofs Go.Shelf
theorem dcC_app : ∀ (a b : List Dc), dcC (a ++ b) = dcC a ++ dcC b
  | [], _ => rfl
  | x :: r, b => by simp only [List.cons_append, dcC, dcC_app r b, List.append_assoc]
theorem Fo.At.atP {w : World} {B : Nat} : ∀ {s : Fo} {b o : Nat}, s.At w B b o → s.AtP w (· < B) b o
  | .nil, _, _, _ => trivial
  | .cons _ _ _ _ _ _ _ s r, b, o, h => by
    obtain ⟨h0, h1, h2, h3, h4, ⟨h5, hc, hm, hs⟩, hr⟩ := h
    refine ⟨h0, h1, h2, h3, h4, ⟨h5, hc, hm, fun hne => ?_⟩, Fo.At.atP hr⟩
    obtain ⟨b', o', e, hb', hs'⟩ := hs hne
    exact ⟨b', o', e, hb', Fo.At.atP hs'⟩
theorem Fo.Sl.slP {w : World} {B : Nat} {A : Option Addr} {c : Nat} {s : Fo} (h : s.Sl w B A c) : s.SlP w (· < B) A c :=
  ⟨h.1, h.2.1, fun hne => by
    obtain ⟨b, o, e, hb, hs⟩ := h.2.2 hne
    exact ⟨b, o, e, hb, hs.atP⟩⟩
def NmP (w : World) (P : Nat → Prop) (A : Option Addr) (c : Nat) (l : List ByteArray) : Prop :=
  l.length ≤ c ∧ c ≤ maxLen ∧ (l ≠ [] → ∃ b o, A = some ⟨b, o, none⟩ ∧ P b ∧ ∀ j s, l[j]? = some s → w.cell? ⟨b, o + j, none⟩ = some (.string s))
theorem NmP.keep {w w' : World} {P P' : Nat → Prop} {A : Option Addr} {c : Nat} {l : List ByteArray} (h : NmP w P A c l) (hP : ∀ k, P k → P' k) (hk : ∀ p : Addr, P p.block → w'.cell? p = w.cell? p) : NmP w' P' A c l :=
  ⟨h.1, h.2.1, fun hne => by
    obtain ⟨b, o, e, hb, hs⟩ := h.2.2 hne
    exact ⟨b, o, e, hP _ hb, fun j s hj => (hk ⟨b, o + j, none⟩ hb).trans (hs j s hj)⟩⟩
theorem NmP.sls {w : World} {P : Nat → Prop} {B : Nat} {A : Option Addr} {c : Nat} {l : List ByteArray} (h : NmP w P A c l) (hP : ∀ k, P k → k < B) : SlS w B A c l :=
  ⟨h.1, h.2.1, fun hne => by
    obtain ⟨b, o, e, hb, hs⟩ := h.2.2 hne
    exact ⟨b, o, e, hP _ hb, hs⟩⟩
theorem SlS.nmP {w : World} {B : Nat} {A : Option Addr} {c : Nat} {l : List ByteArray} (h : SlS w B A c l) : NmP w (· < B) A c l :=
  ⟨h.1, h.2.1, fun hne => by
    obtain ⟨b, o, e, hb, hs⟩ := h.2.2 hne
    exact ⟨b, o, e, hb, hs⟩⟩
def Dc.Lies (x : Dc) (w : World) (P : Nat → Prop) : Prop := NmP w P x.nA x.nc x.names ∧ x.s.SlP w P x.A x.c
theorem Dc.Lies.keep {x : Dc} {w w' : World} {P P' : Nat → Prop} (h : x.Lies w P) (hP : ∀ k, P k → P' k) (hk : ∀ p : Addr, P p.block → w'.cell? p = w.cell? p) : x.Lies w' P' := ⟨h.1.keep hP hk, h.2.keep hP hk⟩
theorem Dc.Ok.lies {x : Dc} {w : World} {B : Nat} (h : x.Ok w B) : x.Lies w (· < B) := ⟨h.1.nmP, h.2.slP⟩
structure DRw (L : Nat) (W1 : World) (B : Nat) (hd : List Value) (ty : TypeId) (v : Value) (es : List Dc) (X : World) : Prop where
  nb : X.heap[B]? = some (.cells (hd ++ [v]).toArray ty (0, 0))
  own : X.ownsRow (B + 1) 63 11 v es.length (dcC es)
  sub : ∀ x ∈ es, x.Lies X (fun q => (q < L ∨ B < q) ∧ q < X.heap.size ∧ v.ownBlock ≠ some q)
  bw : Below B W1 X
  hL : L ≤ B
section
variable {L : Nat} {W1 : World} {B : Nat} {hd : List Value} {ty : TypeId} {v : Value} {es : List Dc} {X : World}
theorem DRw.keep (h : DRw L W1 B hd ty v es X) {Y : World} (hb : Below X.heap.size X Y) : DRw L W1 B hd ty v es Y :=
  ⟨(hb.block _ (lt_of_block h.nb)).trans h.nb, row_keepE h.own fun _ _ _ _ hc => hb.block _ (lt_of_block hc),
    fun x hx => (h.sub x hx).keep (fun _ hq => ⟨hq.1, Nat.lt_of_lt_of_le hq.2.1 hb.size, hq.2.2⟩) (fun _ hp => hb.cell hp.2.1), h.bw.trans (hb.mono (Nat.le_of_lt (lt_of_block h.nb))), h.hL⟩
theorem DRw.push (h : DRw L W1 B hd ty v es X) {Y : World} (hg : X.grownBy Y v.ownBlock) {v' : Value} {x : Dc}
    (hx : x.Lies X (fun q => (q < L ∨ B < q) ∧ q < X.heap.size ∧ v.ownBlock ≠ some q))
    (hown : Y.ownsRow (B + 1) 63 11 v' (es.length + 1) (dcC es ++ x.cells.toList))
    (hat : v'.ownBlock = v.ownBlock ∨ v'.ownBlock = some X.heap.size) :
    DRw L W1 B hd ty v' (es ++ [x]) (Y.setCell ⟨B, hd.length, none⟩ v') := by
  have hlo : ∀ q, q ≤ B → some q ≠ v.ownBlock := fun q hq e => by have := (World.ownsRow.lt h.own q e.symm).1; omega
  have hlt := lt_of_block h.nb
  have hkeep : ∀ q, q < B → (Y.setCell ⟨B, hd.length, none⟩ v').heap[q]? = X.heap[q]? := fun q hq => (Below.heap_setCell _ _ _ _ (by simp <;> omega)).trans (hg.block q (by omega) (hlo q (by omega)))
  have hnbY : Y.heap[B]? = _ := (hg.block B hlt (hlo B (Nat.le_refl _))).trans h.nb
  have hcell : ∀ p : Addr, ((p.block < L ∨ B < p.block) ∧ p.block < X.heap.size ∧ v.ownBlock ≠ some p.block) → (Y.setCell ⟨B, hd.length, none⟩ v').cell? p = X.cell? p := fun p hp =>
    World.cell?_of_block ((heap_setCell_other _ _ _ _ (by have := hp.1; have := h.hL; simp; omega)).trans (hg.block p.block hp.2.1 (fun e => hp.2.2 e.symm)))
  have hP : ∀ q, ((q < L ∨ B < q) ∧ q < X.heap.size ∧ v.ownBlock ≠ some q) → ((q < L ∨ B < q) ∧ q < (Y.setCell ⟨B, hd.length, none⟩ v').heap.size ∧ v'.ownBlock ≠ some q) := fun q hq => by
    have h1 := hg.size
    refine ⟨hq.1, by simp [World.setCell] at h1 ⊢; omega, fun e => ?_⟩
    rcases hat with h2 | h2
    · exact hq.2.2 (h2.symm.trans e)
    · rw [h2] at e
      have := Option.some.inj e
      omega
  refine ⟨?_, ?_, fun y hy => ?_, ⟨hg.os.trans h.bw.os, hg.tape.trans h.bw.tape, hg.output.trans h.bw.output, ?_, fun q hq => (hkeep q hq).trans (h.bw.block q hq)⟩, h.hL⟩
  · have h1 := heap_setCell_same Y B hd.length _ ty v' hnbY
    rw [h1]
    congr 2
    apply Array.ext'
    simp
  · rw [List.length_append, dcC_app]
    refine ownsRow_setCell_other (by simpa [dcC] using hown) (fun e => ?_) _
    have := (World.ownsRow.lt hown B e).1
    omega
  · rcases List.mem_append.1 hy with hy | hy
    · exact (h.sub y hy).keep hP hcell
    · obtain rfl := List.mem_singleton.1 hy
      exact hx.keep hP hcell
  · have h1 := hg.size
    have h2 := h.bw.size
    simp [World.setCell] at h1 ⊢
    omega
theorem DRw.sldX (h : DRw L W1 B hd ty v es X) {Y : World} (hz : X.heap.size ≤ Y.heap.size) (hY : ∀ q, q < L ∨ B < q → Y.heap[q]? = X.heap[q]?) : ∃ A c, v = .slice A es.length c ∧ SlD Y Y.heap.size A c es := by
  by_cases h0 : es.length = 0
  · obtain ⟨A, c, rfl⟩ := own_formR h.own
    have hc : es.length ≤ c ∧ c ≤ maxLen := by
      rcases h.own.2 with ⟨e, _⟩ | ⟨g, cap, cur, e, _, _, h1, h2, _⟩
      · simp only [Value.slice.injEq] at e
        unfold maxLen
        omega
      · simp only [Value.slice.injEq] at e
        omega
    refine ⟨A, c, rfl, hc.1, hc.2, fun hne => ?_⟩
    exact absurd (List.length_eq_zero_iff.1 h0) hne
  · obtain ⟨g, c, rfl, hc1, hc2⟩ := own_posR h.own (by omega)
    have hg := World.ownsRow.lt h.own g rfl
    refine ⟨_, c, rfl, hc1, by unfold maxLen; omega, fun _ => ⟨g, 0, rfl, by omega, fun j x hx => ⟨fun q u hq => ?_, ?_⟩⟩⟩
    · have hjl := (List.getElem?_eq_some_iff.1 hx).1
      have hql : q < 11 := (Array.getElem?_eq_some_iff.1 hq).1
      have h1 := h.own.cellAt (j * 11 + q) (by omega)
      rw [dcC_at es j x hx q u hq] at h1
      rw [Nat.zero_add]
      exact (World.cell?_of_block (hY g (by omega))).trans h1
    · have h1 := (h.sub x (List.mem_of_getElem? hx)).keep (w' := Y) (P' := fun q => q < Y.heap.size) (fun k hk => by omega) (fun p hp => World.cell?_of_block (hY p.block hp.1))
      exact ⟨h1.1.sls fun _ hk => hk, Fo.SlP.sl (fun _ hk => hk) h1.2⟩
theorem DRw.sld (h : DRw L W1 B hd ty v es X) : ∃ A c, v = .slice A es.length c ∧ SlD X X.heap.size A c es := by
  by_cases h0 : es.length = 0
  · obtain ⟨A, c, rfl⟩ := own_formR h.own
    have hc : es.length ≤ c ∧ c ≤ maxLen := by
      rcases h.own.2 with ⟨e, _⟩ | ⟨g, cap, cur, e, _, _, h1, h2, _⟩
      · simp only [Value.slice.injEq] at e
        unfold maxLen
        omega
      · simp only [Value.slice.injEq] at e
        omega
    refine ⟨A, c, rfl, hc.1, hc.2, fun hne => ?_⟩
    exact absurd (List.length_eq_zero_iff.1 h0) hne
  · obtain ⟨g, c, rfl, hc1, hc2⟩ := own_posR h.own (by omega)
    refine ⟨_, c, rfl, hc1, by unfold maxLen; omega, fun _ => ⟨g, 0, rfl, (World.ownsRow.lt h.own g rfl).2, fun j x hx => ⟨fun q u hq => ?_, ?_⟩⟩⟩
    · have hjl := (List.getElem?_eq_some_iff.1 hx).1
      have hql : q < 11 := (Array.getElem?_eq_some_iff.1 hq).1
      have h1 := h.own.cellAt (j * 11 + q) (by omega)
      rw [dcC_at es j x hx q u hq] at h1
      rw [Nat.zero_add]
      exact h1
    · have h1 := h.sub x (List.mem_of_getElem? hx)
      exact ⟨h1.1.sls fun _ hk => hk.2.1, Fo.SlP.sl (fun _ hk => hk.2.1) h1.2⟩
end
end Go.Proofs.YtacjjkbkhpdhnaaGreatDoor
/- Small laws on rebuilt declarations -/
namespace Go.Proofs.YtacjjkbkhpdhnaaGreatDoor
open Go Go.RowKit Go.Proofs Go.Shelf

theorem dec_set {W : World} {b : Nat} {t : TypeId} {c0 c1 c2 c3 c4 c5 c6 c7 c8 c9 c10 : Value} (h : W.heap[b]? = some (.cells #[c0, c1, c2, c3, c4, c5, c6, c7, c8, c9, c10] t (0, 0))) (u0 u1 u2 u3 u4 u5 : Value) :
    ((((((W.setCell ⟨b, 5, none⟩ u0).setCell ⟨b, 6, none⟩ u1).setCell ⟨b, 7, none⟩ u2).setCell ⟨b, 8, none⟩ u3).setCell ⟨b, 9, none⟩ u4).setCell ⟨b, 10, none⟩ u5).heap[b]? = some (.cells #[c0, c1, c2, c3, c4, u0, u1, u2, u3, u4, u5] t (0, 0)) := by
  simp [World.setCell, Array.getElem?_modify, h]
theorem tri_set {W : World} {b : Nat} {a0 a1 a2 : Value} {t : TypeId} (h : W.heap[b]? = some (.cells #[a0, a1, a2] t (0, 0))) (u0 u1 u2 : Value) :
    (((W.setCell ⟨b, 0, none⟩ u0).setCell ⟨b, 1, none⟩ u1).setCell ⟨b, 2, none⟩ u2).heap[b]? = some (.cells #[u0, u1, u2] t (0, 0)) := by
  simp [World.setCell, Array.getElem?_modify, h]
theorem rbDs_snoc {g : Repl} : ∀ {ds es : List Dc} {x y : Dc}, RbDs g ds es → RbDc g x y → RbDs g (ds ++ [x]) (es ++ [y])
  | [], [], _, _, _, h => ⟨h, trivial⟩
  | _ :: _, _ :: _, _, _, h, h' => ⟨h.1, rbDs_snoc h.2 h'⟩
  | [], _ :: _, _, _, h, _ => absurd h (by simp [RbDs])
  | _ :: _, [], _, _, h, _ => absurd h (by simp [RbDs])
theorem rbAllE_all0 {g : Repl} : ∀ {ds : List Dc}, (∀ x ∈ ds, (rbD g x).1 = 0) → rbAllE g ds = 0
  | [], _ => rfl
  | x :: r, h => by
    rw [rbAllE, if_neg (by rw [h x List.mem_cons_self]; simp)]
    exact rbAllE_all0 fun y hy => h y (List.mem_cons_of_mem _ hy)
end Go.Proofs.YtacjjkbkhpdhnaaGreatDoor
/- A module with an error that lie readable -/
namespace Go.Proofs.YtacjjkbkhpdhnaaGreatDoor
open Go Go.RowKit Go.Proofs Go.Shelf
def RnG (E : Int) (P : ByteArray → List ByteArray → List Dc → Prop) (w : World) (e : Ending) (w' : World) : Prop :=
  Below w.heap.size w w' ∧ ∃ (lb : ByteArray) (u : List ByteArray) (a1 : Option Addr) (c1 : Nat) (l : List Dc) (a2 : Option Addr) (c2 : Nat), e = .returned (.tuple #[.agg #[.string lb, .slice a1 u.length c1, .slice a2 l.length c2], .int .i64 E]) ∧ SlS w' w'.heap.size a1 c1 u ∧ SlD w' w'.heap.size a2 c2 l ∧ P lb u l
theorem slS_nil (w : World) : SlS w w.heap.size none 0 [] := ⟨Nat.zero_le _, by decide, fun h => absurd rfl h⟩
theorem slD_nil (w : World) : SlD w w.heap.size none 0 [] := ⟨Nat.zero_le _, by decide, fun h => absurd rfl h⟩
theorem rbDs_eq {g : Repl} : ∀ {ds es fs : List Dc}, RbDs g ds es → RbDs g ds fs → EqDs es fs
  | [], [], [], _, _ => trivial
  | _ :: _, _ :: _, _ :: _, h, h' => ⟨⟨h.1.id.trans h'.1.id.symm, h.1.kind.trans h'.1.kind.symm, h.1.pub.trans h'.1.pub.symm, h.1.doubt.trans h'.1.doubt.symm, h.1.names.trans h'.1.names.symm, h.1.k.trans h'.1.k.symm, h.1.n.trans h'.1.n.symm, h.1.m.trans h'.1.m.symm, h.1.i.trans h'.1.i.symm, h.1.d.trans h'.1.d.symm, h.1.s.trans h'.1.s.symm⟩, rbDs_eq h.2 h'.2⟩
  | [], _ :: _, _, h, _ => h.elim
  | [], [], _ :: _, _, h => h.elim
  | _ :: _, [], _, h, _ => h.elim
  | _ :: _, _ :: _, [], _, h => h.elim
end Go.Proofs.YtacjjkbkhpdhnaaGreatDoor
