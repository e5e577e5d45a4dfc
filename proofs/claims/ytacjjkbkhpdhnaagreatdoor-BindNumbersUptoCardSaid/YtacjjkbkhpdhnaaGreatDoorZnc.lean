/- Numbered sources in plain words: they are valid, and numbering again changes nothing -/
import Derived.Test.YtacjjkbkhpdhnaaGreatDoorZnb
import Derived.Test.YtacjjkbkhpdhnaaGreatDoorZqe
import Derived.Test.YtacjjkbkhpdhnaaGreatDoorZpn
import Derived.Test.YtacjjkbkhpdhnaaGreatDoorZpa
import Derived.Test.YtacjjkbkhpdhnaaGreatDoorNrd
import Derived.Test.YtacjjkbkhpdhnaaGreatDoorZqg
import Derived.Test.YtacjjkbkhpdhnaaGreatDoorZll
import Derived.Test.YtacjjkbkhpdhnaaGreatDoorZpk
import Derived.Test.YtacjjkbkhpdhnaaGreatDoorZln
namespace Go.Proofs.YtacjjkbkhpdhnaaGreatDoor
open Go Go.RowKit Go.Proofs Go.Shelf
def NmD (x y : Dc) : Prop := x.names.length = 1 → y.names.length = 1 → (nameOf x).toList ≠ (nameOf y).toList
theorem sds_names : ∀ {p : Option Int} {met : List ByteArray} {ds : List Dc}, sdsE p met ds = 0 → (∀ x ∈ ds, x.names.length = 1 → hasN met (nameOf x) = false) ∧ ds.Pairwise NmD
  | _, _, [], _ => ⟨fun y hy => absurd hy (by simp), List.Pairwise.nil⟩
  | p, met, x :: r, h => by
    unfold sdsE at h
    by_cases h1 : sdE x = 0
    rotate_left
    · rw [if_pos h1] at h
      exact absurd h h1
    rw [if_neg (by simpa using h1)] at h
    by_cases h2 : ordBad p x.id = true
    · rw [if_pos h2] at h
      cases h
    rw [if_neg h2] at h
    by_cases h3 : x.names.length = 1
    · rw [if_pos h3] at h
      by_cases h4 : hasN met (nameOf x) = true
      · rw [if_pos h4] at h
        cases h
      · rw [if_neg h4] at h
        obtain ⟨i1, i2⟩ := sds_names h
        refine ⟨fun y hy hy1 => ?_, List.pairwise_cons.2 ⟨fun y hy _ hy1 => ?_, i2⟩⟩
        · rcases List.mem_cons.1 hy with rfl | hy
          · simpa using h4
          · have := i1 y hy hy1
            rw [hasN_snoc, Bool.or_eq_false_iff] at this
            exact this.1
        · have := i1 y hy hy1
          rw [hasN_snoc, Bool.or_eq_false_iff] at this
          exact beq_eq_false_iff_ne.1 this.2
    · rw [if_neg h3] at h
      obtain ⟨i1, i2⟩ := sds_names h
      refine ⟨fun y hy hy1 => ?_, List.pairwise_cons.2 ⟨fun y hy h0 => absurd h0 h3, i2⟩⟩
      rcases List.mem_cons.1 hy with rfl | hy
      · exact absurd hy1 h3
      · exact i1 y hy hy1
theorem sds_of : ∀ {p : Option Int} {met : List ByteArray} {fs : List Dc}, (∀ x ∈ fs, sdE x = 0) → (∀ x ∈ fs, 0 < x.id) → (fs.Pairwise fun x y => x.id < y.id) → (∀ q, p = some q → 0 < q ∧ ∀ x ∈ fs, q < x.id) → (∀ x ∈ fs, x.names.length = 1 → hasN met (nameOf x) = false) → fs.Pairwise NmD → sdsE p met fs = 0
  | _, _, [], _, _, _, _, _, _ => rfl
  | p, met, x :: r, h1, h2, h3, h4, h5, h6 => by
    obtain ⟨h3a, h3b⟩ := List.pairwise_cons.1 h3
    obtain ⟨h6a, h6b⟩ := List.pairwise_cons.1 h6
    have hx := h2 x List.mem_cons_self
    have ho : ordBad p x.id = false := by
      cases p with
      | none => rfl
      | some q =>
        obtain ⟨a, b⟩ := h4 q rfl
        have b := b x List.mem_cons_self
        simp only [ordBad, Bool.and_eq_false_iff, Bool.or_eq_false_iff, beq_eq_false_iff_ne, decide_eq_false_iff_not]
        exact .inr ⟨by omega, by omega⟩
    unfold sdsE
    rw [if_neg (by simpa using h1 x List.mem_cons_self), if_neg (by rw [ho]; decide)]
    have ih := fun met' h => sds_of (p := some x.id) (met := met') (fs := r) (fun y hy => h1 y (List.mem_cons_of_mem _ hy)) (fun y hy => h2 y (List.mem_cons_of_mem _ hy)) h3b (fun q hq => by cases hq; exact ⟨hx, h3a⟩) h h6b
    by_cases hn : x.names.length = 1
    · rw [if_pos hn, if_neg (by rw [h5 x List.mem_cons_self hn]; decide)]
      refine ih _ fun y hy hy1 => ?_
      rw [hasN_snoc, Bool.or_eq_false_iff]
      exact ⟨h5 y (List.mem_cons_of_mem _ hy) hy1, beq_eq_false_iff_ne.2 (h6a y hy hn hy1)⟩
    · rw [if_neg hn]
      exact ih _ fun y hy hy1 => h5 y (List.mem_cons_of_mem _ hy) hy1
theorem sdE_id {x : Dc} {i : Int} (h : sdE x = 0) (h0 : 0 ≤ i) (h1 : i ≤ 999999) : sdE { x with id := i } = 0 := by
  have e : ({ x with id := i } : Dc).pre = x.pre := rfl
  unfold sdE at h ⊢
  rw [e]
  simp only
  rw [if_neg (by omega)]
  split at h
  · cases h
  · exact h
def NId (LN : List Int) (x e : Dc) : Prop := ∃ i, e = { x with id := i } ∧ 1 ≤ i ∧ i ≤ 999999 ∧ (x.id ≠ 0 → i = x.id) ∧ (x.id = 0 → i ∉ LN)
theorem NGo.nids {old : List Dc} (ho : ∀ x ∈ old, 0 ≤ x.id ∧ x.id ≤ 999999) : ∀ {ds es : List Dc} {LN L1 : List Int}, NGo old LN ds es L1 → (∀ x ∈ ds, 0 ≤ x.id ∧ x.id ≤ 999999) → (∀ e ∈ es, ∃ x ∈ ds, NId LN x e) ∧ (∀ x ∈ ds, ∃ e ∈ es, NId LN x e) ∧ (ds.Pairwise NmD → es.Pairwise NmD)
  | [], es, LN, L1, h, _ => by
    obtain ⟨rfl, _⟩ := h
    exact ⟨fun e he => absurd he (by simp), fun e he => absurd he (by simp), fun _ => List.Pairwise.nil⟩
  | x :: r, es, LN, L1, h, hd => by
    obtain ⟨x', es', L, h1, rfl, h2⟩ := h
    obtain ⟨i1, i2, i3⟩ := NGo.nids ho h2 fun y hy => hd y (List.mem_cons_of_mem _ hy)
    have hL : ∀ z e, NId L z e → NId LN z e := fun z e ⟨i, e1, e2, e3, e4, e5⟩ => ⟨i, e1, e2, e3, e4, fun h0 hm => e5 h0 (by
      rcases h1 with ⟨_, _, rfl⟩ | ⟨_, _, _, _, rfl⟩
      · exact hm
      · exact List.mem_append_left _ hm)⟩
    have hx := hd x List.mem_cons_self
    have hxx : NId LN x x' := by
      rcases h1 with ⟨h0, rfl, _⟩ | ⟨h0, i, hi, rfl, _⟩
      · exact ⟨x'.id, rfl, by omega, hx.2, fun _ => rfl, fun h => absurd h h0⟩
      · obtain ⟨a, b, c⟩ := hi.new ho
        exact ⟨i, rfl, a, b, fun h => absurd h0 h, fun _ => c⟩
    refine ⟨fun e he => ?_, fun y hy => ?_, fun hp => ?_⟩
    · rcases List.mem_cons.1 he with rfl | he
      · exact ⟨x, List.mem_cons_self, hxx⟩
      · obtain ⟨y, hy, h⟩ := i1 e he
        exact ⟨y, List.mem_cons_of_mem _ hy, hL _ _ h⟩
    · rcases List.mem_cons.1 hy with rfl | hy
      · exact ⟨x', List.mem_cons_self, hxx⟩
      · obtain ⟨e, he, h⟩ := i2 y hy
        exact ⟨e, List.mem_cons_of_mem _ he, hL _ _ h⟩
    · obtain ⟨p1, p2⟩ := List.pairwise_cons.1 hp
      refine List.pairwise_cons.2 ⟨fun e he => ?_, i3 p2⟩
      obtain ⟨y, hy, i, rfl, _⟩ := i1 e he
      obtain ⟨k, rfl, _⟩ := hxx
      exact p1 y hy
theorem NGo.keep {old : List Dc} {LN : List Int} : ∀ {l : List Dc}, (∀ x ∈ l, x.id ≠ 0) → NGo old LN l l LN
  | [], _ => ⟨rfl, rfl⟩
  | x :: r, h => ⟨x, r, LN, .inl ⟨h x List.mem_cons_self, rfl, rfl⟩, rfl, NGo.keep fun y hy => h y (List.mem_cons_of_mem _ hy)⟩
theorem num_ok {u : List ByteArray} {ds old fs : List Dc} (h : srcDE u ds = 0) (ho : ∀ x ∈ old, 0 ≤ x.id ∧ x.id ≤ 999999) (hg : NumG ds old fs) (hl : fs.length = ds.length) :
    srcDE u fs = 0 ∧ (∀ x ∈ fs, 0 < x.id) ∧ (fs.Pairwise fun x y => x.id < y.id) ∧ NumG fs old fs ∧ (∀ x ∈ ds, ∃ e ∈ fs, NId (ds.map Dc.id) x e) ∧ ∀ e ∈ fs, ∃ x ∈ ds, NId (ds.map Dc.id) x e := by
  obtain ⟨h1, h2, h3, h4⟩ := srcDE_parts h
  have hdd : ∀ x ∈ ds, 0 ≤ x.id ∧ x.id ≤ 999999 := fun x hx => by
    obtain ⟨a, b, _⟩ := sdE_parts (sdsE_mem h4 x hx)
    exact ⟨a, b⟩
  obtain ⟨es, L, hn, hp, hs⟩ := hg
  obtain ⟨i1, i2, i3⟩ := hn.nids ho hdd
  have hdis := (NGo.dis ho hn (fun x hx _ => List.mem_map_of_mem hx) (rise_dis (sds_rise h4).1)).2
  have hdis2 : fs.Pairwise fun x y => x.id ≠ y.id := (hp.pairwise_iff fun {_ _} h e => h e.symm).2 hdis
  have hlt : fs.Pairwise fun x y => x.id < y.id := (List.Pairwise.and hs hdis2).imp fun {_ _} ⟨a, b⟩ => by omega
  have hpos : ∀ x ∈ fs, 0 < x.id := fun x hx => by
    obtain ⟨y, _, i, rfl, a, _⟩ := i1 x (hp.mem_iff.1 hx)
    simp only
    omega
  have hnm : fs.Pairwise NmD := (hp.pairwise_iff fun {_ _} h a b e => h b a e.symm).2 (i3 (sds_names h4).2)
  refine ⟨?_, hpos, hlt, ⟨fs, _, NGo.keep fun x hx e => by have := hpos x hx; omega, List.Perm.refl _, hs⟩, fun x hx => ?_, fun e he => i1 e (hp.mem_iff.1 he)⟩
  · unfold srcDE
    rw [if_neg (by omega), if_neg (by simpa using h2), if_neg (by omega)]
    refine sds_of (fun x hx => ?_) hpos hlt (fun q hq => by cases hq) (fun x hx _ => rfl) hnm
    obtain ⟨y, hy, i, rfl, a, b, _⟩ := i1 x (hp.mem_iff.1 hx)
    exact sdE_id (sdsE_mem h4 y hy) (by omega) b
  · obtain ⟨e, he, h⟩ := i2 x hx
    exact ⟨e, hp.mem_iff.2 he, h⟩
def Fnd (ds fs : List Dc) (d : Dc) (b : Bool) (q : Nat) : Prop :=
  (d.id = 0 ∧ (b = true ∨ ∃ p x, q ≤ p ∧ fs[p]? = some x ∧ ∃ i, x = { d with id := i } ∧ (ds.any fun y => y.id == i) = false)) ∨ (d.id ≠ 0 ∧ ∃ p, q ≤ p ∧ fs[p]? = some d)
theorem Fnd.start {ds fs : List Dc} {d : Dc} (h : ∃ e ∈ fs, NId (ds.map Dc.id) d e) : Fnd ds fs d false 0 := by
  obtain ⟨e, he, i, rfl, _, _, h3, h4⟩ := h
  obtain ⟨p, hp⟩ := List.mem_iff_getElem?.1 he
  by_cases h0 : d.id = 0
  · refine .inl ⟨h0, .inr ⟨p, _, Nat.zero_le _, hp, i, rfl, ?_⟩⟩
    rw [List.any_eq_false]
    intro y hy e'
    exact h4 h0 (List.mem_map.2 ⟨y, hy, by simpa using e'⟩)
  · refine .inr ⟨h0, p, Nat.zero_le _, ?_⟩
    rw [hp, h3 h0]
theorem Fnd.same {ds fs : List Dc} {d x : Dc} {b : Bool} {q : Nat} (hlt : fs.Pairwise fun x y => x.id < y.id) (h : Fnd ds fs d b q) (hx : fs[q]? = some x) (h0 : d.id ≠ 0) (he : d.id = x.id) : EqDc d x := by
  have : d = x := by
    rcases h with ⟨h, _⟩ | ⟨_, p, hp, hd⟩
    · exact absurd h h0
    · by_cases e : q = p
      · subst e
        rw [hx] at hd
        exact (Option.some.inj hd).symm
      · obtain ⟨a1, a2⟩ := List.getElem?_eq_some_iff.1 hx
        obtain ⟨b1, b2⟩ := List.getElem?_eq_some_iff.1 hd
        have := List.pairwise_iff_getElem.1 hlt q p a1 b1 (by omega)
        rw [a2, b2] at this
        omega
  subst this
  exact ⟨rfl, rfl, rfl, rfl, rfl, rfl, rfl, rfl, rfl, rfl, rfl⟩
theorem Fnd.step {ds fs : List Dc} {d x : Dc} {b b1 : Bool} {q : Nat} (h : Fnd ds fs d b q) (hx : fs[q]? = some x) (hn : ¬ (d.id ≠ 0 ∧ d.id = x.id)) (hb : EqDc d { x with id := 0 } → b1 = true) : Fnd ds fs d (if (b1 && !(ds.any fun y => y.id == x.id)) = true then true else b) (q + 1) := by
  rcases h with ⟨h0, h⟩ | ⟨h0, p, hp, hd⟩
  · refine .inl ⟨h0, ?_⟩
    rcases h with rfl | ⟨p, y, hp, hy, i, rfl, hi⟩
    · exact .inl (by split <;> rfl)
    · by_cases e : q = p
      · subst e
        rw [hx] at hy
        obtain rfl := Option.some.inj hy
        have e2 : ({ ({ d with id := i } : Dc) with id := 0 } : Dc) = d := by rw [← h0]
        have e3 := hb (by rw [e2]; exact ⟨rfl, rfl, rfl, rfl, rfl, rfl, rfl, rfl, rfl, rfl, rfl⟩)
        refine .inl ?_
        simp only at hi ⊢
        rw [e3, hi]
        rfl
      · exact .inr ⟨p, _, by omega, hy, i, rfl, hi⟩
  · refine .inr ⟨h0, p, ?_, hd⟩
    by_cases e : q = p
    · subst e
      rw [hx] at hd
      obtain rfl := Option.some.inj hd
      exact absurd ⟨h0, rfl⟩ hn
    · omega
theorem Fnd.done {ds fs : List Dc} {d : Dc} {b : Bool} (h : Fnd ds fs d b fs.length) : b = true := by
  rcases h with ⟨_, rfl | ⟨p, _, hp, hx, _⟩⟩ | ⟨_, p, hp, hx⟩
  · rfl
  · rw [List.getElem?_eq_none hp] at hx
    cases hx
  · rw [List.getElem?_eq_none hp] at hx
    cases hx
end Go.Proofs.YtacjjkbkhpdhnaaGreatDoor
/- slices.ContainsFunc at declarations, as law24.BindNumbers calls it -/
namespace Go.Proofs.YtacjjkbkhpdhnaaGreatDoor
open Go.RowKit Go.Proofs Go.Shelf

set_option maxHeartbeats 1000000 in
theorem closBN_any (x : Dc) (u : Int) (p : Nat) (w : World) (hp : w.cell? ⟨p, 0, none⟩ = some (.int .i64 u)) :
    Calls Tryz.prog 40 #[.agg x.cells, .pointer (some ⟨p, 0, none⟩)] w fun e w' => e = .returned (.bool (x.id == u)) ∧ Below w.heap.size w w' := by
  obtain ⟨xid, xkind, xpub, xnA, xnc, xnames, xdoubt, xk, xn, xm, xi, xd, xA, xc, xs⟩ := x
  simp only [Dc.cells]
  obtain ⟨xL, HxL⟩ : ∃ Q, Hid (xnames.length = Q) := ⟨_, Lib.hid rfl⟩
  obtain ⟨xsl, Hxsl⟩ : ∃ Q, Hid (xs.len = Q) := ⟨_, Lib.hid rfl⟩
  rw [HxL.out, Hxsl.out]
  obtain ⟨W0, hW0⟩ : ∃ W0, w.alloc (.cells #[.int .i64 xid, .int .i64 xkind, .bool xpub, .slice xnA xL xnc, .bool xdoubt, .int .i64 xk, .string xn, .string xm, .int .i64 xi, .int .i64 xd, .slice xA xsl xc] 63) = W0 := ⟨_, rfl⟩
  have hb0 : Below w.heap.size w W0 := by rw [← hW0]; exact (Below.refl _ _).alloc (Nat.le_refl _) _
  have hx0 : W0.heap[w.heap.size]? = some (.cells #[.int .i64 xid, .int .i64 xkind, .bool xpub, .slice xnA xL xnc, .bool xdoubt, .int .i64 xk, .string xn, .string xm, .int .i64 xi, .int .i64 xd, .slice xA xsl xc] 63 (0, 0)) := by rw [← hW0]; exact heap_alloc_new _ _
  have x0 : W0.cell? ⟨w.heap.size, 0, none⟩ = some (.int .i64 xid) := cell_of_row W0 _ 0 _ _ (0, 0) hx0
  have y0 := (hb0.cell (p := ⟨p, 0, none⟩) (World.block_lt_of_cell? w _ hp)).trans hp
  have HB := Lib.hid hb0
  clear hp hb0 hx0
  go_enter Tryz.func40, Tryz.ntmps40
  go_wp2
  go_ret
  exact ⟨rfl, HB.out⟩
def IdxNP (b : Bool) (w : World) (e : Ending) (w' : World) : Prop := ∃ j : Int, e = .returned (.int .i64 j) ∧ decide (0 ≤ j) = b ∧ Below w.heap.size w w'
theorem any_dropB {l : List Dc} {u : Int} {j : Nat} {x : Dc} (hx : l[j]? = some x) : (l.drop j).any (fun y => y.id == u) = ((x.id == u) || (l.drop (j + 1)).any (fun y => y.id == u)) := by
  obtain ⟨h1, rfl⟩ := List.getElem?_eq_some_iff.1 hx
  rw [List.drop_eq_getElem_cons h1, List.any_cons]
set_option maxHeartbeats 2000000 in
theorem indexFnB_any (l : List Dc) (u : Int) (p : Nat) (A : Option Addr) (c : Nat) (w : World) (hs : SlD w w.heap.size A c l) (hp : w.cell? ⟨p, 0, none⟩ = some (.int .i64 u)) :
    Calls Tryz.prog 80 #[.slice A l.length c, .func (.func 40) #[] #[.pointer (some ⟨p, 0, none⟩)]] w (IdxNP (l.any fun y => y.id == u) w) := by
  obtain ⟨N, HN⟩ : ∃ Q, Hid (l.length = Q) := ⟨_, Lib.hid rfl⟩
  obtain ⟨E, HE⟩ : ∃ Q, Hid ((l.any fun y => y.id == u) = Q) := ⟨_, Lib.hid rfl⟩
  have hcap : l.length ≤ 9223372036854775807 := by have := hs.1; have := hs.2.1; unfold maxLen at this; omega
  rw [HN.out] at hcap ⊢
  rw [HE.out]
  have HS := Lib.hid (And.intro hs hp)
  clear hs hp
  go_enter Tryz.func80, Tryz.ntmps80
  go_wp2
  go_loopg [5, 8] N (fun g _ ct wr => ∃ j : Nat, g = N - j ∧ j ≤ N ∧ ct = .int .i64 j ∧ Hid (((l.drop j).any fun y => y.id == u) = E) ∧ Below w.heap.size w wr)
  case atStart => exact ⟨0, rfl, by omega, rfl, Lib.hid (by rw [List.drop_zero]; exact HE.out), Below.refl _ _⟩
  case round =>
    obtain ⟨j, HG, hj, rfl, HP, hBr⟩ := hrel
    have hz := hBr.size
    by_cases hlt : j < N
    · obtain ⟨x, hx⟩ : ∃ y, l[j]? = some y := ⟨_, List.getElem?_eq_getElem (by rw [HN.out]; exact hlt)⟩
      obtain ⟨b, o, rfl, hb, d0, d1, d2, d3, d4, d5, d6, d7, d8, d9, d10, _⟩ := HS.out.1.cells_at (fun p hp => hBr.cell hp) hx
      have HE2 := Lib.hid (And.intro HG (And.intro hBr hx))
      have hpr := (hBr.cell (World.block_lt_of_cell? w ⟨p, 0, none⟩ HS.out.2)).trans HS.out.2
      have HD := Lib.hid (HP.out.symm.trans (any_dropB hx))
      clear HG hBr hx
      have hR := closBN_any x u p wr hpr
      obtain ⟨xid, xkind, xpub, xnA, xnc, xnames, xdoubt, xk, xn, xm, xi, xd, xA, xc, xs⟩ := x
      simp only [Dc.cells] at d0 d1 d2 d3 d4 d5 d6 d7 d8 d9 d10 hR HD
      obtain ⟨xL, HxL⟩ : ∃ Q, Hid (xnames.length = Q) := ⟨_, Lib.hid rfl⟩
      obtain ⟨xsl, Hxsl⟩ : ∃ Q, Hid (xs.len = Q) := ⟨_, Lib.hid rfl⟩
      rw [HxL.out] at d3 hR
      rw [Hxsl.out] at d10 hR
      obtain ⟨q, Hq⟩ : ∃ Q, Hid ((xid == u) = Q) := ⟨_, Lib.hid rfl⟩
      rw [Hq.out] at hR
      have HR := Lib.hid hR
      clear hpr hR
      go_wp2_with fail
      refine HR.out.mono ?_
      rintro e w1 ⟨rfl, hb1⟩
      have HB1 := Lib.hid (HE2.out.2.1.trans (hb1.mono hz))
      clear hb1 HR d0 d1 d2 d3 d4 d5 d6 d7 d8 d9 d10
      cases q with
      | false =>
        have HN2 := Lib.hid (show E = ((l.drop (j + 1)).any fun y => y.id == u) by rw [HD.out, Hq.out]; rfl)
        go_wp2
        go_roundg (N - (j + 1))
        case measure => rw [HE2.out.1]; omega
        case rel => exact ⟨j + 1, rfl, by omega, by go_num, Lib.hid HN2.out.symm, HB1.out⟩
      | true =>
        have HN2 := Lib.hid (show E = true by rw [HD.out, Hq.out]; rfl)
        go_wp2
        go_ret
        exact ⟨j, rfl, by rw [HN2.out]; simp, HB1.out⟩
    · obtain rfl : j = N := by omega
      have HN2 := Lib.hid (show E = false by rw [← HP.out, List.drop_eq_nil_of_le (by rw [HN.out]; exact Nat.le_refl _)]; rfl)
      clear HG
      go_wp2
      go_ret
      exact ⟨-1, rfl, by rw [HN2.out]; rfl, hBr⟩
set_option maxHeartbeats 1000000 in
theorem containsFnD_any (l : List Dc) (u : Int) (p : Nat) (A : Option Addr) (c : Nat) (w : World) (hs : SlD w w.heap.size A c l) (hp : w.cell? ⟨p, 0, none⟩ = some (.int .i64 u)) :
    Calls Tryz.prog 39 #[.slice A l.length c, .func (.func 40) #[] #[.pointer (some ⟨p, 0, none⟩)]] w fun e w' => e = .returned (.bool (l.any fun y => y.id == u)) ∧ Below w.heap.size w w' := by
  obtain ⟨N, HN⟩ : ∃ Q, Hid (l.length = Q) := ⟨_, Lib.hid rfl⟩
  have hC := indexFnB_any l u p A c w hs hp
  obtain ⟨E, HE⟩ : ∃ Q, Hid ((l.any fun y => y.id == u) = Q) := ⟨_, Lib.hid rfl⟩
  rw [HN.out, HE.out] at hC
  rw [HN.out, HE.out]
  have HC := Lib.hid hC
  clear hs hp hC
  go_enter Tryz.func39, Tryz.ntmps39
  go_wp2_with fail
  refine HC.out.mono ?_
  rintro e w1 ⟨j, rfl, hj, hb⟩
  go_wp2
  go_ret
  exact ⟨by simp, hb⟩
end Go.Proofs.YtacjjkbkhpdhnaaGreatDoor
/- slices.Equal at strings -/
namespace Go.Proofs.YtacjjkbkhpdhnaaGreatDoor
open Go.RowKit Go.Proofs Go.Shelf

set_option maxRecDepth 100000 in
set_option maxHeartbeats 2000000 in
theorem slcEqualStr_any (l l' : List ByteArray) (A : Option Addr) (c : Nat) (A' : Option Addr) (c' : Nat) (w : World) (hs : SlS w w.heap.size A c l) (hs' : SlS w w.heap.size A' c' l') :
    Calls Tryz.prog 37 #[.slice A l.length c, .slice A' l'.length c'] w fun e w' => e = .returned (.bool (decide (l = l'))) ∧ ∃ q, w' = w.drewN q := by
  have h1 := hs.1
  have h2 := hs.2.1
  have h1' := hs'.1
  have h2' := hs'.2.1
  unfold maxLen at h2 h2'
  obtain ⟨N, HN⟩ : ∃ Q, Hid (l.length = Q) := ⟨_, Lib.hid rfl⟩
  obtain ⟨N', HN'⟩ : ∃ Q, Hid (l'.length = Q) := ⟨_, Lib.hid rfl⟩
  have HO := Lib.hid (And.intro hs hs')
  obtain ⟨E, HE⟩ : ∃ Q, Hid (decide (l = l') = Q) := ⟨_, Lib.hid rfl⟩
  rw [HN.out] at h1 ⊢
  rw [HN'.out] at h1' ⊢
  rw [HE.out]
  clear hs hs'
  go_enter Tryz.func37, Tryz.ntmps37
  by_cases hne : N = N'
  · subst hne
    go_wp2
    go_loopg [5, 13] N (fun gg _ ct wr => ∃ j : Nat, gg = N - j ∧ j ≤ N ∧ ct = .int .i64 j ∧ (∀ k < j, l[k]? = l'[k]?) ∧ ∃ q, wr = w.drewN q)
    case atStart => exact ⟨0, rfl, by omega, rfl, fun k hk => absurd hk (Nat.not_lt_zero _), 0, rfl⟩
    case round =>
      obtain ⟨j, HG, hj, rfl, hall, q, rfl⟩ := hrel
      by_cases hlt : j < N
      · have hlt1 : j < l.length := by rw [HN.out]; exact hlt
        have hlt2 : j < l'.length := by rw [HN'.out]; exact hlt
        obtain ⟨y, hy⟩ : ∃ y, l[j]? = some y := ⟨_, List.getElem?_eq_getElem hlt1⟩
        obtain ⟨z, hz⟩ : ∃ y, l'[j]? = some y := ⟨_, List.getElem?_eq_getElem hlt2⟩
        obtain ⟨b, o, rfl, hb, hc⟩ := HO.out.1.2.2 (by intro e; rw [e] at hlt1; simp at hlt1)
        obtain ⟨b', o', rfl, hb', hc'⟩ := HO.out.2.2.2 (by intro e; rw [e] at hlt2; simp at hlt2)
        have c0 := hc j y hy
        have d0 := hc' j z hz
        have hj0 : (0 : Int) ≤ (j : Int) := by omega
        have hj1 : (j : Int) < (N : Int) := by omega
        have HM := Lib.hid (And.intro HG (And.intro hall (And.intro hy hz)))
        clear HG hall hy hz hc hc'
        cases he : (y.toList == z.toList) with
        | true =>
          have HEQ := Lib.hid (bytes_ext he)
          go_wp2_with fail
          go_quiet (fail)
          clear c0 d0 he
          go_wp2
          go_roundg (N - (j + 1))
          case measure => rw [HM.out.1]; omega
          case rel =>
            refine ⟨j + 1, rfl, by omega, by go_num, fun k hk => ?_, q + nq, by simp [World.drewN]⟩
            by_cases e : k = j
            · rw [e, HM.out.2.2.1, HM.out.2.2.2, HEQ.out]
            · exact HM.out.2.1 k (by omega)
        | false =>
          have HEQ := Lib.hid (show E = false by
            rw [← HE.out, decide_eq_false_iff_not]
            intro e
            have h3 := HM.out.2.2.1
            rw [e, HM.out.2.2.2] at h3
            cases h3
            simp at he)
          go_wp2_with fail
          go_quiet (fail)
          clear c0 d0 he
          go_wp2
          go_ret
          exact ⟨by rw [HEQ.out]; rfl, q + nq, by simp [World.drewN, Nat.add_assoc]⟩
      · obtain rfl : j = N := by omega
        have HEQ := Lib.hid (show E = true by
          rw [← HE.out, decide_eq_true_iff]
          exact eq_takeS (by rw [HN.out, HN'.out]) (by rw [HN.out]; exact hall))
        clear hall HG
        go_wp2
        go_ret
        exact ⟨by rw [HEQ.out]; rfl, _, rfl⟩
  · have HEQ := Lib.hid (show E = false by
      rw [← HE.out, decide_eq_false_iff_not]
      intro e
      exact hne (by rw [← HN.out, ← HN'.out, e]))
    have hn1 : ((N : Int) != (N' : Int)) = true := by simpa using (by omega : ¬ (N : Int) = (N' : Int))
    have hn2 : (N != N') = true := by simpa using hne
    go_wp2
    go_ret
    exact ⟨by rw [HEQ.out]; rfl, 0, rfl⟩
end Go.Proofs.YtacjjkbkhpdhnaaGreatDoor
/- law24.BindNumber -/
namespace Go.Proofs.YtacjjkbkhpdhnaaGreatDoor
open Go Go.RowKit Go.Proofs Go.Shelf
theorem eqDs_rfl : ∀ l : List Dc, EqDs l l
  | [] => trivial
  | _ :: r => ⟨⟨rfl, rfl, rfl, rfl, rfl, rfl, rfl, rfl, rfl, rfl, rfl⟩, eqDs_rfl r⟩
theorem small_src {u : List ByteArray} {ds : List Dc} (hg : (greatU u || greatD ds) = false) (hc : ∀ x ∈ ds, x.s.count ≤ 2000000) : (∀ s ∈ u, s.size ≤ 1000) ∧ (∀ x ∈ ds, x.Sht) ∧ ds.length < 20 ∧ ∀ x ∈ ds, (nameOf x).size ≤ 1000 := by
  have h := (small_mod' (label := ⟨#[]⟩) (uses := u) (decls := ds) (by
    unfold greatM
    rw [Bool.or_assoc, hg]
    rfl) hc).1
  refine ⟨h.2.1, h.2.2, ?_, fun x hx => ?_⟩
  · rw [Bool.or_eq_false_iff] at hg
    have h2 := hg.2
    unfold greatD at h2
    rw [Bool.or_eq_false_iff] at h2
    have h3 := of_decide_eq_false h2.1
    omega
  · have h4 := (h.2.2 x hx).2.2.2
    unfold nameOf
    cases hn : x.names with
    | nil => exact Nat.zero_le _
    | cons s r => exact h4 s (by rw [hn]; simp)
end Go.Proofs.YtacjjkbkhpdhnaaGreatDoor
/- law24.BindNumbers -/
namespace Go.Proofs.YtacjjkbkhpdhnaaGreatDoor
open Go Go.RowKit Go.Proofs Go.Shelf

set_option maxRecDepth 100000 in
set_option maxHeartbeats 32000000 in
theorem lawNumbers_any (u : List ByteArray) (uA : Option Addr) (uc : Nat) (ds : List Dc) (dA : Option Addr) (dc : Nat) (u' : List ByteArray) (oA : Option Addr) (oc : Nat) (old : List Dc) (pA : Option Addr) (pc : Nat) (w : World)
    (hu : SlS w w.heap.size uA uc u) (hd : SlD w w.heap.size dA dc ds) (hds : ∀ x ∈ ds, Dc.Str x) (hcn : ∀ x ∈ ds, x.s.count ≤ 2000000) (hu' : SlS w w.heap.size oA oc u') (hp : SlD w w.heap.size pA pc old) (hds' : ∀ x ∈ old, Dc.Str x) (hcn' : ∀ x ∈ old, x.s.count ≤ 2000000) :
    Calls Tryz.prog 8 #[.agg #[.slice uA u.length uc, .slice dA ds.length dc], .agg #[.slice oA u'.length oc, .slice pA old.length pc]] w fun e w' => e = .returned (.bool true) ∧ Below w.heap.size w w' := by
  obtain ⟨M, HM⟩ : ∃ Q, Hid (u.length = Q) := ⟨_, Lib.hid rfl⟩
  obtain ⟨N, HN⟩ : ∃ Q, Hid (ds.length = Q) := ⟨_, Lib.hid rfl⟩
  obtain ⟨M', HM'⟩ : ∃ Q, Hid (u'.length = Q) := ⟨_, Lib.hid rfl⟩
  obtain ⟨N', HN'⟩ : ∃ Q, Hid (old.length = Q) := ⟨_, Lib.hid rfl⟩
  rw [HM.out, HN.out, HM'.out, HN'.out]
  obtain ⟨W0, hW0⟩ : ∃ W0, (w.alloc (.cells #[.slice uA M uc, .slice dA N dc] 40)).alloc (.cells #[.slice oA M' oc, .slice pA N' pc] 40) = W0 := ⟨_, rfl⟩
  have hb0 : Below w.heap.size w W0 := by rw [← hW0]; exact ((Below.refl _ _).alloc (Nat.le_refl _) _).alloc (by simp) _
  have hz0 : w.heap.size + 1 < W0.heap.size := by rw [← hW0]; simp
  have hf0 : W0.heap[w.heap.size]? = some (.cells #[.slice uA M uc, .slice dA N dc] 40 (0, 0)) := by rw [← hW0]; exact (Below.heap_alloc _ _ _ (by simp)).trans (heap_alloc_new w _)
  have hm0 : W0.heap[w.heap.size + 1]? = some (.cells #[.slice oA M' oc, .slice pA N' pc] 40 (0, 0)) := by
    have h := heap_alloc_new (w.alloc (.cells #[.slice uA M uc, .slice dA N dc] 40)) (.cells #[.slice oA M' oc, .slice pA N' pc] 40)
    rw [hW0] at h
    simpa using h
  have HX := Lib.hid (show ∀ X : World, Below W0.heap.size W0 X → Below w.heap.size w X ∧ SlS X X.heap.size uA uc u ∧ SlD X X.heap.size dA dc ds ∧ SlS X X.heap.size oA oc u' ∧ SlD X X.heap.size pA pc old from fun X hX => by
    have h1 := hb0.trans (hX.mono hb0.size)
    exact ⟨h1, hu.keep h1.size (fun p hp => h1.cell hp), hd.keep h1.size (fun p hp => h1.cell hp), hu'.keep h1.size (fun p hp => h1.cell hp), hp.keep h1.size (fun p hp => h1.cell hp)⟩)
  have HC := Lib.hid (show ∀ X : World, Below W0.heap.size W0 X → X.cell? ⟨w.heap.size, 0, none⟩ = some (.slice uA M uc) ∧ X.cell? ⟨w.heap.size, 1, none⟩ = some (.slice dA N dc) ∧ X.cell? ⟨w.heap.size + 1, 0, none⟩ = some (.slice oA M' oc) ∧ X.cell? ⟨w.heap.size + 1, 1, none⟩ = some (.slice pA N' pc) from fun X hX => by
    have h1 := (hX.block _ (by omega)).trans hf0
    have h2 := (hX.block _ hz0).trans hm0
    exact ⟨cell_of_row X _ 0 _ _ (0, 0) h1, cell_of_row X _ 1 _ _ (0, 0) h1, cell_of_row X _ 0 _ _ (0, 0) h2, cell_of_row X _ 1 _ _ (0, 0) h2⟩)
  obtain ⟨g1, Hg1⟩ : ∃ Q, Hid ((greatU u || greatD ds) = Q) := ⟨_, Lib.hid rfl⟩
  obtain ⟨g2, Hg2⟩ : ∃ Q, Hid ((greatU u' || greatD old) = Q) := ⟨_, Lib.hid rfl⟩
  have HG1 := Lib.hid (show ∀ X : World, Below W0.heap.size W0 X → Calls Tryz.prog 33 #[.agg #[.slice uA M uc, .slice dA N dc]] X (fun e Y => e = .returned (.bool g1) ∧ Below W0.heap.size W0 Y) from fun X hX => by
    have h := greatSource_any u uA uc ds dA dc X (HX.out X hX).2.1 (HX.out X hX).2.2.1
    rw [HM.out, HN.out, Hg1.out] at h
    exact h.mono fun _ _ ⟨h1, h2⟩ => ⟨h1, hX.trans (h2.mono hX.size)⟩)
  have HG2 := Lib.hid (show ∀ X : World, Below W0.heap.size W0 X → Calls Tryz.prog 33 #[.agg #[.slice oA M' oc, .slice pA N' pc]] X (fun e Y => e = .returned (.bool g2) ∧ Below W0.heap.size W0 Y) from fun X hX => by
    have h := greatSource_any u' oA oc old pA pc X (HX.out X hX).2.2.2.1 (HX.out X hX).2.2.2.2
    rw [HM'.out, HN'.out, Hg2.out] at h
    exact h.mono fun _ _ ⟨h1, h2⟩ => ⟨h1, hX.trans (h2.mono hX.size)⟩)
  have HAw := Lib.hid (show ∀ X : World, Below W0.heap.size W0 X → Calls Tryz.prog 11 #[] X (fun e Y => e = .returned (.bool true) ∧ Below w.heap.size w Y) from fun X hX => (awake24_any X).mono fun _ _ ⟨h1, h2⟩ => ⟨h1, (HX.out X hX).1.trans (h2.mono (HX.out X hX).1.size)⟩)
  have HD := Lib.hid (And.intro hcn (And.intro hcn' (And.intro (show StrD ds from fun x hx => (hds x hx).1) (show StrD old from fun x hx => (hds' x hx).1))))
  obtain ⟨x0, x1, x2, x3⟩ := HC.out W0 (Below.refl _ _)
  have hcs1 := fun (X : World) (hX : Below W0.heap.size W0 X) (hS : (∀ s ∈ u, s.size ≤ 1000) ∧ ∀ x ∈ ds, x.Sht) => checkSource21_any u uA uc ds dA dc X (HX.out X hX).2.1 (HX.out X hX).2.2.1 hS.1 hS.2
  clear hu hd hds hcn hu' hp hds' hcn' hb0 hz0 hf0 hm0 hcs1
  go_enter Tryz.func8, Tryz.ntmps8
  go_wp2_with fail
  refine (HG1.out _ (Below.refl _ _)).mono ?_
  rintro e w1 ⟨rfl, hb1⟩
  clear hW0 x0 x1 x2 x3
  cases g1 with
  | true =>
    have HA := Lib.hid (HAw.out w1 hb1)
    clear hb1
    go_wp2_with fail
    refine HA.out.mono ?_
    rintro e w2 ⟨rfl, hb2⟩
    have HB2 := Lib.hid hb2
    clear hb2
    go_wp2
    go_ret
    exact ⟨rfl, HB2.out⟩
  | false =>
  have H2 := Lib.hid (HG2.out w1 hb1)
  obtain ⟨_, _, x2, x3⟩ := HC.out w1 hb1
  clear hb1
  go_wp2_with fail
  refine H2.out.mono ?_
  rintro e w2 ⟨rfl, hb2⟩
  clear H2 x2 x3
  cases g2 with
  | true =>
    have HA := Lib.hid (HAw.out w2 hb2)
    clear hb2
    go_wp2_with fail
    refine HA.out.mono ?_
    rintro e w3 ⟨rfl, hb3⟩
    have HB3 := Lib.hid hb3
    clear hb3
    go_wp2
    go_ret
    exact ⟨rfl, HB3.out⟩
  | false =>
  have HS1 := Lib.hid (small_src Hg1.out HD.out.1)
  have HS2 := Lib.hid (small_src Hg2.out HD.out.2.1)
  clear Hg1 Hg2 HG1 HG2
  obtain ⟨E1, HE1⟩ : ∃ Q, Hid (srcDE u ds = Q) := ⟨_, Lib.hid rfl⟩
  obtain ⟨E2, HE2⟩ : ∃ Q, Hid (srcDE u' old = Q) := ⟨_, Lib.hid rfl⟩
  have HC1 := Lib.hid (show ∀ X, Below W0.heap.size W0 X → Calls Tryz.prog 36 #[.agg #[.slice uA M uc, .slice dA N dc]] X fun e w' => e = .returned (.int .i64 E1) ∧ Below W0.heap.size W0 w' from fun X hX => by
    have h := checkSource21_any u uA uc ds dA dc X (HX.out X hX).2.1 (HX.out X hX).2.2.1 HS1.out.1 HS1.out.2.1
    rw [HM.out, HN.out, HE1.out] at h
    exact h.mono fun _ _ ⟨h1, h2⟩ => ⟨h1, hX.trans (h2.mono hX.size)⟩)
  have HC2 := Lib.hid (show ∀ X, Below W0.heap.size W0 X → Calls Tryz.prog 36 #[.agg #[.slice oA M' oc, .slice pA N' pc]] X fun e w' => e = .returned (.int .i64 E2) ∧ Below W0.heap.size W0 w' from fun X hX => by
    have h := checkSource21_any u' oA oc old pA pc X (HX.out X hX).2.2.2.1 (HX.out X hX).2.2.2.2 HS2.out.1 HS2.out.2.1
    rw [HM'.out, HN'.out, HE2.out] at h
    exact h.mono fun _ _ ⟨h1, h2⟩ => ⟨h1, hX.trans (h2.mono hX.size)⟩)
  obtain ⟨x0, x1, _, _⟩ := HC.out w2 hb2
  have HQ := Lib.hid (HC1.out w2 hb2)
  clear hb2 HC1
  go_wp2_with fail
  refine HQ.out.mono ?_
  rintro e w3 ⟨rfl, hb3⟩
  clear HQ x0 x1
  by_cases he1 : E1 = 0
  rotate_left
  · have he1' : (E1 != 0) = true := by simpa using he1
    have HA := Lib.hid (HAw.out w3 hb3)
    clear hb3 he1
    go_wp2_with fail
    refine HA.out.mono ?_
    rintro e w4 ⟨rfl, hb4⟩
    have HB4 := Lib.hid hb4
    clear hb4
    go_wp2
    go_ret
    exact ⟨rfl, HB4.out⟩
  subst he1
  obtain ⟨_, _, x2, x3⟩ := HC.out w3 hb3
  have HQ := Lib.hid (HC2.out w3 hb3)
  clear hb3 HC2
  go_wp2_with fail
  refine HQ.out.mono ?_
  rintro e w4 ⟨rfl, hb4⟩
  clear HQ x2 x3
  by_cases he2 : E2 = 0
  rotate_left
  · have he2' : (E2 != 0) = true := by simpa using he2
    have HA := Lib.hid (HAw.out w4 hb4)
    clear hb4 he2
    go_wp2_with fail
    refine HA.out.mono ?_
    rintro e w5 ⟨rfl, hb5⟩
    have HB5 := Lib.hid hb5
    clear hb5
    go_wp2
    go_ret
    exact ⟨rfl, HB5.out⟩
  subst he2
  have Hold := Lib.hid (show ∀ x ∈ old, 0 ≤ x.id ∧ x.id ≤ 999999 from fun x hx => by
    obtain ⟨a, b, _⟩ := sdE_parts (sdsE_mem (srcDE_parts HE2.out).2.2.2 x hx)
    exact ⟨a, b⟩)
  have HNu := Lib.hid (show ∀ X : World, Below W0.heap.size W0 X → Calls Tryz.prog 34 #[.agg #[.slice uA M uc, .slice dA N dc], .agg #[.slice oA M' oc, .slice pA N' pc]] X (fun e Y => Below X.heap.size X Y ∧ ∃ A c fs, NumG ds old fs ∧ Hid (fs.length = N) ∧ SlD Y Y.heap.size A c fs ∧ e = .returned (.tuple #[.agg #[.slice uA M uc, .slice A N c], .int .i64 0])) from fun X hX => by
    obtain ⟨_, h1, h2, h3, h4⟩ := HX.out X hX
    have h := bNumber_any u uA uc ds dA dc u' oA oc old pA pc X h1 h2 HD.out.2.2.1 h3 h4 HD.out.2.2.2 HS1.out.2.2.2 HS1.out.2.2.1
    rw [HM.out, HN.out, HM'.out, HN'.out] at h
    refine h.mono fun e w' h => ?_
    have h0 : nbrE u ds u' old = 0 := by
      unfold nbrE
      rw [HE1.out, HE2.out]
      rfl
    obtain ⟨hb, ⟨hE, rfl⟩ | ⟨_, A, c, fs, hg, hl, hs, he⟩⟩ := h
    · exact absurd h0 hE
    · exact ⟨hb, A, c, fs, hg, Lib.hid (by rw [hl, HN.out]), hs, by rw [he, HM.out, HN.out]⟩)
  obtain ⟨x0, x1, x2, x3⟩ := HC.out w4 hb4
  have HQ := Lib.hid (HNu.out w4 hb4)
  have HB4 := Lib.hid hb4
  clear hb4 HNu
  go_wp2_with fail
  refine HQ.out.mono ?_
  rintro e w5 ⟨hb5, gA, gc, fs, hg, HL, hs5, rfl⟩
  clear HQ x0 x1 x2 x3
  obtain ⟨V5, hV5⟩ : ∃ q, w5.alloc (.cells #[.slice uA M uc, .slice gA N gc] 40) = q := ⟨_, rfl⟩
  have hbV5 : Below w5.heap.size w5 V5 := by rw [← hV5]; exact (Below.refl _ _).alloc (Nat.le_refl _) _
  have hrV5 : V5.heap[w5.heap.size]? = some (.cells #[.slice uA M uc, .slice gA N gc] 40 (0, 0)) := by rw [← hV5]; exact heap_alloc_new _ _
  have hzV5 : w5.heap.size < V5.heap.size := by rw [← hV5]; simp
  have hB5 := HB4.out.trans ((hb5.trans (hbV5.mono hb5.size)).mono HB4.out.size)
  have HF := Lib.hid (show ∀ X : World, Below V5.heap.size V5 X → Below W0.heap.size W0 X ∧ X.cell? ⟨w5.heap.size, 0, none⟩ = some (.slice uA M uc) ∧ X.cell? ⟨w5.heap.size, 1, none⟩ = some (.slice gA N gc) ∧ SlD X X.heap.size gA gc fs from fun X hX => by
    have h1 := (hX.block _ hzV5).trans hrV5
    have h2 := hbV5.trans (hX.mono hbV5.size)
    exact ⟨hB5.trans (hX.mono hB5.size), cell_of_row X _ 0 _ _ (0, 0) h1, cell_of_row X _ 1 _ _ (0, 0) h1, hs5.keep h2.size (fun p hp => h2.cell hp)⟩)
  have HK := Lib.hid (num_ok HE1.out Hold.out hg (HL.out.trans HN.out.symm))
  have HZ5 := Lib.hid hzV5
  clear hb5 hs5 hbV5 hrV5 hzV5 hB5
  obtain ⟨hW5, y0, y1, _⟩ := HF.out V5 (Below.refl _ _)
  obtain ⟨x0, x1, _, _⟩ := HC.out V5 hW5
  have heq := slcEqualStr_any u u uA uc uA uc V5 (HX.out V5 hW5).2.1 (HX.out V5 hW5).2.1
  rw [HM.out, decide_eq_true rfl] at heq
  have HQ := Lib.hid heq
  clear heq hW5
  go_wp2_with fail
  refine HQ.out.mono ?_
  rintro e w6 ⟨rfl, q6, hw6⟩
  have hb6 : Below V5.heap.size V5 w6 := by rw [hw6]; exact below_drewN (Below.refl _ _) q6
  clear hw6 HQ y0 y1 x0 x1
  obtain ⟨hW6, y0, y1, hs6⟩ := HF.out w6 hb6
  obtain ⟨x0, x1, _, _⟩ := HC.out w6 hW6
  have HStr := Lib.hid (show StrD fs from fun e he s hs => by
    obtain ⟨x, hx, i, rfl, _⟩ := HK.out.2.2.2.2.2 e he
    exact HD.out.2.2.1 x hx s hs)
  have hck := checkSourceD_any u uA uc fs gA gc w6 (HX.out w6 hW6).2.1 hs6 HStr.out
  rw [HM.out, HL.out, HK.out.1] at hck
  have HQ := Lib.hid hck
  have HB6 := Lib.hid hb6
  clear hck hW6 hs6 hb6
  go_wp2_with fail
  refine HQ.out.mono ?_
  rintro e w7 ⟨rfl, hb7⟩
  have hB7 := HB6.out.trans (hb7.mono HB6.out.size)
  clear HQ y0 y1 x0 x1 hb7
  obtain ⟨hW7, y0, y1, hs7⟩ := HF.out w7 hB7
  have HB7 := Lib.hid hB7
  have HLt := Lib.hid (show N ≤ 9223372036854775807 by
    have h1 := hs7.1
    have h2 := hs7.2.1
    unfold maxLen at h2
    rw [HL.out] at h1
    omega)
  have HS7 := Lib.hid hs7
  clear hB7 hW7 hs7
  go_upto_region 6 with fail
  go_cut [73] (fun s wx => s = .bool false ∧ w7 = wx)
  case first =>
    by_cases hN0 : N = 0
    · have hn1 : ((N : Int) == 0) = true := by simp [hN0]
      have hn2 : ¬ (0 : Int) < (N : Int) := by omega
      subst hN0
      go_wp2
      go_meet
      exact ⟨rfl, rfl⟩
    · have hn2 : (0 : Int) < (N : Int) := by omega
      obtain ⟨x, hx⟩ : ∃ x, fs[0]? = some x := ⟨_, List.getElem?_eq_getElem (by rw [HL.out]; omega)⟩
      obtain ⟨b, o, HA, hb, d0, _⟩ := HS7.out.cells_at (wr := w7) (fun _ _ => rfl) hx
      simp only [Nat.zero_mul, Nat.add_zero] at d0
      have hid : (x.id == 0) = false := by
        have := HK.out.2.1 x (List.mem_of_getElem? hx)
        rw [beq_eq_false_iff_ne]
        omega
      subst HA
      clear hx hb
      go_wp2
      go_meet
      exact ⟨rfl, rfl⟩
  case rest =>
  obtain ⟨rfl, rfl⟩ := hcut
  clear y0 y1
  obtain ⟨_, x1, _, _⟩ := HC.out w7 (HF.out w7 HB7.out).1
  go_wp2
  clear x1
  go_loopg [8, 9, 11, 12, 77] N (fun g _ _ _ _ ct wr => ∃ j : Nat, g = N - j ∧ j ≤ N ∧ ct = .int .i64 j ∧ Below V5.heap.size V5 wr)
  case atStart => exact ⟨0, rfl, by omega, rfl, HB7.out⟩
  case round =>
    rename World => wo
    obtain ⟨j, HG, hj, rfl, hB⟩ := hrel
    by_cases hlt : j < N
    · have hlt' : j < ds.length := by rw [HN.out]; exact hlt
      obtain ⟨x, hx⟩ : ∃ y, ds[j]? = some y := ⟨_, List.getElem?_eq_getElem hlt'⟩
      obtain ⟨hW, y0, y1, hsr⟩ := HF.out wo hB
      obtain ⟨b, o, HdA, hb, d0, d1, d2, d3, d4, d5, d6, d7, d8, d9, d10, hok⟩ := (HX.out wo hW).2.2.1.cells_at (wr := wo) (fun _ _ => rfl) hx
      have HFs := Lib.hid (Fnd.start (HK.out.2.2.2.2.1 x (List.mem_of_getElem? hx)))
      obtain ⟨W3, hW3⟩ : ∃ q, wo.alloc (.cells #[.int .i64 x.id, .int .i64 x.kind, .bool x.pub, .slice x.nA x.names.length x.nc, .bool x.doubt, .int .i64 x.k, .string x.n, .string x.m, .int .i64 x.i, .int .i64 x.d, .slice x.A x.s.len x.c] 63) = q := ⟨_, rfl⟩
      have hb3 : Below wo.heap.size wo W3 := by rw [← hW3]; exact (Below.refl _ _).alloc (Nat.le_refl _) _
      have hz3 : wo.heap.size < W3.heap.size := by rw [← hW3]; simp
      have hx3 : W3.heap[wo.heap.size]? = some (.cells #[.int .i64 x.id, .int .i64 x.kind, .bool x.pub, .slice x.nA x.names.length x.nc, .bool x.doubt, .int .i64 x.k, .string x.n, .string x.m, .int .i64 x.i, .int .i64 x.d, .slice x.A x.s.len x.c] 63 (0, 0)) := by rw [← hW3]; exact heap_alloc_new _ _
      have HX3 := Lib.hid (show ∀ X : World, Below W3.heap.size W3 X → X.heap[wo.heap.size]? = some (.cells #[.int .i64 x.id, .int .i64 x.kind, .bool x.pub, .slice x.nA x.names.length x.nc, .bool x.doubt, .int .i64 x.k, .string x.n, .string x.m, .int .i64 x.i, .int .i64 x.d, .slice x.A x.s.len x.c] 63 (0, 0)) ∧ wo.heap.size < X.heap.size ∧ x.Ok X X.heap.size ∧ Below V5.heap.size V5 X from fun X hX => by
        have h1 := hb3.trans (hX.mono hb3.size)
        exact ⟨(hX.block _ hz3).trans hx3, Nat.lt_of_lt_of_le hz3 hX.size, ⟨hok.1.keep h1.size (fun p hp => h1.cell hp), hok.2.keep h1.size (fun p hp => h1.cell hp)⟩, hB.trans (h1.mono hB.size)⟩)
      have HR := Lib.hid (And.intro HG (And.intro hj hlt))
      subst HdA
      have y1' : W3.cell? ⟨w5.heap.size, 1, none⟩ = some (.slice gA N gc) := (HF.out W3 (HX3.out W3 (Below.refl _ _)).2.2.2).2.2.1
      clear HG hx hsr hok hb3 hz3 hx3 hW hlt' y0 y1 hB
      go_wp2
      clear hW3 d0 d1 d2 d3 d4 d5 d6 d7 d8 d9 d10 y1'
      go_loopg [9, 11, 12, 84] N (fun gg fv _ _ ct wq => ∃ (q : Nat) (bf : Bool), gg = N - q ∧ q ≤ N ∧ ct = .int .i64 q ∧ fv = .bool bf ∧ Hid (Fnd ds fs x bf q) ∧ Below W3.heap.size W3 wq)
      case atStart => exact ⟨0, false, rfl, by omega, rfl, rfl, HFs, Below.refl _ _⟩
      case round =>
        rename World => wq
        obtain ⟨q, bf, HG, hq, rfl, rfl, HFq, hBq⟩ := hrel
        by_cases hqt : q < N
        · have hqt' : q < fs.length := by rw [HL.out]; exact hqt
          obtain ⟨y, hy⟩ : ∃ y, fs[q]? = some y := ⟨_, List.getElem?_eq_getElem hqt'⟩
          obtain ⟨hxq, hzq, _, hB5⟩ := HX3.out wq hBq
          obtain ⟨hW, _, _, hsr⟩ := HF.out wq hB5
          obtain ⟨b2, o2, HgA, hb2, e0, e1, e2, e3, e4, e5, e6, e7, e8, e9, e10, hok⟩ := hsr.cells_at (wr := wq) (fun _ _ => rfl) hy
          obtain ⟨W5, hW5⟩ : ∃ q, wq.alloc (.cells #[.int .i64 y.id, .int .i64 y.kind, .bool y.pub, .slice y.nA y.names.length y.nc, .bool y.doubt, .int .i64 y.k, .string y.n, .string y.m, .int .i64 y.i, .int .i64 y.d, .slice y.A y.s.len y.c] 63) = q := ⟨_, rfl⟩
          have hb5 : Below wq.heap.size wq W5 := by rw [← hW5]; exact (Below.refl _ _).alloc (Nat.le_refl _) _
          have hz5 : wq.heap.size < W5.heap.size := by rw [← hW5]; simp
          have hx5 : W5.heap[wq.heap.size]? = some (.cells #[.int .i64 y.id, .int .i64 y.kind, .bool y.pub, .slice y.nA y.names.length y.nc, .bool y.doubt, .int .i64 y.k, .string y.n, .string y.m, .int .i64 y.i, .int .i64 y.d, .slice y.A y.s.len y.c] 63 (0, 0)) := by rw [← hW5]; exact heap_alloc_new _ _
          have hd5 := (hb5.block _ hzq).trans hxq
          have HY := Lib.hid (show ∀ X : World, Below wq.heap.size wq X → y.Ok X X.heap.size ∧ Below W3.heap.size W3 X from fun X hX => ⟨⟨hok.1.keep hX.size (fun p hp => hX.cell hp), hok.2.keep hX.size (fun p hp => hX.cell hp)⟩, hBq.trans (hX.mono hBq.size)⟩)
          have HR2 := Lib.hid (And.intro HG (And.intro hqt (And.intro hy (And.intro hzq (And.intro hd5 (And.intro hx5 (And.intro hb5 hz5)))))))
          obtain ⟨sb, Hsb⟩ : ∃ sb, Hid (decide (x.id ≠ 0 ∧ x.id = y.id) = sb) := ⟨_, Lib.hid rfl⟩
          subst HgA
          have f0 : W5.cell? ⟨wo.heap.size, 0, none⟩ = some (.int .i64 x.id) := cell_of_row W5 _ 0 _ _ (0, 0) hd5
          have g0 : W5.cell? ⟨wq.heap.size, 0, none⟩ = some (.int .i64 y.id) := cell_of_row W5 _ 0 _ _ (0, 0) hx5
          clear HG hy hxq hzq hsr hok hb5 hz5 hx5 hd5 hW hB5 hBq hqt'
          go_upto_region 15 with fail
          go_cut [97] (fun s wx => s = .bool sb ∧ W5 = wx)
          case first =>
            by_cases h0 : x.id = 0
            · have hs : sb = false := by rw [← Hsb.out]; simp [h0]
              have h0b : (x.id != 0) = false := by simp [h0]
              subst hs
              clear h0
              go_wp2
              go_meet
              exact ⟨rfl, rfl⟩
            · have h0b : (x.id != 0) = true := by simp [h0]
              obtain ⟨r, hr⟩ : ∃ r, (x.id == y.id) = r := ⟨_, rfl⟩
              have hs : sb = r := by
                rw [← Hsb.out, ← hr]
                by_cases e : x.id = y.id
                · rw [decide_eq_true ⟨h0, e⟩, beq_iff_eq.2 e]
                · rw [decide_eq_false (fun h => e h.2), beq_eq_false_iff_ne.2 e]
              subst hs
              clear h0
              go_wp2
              go_meet
              exact ⟨rfl, rfl⟩
          case rest =>
          obtain ⟨rfl, rfl⟩ := hcut
          clear f0 g0 hW5 e0 e1 e2 e3 e4 e5 e6 e7 e8 e9 e10
          cases sb with
          | true =>
            have hsm := of_decide_eq_true Hsb.out
            have hE := Lib.hid (HFq.out.same HK.out.2.2.1 HR2.out.2.2.1 hsm.1 hsm.2)
            obtain ⟨_, _, _, _, hd5, hx5, hb5, hz5⟩ := HR2.out
            obtain ⟨hyo, hB3⟩ := HY.out W5 hb5
            have hC := sameDecl_any x y W5 (HX3.out W5 hB3).2.2.1 hyo
            simp only [Dc.cells] at hC
            have HC5 := Lib.hid hC
            have f0 : W5.cell? ⟨wo.heap.size, 0, none⟩ = some (.int .i64 x.id) := cell_of_row W5 _ 0 _ _ (0, 0) hd5
            have f1 : W5.cell? ⟨wo.heap.size, 1, none⟩ = some (.int .i64 x.kind) := cell_of_row W5 _ 1 _ _ (0, 0) hd5
            have f2 : W5.cell? ⟨wo.heap.size, 2, none⟩ = some (.bool x.pub) := cell_of_row W5 _ 2 _ _ (0, 0) hd5
            have f3 : W5.cell? ⟨wo.heap.size, 3, none⟩ = some (.slice x.nA x.names.length x.nc) := cell_of_row W5 _ 3 _ _ (0, 0) hd5
            have f4 : W5.cell? ⟨wo.heap.size, 4, none⟩ = some (.bool x.doubt) := cell_of_row W5 _ 4 _ _ (0, 0) hd5
            have f5 : W5.cell? ⟨wo.heap.size, 5, none⟩ = some (.int .i64 x.k) := cell_of_row W5 _ 5 _ _ (0, 0) hd5
            have f6 : W5.cell? ⟨wo.heap.size, 6, none⟩ = some (.string x.n) := cell_of_row W5 _ 6 _ _ (0, 0) hd5
            have f7 : W5.cell? ⟨wo.heap.size, 7, none⟩ = some (.string x.m) := cell_of_row W5 _ 7 _ _ (0, 0) hd5
            have f8 : W5.cell? ⟨wo.heap.size, 8, none⟩ = some (.int .i64 x.i) := cell_of_row W5 _ 8 _ _ (0, 0) hd5
            have f9 : W5.cell? ⟨wo.heap.size, 9, none⟩ = some (.int .i64 x.d) := cell_of_row W5 _ 9 _ _ (0, 0) hd5
            have f10 : W5.cell? ⟨wo.heap.size, 10, none⟩ = some (.slice x.A x.s.len x.c) := cell_of_row W5 _ 10 _ _ (0, 0) hd5
            have g0 : W5.cell? ⟨wq.heap.size, 0, none⟩ = some (.int .i64 y.id) := cell_of_row W5 _ 0 _ _ (0, 0) hx5
            have g1 : W5.cell? ⟨wq.heap.size, 1, none⟩ = some (.int .i64 y.kind) := cell_of_row W5 _ 1 _ _ (0, 0) hx5
            have g2 : W5.cell? ⟨wq.heap.size, 2, none⟩ = some (.bool y.pub) := cell_of_row W5 _ 2 _ _ (0, 0) hx5
            have g3 : W5.cell? ⟨wq.heap.size, 3, none⟩ = some (.slice y.nA y.names.length y.nc) := cell_of_row W5 _ 3 _ _ (0, 0) hx5
            have g4 : W5.cell? ⟨wq.heap.size, 4, none⟩ = some (.bool y.doubt) := cell_of_row W5 _ 4 _ _ (0, 0) hx5
            have g5 : W5.cell? ⟨wq.heap.size, 5, none⟩ = some (.int .i64 y.k) := cell_of_row W5 _ 5 _ _ (0, 0) hx5
            have g6 : W5.cell? ⟨wq.heap.size, 6, none⟩ = some (.string y.n) := cell_of_row W5 _ 6 _ _ (0, 0) hx5
            have g7 : W5.cell? ⟨wq.heap.size, 7, none⟩ = some (.string y.m) := cell_of_row W5 _ 7 _ _ (0, 0) hx5
            have g8 : W5.cell? ⟨wq.heap.size, 8, none⟩ = some (.int .i64 y.i) := cell_of_row W5 _ 8 _ _ (0, 0) hx5
            have g9 : W5.cell? ⟨wq.heap.size, 9, none⟩ = some (.int .i64 y.d) := cell_of_row W5 _ 9 _ _ (0, 0) hx5
            have g10 : W5.cell? ⟨wq.heap.size, 10, none⟩ = some (.slice y.A y.s.len y.c) := cell_of_row W5 _ 10 _ _ (0, 0) hx5
            clear hd5 hx5 hb5 hz5 hyo hB3 hC hsm
            go_wp2_with fail
            refine HC5.out.mono ?_
            rintro e w8 ⟨b8, rfl, hb8i, hb8⟩
            obtain rfl : b8 = true := hb8i.2 hE.out
            have HB8 := Lib.hid ((HX3.out w8 ((HY.out W5 HR2.out.2.2.2.2.2.2.1).2.trans (hb8.mono (HY.out W5 HR2.out.2.2.2.2.2.2.1).2.size))).2.2.2)
            clear hb8i hb8 HC5 f0 f1 f2 f3 f4 f5 f6 f7 f8 f9 f10 g0 g1 g2 g3 g4 g5 g6 g7 g8 g9 g10
            go_wp2
            go_roundg (N - (j + 1))
            case measure => rw [HR.out.1]; have := HR.out.2.2; omega
            case rel => exact ⟨j + 1, rfl, by have := HR.out.2.2; omega, by have h1 := HR.out.2.2; have h2 := HLt.out; rw [wrap64_small (by omega) (by omega)]; simp, HB8.out⟩
          | false =>
            have hsm := of_decide_eq_false Hsb.out
            have HNs := Lib.hid hsm
            clear hsm
            obtain ⟨_, _, hyy, hzq, hd5, hx5, hb5, hz5⟩ := HR2.out
            obtain ⟨hyo, hB3⟩ := HY.out W5 hb5
            have g0 : W5.cell? ⟨wq.heap.size, 0, none⟩ = some (.int .i64 y.id) := cell_of_row W5 _ 0 _ _ (0, 0) hx5
            have z0 := frozen_of_row W5 wq.heap.size 0 _ _ hx5
            have hx6 : (W5.setCell ⟨wq.heap.size, 0, none⟩ (.int .i64 0)).heap[wq.heap.size]? = some (.cells #[.int .i64 0, .int .i64 y.kind, .bool y.pub, .slice y.nA y.names.length y.nc, .bool y.doubt, .int .i64 y.k, .string y.n, .string y.m, .int .i64 y.i, .int .i64 y.d, .slice y.A y.s.len y.c] 63 (0, 0)) := by
              simp [World.setCell, Array.getElem?_modify, hx5]
            have hd6 : (W5.setCell ⟨wq.heap.size, 0, none⟩ (.int .i64 0)).heap[wo.heap.size]? = some (.cells #[.int .i64 x.id, .int .i64 x.kind, .bool x.pub, .slice x.nA x.names.length x.nc, .bool x.doubt, .int .i64 x.k, .string x.n, .string x.m, .int .i64 x.i, .int .i64 x.d, .slice x.A x.s.len x.c] 63 (0, 0)) := (Below.heap_setCell _ _ _ _ (by show wo.heap.size ≠ wq.heap.size; omega)).trans hd5
            have hb6 : Below wq.heap.size wq (W5.setCell ⟨wq.heap.size, 0, none⟩ (.int .i64 0)) := hb5.setCell (by simp) _
            have hs6 : (W5.setCell ⟨wq.heap.size, 0, none⟩ (.int .i64 0)).heap.size = W5.heap.size := by simp
            have hx7 : ((W5.setCell ⟨wq.heap.size, 0, none⟩ (.int .i64 0)).alloc (.cells #[.int .i64 y.id] 3)).heap[wq.heap.size]? = some (.cells #[.int .i64 0, .int .i64 y.kind, .bool y.pub, .slice y.nA y.names.length y.nc, .bool y.doubt, .int .i64 y.k, .string y.n, .string y.m, .int .i64 y.i, .int .i64 y.d, .slice y.A y.s.len y.c] 63 (0, 0)) := (Below.heap_alloc _ _ _ (by omega)).trans hx6
            have hd7 : ((W5.setCell ⟨wq.heap.size, 0, none⟩ (.int .i64 0)).alloc (.cells #[.int .i64 y.id] 3)).heap[wo.heap.size]? = some (.cells #[.int .i64 x.id, .int .i64 x.kind, .bool x.pub, .slice x.nA x.names.length x.nc, .bool x.doubt, .int .i64 x.k, .string x.n, .string x.m, .int .i64 x.i, .int .i64 x.d, .slice x.A x.s.len x.c] 63 (0, 0)) := (Below.heap_alloc _ _ _ (by omega)).trans hd6
            have hi7 : ((W5.setCell ⟨wq.heap.size, 0, none⟩ (.int .i64 0)).alloc (.cells #[.int .i64 y.id] 3)).heap[W5.heap.size]? = some (.cells #[.int .i64 y.id] 3 (0, 0)) := by
              have h := heap_alloc_new (W5.setCell ⟨wq.heap.size, 0, none⟩ (.int .i64 0)) (.cells #[.int .i64 y.id] 3)
              rw [hs6] at h
              exact h
            have hb7 : Below wq.heap.size wq ((W5.setCell ⟨wq.heap.size, 0, none⟩ (.int .i64 0)).alloc (.cells #[.int .i64 y.id] 3)) := hb6.alloc (by omega) _
            have hz7 : W5.heap.size < ((W5.setCell ⟨wq.heap.size, 0, none⟩ (.int .i64 0)).alloc (.cells #[.int .i64 y.id] 3)).heap.size := by simp
            go_upto_region 19 with fail
            generalize ((W5.setCell ⟨wq.heap.size, 0, none⟩ (.int .i64 0)).alloc (.cells #[.int .i64 y.id] 3)) = W7 at hx7 hd7 hi7 hb7 hz7 ⊢
            generalize hiq : W5.heap.size = ib at hi7 hz7 ⊢
            clear hiq z0 hx6 hd6 hb6 hs6 g0 hd5 hx5 hb5 hz5
            have HB7 := Lib.hid (HY.out W7 hb7)
            have HX7 := HX3.out W7 HB7.out.2
            have hC := sameDecl_any x { y with id := 0 } W7 HX7.2.2.1 HB7.out.1
            simp only [Dc.cells] at hC
            have HC7 := Lib.hid hC
            have f0 : W7.cell? ⟨wo.heap.size, 0, none⟩ = some (.int .i64 x.id) := cell_of_row W7 _ 0 _ _ (0, 0) hd7
            have f1 : W7.cell? ⟨wo.heap.size, 1, none⟩ = some (.int .i64 x.kind) := cell_of_row W7 _ 1 _ _ (0, 0) hd7
            have f2 : W7.cell? ⟨wo.heap.size, 2, none⟩ = some (.bool x.pub) := cell_of_row W7 _ 2 _ _ (0, 0) hd7
            have f3 : W7.cell? ⟨wo.heap.size, 3, none⟩ = some (.slice x.nA x.names.length x.nc) := cell_of_row W7 _ 3 _ _ (0, 0) hd7
            have f4 : W7.cell? ⟨wo.heap.size, 4, none⟩ = some (.bool x.doubt) := cell_of_row W7 _ 4 _ _ (0, 0) hd7
            have f5 : W7.cell? ⟨wo.heap.size, 5, none⟩ = some (.int .i64 x.k) := cell_of_row W7 _ 5 _ _ (0, 0) hd7
            have f6 : W7.cell? ⟨wo.heap.size, 6, none⟩ = some (.string x.n) := cell_of_row W7 _ 6 _ _ (0, 0) hd7
            have f7 : W7.cell? ⟨wo.heap.size, 7, none⟩ = some (.string x.m) := cell_of_row W7 _ 7 _ _ (0, 0) hd7
            have f8 : W7.cell? ⟨wo.heap.size, 8, none⟩ = some (.int .i64 x.i) := cell_of_row W7 _ 8 _ _ (0, 0) hd7
            have f9 : W7.cell? ⟨wo.heap.size, 9, none⟩ = some (.int .i64 x.d) := cell_of_row W7 _ 9 _ _ (0, 0) hd7
            have f10 : W7.cell? ⟨wo.heap.size, 10, none⟩ = some (.slice x.A x.s.len x.c) := cell_of_row W7 _ 10 _ _ (0, 0) hd7
            have g0 : W7.cell? ⟨wq.heap.size, 0, none⟩ = some (.int .i64 0) := cell_of_row W7 _ 0 _ _ (0, 0) hx7
            have g1 : W7.cell? ⟨wq.heap.size, 1, none⟩ = some (.int .i64 y.kind) := cell_of_row W7 _ 1 _ _ (0, 0) hx7
            have g2 : W7.cell? ⟨wq.heap.size, 2, none⟩ = some (.bool y.pub) := cell_of_row W7 _ 2 _ _ (0, 0) hx7
            have g3 : W7.cell? ⟨wq.heap.size, 3, none⟩ = some (.slice y.nA y.names.length y.nc) := cell_of_row W7 _ 3 _ _ (0, 0) hx7
            have g4 : W7.cell? ⟨wq.heap.size, 4, none⟩ = some (.bool y.doubt) := cell_of_row W7 _ 4 _ _ (0, 0) hx7
            have g5 : W7.cell? ⟨wq.heap.size, 5, none⟩ = some (.int .i64 y.k) := cell_of_row W7 _ 5 _ _ (0, 0) hx7
            have g6 : W7.cell? ⟨wq.heap.size, 6, none⟩ = some (.string y.n) := cell_of_row W7 _ 6 _ _ (0, 0) hx7
            have g7 : W7.cell? ⟨wq.heap.size, 7, none⟩ = some (.string y.m) := cell_of_row W7 _ 7 _ _ (0, 0) hx7
            have g8 : W7.cell? ⟨wq.heap.size, 8, none⟩ = some (.int .i64 y.i) := cell_of_row W7 _ 8 _ _ (0, 0) hx7
            have g9 : W7.cell? ⟨wq.heap.size, 9, none⟩ = some (.int .i64 y.d) := cell_of_row W7 _ 9 _ _ (0, 0) hx7
            have g10 : W7.cell? ⟨wq.heap.size, 10, none⟩ = some (.slice y.A y.s.len y.c) := cell_of_row W7 _ 10 _ _ (0, 0) hx7
            have HI7 := Lib.hid (And.intro hi7 hz7)
            have HY7 := Lib.hid hyy
            clear hx7 hd7 hi7 hb7 hz7 hyy hzq hyo hB3 hC HX7
            go_wp2_with fail
            refine HC7.out.mono ?_
            rintro e w8 ⟨b8, rfl, hb8i, hb8⟩
            have HB8 := Lib.hid (HB7.out.2.trans (hb8.mono HB7.out.2.size))
            have hi8 : w8.heap[ib]? = some (.cells #[.int .i64 y.id] 3 (0, 0)) := (hb8.block _ HI7.out.2).trans HI7.out.1
            have HCn := Lib.hid (show Calls Tryz.prog 39 #[.slice (some ⟨b, o, none⟩) N dc, .func (.func 40) #[] #[.pointer (some ⟨ib, 0, none⟩)]] w8 fun e w' => e = .returned (.bool (ds.any fun y' => y'.id == y.id)) ∧ Below w8.heap.size w8 w' from by
              have h := containsFnD_any ds y.id ib _ dc w8 (HX.out w8 (HF.out w8 (HX3.out w8 HB8.out).2.2.2).1).2.2.1 (cell_of_row w8 _ 0 _ _ (0, 0) hi8)
              rw [HN.out] at h
              exact h)
            have HBi := Lib.hid hb8i.2
            obtain ⟨_, x1, _, _⟩ := HC.out w8 (HF.out w8 (HX3.out w8 HB8.out).2.2.2).1
            clear hb8i hb8 hi8 HC7 f0 f1 f2 f3 f4 f5 f6 f7 f8 f9 f10 g0 g1 g2 g3 g4 g5 g6 g7 g8 g9 g10
            cases b8 with
            | false =>
              have HE := Lib.hid (HFq.out.step (b1 := false) HY7.out HNs.out HBi.out)
              go_wp2
              go_roundg (N - (q + 1))
              case measure => rw [HR2.out.1]; have := HR2.out.2.1; omega
              case rel => exact ⟨q + 1, bf, rfl, by have := HR2.out.2.1; omega, by have h1 := HR2.out.2.1; have h2 := HLt.out; rw [wrap64_small (by omega) (by omega)]; simp, rfl, Lib.hid (by simpa using HE.out), HB8.out⟩
            | true =>
              obtain ⟨c8, Hc8⟩ : ∃ c8, Hid ((ds.any fun y' => y'.id == y.id) = c8) := ⟨_, Lib.hid rfl⟩
              have HE := Lib.hid (HFq.out.step (b1 := true) HY7.out HNs.out HBi.out)
              have HCm := Lib.hid (show Calls Tryz.prog 39 #[.slice (some ⟨b, o, none⟩) N dc, .func (.func 40) #[] #[.pointer (some ⟨ib, 0, none⟩)]] w8 fun e w' => e = .returned (.bool c8) ∧ Below w8.heap.size w8 w' from by
                have h := HCn.out
                rw [Hc8.out] at h
                exact h)
              clear HCn
              go_wp2_with fail
              refine HCm.out.mono ?_
              rintro e w9 ⟨rfl, hb9⟩
              have HB9 := Lib.hid (HB8.out.trans (hb9.mono HB8.out.size))
              clear hb9 HCm x1
              cases c8 with
              | false =>
                have HE2 := Lib.hid (show Fnd ds fs x true (q + 1) by have h := HE.out; rw [Hc8.out] at h; exact h)
                go_wp2
                go_roundg (N - (q + 1))
                case measure => rw [HR2.out.1]; have := HR2.out.2.1; omega
                case rel => exact ⟨q + 1, true, rfl, by have := HR2.out.2.1; omega, by have h1 := HR2.out.2.1; have h2 := HLt.out; rw [wrap64_small (by omega) (by omega)]; simp, rfl, HE2, HB9.out⟩
              | true =>
                have HE2 := Lib.hid (show Fnd ds fs x bf (q + 1) by have h := HE.out; rw [Hc8.out] at h; exact h)
                go_wp2
                go_roundg (N - (q + 1))
                case measure => rw [HR2.out.1]; have := HR2.out.2.1; omega
                case rel => exact ⟨q + 1, bf, rfl, by have := HR2.out.2.1; omega, by have h1 := HR2.out.2.1; have h2 := HLt.out; rw [wrap64_small (by omega) (by omega)]; simp, rfl, HE2, HB9.out⟩
        · obtain rfl : q = N := by omega
          obtain rfl : bf = true := by
            have h := HFq.out
            rw [← HL.out] at h
            exact h.done
          have HB9 := Lib.hid (HX3.out wq hBq).2.2.2
          clear HG hBq
          go_wp2
          go_roundg (q - (j + 1))
          case measure => rw [HR.out.1]; have := HR.out.2.2; omega
          case rel => exact ⟨j + 1, rfl, by have := HR.out.2.2; omega, by have h1 := HR.out.2.2; have h2 := HLt.out; rw [wrap64_small (by omega) (by omega)]; simp, HB9.out⟩
    · obtain rfl : j = N := by omega
      have HBo := Lib.hid hB
      clear HG hB
      obtain ⟨hWo, y0, y1, hsr⟩ := HF.out wo HBo.out
      obtain ⟨_, _, x2, x3⟩ := HC.out wo hWo
      have hnum := Lib.hid (show Calls Tryz.prog 34 #[.agg #[.slice uA M uc, .slice gA j gc], .agg #[.slice oA M' oc, .slice pA N' pc]] wo (fun e Y => Below wo.heap.size wo Y ∧ ∃ A c, SlD Y Y.heap.size A c fs ∧ e = .returned (.tuple #[.agg #[.slice uA M uc, .slice A j c], .int .i64 0])) from by
        obtain ⟨_, h1, _, h3, h4⟩ := HX.out wo hWo
        have h := bNumber_any u uA uc fs gA gc u' oA oc old pA pc wo h1 hsr HStr.out h3 h4 HD.out.2.2.2 (fun e he => by
          obtain ⟨x, hx, i, rfl, _⟩ := HK.out.2.2.2.2.2 e he
          exact HS1.out.2.2.2 x hx) (by rw [HL.out, ← HN.out]; exact HS1.out.2.2.1)
        rw [HM.out, HL.out, HM'.out, HN'.out] at h
        refine h.mono fun e w' h => ?_
        have h0 : nbrE u fs u' old = 0 := by
          unfold nbrE
          rw [HK.out.1, HE2.out]
          rfl
        obtain ⟨hb, ⟨hE, rfl⟩ | ⟨_, A, c, gs, hg, hl, hs, he⟩⟩ := h
        · exact absurd h0 hE
        · obtain rfl : fs = gs := NumG.uniq Hold.out ((HK.out.2.2.1).imp fun {a b} h _ => by omega) HK.out.2.2.2.1 hg
          exact ⟨hb, A, c, hs, by rw [he, HM.out, HL.out]⟩)
      clear hWo hsr
      go_wp2_with fail
      refine hnum.out.mono ?_
      rintro e w9 ⟨hb9, aA, ac, hs9, rfl⟩
      clear hnum y0 y1 x2 x3
      have HBz := Lib.hid (And.intro (HBo.out.trans (hb9.mono HBo.out.size)) hs9)
      clear hb9 hs9
      obtain ⟨V9, hV9⟩ : ∃ q, w9.alloc (.cells #[.slice uA M uc, .slice aA j ac] 40) = q := ⟨_, rfl⟩
      have hb9 : Below w9.heap.size w9 V9 := by rw [← hV9]; exact (Below.refl _ _).alloc (Nat.le_refl _) _
      have hr9 : V9.heap[w9.heap.size]? = some (.cells #[.slice uA M uc, .slice aA j ac] 40 (0, 0)) := by rw [← hV9]; exact heap_alloc_new _ _
      have x0 : V9.cell? ⟨w9.heap.size, 0, none⟩ = some (.slice uA M uc) := cell_of_row V9 _ 0 _ _ (0, 0) hr9
      have x1 : V9.cell? ⟨w9.heap.size, 1, none⟩ = some (.slice aA j ac) := cell_of_row V9 _ 1 _ _ (0, 0) hr9
      have hB9 := HBz.out.1.trans (hb9.mono HBz.out.1.size)
      obtain ⟨hW9, y0, y1, hsr⟩ := HF.out V9 hB9
      have HSm := Lib.hid (show Calls Tryz.prog 28 #[.agg #[.slice uA M uc, .slice aA j ac], .agg #[.slice uA M uc, .slice gA j gc]] V9 (fun e Y => e = .returned (.bool true) ∧ Below V9.heap.size V9 Y) from by
        have hu9 := (HX.out V9 hW9).2.1
        have h := sameSource_any u u uA uc uA uc fs fs aA ac gA gc V9 hu9 hu9 (HBz.out.2.keep hb9.size (fun p hp => hb9.cell hp)) hsr
        rw [HM.out, HL.out] at h
        refine h.mono fun e w' ⟨b, he, hi, hb⟩ => ?_
        obtain rfl : b = true := hi.2 ⟨rfl, eqDs_rfl fs⟩
        exact ⟨he, hb⟩)
      have HB9 := Lib.hid hB9
      clear hW9 hsr hB9 hb9 hr9
      go_wp2_with fail
      refine HSm.out.mono ?_
      rintro e w10 ⟨rfl, hb10⟩
      have HA := Lib.hid (HAw.out w10 (HF.out w10 (HB9.out.trans (hb10.mono HB9.out.size))).1)
      clear hb10 HSm hV9 x0 x1 y0 y1
      go_wp2_with fail
      refine HA.out.mono ?_
      rintro e w11 ⟨rfl, hb11⟩
      have HB11 := Lib.hid hb11
      clear hb11
      go_wp2
      go_ret
      exact ⟨rfl, HB11.out⟩
end Go.Proofs.YtacjjkbkhpdhnaaGreatDoor
