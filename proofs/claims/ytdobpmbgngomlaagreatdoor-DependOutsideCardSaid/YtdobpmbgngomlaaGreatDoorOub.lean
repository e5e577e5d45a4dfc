/- DependOutside: slices.Clone at modules, and the memory of the law's loops -/
import Derived.Test.YtdobpmbgngomlaaGreatDoorZnj
import Derived.Test.YtdobpmbgngomlaaGreatDoorZnl
namespace Go.Proofs.YtdobpmbgngomlaaGreatDoor
open Go.RowKit Go.Proofs Go.Shelf

def CloneMP (l : List Mo) (w : World) (e : Ending) (w' : World) : Prop :=
  ∃ v, e = .returned v ∧ w'.ownsRow w.heap.size 41 3 v l.length (moC l) ∧ Below w.heap.size w w'
set_option maxRecDepth 100000 in
set_option maxHeartbeats 1000000 in
theorem slcCloneM_any (l : List Mo) (ad : Addr) (c : Nat) (w : World) (hs : SlM w w.heap.size (some ad) c l) (hl : l.length ≤ 100) :
    Calls Tryz.prog 15 #[.slice (some ad) l.length c] w (CloneMP l w) := by
  obtain ⟨i0, hi, hz0, hz1, hz2⟩ := info_parts Tryz.infoModule
  have hc1 := hs.1
  have q22 : ∀ (w : World) (a : Option Addr) (n c n' c' : Nat), (binOp .eql 22 (.slice a n c) (.slice none n' c')).run Tryz.prog w = .ok (.bool a.isNone) w := fun w a n c n' c' => Lib.run_eql_slice_nil w _ _ a n c n' c' Tryz.underlying22
  have hnews : ∀ a', some ad = some a' → ∀ j u, (moC l)[j]? = some u → (w.alloc (.cells #[] 41)).cell? (a'.add j) = some u := by
    intro a' e j u hu
    cases e
    obtain ⟨k, x, q, h1, h2, rfl⟩ := moC_back l j u hu
    obtain ⟨b, o, e, hb, hcell⟩ := hs.2.2 (by intro e; subst e; simp at h1)
    cases e
    have h3 := (World.cell?_alloc_lt w (.cells #[] 41) ⟨b, o + k * 3 + q, none⟩ hb).trans ((hcell k x h1).1 q u h2)
    unfold Addr.add
    by_cases h0 : k * 3 + q = 0
    · rw [if_pos h0]
      rw [Nat.add_assoc, h0] at h3
      simpa using h3
    · rw [if_neg h0]
      rw [Nat.add_assoc] at h3
      exact h3
  have HN := Lib.hid hnews
  clear hnews hs
  have hrow := World.ownsRow_lit (base := w.heap.size) (e := 41) (size := 3) w #[] 0 (Nat.le_refl _) (by simp) rfl
  have HW := Lib.hid hrow
  clear hrow
  go_enter Tryz.func15, Tryz.ntmps15
  go_wp2_with (at_builtin; refine wpList_append_own_any _ rfl _ _ 22 rfl w.heap.size 41 i0 _ 3 64 Tryz.underlying22 hi hz0 hz1 hz2 rfl (by decide) _ 0 [] rfl HW.out (some ad) l.length c (moC l) rfl (moC_length l) (by simp) HN.out (moC_one l) (by unfold maxLen; omega) (by omega) (by simp) ?_; intro v' w1 hown' hgrow)
  go_ret
  refine ⟨_, rfl, ?_, ?_⟩
  · simpa using hown'
  · exact ((Below.refl _ _).alloc (Nat.le_refl _) _).trans (Keeps.to_below ((Keeps.refl (fun k => k < w.heap.size) _).grown hgrow (by rintro k hk; cases hk; simp)) (by simp) (by simp))

/-- x with the body of e. -/
def bodyE (e x : Dc) : Dc := ⟨x.id, x.kind, x.pub, x.nA, x.nc, x.names, x.doubt, e.k, e.n, e.m, e.i, e.d, e.A, e.c, e.s⟩
def ouF (e : Dc) (t : Int) (x : Dc) : Dc := if x.id = t then bodyE e x else x
def ouM (e : Dc) (t : Int) (m : Mo) (A : Option Addr) (c : Nat) : Mo := ⟨m.label, m.uA, m.uc, m.uses, A, c, m.ds.map (ouF e t)⟩
/-- The cells of a clone's row after q declarations. -/
def OuI (e : Dc) (t : Int) (m : Mo) (q : Nat) (cs : Array Value) : Prop :=
  ∀ (k : Nat) (x : Dc), m.ds[k]? = some x → ∀ (i : Nat) (v : Value), (if k < q then ouF e t x else x).cells[i]? = some v → cs[k * 11 + i]? = some v
def outW (X : World) (g p : Nat) (e : Dc) : World :=
  (((((X.setCell ⟨g, p, none⟩ (.int .i64 e.k)).setCell ⟨g, p + 1, none⟩ (.string e.n)).setCell ⟨g, p + 2, none⟩ (.string e.m)).setCell ⟨g, p + 3, none⟩ (.int .i64 e.i)).setCell ⟨g, p + 4, none⟩ (.int .i64 e.d)).setCell ⟨g, p + 5, none⟩ (.slice e.A e.s.len e.c)
def outCs (cs : Array Value) (p : Nat) (e : Dc) : Array Value :=
  (((((cs.setIfInBounds p (.int .i64 e.k)).setIfInBounds (p + 1) (.string e.n)).setIfInBounds (p + 2) (.string e.m)).setIfInBounds (p + 3) (.int .i64 e.i)).setIfInBounds (p + 4) (.int .i64 e.d)).setIfInBounds (p + 5) (.slice e.A e.s.len e.c)
theorem StB.outE {Wo X Y : World} {g : Nat} {cs : Array Value} (h : StB Wo X Y g cs) (hg : Wo.heap.size ≤ g) (p : Nat) (e : Dc) : StB Wo X (outW Y g p e) g (outCs cs p e) :=
  (((((h.set hg p _).set hg (p + 1) _).set hg (p + 2) _).set hg (p + 3) _).set hg (p + 4) _).set hg (p + 5) _
theorem outCs_out (cs : Array Value) (p : Nat) (e : Dc) (i : Nat) (h : i < p ∨ p + 6 ≤ i) : (outCs cs p e)[i]? = cs[i]? := by
  unfold outCs
  simp only [Array.getElem?_setIfInBounds]
  repeat rw [if_neg (by omega)]
theorem outCs_in (cs : Array Value) (p : Nat) (e : Dc) (h : p + 5 < cs.size) : (outCs cs p e)[p]? = some (.int .i64 e.k) ∧ (outCs cs p e)[p + 1]? = some (.string e.n) ∧ (outCs cs p e)[p + 2]? = some (.string e.m) ∧ (outCs cs p e)[p + 3]? = some (.int .i64 e.i) ∧ (outCs cs p e)[p + 4]? = some (.int .i64 e.d) ∧ (outCs cs p e)[p + 5]? = some (.slice e.A e.s.len e.c) := by
  unfold outCs
  simp only [Array.getElem?_setIfInBounds, Array.size_setIfInBounds]
  refine ⟨?_, ?_, ?_, ?_, ?_, ?_⟩ <;> simp <;> omega
theorem OuI.hit {e : Dc} {t : Int} {m : Mo} {q : Nat} {cs : Array Value} (h : OuI e t m q cs) {x : Dc} (hx : m.ds[q]? = some x) (ht : x.id = t) : OuI e t m (q + 1) (outCs cs (q * 11 + 5) e) := by
  have hq : ∀ i v, x.cells[i]? = some v → cs[q * 11 + i]? = some v := fun i v hv => h q x hx i v (by rw [if_neg (Nat.lt_irrefl q)]; exact hv)
  have hs : q * 11 + 10 < cs.size := (Array.getElem?_eq_some_iff.1 (hq 10 _ rfl)).1
  obtain ⟨b0, b1, b2, b3, b4, b5⟩ := outCs_in cs (q * 11 + 5) e (by omega)
  intro k y hy i v hv
  have hi : i < 11 := (Array.getElem?_eq_some_iff.1 hv).1
  by_cases hk : k = q
  · subst hk
    rw [hx] at hy
    cases hy
    rw [if_pos (Nat.lt_succ_self k), ouF, if_pos ht] at hv
    have hlow : ∀ j, j < 5 → (outCs cs (k * 11 + 5) e)[k * 11 + j]? = cs[k * 11 + j]? := fun j hj => outCs_out _ _ _ _ (.inl (by omega))
    match i, hi, hv with
    | 0, _, hv => rw [hlow 0 (by omega)]; exact hq 0 v hv
    | 1, _, hv => rw [hlow 1 (by omega)]; exact hq 1 v hv
    | 2, _, hv => rw [hlow 2 (by omega)]; exact hq 2 v hv
    | 3, _, hv => rw [hlow 3 (by omega)]; exact hq 3 v hv
    | 4, _, hv => rw [hlow 4 (by omega)]; exact hq 4 v hv
    | 5, _, hv => rw [← hv]; exact b0
    | 6, _, hv => rw [← hv]; exact b1
    | 7, _, hv => rw [← hv]; exact b2
    | 8, _, hv => rw [← hv]; exact b3
    | 9, _, hv => rw [← hv]; exact b4
    | 10, _, hv => rw [← hv]; exact b5
  · rw [outCs_out _ _ _ _ (by omega)]
    refine h k y hy i v ?_
    by_cases hlt : k < q
    · rwa [if_pos hlt, ← if_pos (c := k < q + 1) (by omega) (t := ouF e t y) (e := y)]
    · rwa [if_neg hlt, ← if_neg (c := k < q + 1) (by omega) (t := ouF e t y) (e := y)]
theorem OuI.miss {e : Dc} {t : Int} {m : Mo} {q : Nat} {cs : Array Value} (h : OuI e t m q cs) {x : Dc} (hx : m.ds[q]? = some x) (ht : ¬ x.id = t) : OuI e t m (q + 1) cs := by
  intro k y hy i v hv
  refine h k y hy i v ?_
  by_cases hk : k = q
  · subst hk
    rw [hx] at hy
    cases hy
    rw [if_pos (Nat.lt_succ_self k), ouF, if_neg ht] at hv
    rwa [if_neg (Nat.lt_irrefl k)]
  · by_cases hlt : k < q
    · rwa [if_pos hlt, ← if_pos (c := k < q + 1) (by omega) (t := ouF e t y) (e := y)]
    · rwa [if_neg hlt, ← if_neg (c := k < q + 1) (by omega) (t := ouF e t y) (e := y)]
/-- The turned module as it lies. -/
theorem ouM_ok {e : Dc} {t : Int} {m : Mo} {w X : World} {A : Option Addr} {c : Nat} (hm : m.Ok w w.heap.size) (he : e.s.Sl w w.heap.size e.A e.c) (hb : Below w.heap.size w X) (hcap : m.ds.length ≤ c ∧ c ≤ maxLen) (hrow : 0 < m.ds.length → ∃ (g : Nat) (cs : Array Value), A = some ⟨g, 0, none⟩ ∧ X.heap[g]? = some (.cells cs 44 (0, 0)) ∧ OuI e t m m.ds.length cs) : (ouM e t m A c).Ok X X.heap.size := by
  refine ⟨hm.1.keep hb.size fun p hp => hb.cell hp, ?_⟩
  show SlD X X.heap.size A c (m.ds.map (ouF e t))
  refine ⟨by simpa using hcap.1, hcap.2, fun hne => ?_⟩
  have hpos : 0 < m.ds.length := by
    rcases Nat.eq_zero_or_pos m.ds.length with h | h
    · exact absurd (by rw [List.length_eq_zero_iff.1 h]; rfl) hne
    · exact h
  obtain ⟨g, cs, h1, h2, h3⟩ := hrow hpos
  refine ⟨g, 0, h1, (Array.getElem?_eq_some_iff.1 h2).1, fun j y hy => ?_⟩
  rw [List.getElem?_map] at hy
  obtain ⟨x, hx, rfl⟩ := Option.map_eq_some_iff.1 hy
  have hj := (List.getElem?_eq_some_iff.1 hx).1
  obtain ⟨bx, ox, _, _, hall⟩ := hm.2.2.2 (by intro e; rw [e] at hj; simp at hj)
  have hxok := (hall j x hx).2
  refine ⟨fun q v hq => ?_, ?_⟩
  · rw [Nat.zero_add, cell_of_row X _ _ _ _ _ h2]
    exact h3 j x hx q v (by rw [if_pos hj]; exact hq)
  · have hn := hxok.1.keep (B' := X.heap.size) (w' := X) hb.size fun p hp => hb.cell hp
    unfold ouF
    split
    · exact ⟨hn, he.keep hb.size fun p hp => hb.cell hp⟩
    · exact ⟨hn, hxok.2.keep hb.size fun p hp => hb.cell hp⟩
theorem ouM_st (e : Dc) (o : ByteArray × Int) (m : Mo) (A : Option Addr) (c : Nat) (h : m.label = o.1) : StM (fun n => n ≠ o) m (ouM e o.2 m A c) := by
  refine ⟨rfl, stDs_of (by simp [ouM]) fun j x y hx hy => ?_⟩
  simp only [ouM, List.getElem?_map, hx, Option.map_some, Option.some.injEq] at hy
  subst hy
  unfold ouF
  split
  · rename_i ht
    exact ⟨rfl, fun hne => absurd (Prod.ext h ht) hne⟩
  · exact ⟨rfl, fun _ => ⟨rfl, rfl, rfl, rfl, rfl, rfl⟩⟩
/-- A module of the new list: the old one, or it has been turned and checked. -/
def MoK (e : Dc) (o : ByteArray × Int) (X : World) (m m' : Mo) : Prop :=
  m' = m ∨ (m.label = o.1 ∧ m'.err = 0 ∧ ∃ A c, m' = ouM e o.2 m A c ∧ (m.ds.length ≤ c ∧ c ≤ maxLen) ∧ (0 < m.ds.length → ∃ (g : Nat) (cs : Array Value), A = some ⟨g, 0, none⟩ ∧ X.heap[g]? = some (.cells cs 44 (0, 0)) ∧ OuI e o.2 m m.ds.length cs))
theorem MoK.keep {e : Dc} {o : ByteArray × Int} {X Y : World} {m m' : Mo} (h : MoK e o X m m') (hk : ∀ (k : Nat) (cs : Array Value), X.heap[k]? = some (.cells cs 44 (0, 0)) → Y.heap[k]? = some (.cells cs 44 (0, 0))) : MoK e o Y m m' := by
  rcases h with h | ⟨h1, h2, A, c, h3, h4, h5⟩
  · exact .inl h
  · refine .inr ⟨h1, h2, A, c, h3, h4, fun hp => ?_⟩
    obtain ⟨g, cs, e1, e2, e3⟩ := h5 hp
    exact ⟨g, cs, e1, hk g cs e2, e3⟩
theorem MoK.ok {e : Dc} {o : ByteArray × Int} {w X : World} {m m' : Mo} (h : MoK e o X m m') (hm : m.Ok w w.heap.size) (he : e.s.Sl w w.heap.size e.A e.c) (hb : Below w.heap.size w X) : m'.Ok X X.heap.size := by
  rcases h with rfl | ⟨h1, h2, A, c, rfl, h4, h5⟩
  · exact ⟨hm.1.keep hb.size fun p hp => hb.cell hp, hm.2.keep hb.size fun p hp => hb.cell hp⟩
  · exact ouM_ok hm he hb h4 h5
theorem MoK.st {e : Dc} {o : ByteArray × Int} {X : World} {m m' : Mo} (h : MoK e o X m m') : StM (fun n => n ≠ o) m m' := by
  rcases h with rfl | ⟨h1, h2, A, c, rfl, _⟩
  · exact StM.refl _ _
  · exact ouM_st e o m A c h1
theorem MoK.err {e : Dc} {o : ByteArray × Int} {X : World} {m m' : Mo} (h : MoK e o X m m') (hm : m.err = 0) : m'.err = 0 := by
  rcases h with rfl | ⟨_, h2, _⟩
  · exact hm
  · exact h2
/-- The row of the new list. -/
def NxR (X : World) (g : Nat) (l' : List Mo) : Prop := ∃ cs, X.heap[g]? = some (.cells cs 41 (0, 0)) ∧ ∀ (k : Nat) (m' : Mo), l'[k]? = some m' → ∀ (q : Nat) (v : Value), m'.cells[q]? = some v → cs[k * 3 + q]? = some v
theorem NxR.keep {X Y : World} {g : Nat} {l' : List Mo} (h : NxR X g l') (hk : Y.heap[g]? = X.heap[g]?) : NxR Y g l' := by
  obtain ⟨cs, h1, h2⟩ := h
  exact ⟨cs, hk.trans h1, h2⟩
theorem NxR.cell {X : World} {g : Nat} {l' : List Mo} (h : NxR X g l') {j : Nat} (hj : j < l'.length) : ∃ v0 v1 v2, X.cell? ⟨g, j * 3, none⟩ = some v0 ∧ X.cell? ⟨g, j * 3 + 1, none⟩ = some v1 ∧ X.cell? ⟨g, j * 3 + 2, none⟩ = some v2 ∧ ∀ p, X.frozen? ⟨g, p, none⟩ = false := by
  obtain ⟨cs, h1, h2⟩ := h
  have hx : l'[j]? = some l'[j] := List.getElem?_eq_getElem hj
  exact ⟨_, _, _, (cell_of_row X g (j * 3) cs _ (0, 0) h1).trans (h2 j _ hx 0 _ rfl), (cell_of_row X g (j * 3 + 1) cs _ (0, 0) h1).trans (h2 j _ hx 1 _ rfl), (cell_of_row X g (j * 3 + 2) cs _ (0, 0) h1).trans (h2 j _ hx 2 _ rfl), fun p => frozen_of_row X g p cs _ h1⟩
def moW (X : World) (g p : Nat) (v0 v1 v2 : Value) : World := ((X.setCell ⟨g, p, none⟩ v0).setCell ⟨g, p + 1, none⟩ v1).setCell ⟨g, p + 2, none⟩ v2
theorem NxR.set {X : World} {g : Nat} {l' : List Mo} (h : NxR X g l') {j : Nat} (hj : j < l'.length) (m' : Mo) {v0 v1 v2 : Value} (hm : m'.cells = #[v0, v1, v2]) : NxR (moW X g (j * 3) v0 v1 v2) g (l'.set j m') := by
  obtain ⟨cs, h1, h2⟩ := h
  have hs : j * 3 + 2 < cs.size := (Array.getElem?_eq_some_iff.1 (h2 j _ (List.getElem?_eq_getElem hj) 2 _ rfl)).1
  refine ⟨((cs.setIfInBounds (j * 3) v0).setIfInBounds (j * 3 + 1) v1).setIfInBounds (j * 3 + 2) v2, heap_setCell_same _ _ _ _ _ _ (heap_setCell_same _ _ _ _ _ _ (heap_setCell_same _ _ _ _ _ _ h1)), fun k x hx q v hq => ?_⟩
  have hq3 : q < 3 := (Array.getElem?_eq_some_iff.1 hq).1
  by_cases hk : k = j
  · subst hk
    rw [List.getElem?_set_self hj] at hx
    cases hx
    rw [hm] at hq
    match q, hq3, hq with
    | 0, _, hq => rw [← hq]; simp [Array.getElem?_setIfInBounds]; omega
    | 1, _, hq => rw [← hq]; simp [Array.getElem?_setIfInBounds]; omega
    | 2, _, hq => rw [← hq]; simp [Array.getElem?_setIfInBounds]; omega
  · rw [List.getElem?_set_ne (fun e => hk e.symm)] at hx
    simp only [Array.getElem?_setIfInBounds, Array.size_setIfInBounds]
    rw [if_neg (by omega), if_neg (by omega), if_neg (by omega)]
    exact h2 k x hx q v hq
theorem slM_of_nx {X : World} {g c : Nat} {l' : List Mo} (h : NxR X g l') (hcap : l'.length ≤ c ∧ c ≤ maxLen) (hok : ∀ (j : Nat) (m' : Mo), l'[j]? = some m' → m'.Ok X X.heap.size) : SlM X X.heap.size (some ⟨g, 0, none⟩) c l' := by
  obtain ⟨cs, h1, h2⟩ := h
  refine ⟨hcap.1, hcap.2, fun _ => ⟨g, 0, rfl, (Array.getElem?_eq_some_iff.1 h1).1, fun j m' hj => ⟨fun q v hq => ?_, hok j m' hj⟩⟩⟩
  rw [Nat.zero_add, cell_of_row X _ _ _ _ _ h1]
  exact h2 j m' hj q v hq
end Go.Proofs.YtdobpmbgngomlaaGreatDoor
