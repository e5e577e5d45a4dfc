/- Forests with scopes: what holds at every node; what rebuilding keeps, and how it is undone -/
import Derived.Test.YtacjjkbkhpdhnaaGreatDoorZpc
import Derived.Test.YtacjjkbkhpdhnaaGreatDoorZlj
import Derived.Test.YtacjjkbkhpdhnaaGreatDoorZlp
import Derived.Test.YtacjjkbkhpdhnaaGreatDoorZpg
import Derived.Test.YtacjjkbkhpdhnaaGreatDoorZpo
import Derived.Test.YtacjjkbkhpdhnaaGreatDoorZpn
import Derived.Test.YtacjjkbkhpdhnaaGreatDoorUnb
namespace Go.Proofs.YtacjjkbkhpdhnaaGreatDoor
open Go Go.RowKit Go.Proofs Go.Shelf

abbrev NV := Nx → Nat → List ByteArray → Prop
/-- Each node of the parts of a node with kind pk and names pn, pm, from the part j on, meets V with the names in scope there. -/
def Pt.AllV (V : NV) : Pt → Int → ByteArray → ByteArray → Nat → List ByteArray → Prop
  | .nil, _, _, _, _, _ => True
  | .cons k n m i d s r, pk, pn, pm, j, sc => V ⟨k, n, m, i, d⟩ s.len (sc ++ bndB pk pn pm j) ∧ s.AllV V k n m 0 (sc ++ bndB pk pn pm j) ∧ r.AllV V pk pn pm (j + 1) sc
theorem Pt.AllV.imp {V V' : NV} (H : ∀ x len sc, V x len sc → V' x len sc) : ∀ {s : Pt} {pk : Int} {pn pm : ByteArray} {j : Nat} {sc : List ByteArray}, s.AllV V pk pn pm j sc → s.AllV V' pk pn pm j sc
  | .nil, _, _, _, _, _, _ => trivial
  | .cons .., _, _, _, _, _, h => ⟨H _ _ _ h.1, h.2.1.imp H, h.2.2.imp H⟩
theorem Pt.AllV.and {V V' : NV} : ∀ {s : Pt} {pk : Int} {pn pm : ByteArray} {j : Nat} {sc : List ByteArray}, s.AllV V pk pn pm j sc → s.AllV V' pk pn pm j sc → s.AllV (fun x len sc => V x len sc ∧ V' x len sc) pk pn pm j sc
  | .nil, _, _, _, _, _, _, _ => trivial
  | .cons .., _, _, _, _, _, h, h' => ⟨⟨h.1, h'.1⟩, h.2.1.and h'.2.1, h.2.2.and h'.2.2⟩
theorem Pt.len_zero {s : Pt} (h : s.len = 0) : s = .nil := by
  cases s with
  | nil => rfl
  | cons => simp [Pt.len] at h
theorem rebL_zero {g : Repl} {k : Int} {n m : ByteArray} {i d : Int} {s r : Pt} {pk : Int} {pn pm : ByteArray} {j : Nat} {sc : List ByteArray} (h : (rebL g (.cons k n m i d s r) pk pn pm j sc).1 = 0) :
    ∃ y u v, g ⟨k, n, m, i, d⟩ (sc ++ bndB pk pn pm j) = (0, y) ∧ rebL g s k n m 0 (sc ++ bndB pk pn pm j) = (0, u) ∧ rebL g r pk pn pm (j + 1) sc = (0, v) ∧ rebL g (.cons k n m i d s r) pk pn pm j sc = (0, .cons y.k y.n y.m y.i y.d u v) := by
  rw [rebL] at h ⊢
  simp only at h ⊢
  by_cases h1 : (g ⟨k, n, m, i, d⟩ (sc ++ bndB pk pn pm j)).1 = 0
  · rw [if_pos h1] at h ⊢
    by_cases h2 : (rebL g s k n m 0 (sc ++ bndB pk pn pm j)).1 = 0
    · rw [if_pos h2] at h ⊢
      by_cases h3 : (rebL g r pk pn pm (j + 1) sc).1 = 0
      · rw [if_pos h3]
        exact ⟨_, _, _, Prod.ext h1 rfl, Prod.ext h2 rfl, Prod.ext h3 rfl, rfl⟩
      · rw [if_neg h3] at h
        exact absurd h h3
    · rw [if_neg h2] at h
      exact absurd h h2
  · rw [if_neg h1] at h
    exact absurd h h1
theorem rebL_mk {g : Repl} {k : Int} {n m : ByteArray} {i d : Int} {s r : Pt} {pk : Int} {pn pm : ByteArray} {j : Nat} {sc : List ByteArray} {y : Nx} {u v : Pt} (h1 : g ⟨k, n, m, i, d⟩ (sc ++ bndB pk pn pm j) = (0, y)) (h2 : rebL g s k n m 0 (sc ++ bndB pk pn pm j) = (0, u)) (h3 : rebL g r pk pn pm (j + 1) sc = (0, v)) :
    rebL g (.cons k n m i d s r) pk pn pm j sc = (0, .cons y.k y.n y.m y.i y.d u v) := by
  rw [rebL]
  simp only [h1, h2, h3, if_true]
/-- What rebuilding keeps. -/
theorem reb_pres {g : Repl} {V V' : NV} (H : ∀ x len sc y, V x len sc → g x sc = (0, y) → V' y len sc ∧ (len = 0 ∨ y = x)) : ∀ (s : Pt) (pk : Int) (pn pm : ByteArray) (j : Nat) (sc : List ByteArray) (t : Pt), s.AllV V pk pn pm j sc → rebL g s pk pn pm j sc = (0, t) → t.AllV V' pk pn pm j sc ∧ t.len = s.len
  | .nil, _, _, _, _, _, t, _, h => by
    rw [rebL] at h
    cases h
    exact ⟨trivial, rfl⟩
  | .cons k n m i d s r, pk, pn, pm, j, sc, t, hv, h => by
    obtain ⟨y, u, v, h1, h2, h3, h4⟩ := rebL_zero (congrArg Prod.fst h)
    rw [h] at h4
    simp only [Prod.mk.injEq, true_and] at h4
    subst h4
    obtain ⟨hv1, hv2, hv3⟩ := hv
    obtain ⟨a1, a2⟩ := reb_pres H s k n m 0 _ u hv2 h2
    obtain ⟨b1, b2⟩ := reb_pres H r pk pn pm (j + 1) sc v hv3 h3
    obtain ⟨c1, c2⟩ := H _ _ _ _ hv1 h1
    refine ⟨⟨by rw [a2]; exact c1, ?_, b1⟩, by simp only [Pt.len, b2]⟩
    rcases c2 with c2 | rfl
    · rw [Pt.len_zero (a2.trans c2)]
      trivial
    · exact a1
/-- How rebuilding is undone. -/
theorem reb_inv {g g' : Repl} {V : NV} (H : ∀ x len sc y, V x len sc → g x sc = (0, y) → g' y sc = (0, x) ∧ (len = 0 ∨ y = x)) : ∀ (s : Pt) (pk : Int) (pn pm : ByteArray) (j : Nat) (sc : List ByteArray) (t : Pt), s.AllV V pk pn pm j sc → rebL g s pk pn pm j sc = (0, t) → rebL g' t pk pn pm j sc = (0, s)
  | .nil, _, _, _, _, _, t, _, h => by
    rw [rebL] at h
    cases h
    rfl
  | .cons k n m i d s r, pk, pn, pm, j, sc, t, hv, h => by
    obtain ⟨y, u, v, h1, h2, h3, h4⟩ := rebL_zero (congrArg Prod.fst h)
    rw [h] at h4
    simp only [Prod.mk.injEq, true_and] at h4
    subst h4
    obtain ⟨hv1, hv2, hv3⟩ := hv
    have a1 := reb_inv H s k n m 0 _ u hv2 h2
    have b1 := reb_inv H r pk pn pm (j + 1) sc v hv3 h3
    obtain ⟨c1, c2⟩ := H _ _ _ _ hv1 h1
    have e := rebL_mk (g := g') (k := y.k) (n := y.n) (m := y.m) (i := y.i) (d := y.d) (s := u) (r := v) (pk := pk) (pn := pn) (pm := pm) (j := j) (sc := sc) (y := ⟨k, n, m, i, d⟩) (u := s) (v := r) c1 ?_ b1
    · exact e
    · rcases c2 with c2 | rfl
      · have hs := Pt.len_zero c2
        subst hs
        have hu : u = .nil := by
          rw [rebL] at h2
          cases h2
          rfl
        subst hu
        rfl
      · exact a1
/-- Where rebuilding meets no error. -/
theorem reb_ok {g : Repl} {V : NV} (H : ∀ x len sc, V x len sc → (g x sc).1 = 0) : ∀ (s : Pt) (pk : Int) (pn pm : ByteArray) (j : Nat) (sc : List ByteArray), s.AllV V pk pn pm j sc → (rebL g s pk pn pm j sc).1 = 0
  | .nil, _, _, _, _, _, _ => rfl
  | .cons k n m i d s r, pk, pn, pm, j, sc, hv => by
    obtain ⟨hv1, hv2, hv3⟩ := hv
    have h1 := H _ _ _ hv1
    have h2 := reb_ok H s k n m 0 _ hv2
    have h3 := reb_ok H r pk pn pm (j + 1) sc hv3
    rw [rebL_mk (Prod.ext h1 rfl) (Prod.ext h2 rfl) (Prod.ext h3 rfl)]
/-- The depths of the nodes of a forest, and their number. -/
def Pt.deps : Nat → Pt → List Nat
  | _, .nil => []
  | dp, .cons _ _ _ _ _ s r => dp :: (s.deps (dp + 1) ++ r.deps dp)
theorem reb_deps {g : Repl} : ∀ (s : Pt) (pk : Int) (pn pm : ByteArray) (j : Nat) (sc : List ByteArray) (t : Pt) (dp : Nat), rebL g s pk pn pm j sc = (0, t) → t.deps dp = s.deps dp
  | .nil, _, _, _, _, _, t, _, h => by
    rw [rebL] at h
    cases h
    rfl
  | .cons k n m i d s r, pk, pn, pm, j, sc, t, dp, h => by
    obtain ⟨y, u, v, h1, h2, h3, h4⟩ := rebL_zero (congrArg Prod.fst h)
    rw [h] at h4
    simp only [Prod.mk.injEq, true_and] at h4
    subst h4
    simp only [Pt.deps, reb_deps s k n m 0 _ u (dp + 1) h2, reb_deps r pk pn pm (j + 1) sc v dp h3]
/-- A node with its parts: all of it meets V. -/
def AllN (V : NV) (x : Nx) (s : Pt) : Prop := V x s.len [] ∧ s.AllV V x.k x.n x.m 0 []
theorem rebN_zero {g : Repl} {x : Nx} {s : Pt} {sc : List ByteArray} (h : (rebN g x s sc).1 = 0) : ∃ y u, g x sc = (0, y) ∧ rebL g s x.k x.n x.m 0 sc = (0, u) ∧ rebN g x s sc = (0, y, u) := by
  rw [rebN] at h ⊢
  simp only at h ⊢
  by_cases h1 : (g x sc).1 = 0
  · rw [if_pos h1] at h ⊢
    by_cases h2 : (rebL g s x.k x.n x.m 0 sc).1 = 0
    · rw [if_pos h2]
      exact ⟨_, _, Prod.ext h1 rfl, Prod.ext h2 rfl, rfl⟩
    · rw [if_neg h2] at h
      exact absurd h h2
  · rw [if_neg h1] at h
    exact absurd h h1
theorem rebN_mk {g : Repl} {x y : Nx} {s u : Pt} {sc : List ByteArray} (h1 : g x sc = (0, y)) (h2 : rebL g s x.k x.n x.m 0 sc = (0, u)) : rebN g x s sc = (0, y, u) := by
  rw [rebN]
  simp only [h1, h2, if_true]
theorem rebN_pres {g : Repl} {V V' : NV} (H : ∀ x len sc y, V x len sc → g x sc = (0, y) → V' y len sc ∧ (len = 0 ∨ y = x)) {x y : Nx} {s u : Pt} (hv : AllN V x s) (h : rebN g x s [] = (0, y, u)) : AllN V' y u ∧ u.len = s.len := by
  obtain ⟨y', u', h1, h2, h3⟩ := rebN_zero (congrArg Prod.fst h)
  rw [h] at h3
  simp only [Prod.mk.injEq, true_and] at h3
  obtain ⟨rfl, rfl⟩ := h3
  obtain ⟨a1, a2⟩ := reb_pres H s x.k x.n x.m 0 [] _ hv.2 h2
  obtain ⟨c1, c2⟩ := H _ _ _ _ hv.1 h1
  refine ⟨⟨by rw [a2]; exact c1, ?_⟩, a2⟩
  rcases c2 with c2 | rfl
  · rw [Pt.len_zero (a2.trans c2)]
    trivial
  · exact a1
theorem rebN_inv {g g' : Repl} {V : NV} (H : ∀ x len sc y, V x len sc → g x sc = (0, y) → g' y sc = (0, x) ∧ (len = 0 ∨ y = x)) {x y : Nx} {s u : Pt} (hv : AllN V x s) (h : rebN g x s [] = (0, y, u)) : rebN g' y u [] = (0, x, s) := by
  obtain ⟨y', u', h1, h2, h3⟩ := rebN_zero (congrArg Prod.fst h)
  rw [h] at h3
  simp only [Prod.mk.injEq, true_and] at h3
  obtain ⟨rfl, rfl⟩ := h3
  obtain ⟨c1, c2⟩ := H _ _ _ _ hv.1 h1
  refine rebN_mk c1 ?_
  rcases c2 with c2 | rfl
  · have hs := Pt.len_zero c2
    subst hs
    have hu : u = .nil := by
      rw [rebL] at h2
      cases h2
      rfl
    subst hu
    rfl
  · exact reb_inv H s _ _ _ 0 [] _ hv.2 h2
theorem rebN_ok {g : Repl} {V : NV} (H : ∀ x len sc, V x len sc → (g x sc).1 = 0) {x : Nx} {s : Pt} (hv : AllN V x s) : (rebN g x s []).1 = 0 := by
  have h1 := H _ _ _ hv.1
  have h2 := reb_ok H s x.k x.n x.m 0 [] hv.2
  rw [rebN_mk (Prod.ext h1 rfl) (Prod.ext h2 rfl)]
theorem rebN_deps {g : Repl} {x y : Nx} {s u : Pt} (h : rebN g x s [] = (0, y, u)) (dp : Nat) : u.deps dp = s.deps dp := by
  obtain ⟨y', u', h1, h2, h3⟩ := rebN_zero (congrArg Prod.fst h)
  rw [h] at h3
  simp only [Prod.mk.injEq, true_and] at h3
  obtain ⟨rfl, rfl⟩ := h3
  exact reb_deps s _ _ _ 0 [] _ dp h2

/-! ### from forests in memory -/
theorem Fo.pre_all (Q : Int → ByteArray → ByteArray → Int → Int → Nat → Prop) : ∀ (s : Fo) (dp : Nat) (pk : Int) (pn pm : ByteArray) (j : Nat) (sc : List ByteArray), (∀ x ∈ s.pre dp, Q x.k x.n x.m x.i x.d x.len) ↔ s.pt.AllV (fun x len _ => Q x.k x.n x.m x.i x.d len) pk pn pm j sc
  | .nil, _, _, _, _, _, _ => by simp [Fo.pre, Fo.pt, Pt.AllV]
  | .cons k n m i d A c s r, dp, pk, pn, pm, j, sc => by
    simp only [Fo.pre, Fo.pt, Pt.AllV, List.mem_cons, List.mem_append]
    rw [← Fo.pre_all Q s (dp + 1) k n m 0 (sc ++ bndB pk pn pm j), ← Fo.pre_all Q r dp pk pn pm (j + 1) sc, Fo.pt_len]
    constructor
    · intro h
      exact ⟨h ⟨dp, k, n, m, i, d, A, s.len, c⟩ (.inl rfl), fun x hx => h x (.inr (.inl hx)), fun x hx => h x (.inr (.inr hx))⟩
    · rintro ⟨h1, h2, h3⟩ x (rfl | hx | hx)
      · exact h1
      · exact h2 x hx
      · exact h3 x hx
theorem Fo.vis_all (Q : Int → ByteArray → ByteArray → Int → Int → Nat → Prop) : ∀ (s : Fo) (pk : Int) (pn pm : ByteArray) (j : Nat) (sc : List ByteArray), (∀ x ∈ s.vis, Q x.k x.n x.m x.i x.d x.len) ↔ s.pt.AllV (fun x len _ => Q x.k x.n x.m x.i x.d len) pk pn pm j sc
  | .nil, _, _, _, _, _ => by simp [Fo.vis, Fo.pt, Pt.AllV]
  | .cons k n m i d A c s r, pk, pn, pm, j, sc => by
    simp only [Fo.vis, Fo.pt, Pt.AllV, List.mem_cons, List.mem_append]
    rw [← Fo.vis_all Q s k n m 0 (sc ++ bndB pk pn pm j), ← Fo.vis_all Q r pk pn pm (j + 1) sc, Fo.pt_len]
    constructor
    · intro h
      exact ⟨h ⟨_, k, n, m, i, d, A, s.len, c⟩ (.inr (.inl rfl)), fun x hx => h x (.inr (.inr hx)), fun x hx => h x (.inl hx)⟩
    · rintro ⟨h1, h2, h3⟩ x (hx | rfl | hx)
      · exact h3 x hx
      · exact h1
      · exact h2 x hx
theorem Fo.pre_deps : ∀ (s : Fo) (dp : Nat), (s.pre dp).map Nd.dep = s.pt.deps dp
  | .nil, _ => rfl
  | .cons k n m i d A c s r, dp => by
    simp only [Fo.pre, Fo.pt, Pt.deps, List.map_cons, List.map_append, Fo.pre_deps s (dp + 1), Fo.pre_deps r dp]
theorem boundBy_eq (k : Int) (n m : ByteArray) (j : Nat) : boundBy k n m j = bndB k n m j := by
  unfold boundBy bndB
  have e1 : ((j : Int) = 1) = (j = 1) := propext (by omega)
  have e2 : ((j : Int) = 2) = (j = 2) := propext (by omega)
  simp only [e1, e2]
  by_cases h6 : k = 6
  · simp [h6]
  · simp [h6]
theorem hasS_hasN (l : List ByteArray) (s : ByteArray) : hasS l s = hasN l s := by
  unfold hasS hasN
  congr 1
  funext v
  rw [Bool.eq_iff_iff, beq_iff_eq, beq_iff_eq, ByteArray.toList_eq, ByteArray.toList_eq]
  exact eq_comm
/-- No variable is free: each is in scope. -/
theorem Fo.free_all : ∀ (s : Fo) (pk : Int) (pn pm : ByteArray) (j : Nat) (sc : List ByteArray), s.pt.AllV (fun x len _ => x.k = 3 → len = 0) pk pn pm j sc → (s.free (fun q => sc ++ boundBy pk pn pm q) j = false ↔ s.pt.AllV (fun x _ sc => x.k = 3 → hasN sc x.n = true) pk pn pm j sc)
  | .nil, _, _, _, _, _, _ => by simp [Fo.free, Fo.pt, Pt.AllV]
  | .cons k n m i d A c s r, pk, pn, pm, j, sc, h => by
    obtain ⟨h1, h2, h3⟩ := h
    simp only [Fo.free, Fo.pt, Pt.AllV, Bool.or_eq_false_iff]
    rw [Fo.free_all r pk pn pm (j + 1) sc h3]
    by_cases hk : k = 3
    · rw [if_pos hk]
      have hl := h1 hk
      rw [Fo.pt_len] at hl
      have hs : s = .nil := by
        cases s with
        | nil => rfl
        | cons => simp [Fo.len] at hl
      subst hs
      rw [hasS_hasN, boundBy_eq]
      simp [hk, Fo.pt, Pt.AllV]
    · rw [if_neg hk]
      simp only [boundBy_eq pk pn pm j]
      rw [Fo.free_all s k n m 0 (sc ++ bndB pk pn pm j) h2]
      simp [hk]
theorem nodeFree_all {k : Int} {n m : ByteArray} {i d : Int} {s : Fo} (h : AllN (fun x len _ => x.k = 3 → len = 0) ⟨k, n, m, i, d⟩ s.pt) : nodeFree k n m s [] = false ↔ AllN (fun x _ sc => x.k = 3 → hasN sc x.n = true) ⟨k, n, m, i, d⟩ s.pt := by
  unfold nodeFree AllN
  by_cases hk : k = 3
  · rw [if_pos hk]
    have hl := h.1 hk
    rw [Fo.pt_len] at hl
    have hs : s = .nil := by
      cases s with
      | nil => rfl
      | cons => simp [Fo.len] at hl
    subst hs
    rw [hasS_hasN]
    simp [hk, Fo.pt, Pt.AllV]
  · rw [if_neg hk, Fo.free_all s k n m 0 [] h.2]
    simp [hk]
end Go.Proofs.YtacjjkbkhpdhnaaGreatDoor
/- Binding and unbinding a node, and back -/
namespace Go.Proofs.YtacjjkbkhpdhnaaGreatDoor
open Go Go.RowKit Go.Proofs Go.Shelf

theorem empty_iff {n : ByteArray} : n.toList.isEmpty = true ↔ n = ⟨#[]⟩ := by
  rw [ByteArray.toList_eq]
  constructor
  · intro h
    have : n.data.toList = [] := by simpa using h
    exact ByteArray.ext (Array.ext' this)
  · rintro rfl
    rfl
theorem label_ne {l : ByteArray} (h : labelB l = true) : l ≠ ⟨#[]⟩ := by
  rintro rfl
  exact absurd h (by rw [show labelB ⟨#[]⟩ = false by kernel_rfl]; simp)
theorem err3 {n m : ByteArray} {i d : Int} {len : Nat} : nodeE 3 n m i d len = 0 ↔ (nameB n = true ∧ m = ⟨#[]⟩ ∧ i = 0 ∧ d = 0 ∧ len = 0) := by
  have e : nodeE 3 n m i d len = if argB 1 0 0 n m i d len then 1 else if namesE 3 n m 1 = 0 then numE 3 i d else namesE 3 n m 1 := rfl
  rw [e]
  cases hn : nameB n <;> cases hm : m.toList.isEmpty
  all_goals simp only [argB, namesE, nmB, numE, numB, hn, hm]
  · have hm' : m ≠ ⟨#[]⟩ := fun e => by rw [empty_iff.2 e] at hm; cases hm
    simp
  · simp
    split <;> simp
  · have hm' : m ≠ ⟨#[]⟩ := fun e => by rw [empty_iff.2 e] at hm; cases hm
    simp [hm']
  · have hm' := empty_iff.1 hm
    by_cases hi : i = 0 <;> by_cases hd : d = 0 <;> by_cases hl : len = 0 <;> simp [hi, hd, hl, hm']
    all_goals omega
theorem err4 {n m : ByteArray} {i d : Int} {len : Nat} : nodeE 4 n m i d len = 0 ↔ (nameB n = true ∧ nameB m = true ∧ i = 0 ∧ d = 0 ∧ len = 0) := by
  have e : nodeE 4 n m i d len = if argB 2 0 0 n m i d len then 1 else if namesE 4 n m 2 = 0 then numE 4 i d else namesE 4 n m 2 := rfl
  rw [e]
  cases hn : nameB n <;> cases hm : nameB m
  all_goals simp only [argB, namesE, nmB, numE, numB, hn, hm]
  · simp
    split <;> simp
  · simp
    split <;> simp
  · simp
    split <;> simp
  · by_cases hi : i = 0 <;> by_cases hd : d = 0 <;> by_cases hl : len = 0 <;> simp [hi, hd, hl]
    all_goals omega
theorem err5 {n m : ByteArray} {i d : Int} {len : Nat} : nodeE 5 n m i d len = 0 ↔ ((n = ⟨#[]⟩ ∨ labelB n = true) ∧ m = ⟨#[]⟩ ∧ d = 0 ∧ len = 0 ∧ 1 ≤ i ∧ i ≤ 999999) := by
  have e : nodeE 5 n m i d len = if argB 1 1 0 n m i d len then 1 else if namesE 5 n m 1 = 0 then numE 5 i d else namesE 5 n m 1 := rfl
  rw [e]
  have hem : (n = ⟨#[]⟩ ∨ labelB n = true) ↔ (n.toList.isEmpty || labelB n) = true := by rw [Bool.or_eq_true, empty_iff]
  rw [hem]
  cases hn : (n.toList.isEmpty || labelB n) <;> cases hm : m.toList.isEmpty
  all_goals simp only [argB, namesE, nmB, numE, numB, hn, hm]
  · simp
  · simp
    split <;> simp
  · have hm' : m ≠ ⟨#[]⟩ := fun e => by rw [empty_iff.2 e] at hm; cases hm
    simp [hm']
  · have hm' := empty_iff.1 hm
    by_cases hd : d = 0 <;> by_cases hl : len = 0 <;> by_cases hi1 : 1 ≤ i <;> by_cases hi2 : i ≤ 999999 <;> simp [hd, hl, hi1, hi2, hm']
    all_goals omega
def nE (x : Nx) (len : Nat) : Int := nodeE x.k x.n x.m x.i x.d len
/-- A node of a valid source. -/
def VS : NV := fun x len _ => nE x len = 0 ∧ x.k ≠ 5
/-- A node of a valid module. -/
def VM (label : ByteArray) : NV := fun x len sc => nE x len = 0 ∧ x.k ≠ 4 ∧ (x.k = 3 → hasN sc x.n = true) ∧ (x.k = 5 → x.n ≠ label)

/-! ### look-ups -/
theorem lastD_fold_none : ∀ {l : List Dc} {i : Int} (a : Option Dc), (∀ x ∈ l, x.id ≠ i) → l.foldl (fun a x => if x.id = i then some x else a) a = a
  | [], _, _, _ => rfl
  | x :: r, i, a, h => by
    rw [List.foldl_cons, if_neg (h x List.mem_cons_self)]
    exact lastD_fold_none a fun y hy => h y (List.mem_cons_of_mem _ hy)
def IdU (ds : List Dc) : Prop := ds.Pairwise fun x y => x.id < y.id
theorem lastD_fold_some : ∀ {l : List Dc} (a : Option Dc) {y : Dc}, IdU l → y ∈ l → l.foldl (fun a x => if x.id = y.id then some x else a) a = some y
  | [], _, _, _, h => by cases h
  | x :: r, a, y, hu, h => by
    obtain ⟨h1, h2⟩ := List.pairwise_cons.1 hu
    rw [List.foldl_cons]
    rcases List.mem_cons.1 h with rfl | h
    · rw [if_pos rfl]
      exact lastD_fold_none _ fun z hz => by have := h1 z hz; omega
    · exact lastD_fold_some _ h2 h
theorem lastD_some {l : List Dc} {y : Dc} (hu : IdU l) (h : y ∈ l) : lastD l y.id = some y := lastD_fold_some none hu h
theorem lastD_find {l : List Dc} {i : Int} {y : Dc} (h : lastD l i = some y) : y ∈ l ∧ y.id = i := by
  have key : ∀ (l : List Dc) (a : Option Dc), l.foldl (fun a x => if x.id = i then some x else a) a = some y → (y ∈ l ∧ y.id = i) ∨ a = some y := by
    intro l
    induction l with
    | nil => exact fun a h => .inr h
    | cons x r ih =>
      intro a h
      rw [List.foldl_cons] at h
      rcases ih _ h with ⟨h1, h2⟩ | h1
      · exact .inl ⟨List.mem_cons_of_mem _ h1, h2⟩
      · by_cases hx : x.id = i
        · rw [if_pos hx] at h1
          cases h1
          exact .inl ⟨List.mem_cons_self, hx⟩
        · rw [if_neg hx] at h1
          exact .inr h1
  exact (key l none h).resolve_right (by simp)
theorem idsO_find {ds : List Dc} {s : ByteArray} {i : Int} (hu : NmU ds) (h : idsO ds s = some i) : ∃ x ∈ ds, x.names.length = 1 ∧ nameOf x = s ∧ x.id = i := by
  rw [show idsO ds s = idsF ds s from ids_eq hu] at h
  unfold idsF at h
  obtain ⟨x, hx, rfl⟩ := Option.map_eq_some_iff.1 h
  have h2 := List.find?_some hx
  simp only [decide_eq_true_eq] at h2
  exact ⟨x, List.mem_of_find?_eq_some hx, h2.1, h2.2, rfl⟩
theorem nmU_eq : ∀ {ds : List Dc}, NmU ds → IdU ds → ∀ {x y : Dc}, x ∈ ds → y ∈ ds → x.names.length = 1 → y.names.length = 1 → nameOf x = nameOf y → x.id = y.id
  | [], _, _, _, _, h, _, _, _, _ => by cases h
  | z :: r, hn, hi, x, y, hx, hy, h1, h2, he => by
    obtain ⟨a1, a2⟩ := List.pairwise_cons.1 hn
    obtain ⟨b1, b2⟩ := List.pairwise_cons.1 hi
    rcases List.mem_cons.1 hx with rfl | hx' <;> rcases List.mem_cons.1 hy with rfl | hy'
    · rfl
    · exact absurd he (a1 y hy' h1 h2)
    · exact absurd he.symm (a1 x hx' h2 h1)
    · exact nmU_eq a2 b2 hx' hy' h1 h2 he
theorem idsO_some {ds : List Dc} {x : Dc} (hu : NmU ds) (hi : IdU ds) (hx : x ∈ ds) (h1 : x.names.length = 1) : idsO ds (nameOf x) = some x.id := by
  rw [show idsO ds (nameOf x) = idsF ds (nameOf x) from ids_eq hu]
  unfold idsF
  cases hf : ds.find? fun y => decide (y.names.length = 1 ∧ nameOf y = nameOf x) with
  | none =>
    have := List.find?_eq_none.1 hf x hx
    simp [h1] at this
  | some y =>
    have h2 := List.find?_some hf
    simp only [decide_eq_true_eq] at h2
    rw [Option.map_some, nmU_eq hu hi (List.mem_of_find?_eq_some hf) hx h2.1 h1 h2.2]
theorem labO_find {uses : List ByteArray} {s l : ByteArray} (h : labO uses s = some l) : l ∈ uses ∧ aliasB l = s := by
  have key : ∀ (us : List ByteArray) (a : Option ByteArray), us.foldl (fun a u => if aliasB u = s then some u else a) a = some l → (l ∈ us ∧ aliasB l = s) ∨ a = some l := by
    intro us
    induction us with
    | nil => exact fun a h => .inr h
    | cons x r ih =>
      intro a h
      rw [List.foldl_cons] at h
      rcases ih _ h with ⟨h1, h2⟩ | h1
      · exact .inl ⟨List.mem_cons_of_mem _ h1, h2⟩
      · by_cases hx : aliasB x = s
        · rw [if_pos hx] at h1
          cases h1
          exact .inl ⟨List.mem_cons_self, hx⟩
        · rw [if_neg hx] at h1
          exact .inr h1
  exact (key uses none h).resolve_right (by simp)
theorem labO_some {uses : List ByteArray} {l : ByteArray} (hu : AlU uses) (h : l ∈ uses) : labO uses (aliasB l) = some l := by
  have key : ∀ (us : List ByteArray) (a : Option ByteArray), AlU us → l ∈ us → us.foldl (fun a u => if aliasB u = aliasB l then some u else a) a = some l := by
    intro us
    induction us with
    | nil => intro a _ h; cases h
    | cons x r ih =>
      intro a hu h
      obtain ⟨h1, h2⟩ := List.pairwise_cons.1 hu
      rw [List.foldl_cons]
      rcases List.mem_cons.1 h with rfl | h
      · rw [if_pos rfl]
        exact labO_none _ fun u hu' e => h1 u hu' e.symm
      · exact ih _ h2 h
  exact key uses none hu h
theorem sigO_find {l : List Sg} {p : Sg → Bool} {s : Sg} (h : sigO l p = some s) : s ∈ l ∧ sgB s = true ∧ p s = true := by
  unfold sigO at h
  have h2 := List.find?_some h
  simp only [Bool.and_eq_true] at h2
  exact ⟨List.mem_of_find?_eq_some h, h2.1, h2.2⟩
theorem sigO_some {l : List Sg} {p : Sg → Bool} {s : Sg} (hs : s ∈ l) (hb : sgB s = true) (hp : p s = true) (hu : ∀ t ∈ l, p t = true → t = s) : sigO l p = some s := by
  unfold sigO
  cases hf : l.find? fun s => sgB s && p s with
  | none =>
    have := List.find?_eq_none.1 hf s hs
    simp [hb, hp] at this
  | some t =>
    have h2 := List.find?_some hf
    simp only [Bool.and_eq_true] at h2
    rw [hu t (List.mem_of_find?_eq_some hf) h2.2]
theorem disK_of {known : List If} (h : DisK known) (label : ByteArray) {s t : Sg} (hs : s ∈ sigsOf known label) (ht : t ∈ sigsOf known label) : (s.id = t.id → s = t) ∧ (s.name = t.name → s = t) := by
  unfold sigsOf at hs ht
  cases hf : faceO known label with
  | none =>
    rw [hf] at hs
    simp [noIf] at hs
  | some f =>
    rw [hf] at hs ht
    simp only [Option.getD_some] at hs ht
    have hm : f ∈ known := List.mem_of_find?_eq_some hf
    obtain ⟨i, hi⟩ := List.getElem?_of_mem hs
    obtain ⟨j, hj⟩ := List.getElem?_of_mem ht
    rcases Nat.lt_trichotomy i j with h1 | h1 | h1
    · obtain ⟨a, b⟩ := h f hm j i t s h1 hj hi
      exact ⟨fun e => absurd e.symm a, fun e => absurd e.symm b⟩
    · subst h1
      rw [hi] at hj
      cases hj
      exact ⟨fun _ => rfl, fun _ => rfl⟩
    · obtain ⟨a, b⟩ := h f hm i j s t h1 hi hj
      exact ⟨fun e => absurd e a, fun e => absurd e b⟩
theorem sigsOf_face {known : List If} {label : ByteArray} {s : Sg} (h : s ∈ sigsOf known label) : (faceO known label).isSome = true := by
  unfold sigsOf at h
  cases hf : faceO known label with
  | none =>
    rw [hf] at h
    simp [noIf] at h
  | some f => rfl
theorem hasS_iff {l : List ByteArray} {s : ByteArray} : hasS l s = true ↔ s ∈ l := by rw [hasS_hasN, hasN_iff]
theorem toL_eq {a b : ByteArray} : (a.toList == b.toList) = true ↔ a = b := ⟨bytes_ext, fun e => by rw [e]; simp⟩

/-! ### a node -/
/-- What is the case around a source that can be bound, and the declarations es of its module. -/
structure CtxB (label : ByteArray) (uses : List ByteArray) (ds es : List Dc) (known : List If) : Prop where
  lab : labelB label = true
  labs : ∀ u ∈ uses, labelB u = true ∧ u ≠ label
  nmU : NmU ds
  idU : IdU es
  rng : ∀ x ∈ ds, 1 ≤ x.id ∧ x.id ≤ 999999
  back : ∀ x ∈ ds, ∃ y ∈ es, y.id = x.id ∧ y.names = x.names
  dis : DisK known
theorem bind_node {label : ByteArray} {uses : List ByteArray} {ds es : List Dc} {known : List If} (h : CtxB label uses ds es known) (x : Nx) (len : Nat) (sc : List ByteArray) (y : Nx) (hv : VS x len sc) (hg : bindG uses ds known x sc = (0, y)) :
    (VM label y len sc ∧ gUnb uses es known y sc = (0, x)) ∧ (len = 0 ∨ y = x) := by
  obtain ⟨k, n, m, i, d⟩ := x
  obtain ⟨hv1, hv2⟩ := hv
  simp only [nE] at hv1 hv2
  unfold bindG gBind at hg
  simp only at hg
  by_cases h3 : k = 3 ∧ hasN sc n = false
  · rw [if_pos h3] at hg
    obtain ⟨rfl, hsc⟩ := h3
    obtain ⟨hnm, rfl, rfl, rfl, rfl⟩ := err3.1 hv1
    cases hi : idsO ds n with
    | none => rw [hi] at hg; simp at hg
    | some q =>
      rw [hi] at hg
      simp only [Prod.mk.injEq, true_and] at hg
      subst hg
      obtain ⟨z, hz, hz1, hz2, rfl⟩ := idsO_find h.nmU hi
      obtain ⟨z', hz', hid, hnames⟩ := h.back z hz
      refine ⟨⟨⟨err5.2 ⟨.inl rfl, rfl, rfl, rfl, h.rng z hz⟩, by simp, by simp, fun _ e => label_ne h.lab e.symm⟩, ?_⟩, .inl rfl⟩
      unfold gUnb
      have hno : nameOf z' = n := by unfold nameOf at hz2 ⊢; rw [hnames]; exact hz2
      have hl : lastD es z.id = some z' := by rw [← hid]; exact lastD_some h.idU hz'
      have hl1 : z'.names.length = 1 := by rw [hnames]; exact hz1
      simp only [if_true]
      rw [if_neg (by rw [empty_iff.2 rfl]; simp)]
      simp only [hl, hl1, hno, hsc]
      rfl
  · rw [if_neg h3] at hg
    by_cases h4 : k = 4
    · rw [if_pos h4] at hg
      subst h4
      obtain ⟨hn, hm, rfl, rfl, rfl⟩ := err4.1 hv1
      cases hl : labO uses n with
      | none => rw [hl] at hg; simp at hg
      | some l =>
        rw [hl] at hg
        simp only at hg
        cases hs : sigO (sigsOf known l) (fun s => s.name.toList == m.toList) with
        | none => rw [hs] at hg; simp at hg
        | some s =>
          rw [hs] at hg
          simp only [Prod.mk.injEq, true_and] at hg
          subst hg
          obtain ⟨hlu, hla⟩ := labO_find hl
          obtain ⟨hsm, hsb, hsn⟩ := sigO_find hs
          have hsn' := toL_eq.1 hsn
          obtain ⟨hl1, hl2⟩ := h.labs l hlu
          have hb := hsb
          simp only [sgB, Bool.and_eq_true, decide_eq_true_eq] at hb
          refine ⟨⟨⟨err5.2 ⟨.inr hl1, rfl, rfl, rfl, hb.1, hb.2.1⟩, by simp, by simp, fun _ => hl2⟩, ?_⟩, .inl rfl⟩
          unfold gUnb dotG
          simp only [if_true]
          have hne : l.toList.isEmpty = false := by
            cases he : l.toList.isEmpty
            · rfl
            · exact absurd (empty_iff.1 he) (label_ne hl1)
          rw [if_pos hne, if_pos ⟨sigsOf_face hsm, hasS_iff.2 hlu⟩]
          have hsig : sigO (sigsOf known l) (fun t => t.id == s.id) = some s := sigO_some hsm hsb (by simp) fun t ht he => (disK_of h.dis l ht hsm).1 (by simpa using he)
          simp only [hsig, hla, hsn']
    · rw [if_neg h4] at hg
      simp only [Prod.mk.injEq, true_and] at hg
      subst hg
      refine ⟨⟨⟨hv1, h4, fun h3' => ?_, fun h5 => absurd h5 hv2⟩, ?_⟩, .inr rfl⟩
      · cases hh : hasN sc n with
        | true => rfl
        | false => exact absurd ⟨h3', hh⟩ h3
      · unfold gUnb
        rw [if_neg hv2]
/-- What is the case around a module that can be unbound, and the declarations es of its source. -/
structure CtxU (label : ByteArray) (uses : List ByteArray) (ds es : List Dc) (known : List If) : Prop where
  labs : ∀ u ∈ uses, nameB (aliasB u) = true
  alU : AlU uses
  idU : IdU ds
  nmU : NmU es
  idE : IdU es
  names : ∀ x ∈ ds, dnE x.names = 0
  back : ∀ x ∈ ds, ∃ y ∈ es, y.id = x.id ∧ y.names = x.names
  dis : DisK known
theorem dnE_one {x : Dc} (h : dnE x.names = 0) (h1 : x.names.length = 1) : nameB (nameOf x) = true := by
  obtain ⟨nm, hnm⟩ := List.length_eq_one_iff.1 h1
  unfold dnE at h
  rw [hnm] at h
  unfold nameOf
  rw [hnm]
  simp only [List.headD_cons]
  by_cases hb : nameB nm = true
  · exact hb
  · simp [dnB, hb] at h
theorem unb_node {label : ByteArray} {uses : List ByteArray} {ds es : List Dc} {known : List If} (h : CtxU label uses ds es known) (x : Nx) (len : Nat) (sc : List ByteArray) (y : Nx) (hv : VM label x len sc) (hg : gUnb uses ds known x sc = (0, y)) :
    (VS y len sc ∧ bindG uses es known y sc = (0, x)) ∧ (len = 0 ∨ y = x) := by
  obtain ⟨k, n, m, i, d⟩ := x
  obtain ⟨hv1, hv2, hv3, hv4⟩ := hv
  simp only [nE] at hv1 hv2 hv3 hv4
  unfold gUnb at hg
  simp only at hg
  by_cases h5 : k = 5
  · rw [if_pos h5] at hg
    subst h5
    obtain ⟨hn, rfl, rfl, rfl, hi1, hi2⟩ := err5.1 hv1
    cases hem : n.toList.isEmpty with
    | false =>
      rw [if_pos hem] at hg
      unfold dotG at hg
      simp only at hg
      by_cases hc : (faceO known n).isSome = true ∧ hasS uses n = true
      · rw [if_pos hc] at hg
        cases hs : sigO (sigsOf known n) (fun s => s.id == i) with
        | none => rw [hs] at hg; simp at hg
        | some s =>
          rw [hs] at hg
          simp only [Prod.mk.injEq, true_and] at hg
          subst hg
          obtain ⟨hsm, hsb, hsi⟩ := sigO_find hs
          have hsi' : s.id = i := by simpa using hsi
          have hnu := hasS_iff.1 hc.2
          have hb := hsb
          simp only [sgB, Bool.and_eq_true, decide_eq_true_eq] at hb
          refine ⟨⟨⟨err4.2 ⟨h.labs n hnu, hb.2.2, rfl, rfl, rfl⟩, by simp⟩, ?_⟩, .inl rfl⟩
          unfold bindG gBind
          simp only
          rw [if_neg (by rintro ⟨h3, _⟩; omega), if_pos trivial, labO_some h.alU hnu]
          have hsig : sigO (sigsOf known n) (fun t => t.name.toList == s.name.toList) = some s := sigO_some hsm hsb (by simp) fun t ht he => (disK_of h.dis n ht hsm).2 (toL_eq.1 he)
          simp only [hsig, hsi']
      · rw [if_neg hc] at hg
        simp at hg
    | true =>
      rw [if_neg (by rw [hem]; simp)] at hg
      have hn0 := empty_iff.1 hem
      subst hn0
      cases hl : lastD ds i with
      | none => rw [hl] at hg; simp at hg
      | some z =>
        rw [hl] at hg
        simp only at hg
        by_cases h0 : z.names.length = 0
        · rw [if_pos h0] at hg; simp at hg
        · rw [if_neg h0] at hg
          by_cases h1 : 1 < z.names.length
          · rw [if_pos h1] at hg; simp at hg
          · rw [if_neg h1] at hg
            cases hsc : hasN sc (nameOf z) with
            | true => rw [hsc] at hg; simp at hg
            | false =>
              rw [hsc] at hg
              simp only [Bool.false_eq_true, if_false, Prod.mk.injEq, true_and] at hg
              subst hg
              obtain ⟨hz, rfl⟩ := lastD_find hl
              obtain ⟨z', hz', hid, hnames⟩ := h.back z hz
              have hz1 : z.names.length = 1 := by omega
              refine ⟨⟨⟨err3.2 ⟨dnE_one (h.names z hz) hz1, rfl, rfl, rfl, rfl⟩, by simp⟩, ?_⟩, .inl rfl⟩
              unfold bindG gBind
              simp only
              rw [if_pos ⟨trivial, hsc⟩]
              have hno : nameOf z = nameOf z' := by unfold nameOf; rw [hnames]
              rw [hno, idsO_some h.nmU h.idE hz' (by rw [hnames]; exact hz1), hid]
  · rw [if_neg h5] at hg
    simp only [Prod.mk.injEq, true_and] at hg
    subst hg
    refine ⟨⟨⟨hv1, h5⟩, ?_⟩, .inr rfl⟩
    unfold bindG gBind
    simp only
    rw [if_neg (by rintro ⟨h3, hh⟩; rw [hv3 h3] at hh; cases hh), if_neg hv2]
end Go.Proofs.YtacjjkbkhpdhnaaGreatDoor
