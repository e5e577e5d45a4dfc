/- Binding what was unbound, and unbinding what was bound, in plain words -/
import Derived.Test.YtacjjkbkhpdhnaaGreatDoorZpm
import Derived.Test.YtacjjkbkhpdhnaaGreatDoorZpj
namespace Go.Proofs.YtacjjkbkhpdhnaaGreatDoor
open Go Go.RowKit Go.Proofs Go.Shelf

/-! ### the parts of validity -/
theorem usesE_lab : ∀ {p : Option ByteArray} {l : List ByteArray}, usesE p l = 0 → ∀ u ∈ l, labelB u = true
  | _, [], _, u, h => by cases h
  | none, s :: r, h, u, hu => by
    unfold usesE at h
    by_cases h1 : labelB s = true
    · rw [if_pos h1] at h
      rcases List.mem_cons.1 hu with rfl | hu
      · exact h1
      · exact usesE_lab h u hu
    · rw [if_neg h1] at h
      cases h
  | some q, s :: r, h, u, hu => by
    unfold usesE at h
    by_cases h1 : labelB s = true
    · rw [if_pos h1] at h
      by_cases h2 : Op.bytesLess q.toList s.toList = true
      · rw [if_pos h2] at h
        rcases List.mem_cons.1 hu with rfl | hu
        · exact h1
        · exact usesE_lab h u hu
      · rw [if_neg h2] at h
        cases h
    · rw [if_neg h1] at h
      cases h
theorem srcE_lab {l : List ByteArray} (h : srcE l = 0) : l.length ≤ 20 ∧ usesE none l = 0 := by
  unfold srcE at h
  by_cases h1 : 20 < l.length
  · rw [if_pos h1] at h; cases h
  · rw [if_neg h1] at h
    exact ⟨by omega, h⟩
theorem srcE_mk {l : List ByteArray} (h1 : l.length ≤ 20) (h2 : usesE none l = 0) : srcE l = 0 := by
  unfold srcE
  rw [if_neg (by omega), h2]
theorem srcDE_parts {l : List ByteArray} {ds : List Dc} (h : srcDE l ds = 0) : l.length ≤ 20 ∧ usesE none l = 0 ∧ ds.length ≤ 100 ∧ sdsE none [] ds = 0 := by
  unfold srcDE at h
  by_cases h1 : 20 < l.length
  · rw [if_pos h1] at h; cases h
  rw [if_neg h1] at h
  by_cases h2 : usesE none l = 0
  rotate_left
  · rw [if_pos h2] at h; exact absurd h h2
  rw [if_neg (by simpa using h2)] at h
  by_cases h3 : 100 < ds.length
  · rw [if_pos h3] at h; cases h
  rw [if_neg h3] at h
  exact ⟨by omega, h2, by omega, h⟩
theorem srcDE_mk {l : List ByteArray} {ds : List Dc} (h1 : l.length ≤ 20) (h2 : usesE none l = 0) (h3 : ds.length ≤ 100) (h4 : sdsE none [] ds = 0) : srcDE l ds = 0 := by
  unfold srcDE
  rw [if_neg (by omega), if_neg (by simpa using h2), if_neg (by omega), h4]
theorem useAll_zero {label : ByteArray} {l : List ByteArray} : ∀ {f j : Nat}, useAll label l f j = 0 ↔ ∀ q, j ≤ q → q < j + f → useE label l q = 0
  | 0, j => by simp [useAll]; omega
  | f + 1, j => by
    unfold useAll
    by_cases h : useE label l j = 0
    · rw [if_pos h, useAll_zero]
      constructor
      · intro H q h1 h2
        by_cases e : q = j
        · rw [e]; exact h
        · exact H q (by omega) (by omega)
      · exact fun H q h1 h2 => H q (by omega) (by omega)
    · rw [if_neg h]
      exact ⟨fun e => absurd e h, fun H => absurd (H j (Nat.le_refl _) (by omega)) h⟩
theorem useE_parts {label : ByteArray} {l : List ByteArray} {q : Nat} (hq : q < l.length) (h : useE label l q = 0) : nameB (aliasB l[q]) = true ∧ l[q] ≠ label := by
  have hd : l.getD q ⟨#[]⟩ = l[q] := by rw [List.getD_eq_getElem?_getD, List.getElem?_eq_getElem hq]; rfl
  unfold useE at h
  rw [hd] at h
  by_cases h1 : nameB (aliasB l[q]) = false
  · rw [if_pos h1] at h; cases h
  rw [if_neg h1] at h
  split at h
  · cases h
  · split at h
    · cases h
    · rename_i h3
      exact ⟨by simpa using h1, fun e => h3 (by rw [e]; simp)⟩
theorem use_mem {label : ByteArray} {l : List ByteArray} (h : ∀ q, q < l.length → useE label l q = 0) : ∀ u ∈ l, nameB (aliasB u) = true ∧ u ≠ label := fun u hu => by
  obtain ⟨q, hq, rfl⟩ := List.getElem_of_mem hu
  exact useE_parts hq (h q hq)
theorem cbUses_mk {label : ByteArray} {known : List If} {l : List ByteArray} : ∀ {f j : Nat}, (∀ q, j ≤ q → q < j + f → useE label l q = 0) → j + f ≤ l.length → cbUses label known l f j = 0 ∨ (cbUses label known l f j = 8 ∧ ∃ u ∈ l, (faceO known u).isNone = true)
  | 0, _, _, _ => .inl rfl
  | f + 1, j, h, hl => by
    unfold cbUses
    rw [if_neg (by simpa using h j (Nat.le_refl _) (by omega))]
    by_cases h2 : (faceO known (l.getD j ⟨#[]⟩)).isNone = true
    · rw [if_pos h2]
      refine .inr ⟨rfl, l[j], List.getElem_mem _, ?_⟩
      rw [List.getD_eq_getElem?_getD, List.getElem?_eq_getElem (by omega)] at h2
      exact h2
    · rw [if_neg h2]
      exact cbUses_mk (fun q h1 h2 => h q (by omega) (by omega)) (by omega)

/-! ### ids and names in order -/
theorem sds_ids : ∀ {q : Int} {met : List ByteArray} {ds : List Dc}, sdsE (some q) met ds = 0 → (∀ x ∈ ds, x.id ≠ 0) → (∀ x ∈ ds, q < x.id) ∧ IdU ds
  | _, _, [], _, _ => ⟨by simp, List.Pairwise.nil⟩
  | q, met, x :: r, h, hz => by
    unfold sdsE at h
    by_cases h1 : sdE x = 0
    rotate_left
    · rw [if_pos h1] at h; exact absurd h h1
    rw [if_neg (by simpa using h1)] at h
    by_cases h2 : ordBad (some q) x.id = true
    · rw [if_pos h2] at h; cases h
    rw [if_neg h2] at h
    have hx := hz x List.mem_cons_self
    have hq : q < x.id := by
      simp only [ordBad, Bool.and_eq_true, Bool.or_eq_true, bne_iff_ne, decide_eq_true_eq, beq_iff_eq, not_and, not_or] at h2
      have := (h2 hx).2
      omega
    have hr : ∃ met', sdsE (some x.id) met' r = 0 := by
      split at h
      · split at h
        · cases h
        · exact ⟨_, h⟩
      · exact ⟨_, h⟩
    obtain ⟨met', hr⟩ := hr
    obtain ⟨i1, i2⟩ := sds_ids hr fun y hy => hz y (List.mem_cons_of_mem _ hy)
    refine ⟨fun y hy => ?_, List.pairwise_cons.2 ⟨i1, i2⟩⟩
    rcases List.mem_cons.1 hy with rfl | hy
    · exact hq
    · have := i1 y hy; omega
theorem sds_idU {ds : List Dc} (h : sdsE none [] ds = 0) (hz : ∀ x ∈ ds, x.id ≠ 0) : IdU ds := by
  cases ds with
  | nil => exact List.Pairwise.nil
  | cons x r =>
    unfold sdsE at h
    by_cases h1 : sdE x = 0
    rotate_left
    · rw [if_pos h1] at h; exact absurd h h1
    rw [if_neg (by simpa using h1), if_neg (by simp [ordBad])] at h
    have hr : ∃ met', sdsE (some x.id) met' r = 0 := by
      split at h
      · split at h
        · cases h
        · exact ⟨_, h⟩
      · exact ⟨_, h⟩
    obtain ⟨met', hr⟩ := hr
    obtain ⟨i1, i2⟩ := sds_ids hr fun y hy => hz y (List.mem_cons_of_mem _ hy)
    exact List.pairwise_cons.2 ⟨i1, i2⟩
theorem sds_mk : ∀ {p : Option Int} {met : List ByteArray} {ds : List Dc}, (∀ x ∈ ds, sdE x = 0) → IdU ds → (∀ x ∈ ds, ∀ q, p = some q → 1 ≤ q ∧ q < x.id) → (∀ x ∈ ds, 1 ≤ x.id) → NmU ds → (∀ x ∈ ds, x.names.length = 1 → nameOf x ∉ met) → sdsE p met ds = 0
  | _, _, [], _, _, _, _, _, _ => rfl
  | p, met, x :: r, h1, h2, h3, h4, h5, h6 => by
    obtain ⟨a1, a2⟩ := List.pairwise_cons.1 h2
    obtain ⟨b1, b2⟩ := List.pairwise_cons.1 h5
    unfold sdsE
    rw [if_neg (by simpa using h1 x List.mem_cons_self)]
    have ho : ¬ ordBad p x.id = true := by
      cases p with
      | none => simp [ordBad]
      | some q =>
        obtain ⟨c1, c2⟩ := h3 x List.mem_cons_self q rfl
        simp only [ordBad, Bool.and_eq_true, Bool.or_eq_true, bne_iff_ne, decide_eq_true_eq, beq_iff_eq]
        omega
    rw [if_neg ho]
    have hx := h4 x List.mem_cons_self
    by_cases hn : x.names.length = 1
    · rw [if_pos hn, if_neg (fun e => h6 x List.mem_cons_self hn (hasN_iff.1 e))]
      refine sds_mk (fun y hy => h1 y (List.mem_cons_of_mem _ hy)) a2 (fun y hy q hq => ?_) (fun y hy => h4 y (List.mem_cons_of_mem _ hy)) b2 (fun y hy hy1 hm => ?_)
      · cases hq; exact ⟨hx, a1 y hy⟩
      · rcases List.mem_append.1 hm with hm | hm
        · exact h6 y (List.mem_cons_of_mem _ hy) hy1 hm
        · exact b1 y hy hn hy1 (List.mem_singleton.1 hm).symm
    · rw [if_neg hn]
      refine sds_mk (fun y hy => h1 y (List.mem_cons_of_mem _ hy)) a2 (fun y hy q hq => ?_) (fun y hy => h4 y (List.mem_cons_of_mem _ hy)) b2 (fun y hy hy1 => h6 y (List.mem_cons_of_mem _ hy) hy1)
      cases hq; exact ⟨hx, a1 y hy⟩
theorem decls_ids : ∀ {label : ByteArray} {p : Option Int} {ds : List Dc}, declsE label p ds = 0 → (∀ x ∈ ds, ∀ q, p = some q → q < x.id) ∧ IdU ds
  | _, _, [], _ => ⟨by simp, List.Pairwise.nil⟩
  | label, none, x :: r, h => by
    unfold declsE at h
    by_cases h1 : declE label x = 0
    · rw [if_pos h1] at h
      obtain ⟨i1, i2⟩ := decls_ids h
      exact ⟨by simp, List.pairwise_cons.2 ⟨fun y hy => i1 y hy _ rfl, i2⟩⟩
    · rw [if_neg h1] at h; exact absurd h h1
  | label, some p, x :: r, h => by
    unfold declsE at h
    by_cases h1 : declE label x = 0
    · rw [if_pos h1] at h
      by_cases h2 : x.id ≤ p
      · rw [if_pos h2] at h; cases h
      · rw [if_neg h2] at h
        obtain ⟨i1, i2⟩ := decls_ids h
        refine ⟨fun y hy q hq => ?_, List.pairwise_cons.2 ⟨fun y hy => i1 y hy _ rfl, i2⟩⟩
        cases hq
        rcases List.mem_cons.1 hy with rfl | hy
        · omega
        · have := i1 y hy _ rfl; omega
    · rw [if_neg h1] at h; exact absurd h h1
theorem decls_mk : ∀ {label : ByteArray} {p : Option Int} {ds : List Dc}, (∀ x ∈ ds, declE label x = 0) → IdU ds → (∀ x ∈ ds, ∀ q, p = some q → q < x.id) → declsE label p ds = 0
  | _, _, [], _, _, _ => by unfold declsE; rfl
  | label, p, x :: r, h1, h2, h3 => by
    obtain ⟨a1, a2⟩ := List.pairwise_cons.1 h2
    have ih : declsE label (some x.id) r = 0 := decls_mk (fun y hy => h1 y (List.mem_cons_of_mem _ hy)) a2 (fun y hy q hq => by cases hq; exact a1 y hy)
    have hx := h1 x List.mem_cons_self
    cases p with
    | none =>
      unfold declsE
      rw [if_pos hx, ih]
    | some q =>
      have := h3 x List.mem_cons_self q rfl
      unfold declsE
      rw [if_pos hx, if_neg (by omega), ih]
theorem twB_false : ∀ {met : List ByteArray} {l : List Dc}, twB met l = false ↔ (NmU l ∧ ∀ x ∈ l, x.names.length = 1 → nameOf x ∉ met)
  | _, [] => by simp [twB, NmU]
  | met, x :: r => by
    unfold twB
    by_cases h1 : x.names.length = 1
    · rw [if_pos h1]
      by_cases h2 : hasN met (nameOf x) = true
      · rw [if_pos h2]
        exact ⟨fun h => (by cases h), fun ⟨_, h⟩ => absurd (hasN_iff.1 h2) (h x List.mem_cons_self h1)⟩
      · rw [if_neg h2, twB_false]
        constructor
        · rintro ⟨i1, i2⟩
          refine ⟨List.pairwise_cons.2 ⟨fun y hy _ hy1 e => i2 y hy hy1 (by rw [← e]; simp), i1⟩, fun y hy hy1 => ?_⟩
          rcases List.mem_cons.1 hy with rfl | hy
          · exact fun hm => h2 (hasN_iff.2 hm)
          · exact fun hm => i2 y hy hy1 (List.mem_append_left _ hm)
        · rintro ⟨i1, i2⟩
          obtain ⟨b1, b2⟩ := List.pairwise_cons.1 i1
          refine ⟨b2, fun y hy hy1 hm => ?_⟩
          rcases List.mem_append.1 hm with hm | hm
          · exact i2 y (List.mem_cons_of_mem _ hy) hy1 hm
          · exact b1 y hy h1 hy1 (List.mem_singleton.1 hm).symm
    · rw [if_neg h1, twB_false]
      constructor
      · rintro ⟨i1, i2⟩
        refine ⟨List.pairwise_cons.2 ⟨fun y _ hx1 => absurd hx1 h1, i1⟩, fun y hy hy1 => ?_⟩
        rcases List.mem_cons.1 hy with rfl | hy
        · exact absurd hy1 h1
        · exact i2 y hy hy1
      · rintro ⟨i1, i2⟩
        exact ⟨(List.pairwise_cons.1 i1).2, fun y hy => i2 y (List.mem_cons_of_mem _ hy)⟩

/-! ### rebuilt declarations -/
theorem rbDs_mem {g : Repl} : ∀ {ds es : List Dc}, RbDs g ds es → ∀ y ∈ es, ∃ x ∈ ds, RbDc g x y
  | [], [], _, y, h => by cases h
  | [], _ :: _, h, _, _ => h.elim
  | _ :: _, [], h, _, _ => h.elim
  | x :: r, z :: s, h, y, hy => by
    rcases List.mem_cons.1 hy with rfl | hy
    · exact ⟨x, List.mem_cons_self, h.1⟩
    · obtain ⟨w, hw, h2⟩ := rbDs_mem h.2 y hy
      exact ⟨w, List.mem_cons_of_mem _ hw, h2⟩
theorem rbDs_mem' {g : Repl} : ∀ {ds es : List Dc}, RbDs g ds es → ∀ x ∈ ds, ∃ y ∈ es, RbDc g x y
  | [], [], _, y, h => by cases h
  | [], _ :: _, h, _, _ => h.elim
  | _ :: _, [], h, _, _ => h.elim
  | z :: r, y :: s, h, x, hx => by
    rcases List.mem_cons.1 hx with rfl | hx
    · exact ⟨y, List.mem_cons_self, h.1⟩
    · obtain ⟨w, hw, h2⟩ := rbDs_mem' h.2 x hx
      exact ⟨w, List.mem_cons_of_mem _ hw, h2⟩
theorem rbDs_len {g : Repl} : ∀ {ds es : List Dc}, RbDs g ds es → es.length = ds.length
  | [], [], _ => rfl
  | [], _ :: _, h => h.elim
  | _ :: _, [], h => h.elim
  | _ :: r, _ :: s, h => by simp [rbDs_len h.2]
theorem rbDs_pw {g : Repl} {R : Dc → Dc → Prop} (hR : ∀ x x' y y', RbDc g x y → RbDc g x' y' → R x x' → R y y') : ∀ {ds es : List Dc}, RbDs g ds es → ds.Pairwise R → es.Pairwise R
  | [], [], _, _ => List.Pairwise.nil
  | [], _ :: _, h, _ => h.elim
  | _ :: _, [], h, _ => h.elim
  | x :: r, y :: s, h, hp => by
    obtain ⟨h1, h2⟩ := List.pairwise_cons.1 hp
    refine List.pairwise_cons.2 ⟨fun z hz => ?_, rbDs_pw hR h.2 h2⟩
    obtain ⟨w, hw, h3⟩ := rbDs_mem h.2 z hz
    exact hR x w y z h.1 h3 (h1 w hw)
theorem rbDs_idU {g : Repl} {ds es : List Dc} (h : RbDs g ds es) (hi : IdU ds) : IdU es := rbDs_pw (fun x x' y y' a b c => by rw [a.id, b.id]; exact c) h hi
theorem rbDs_nmU {g : Repl} {ds es : List Dc} (h : RbDs g ds es) (hi : NmU ds) : NmU es := rbDs_pw (fun x x' y y' a b c => by
  unfold nameOf at c ⊢
  rw [a.names, b.names]
  exact c) h hi
/-- Two rebuildings of which the second undoes the first. -/
theorem rbDs_back {g g' : Repl} : ∀ {ds es fs : List Dc}, (∀ x ∈ ds, ∀ y, RbDc g x y → rbD g' y = (0, ⟨x.k, x.n, x.m, x.i, x.d⟩, x.s.pt)) → RbDs g ds es → RbDs g' es fs → EqDs ds fs
  | [], [], [], _, _, _ => trivial
  | [], [], _ :: _, _, _, h => h.elim
  | [], _ :: _, _, _, h, _ => h.elim
  | _ :: _, [], _, _, h, _ => h.elim
  | _ :: _, _ :: _, [], _, _, h => h.elim
  | x :: r, y :: s, z :: t, H, h1, h2 => by
    refine ⟨?_, rbDs_back (fun x hx => H x (List.mem_cons_of_mem _ hx)) h1.2 h2.2⟩
    have hb := H x List.mem_cons_self y h1.1
    have a := h1.1
    have b := h2.1
    have bk := b.k
    have bn := b.n
    have bm := b.m
    have bi := b.i
    have bd := b.d
    have bs := b.s
    rw [hb] at bk bn bm bi bd bs
    exact ⟨(b.id.trans a.id).symm, (b.kind.trans a.kind).symm, (b.pub.trans a.pub).symm, (b.doubt.trans a.doubt).symm, (b.names.trans a.names).symm, bk.symm, bn.symm, bm.symm, bi.symm, bd.symm, bs.symm⟩

theorem eqDs_symm : ∀ {l l' : List Dc}, EqDs l l' → EqDs l' l
  | [], [], _ => trivial
  | [], _ :: _, h => h.elim
  | _ :: _, [], h => h.elim
  | _ :: _, _ :: _, ⟨h, r⟩ => by
    obtain ⟨a, b, c, d, e, f1, f2, f3, f4, f5, f6⟩ := h
    exact ⟨⟨a.symm, b.symm, c.symm, d.symm, e.symm, f1.symm, f2.symm, f3.symm, f4.symm, f5.symm, f6.symm⟩, eqDs_symm r⟩

/-! ### expressions -/
theorem alln_pre (Q : Int → ByteArray → ByteArray → Int → Int → Nat → Prop) (x : Dc) : (∀ z ∈ x.pre, Q z.k z.n z.m z.i z.d z.len) ↔ AllN (fun z len _ => Q z.k z.n z.m z.i z.d len) ⟨x.k, x.n, x.m, x.i, x.d⟩ x.s.pt := by
  unfold AllN Dc.pre
  rw [← Fo.pre_all Q x.s 2, Fo.pt_len]
  simp only [List.mem_cons]
  constructor
  · intro h
    exact ⟨h ⟨1, x.k, x.n, x.m, x.i, x.d, x.A, x.s.len, x.c⟩ (.inl rfl), fun z hz => h z (.inr hz)⟩
  · rintro ⟨h1, h2⟩ z (rfl | hz)
    · exact h1
    · exact h2 z hz
theorem alln_vis (Q : Int → ByteArray → ByteArray → Int → Int → Nat → Prop) (x : Dc) : (∀ z ∈ x.body.vis, Q z.k z.n z.m z.i z.d z.len) ↔ AllN (fun z len _ => Q z.k z.n z.m z.i z.d len) ⟨x.k, x.n, x.m, x.i, x.d⟩ x.s.pt := by
  unfold AllN Dc.body
  rw [Fo.vis_all Q _ 0 ⟨#[]⟩ ⟨#[]⟩ 0 []]
  simp only [Fo.pt, Pt.AllV, and_true, Fo.pt_len]
  have e : bndB 0 ⟨#[]⟩ ⟨#[]⟩ ((0 : Nat) : Int) = [] := by unfold bndB; simp
  rw [e, List.append_nil]
theorem AllN.imp {V V' : NV} (H : ∀ x len sc, V x len sc → V' x len sc) {x : Nx} {s : Pt} (h : AllN V x s) : AllN V' x s := ⟨H _ _ _ h.1, h.2.imp H⟩
theorem AllN.and {V V' : NV} {x : Nx} {s : Pt} (h : AllN V x s) (h' : AllN V' x s) : AllN (fun x len sc => V x len sc ∧ V' x len sc) x s := ⟨⟨h.1, h'.1⟩, h.2.and h'.2⟩
def limD (l : List Nat) : Bool := decide (400 < l.length) || l.any fun x => decide (40 < x)
theorem limB_deps (x : Dc) : limB x.pre = limD (1 :: x.s.pt.deps 2) := by
  have e : x.pre.map Nd.dep = 1 :: x.s.pt.deps 2 := by
    unfold Dc.pre
    rw [List.map_cons, Fo.pre_deps]
  unfold limB limD
  rw [← e, List.length_map, List.any_map]
  rfl
theorem firstE_mk : ∀ {l : List Nd}, (∀ x ∈ l, x.err = 0) → firstE l = 0
  | [], _ => rfl
  | x :: r, h => by
    unfold firstE
    rw [if_pos (h x List.mem_cons_self)]
    exact firstE_mk fun y hy => h y (List.mem_cons_of_mem _ hy)
theorem expr_of {x y : Dc} (hx : exprE x.pre = 0) (hd : y.s.pt.deps 2 = x.s.pt.deps 2) (hv : AllN (fun z len _ => nodeE z.k z.n z.m z.i z.d len = 0) ⟨y.k, y.n, y.m, y.i, y.d⟩ y.s.pt) : exprE y.pre = 0 := by
  have h1 := (alln_pre (fun k n m i d len => nodeE k n m i d len = 0) y).2 hv
  have hl : limB y.pre = limB x.pre := by rw [limB_deps, limB_deps, hd]
  unfold exprE at hx ⊢
  rw [hl]
  cases hb : limB x.pre
  · rw [hb] at hx
    exact firstE_mk fun z hz => h1 z hz
  · rw [hb] at hx
    simp at hx
theorem sdE_parts {x : Dc} (h : sdE x = 0) : 0 ≤ x.id ∧ x.id ≤ 999999 ∧ (x.kind = 1 ∨ x.kind = 2 ∨ x.kind = 3) ∧ dnE x.names = 0 ∧ exprE x.pre = 0 ∧ ∀ z ∈ x.pre, z.k ≠ 5 := by
  unfold sdE at h
  by_cases h1 : x.id < 0 ∨ 999999 < x.id
  · rw [if_pos h1] at h; cases h
  rw [if_neg h1] at h
  by_cases h2 : x.kind ≠ 1 ∧ x.kind ≠ 2 ∧ x.kind ≠ 3
  · rw [if_pos h2] at h; cases h
  rw [if_neg h2] at h
  by_cases h3 : dnE x.names = 0
  rotate_left
  · rw [if_pos h3] at h; exact absurd h h3
  rw [if_neg (by simpa using h3)] at h
  by_cases h4 : exprE x.pre = 0
  rotate_left
  · rw [if_pos h4] at h; exact absurd h h4
  rw [if_neg (by simpa using h4)] at h
  refine ⟨by omega, by omega, by omega, h3, h4, fun z hz hk => ?_⟩
  have : (x.pre.any fun y => y.k == 5) = true := List.any_eq_true.2 ⟨z, hz, by simp [hk]⟩
  rw [if_pos this] at h
  cases h
theorem sdE_mk {x : Dc} (h1 : 0 ≤ x.id ∧ x.id ≤ 999999) (h2 : x.kind = 1 ∨ x.kind = 2 ∨ x.kind = 3) (h3 : dnE x.names = 0) (h4 : exprE x.pre = 0) (h5 : ∀ z ∈ x.pre, z.k ≠ 5) : sdE x = 0 := by
  unfold sdE
  rw [if_neg (by omega), if_neg (by omega), if_neg (by simpa using h3), if_neg (by simpa using h4), if_neg]
  rw [List.any_eq_true]
  rintro ⟨z, hz, hk⟩
  exact h5 z hz (by simpa using hk)
theorem exprE_alln {x : Dc} (h : exprE x.pre = 0) : AllN (fun z len _ => nodeE z.k z.n z.m z.i z.d len = 0) ⟨x.k, x.n, x.m, x.i, x.d⟩ x.s.pt :=
  (alln_pre (fun k n m i d len => nodeE k n m i d len = 0) x).1 (exprE_zero h).2.2
theorem src_vs {x : Dc} (h : sdE x = 0) : AllN VS ⟨x.k, x.n, x.m, x.i, x.d⟩ x.s.pt := by
  obtain ⟨_, _, _, _, h4, h5⟩ := sdE_parts h
  exact ((exprE_alln h4).and ((alln_pre (fun k _ _ _ _ _ => k ≠ 5) x).1 h5)).imp fun z len sc hz => ⟨hz.1, hz.2⟩
theorem leaf3 {x : Dc} (h : AllN (fun z len _ => nodeE z.k z.n z.m z.i z.d len = 0) ⟨x.k, x.n, x.m, x.i, x.d⟩ x.s.pt) : AllN (fun z len _ => z.k = 3 → len = 0) ⟨x.k, x.n, x.m, x.i, x.d⟩ x.s.pt :=
  h.imp fun z len sc hz hk => by
    rw [hk] at hz
    exact (err3.1 hz).2.2.2.2
theorem declE_parts {label : ByteArray} {x : Dc} (h : declE label x = 0) : 1 ≤ x.id ∧ x.id ≤ 999999 ∧ (x.kind = 1 ∨ x.kind = 2 ∨ x.kind = 3) ∧ dnE x.names = 0 ∧ exprE x.pre = 0 ∧ AllN (VM label) ⟨x.k, x.n, x.m, x.i, x.d⟩ x.s.pt := by
  unfold declE at h
  by_cases h1 : x.id < 1 ∨ 999999 < x.id
  · rw [if_pos h1] at h; simp at h
  rw [if_neg h1] at h
  by_cases h2 : x.kind ≠ 1 ∧ x.kind ≠ 2 ∧ x.kind ≠ 3
  · rw [if_pos h2] at h; simp at h
  rw [if_neg h2] at h
  by_cases h3 : dnE x.names = 0
  rotate_left
  · rw [if_pos h3] at h; exact absurd h h3
  rw [if_neg (by simpa using h3)] at h
  by_cases h4 : exprE x.pre = 0
  rotate_left
  · rw [if_pos h4] at h; exact absurd h h4
  rw [if_neg (by simpa using h4)] at h
  by_cases h5 : x.body.vis.any (fun y => y.k == 4) = true
  · rw [if_pos h5] at h; simp at h
  rw [if_neg h5] at h
  by_cases h6 : nodeFree x.k x.n x.m x.s [] = true
  · rw [if_pos h6] at h; simp at h
  rw [if_neg h6] at h
  by_cases h7 : x.body.vis.any (isRefTo label) = true
  · rw [if_pos h7] at h; simp at h
  have e := exprE_alln h4
  have e5 := (alln_vis (fun k _ _ _ _ _ => k ≠ 4) x).1 fun z hz hk => h5 (List.any_eq_true.2 ⟨z, hz, by simp [hk]⟩)
  have e6 := (nodeFree_all (i := x.i) (d := x.d) (leaf3 e)).1 (by simpa using h6)
  have e7 := (alln_vis (fun k n _ _ _ _ => k = 5 → n ≠ label) x).1 fun z hz hk hn => h7 (List.any_eq_true.2 ⟨z, hz, by simp [isRefTo, hk, hn]⟩)
  exact ⟨by omega, by omega, by omega, h3, h4, (((e.and e5).and e6).and e7).imp fun z len sc hz => ⟨hz.1.1.1, hz.1.1.2, hz.1.2, hz.2⟩⟩
theorem declE_mk {label : ByteArray} {x : Dc} (h1 : 1 ≤ x.id ∧ x.id ≤ 999999) (h2 : x.kind = 1 ∨ x.kind = 2 ∨ x.kind = 3) (h3 : dnE x.names = 0) (h4 : exprE x.pre = 0) (h5 : AllN (VM label) ⟨x.k, x.n, x.m, x.i, x.d⟩ x.s.pt) : declE label x = 0 := by
  unfold declE
  rw [if_neg (by omega), if_neg (by omega), if_neg (by simpa using h3), if_neg (by simpa using h4), if_neg, if_neg, if_neg]
  · rw [List.any_eq_true]
    rintro ⟨z, hz, hk⟩
    simp only [isRefTo, Bool.and_eq_true, beq_iff_eq] at hk
    exact (alln_vis (fun k n _ _ _ _ => k = 5 → n ≠ label) x).2 (h5.imp fun z len sc hz => hz.2.2.2) z hz hk.1 (bytes_ext (by simpa using hk.2))
  · have e6 := (nodeFree_all (i := x.i) (d := x.d) (leaf3 (exprE_alln h4))).2 (h5.imp fun z len sc hz => hz.2.2.1)
    rw [e6]
    simp
  · rw [List.any_eq_true]
    rintro ⟨z, hz, hk⟩
    exact (alln_vis (fun k _ _ _ _ _ => k ≠ 4) x).2 (h5.imp fun z len sc hz => hz.2.1) z hz (by simpa using hk)

/-! ### the two ways -/
theorem rbD_eta {g : Repl} {x y : Dc} (h0 : (rbD g x).1 = 0) (h : RbDc g x y) : rebN g ⟨x.k, x.n, x.m, x.i, x.d⟩ x.s.pt [] = (0, ⟨y.k, y.n, y.m, y.i, y.d⟩, y.s.pt) := by
  have e : rebN g ⟨x.k, x.n, x.m, x.i, x.d⟩ x.s.pt [] = rbD g x := rfl
  rw [e, h.k, h.n, h.m, h.i, h.d, h.s]
  exact Prod.ext h0 rfl
theorem bind_round {label : ByteArray} {uses : List ByteArray} {ds es : List Dc} {known : List If} (h : bindE label uses ds known = 0) (hd : DisK known) (hr : RbDs (bindG uses ds known) ds es) :
    checkE label uses es = 0 ∧ unbE label uses es known = 0 ∧ ∀ fs, RbDs (gUnb uses es known) es fs → EqDs ds fs := by
  unfold bindE at h
  by_cases hc : cbE label uses ds known = 0
  rotate_left
  · rw [if_pos hc] at h; exact absurd h hc
  rw [if_neg (by simpa using hc)] at h
  have hall := rbAllE_zero h
  -- what the source is like
  have hlab : labelB label = true := by
    unfold cbE at hc
    by_cases h1 : labelB label = false
    · rw [if_pos h1] at hc; cases hc
    · simpa using h1
  have hz : ∀ x ∈ ds, x.id ≠ 0 := by
    intro x hx e
    unfold cbE at hc
    rw [if_neg (by rw [hlab]; simp)] at hc
    by_cases h2 : srcDE uses ds = 0
    · rw [if_neg (by simpa using h2), if_pos (List.any_eq_true.2 ⟨x, hx, by simp [e]⟩)] at hc
      cases hc
    · rw [if_pos h2] at hc
      exact absurd hc h2
  obtain ⟨hsrc, hcu⟩ := cbE_zero hc
  obtain ⟨hu20, hue, hl100, hsds⟩ := srcDE_parts hsrc
  have huse : ∀ q, q < uses.length → useE label uses q = 0 := fun q hq => (cbUses_zero hcu q (Nat.zero_le _) (by omega)).1
  have hmem := use_mem huse
  have hsd := sdsE_mem hsds
  have hidU := sds_idU hsds hz
  have hnmU := (nmU_of hsds).1
  have hidE := rbDs_idU hr hidU
  have hnmE := rbDs_nmU hr hnmU
  have ctx : CtxB label uses ds es known := {
    lab := hlab
    labs := fun u hu => ⟨usesE_lab hue u hu, (hmem u hu).2⟩
    nmU := hnmU
    idU := hidE
    rng := fun x hx => by
      obtain ⟨a, b, _⟩ := sdE_parts (hsd x hx)
      have := hz x hx
      exact ⟨by omega, b⟩
    back := fun x hx => by
      obtain ⟨y, hy, h2⟩ := rbDs_mem' hr x hx
      exact ⟨y, hy, h2.id, h2.names⟩
    dis := hd }
  have hnode := bind_node ctx
  have hone : ∀ x ∈ ds, ∀ y, RbDc (bindG uses ds known) x y → AllN (VM label) ⟨y.k, y.n, y.m, y.i, y.d⟩ y.s.pt ∧ rbD (gUnb uses es known) y = (0, ⟨x.k, x.n, x.m, x.i, x.d⟩, x.s.pt) ∧ exprE y.pre = 0 := fun x hx y hxy => by
    have e := rbD_eta (hall x hx) hxy
    have v := src_vs (hsd x hx)
    have p := (rebN_pres (V' := VM label) (fun a len sc b ha hb => ⟨(hnode a len sc b ha hb).1.1, (hnode a len sc b ha hb).2⟩) v e).1
    refine ⟨p, rebN_inv (fun a len sc b ha hb => ⟨(hnode a len sc b ha hb).1.2, (hnode a len sc b ha hb).2⟩) v e, ?_⟩
    exact expr_of (sdE_parts (hsd x hx)).2.2.2.2.1 (rebN_deps e 2) (p.imp fun z len sc hz => hz.1)
  have hck : checkE label uses es = 0 := by
    unfold checkE
    rw [if_neg (by rw [hlab]; simp), if_neg (by simpa using srcE_mk hu20 hue), if_neg (by simpa using useAll_zero.2 fun q _ hq => huse q (by omega)), if_neg (by rw [rbDs_len hr]; omega)]
    refine decls_mk (fun y hy => ?_) hidE (fun y _ q hq => by cases hq)
    obtain ⟨x, hx, hxy⟩ := rbDs_mem hr y hy
    obtain ⟨p1, _, p3⟩ := hone x hx y hxy
    obtain ⟨_, _, s3, s4, _, _⟩ := sdE_parts (hsd x hx)
    exact declE_mk (by rw [hxy.id]; exact ctx.rng x hx) (by rw [hxy.kind]; exact s3) (by rw [hxy.names]; exact s4) p3 p1
  refine ⟨hck, ?_, fun fs hfs => rbDs_back (fun x hx y hxy => (hone x hx y hxy).2.1) hr hfs⟩
  unfold unbE
  rw [if_neg (by simpa using hck), if_neg (by rw [twB_false.2 ⟨hnmE, fun x _ _ => by simp⟩]; simp)]
  refine rbAllE_all fun y hy => ?_
  obtain ⟨x, hx, hxy⟩ := rbDs_mem hr y hy
  rw [(hone x hx y hxy).2.1]
theorem unb_round {label : ByteArray} {uses : List ByteArray} {ds es : List Dc} {known : List If} (h : unbE label uses ds known = 0) (hd : DisK known) (hr : RbDs (gUnb uses ds known) ds es) :
    srcDE uses es = 0 ∧ (bindE label uses es known = 0 ∨ (bindE label uses es known = 8 ∧ ∃ u ∈ uses, (faceO known u).isNone = true)) ∧ ∀ fs, RbDs (bindG uses es known) es fs → EqDs fs ds := by
  unfold unbE at h
  by_cases hc : checkE label uses ds = 0
  rotate_left
  · rw [if_pos hc] at h; exact absurd h hc
  rw [if_neg (by simpa using hc)] at h
  cases ht : twB [] ds with
  | true => rw [ht] at h; simp at h
  | false =>
  rw [ht, if_neg (by simp)] at h
  have hall := rbAllE_zero h
  obtain ⟨hlab, hsrc, hua, hl100, hde⟩ := checkE_parts hc
  obtain ⟨hu20, hue⟩ := srcE_lab hsrc
  have huse : ∀ q, q < uses.length → useE label uses q = 0 := fun q hq => useAll_zero.1 hua q (Nat.zero_le _) (by omega)
  have hmem := use_mem huse
  have hdm := declsE_mem hde
  have hidU := (decls_ids hde).2
  have hnmU := (twB_false.1 ht).1
  have hidE := rbDs_idU hr hidU
  have hnmE := rbDs_nmU hr hnmU
  have ctx : CtxU label uses ds es known := {
    labs := fun u hu => (hmem u hu).1
    alU := alU_of huse
    idU := hidU
    nmU := hnmE
    idE := hidE
    names := fun x hx => (declE_parts (hdm x hx)).2.2.2.1
    back := fun x hx => by
      obtain ⟨y, hy, h2⟩ := rbDs_mem' hr x hx
      exact ⟨y, hy, h2.id, h2.names⟩
    dis := hd }
  have hnode := unb_node ctx
  have hone : ∀ x ∈ ds, ∀ y, RbDc (gUnb uses ds known) x y → AllN VS ⟨y.k, y.n, y.m, y.i, y.d⟩ y.s.pt ∧ rbD (bindG uses es known) y = (0, ⟨x.k, x.n, x.m, x.i, x.d⟩, x.s.pt) ∧ exprE y.pre = 0 := fun x hx y hxy => by
    have e := rbD_eta (hall x hx) hxy
    have v := (declE_parts (hdm x hx)).2.2.2.2.2
    have p := (rebN_pres (V' := VS) (fun a len sc b ha hb => ⟨(hnode a len sc b ha hb).1.1, (hnode a len sc b ha hb).2⟩) v e).1
    refine ⟨p, rebN_inv (fun a len sc b ha hb => ⟨(hnode a len sc b ha hb).1.2, (hnode a len sc b ha hb).2⟩) v e, ?_⟩
    exact expr_of (declE_parts (hdm x hx)).2.2.2.2.1 (rebN_deps e 2) (p.imp fun z len sc hz => hz.1)
  have hids : ∀ y ∈ es, 1 ≤ y.id := fun y hy => by
    obtain ⟨x, hx, hxy⟩ := rbDs_mem hr y hy
    rw [hxy.id]
    exact (declE_parts (hdm x hx)).1
  have hsrcD : srcDE uses es = 0 := by
    refine srcDE_mk hu20 hue (by rw [rbDs_len hr]; exact hl100) (sds_mk (fun y hy => ?_) hidE (fun y _ q hq => by cases hq) hids hnmE (fun y _ _ => by simp))
    obtain ⟨x, hx, hxy⟩ := rbDs_mem hr y hy
    obtain ⟨p1, _, p3⟩ := hone x hx y hxy
    obtain ⟨d1, d2, d3, d4, _, _⟩ := declE_parts (hdm x hx)
    refine sdE_mk (by rw [hxy.id]; exact ⟨by omega, d2⟩) (by rw [hxy.kind]; exact d3) (by rw [hxy.names]; exact d4) p3 ?_
    exact (alln_pre (fun k _ _ _ _ _ => k ≠ 5) y).2 (p1.imp fun z len sc hz => hz.2)
  refine ⟨hsrcD, ?_, fun fs hfs => ?_⟩
  · have hcb : cbE label uses es known = cbUses label known uses uses.length 0 := by
      unfold cbE
      rw [if_neg (by rw [hlab]; simp), if_neg (by simpa using hsrcD), if_neg]
      rw [List.any_eq_true]
      rintro ⟨y, hy, he⟩
      have := hids y hy
      have : y.id = 0 := by simpa using he
      omega
    unfold bindE
    rw [hcb]
    rcases cbUses_mk (known := known) (fun q _ hq => huse q (by omega)) (show 0 + uses.length ≤ uses.length by omega) with h0 | ⟨h8, hex⟩
    · left
      rw [if_neg (by simpa using h0)]
      refine rbAllE_all fun y hy => ?_
      obtain ⟨x, hx, hxy⟩ := rbDs_mem hr y hy
      rw [(hone x hx y hxy).2.1]
    · right
      rw [if_pos (by rw [h8]; simp)]
      exact ⟨h8, hex⟩
  · have := rbDs_back (fun x hx y hxy => (hone x hx y hxy).2.1) hr hfs
    exact eqDs_symm this
end Go.Proofs.YtacjjkbkhpdhnaaGreatDoor
