/- The size of code, plainly -/
import Derived.Test.YtlcfoiapkblheaaGreatDoorGkw
import Derived.Test.YtlcfoiapkblheaaGreatDoorGkx
import Derived.Test.YtlcfoiapkblheaaGreatDoorGkn
namespace Go.Proofs.YtlcfoiapkblheaaGreatDoor
open Go.RowKit Go.Proofs Go.Shelf

/-- The parts that a node of a valid module without conflicts has. -/
def gdC (k : Int) (len : Nat) : Prop := (k = 6 → len = 1) ∧ (k = 7 ∨ k = 10 ∨ k = 12 ∨ k = 8 → len = 2) ∧ (k = 9 ∨ k = 13 → len = 3) ∧ (¬ (k = 6 ∨ k = 7 ∨ k = 10 ∨ k = 12 ∨ k = 8 ∨ k = 9 ∨ k = 13) → len = 0)
def Fo.Gd : Fo → Prop
  | .nil => True
  | .cons k _ _ _ _ _ _ s r => gdC k s.len ∧ s.Gd ∧ r.Gd
def szN (k : Int) : Nat := 1 + kindN k [8, 9, 6] + 2 * kindN k [13]
def Fo.sz : Fo → Nat
  | .nil => 0
  | .cons k _ _ _ _ _ _ s r => szN k + s.sz + r.sz
theorem Fo.sz_eq : ∀ f : Fo, f.sz = f.count + f.kn [8, 9, 6] + 2 * f.kn [13]
  | .nil => rfl
  | .cons k n m i d A c s r => by
    simp only [Fo.sz, Fo.count, Fo.kn, szN, s.sz_eq, r.sz_eq]
    omega
def Fo.szAt : Fo → Nat → Nat
  | .nil, _ => 0
  | .cons k _ _ _ _ _ _ s _, 0 => szN k + s.sz
  | .cons _ _ _ _ _ _ _ _ r, j + 1 => r.szAt j
def Fo.fnAt : Fo → Nat → Nat
  | .nil, _ => 0
  | .cons k _ _ _ _ _ _ s _, 0 => kindN k [6] + s.kn [6]
  | .cons _ _ _ _ _ _ _ _ r, j + 1 => r.fnAt j
def insSum : List Blk → Nat
  | [] => 0
  | b :: r => b.l.length + insSum r
theorem insSum_append (a b : List Blk) : insSum (a ++ b) = insSum a + insSum b := by
  induction a with
  | nil => simp [insSum]
  | cons x a ih => simp [insSum, ih, Nat.add_assoc]
theorem fnsOf_len1 : ∀ (F : List FnE) (l : List Ins) (ix : Nat), (fnsOf F l ix).1.length = l.length
  | [], _, _ => rfl
  | f :: r, l, ix => by simp only [fnsOf, fnsOf_len1 r, setA_length]
/-- The instructions and the blocks of functions. -/
def FsN (F : List FnE) (N B : Nat) : Prop := ∀ l ix, insSum (fnsOf F l ix).2 = N ∧ (fnsOf F l ix).2.length = B
theorem FsN.nil : FsN [] 0 0 := fun _ _ => ⟨rfl, rfl⟩
theorem FsN.append {a b : List FnE} {N B N' B' : Nat} (h : FsN a N B) (g : FsN b N' B') : FsN (a ++ b) (N + N') (B + B') := fun l ix => by
  rw [fnsOf_append]
  simp only [insSum_append, List.length_append]
  exact ⟨by rw [(h l ix).1, (g _ _).1], by rw [(h l ix).2, (g _ _).2]⟩
/-- The instructions and the blocks of a piece of code. -/
def Sz (P : Comp) (N B : Nat) : Prop := ∀ vars st, ∃ M, (P vars st).1.length + M = N ∧ FsN (P vars st).2 M B
theorem Sz.blk {P : Comp} {N B : Nat} (h : Sz P N B) (vars : List ByteArray) (cap : Int) (par : Bool) (ix : Nat) : insSum (blkOf P vars cap par ix) = N + 1 ∧ (blkOf P vars cap par ix).length = B + 1 := by
  obtain ⟨M, h1, h2⟩ := h vars 0
  obtain ⟨h3, h4⟩ := h2 ((P vars 0).1 ++ [retI]) (ix + 1)
  show (fnsOf (P vars 0).2 ((P vars 0).1 ++ [retI]) (ix + 1)).1.length + insSum (fnsOf (P vars 0).2 ((P vars 0).1 ++ [retI]) (ix + 1)).2 = N + 1 ∧ (fnsOf (P vars 0).2 ((P vars 0).1 ++ [retI]) (ix + 1)).2.length + 1 = B + 1
  rw [fnsOf_len1, h3, h4, List.length_append, List.length_singleton]
  exact ⟨by omega, rfl⟩
theorem Sz.no : Sz noComp 0 0 := fun _ _ => ⟨0, rfl, FsN.nil⟩
theorem Fo.one {s : Fo} (h : s.len = 1) : s.sz = s.szAt 0 ∧ s.kn [6] = s.fnAt 0 := by
  match s, h with
  | .cons k n m i d A c s .nil, _ => simp [Fo.sz, Fo.szAt, Fo.kn, Fo.fnAt]
theorem Fo.two {s : Fo} (h : s.len = 2) : s.sz = s.szAt 0 + s.szAt 1 ∧ s.kn [6] = s.fnAt 0 + s.fnAt 1 := by
  match s, h with
  | .cons k n m i d A c s (.cons k' n' m' i' d' A' c' s' .nil), _ => simp [Fo.sz, Fo.szAt, Fo.kn, Fo.fnAt]
theorem Fo.three {s : Fo} (h : s.len = 3) : s.sz = s.szAt 0 + s.szAt 1 + s.szAt 2 ∧ s.kn [6] = s.fnAt 0 + s.fnAt 1 + s.fnAt 2 := by
  match s, h with
  | .cons k n m i d A c s (.cons k' n' m' i' d' A' c' s' (.cons k2 n2 m2 i2 d2 A2 c2 s2 .nil)), _ => simp [Fo.sz, Fo.szAt, Fo.kn, Fo.fnAt, Nat.add_assoc]
theorem Fo.zero {s : Fo} (h : s.len = 0) : s.sz = 0 ∧ s.kn [6] = 0 := by
  match s, h with
  | .nil, _ => exact ⟨rfl, rfl⟩
theorem Sz.two {P Q : Comp} {N B N' B' : Nat} (h : Sz P N B) (g : Sz Q N' B') (x : Ins) : Sz (twoC P Q x) (N + N' + 1) (B + B') := by
  intro vars st
  obtain ⟨M, a1, a2⟩ := h vars st
  obtain ⟨M', a3, a4⟩ := g vars (st + (P vars st).1.length)
  exact ⟨M + M', by simp only [twoC, List.length_append, List.length_cons, List.length_nil]; omega, a2.append a4⟩
theorem Sz.lets {P Q : Comp} {N B N' B' : Nat} (h : Sz P N B) (g : Sz Q N' B') (n : ByteArray) : Sz (letC P Q n) (N + N' + 2) (B + B') := by
  intro vars st
  obtain ⟨M, a1, a2⟩ := h vars st
  obtain ⟨M', a3, a4⟩ := g (vars ++ [n]) (st + (P vars st).1.length + 1)
  exact ⟨M + M', by simp only [letC, List.length_append, List.length_cons, List.length_nil]; omega, a2.append a4⟩
theorem Sz.ifs {P Q R : Comp} {N B N' B' N2 B2 : Nat} (h : Sz P N B) (g : Sz Q N' B') (f : Sz R N2 B2) : Sz (ifC P Q R) (N + N' + N2 + 2) (B + B' + B2) := by
  intro vars st
  simp only [ifC]
  obtain ⟨M, a1, a2⟩ := h vars st
  obtain ⟨M', a3, a4⟩ := g vars (st + (P vars st).1.length + 1)
  obtain ⟨M2, a5, a6⟩ := f vars (st + (P vars st).1.length + 1 + (Q vars (st + (P vars st).1.length + 1)).1.length + 1)
  exact ⟨M + M' + M2, by simp only [List.length_append, List.length_cons, List.length_nil]; omega, (a2.append a4).append a6⟩
theorem Sz.cases {P Q R : Comp} {N B N' B' N2 B2 : Nat} (h : Sz P N B) (g : Sz Q N' B') (f : Sz R N2 B2) (n m : ByteArray) : Sz (caseC P Q R n m) (N + N' + N2 + 3) (B + B' + B2) := by
  intro vars st
  simp only [caseC]
  obtain ⟨M, a1, a2⟩ := h vars st
  obtain ⟨M2, a5, a6⟩ := f (vars ++ [n, m]) (st + (P vars st).1.length + 1)
  obtain ⟨M', a3, a4⟩ := g vars (st + (P vars st).1.length + 2 + (R (vars ++ [n, m]) (st + (P vars st).1.length + 1)).1.length + 1)
  refine ⟨M + M2 + M', by simp only [List.length_append, List.length_cons, List.length_nil]; omega, ?_⟩
  rw [show B + B' + B2 = B + B2 + B' by omega]
  exact (a2.append a6).append a4
theorem Sz.to {P : Comp} {N B N' B' : Nat} (h : Sz P N B) (e : N = N') (f : B = B') : Sz P N' B' := by subst e f; exact h
theorem nodeC_sz (label : ByteArray) (k : Int) (n m : ByteArray) (i d : Int) (A : Option Addr) (c : Nat) (s : Fo) (hg : gdC k s.len) (h : ∀ j, Sz ((s.comp label).getD j noComp) (s.szAt j) (s.fnAt j)) : Sz (nodeC label k n m i d A c s (s.comp label)) (szN k + s.sz) (kindN k [6] + s.kn [6]) := by
  obtain ⟨g1, g2, g3, g4⟩ := hg
  intro vars st
  unfold nodeC
  split
  · rename_i e
    subst e
    obtain ⟨e1, e2⟩ := Fo.one (g1 rfl)
    have hs : szN 6 = 2 := by decide
    have hk : kindN 6 [6] = 1 := by decide
    refine ⟨s.sz + 1, by simp only [List.length_cons, List.length_nil]; omega, fun l ix => ?_⟩
    obtain ⟨b1, b2⟩ := (h 0).blk (vars ++ [n]) vars.length true ix
    simp only [fnsOf, List.append_nil]
    rw [b1, b2, e1, e2, hk]
    exact ⟨rfl, by omega⟩
  split
  · rename_i e
    subst e
    obtain ⟨e1, e2⟩ := Fo.two (g2 (by omega))
    have hs : szN 7 = 1 := by decide
    have hk : kindN 7 [6] = 0 := by decide
    exact ((h 0).two (h 1) ⟨6, 0, 0, ⟨#[]⟩⟩).to (by omega) (by omega) vars st
  split
  · rename_i e
    subst e
    obtain ⟨e1, e2⟩ := Fo.two (g2 (by omega))
    have hs : szN 10 = 1 := by decide
    have hk : kindN 10 [6] = 0 := by decide
    exact ((h 0).two (h 1) ⟨10, 0, 0, n⟩).to (by omega) (by omega) vars st
  split
  · rename_i e
    subst e
    obtain ⟨e1, e2⟩ := Fo.two (g2 (by omega))
    have hs : szN 12 = 1 := by decide
    have hk : kindN 12 [6] = 0 := by decide
    exact ((h 0).two (h 1) ⟨12, 0, 0, ⟨#[]⟩⟩).to (by omega) (by omega) vars st
  split
  · rename_i e
    subst e
    obtain ⟨e1, e2⟩ := Fo.two (g2 (by omega))
    have hs : szN 8 = 2 := by decide
    have hk : kindN 8 [6] = 0 := by decide
    exact ((h 0).lets (h 1) n).to (by omega) (by omega) vars st
  split
  · rename_i e
    subst e
    obtain ⟨e1, e2⟩ := Fo.three (g3 (by omega))
    have hs : szN 9 = 2 := by decide
    have hk : kindN 9 [6] = 0 := by decide
    exact ((h 0).ifs (h 1) (h 2)).to (by omega) (by omega) vars st
  split
  · rename_i e
    subst e
    obtain ⟨e1, e2⟩ := Fo.three (g3 (by omega))
    have hs : szN 13 = 3 := by decide
    have hk : kindN 13 [6] = 0 := by decide
    exact ((h 0).cases (h 1) (h 2) n m).to (by omega) (by omega) vars st
  · rename_i n6 n7 n10 n12 n8 n9 n13
    obtain ⟨e1, e2⟩ := Fo.zero (g4 (by omega))
    refine ⟨0, ?_, ?_⟩
    · simp [szN, kindN, e1, n6, n8, n9, n13]
    · simp only [kindN, if_neg n6, e2]
      exact FsN.nil
theorem Fo.comp_sz (label : ByteArray) : ∀ (s : Fo), s.Gd → ∀ j, Sz ((s.comp label).getD j noComp) (s.szAt j) (s.fnAt j)
  | .nil, _, j => by simp only [Fo.comp, List.getD_nil]; exact Sz.no
  | .cons k n m i d A c s r, h, 0 => nodeC_sz label k n m i d A c s h.1 (Fo.comp_sz label s h.2.1)
  | .cons k n m i d A c s r, h, j + 1 => by
    have := Fo.comp_sz label r h.2.2 j
    simpa [Fo.comp, Fo.szAt, Fo.fnAt] using this
/-- A declaration's part in the size. -/
def Dc.sz (x : Dc) : Nat := szN x.k + x.s.sz
def Dc.fn (x : Dc) : Nat := kindN x.k [6] + x.s.kn [6]
def sumN (f : Dc → Nat) : List Dc → Nat
  | [] => 0
  | x :: r => f x + sumN f r
theorem modGo_sz (label : ByteArray) : ∀ (l : List Dc) (ix : Nat), (∀ x ∈ l, gdC x.k x.s.len ∧ x.s.Gd) → insSum (modGo label ix l).1 = sumN (fun x => x.sz + 1) l ∧ (modGo label ix l).1.length = sumN (fun x => x.fn + 1) l
  | [], _, _ => ⟨rfl, rfl⟩
  | x :: r, ix, h => by
    obtain ⟨h1, h2⟩ := h x (List.mem_cons_self ..)
    obtain ⟨b1, b2⟩ := (nodeC_sz label x.k x.n x.m x.i x.d x.A x.c x.s h1 (Fo.comp_sz label x.s h2)).blk [] 0 false ix
    obtain ⟨i1, i2⟩ := modGo_sz label r (ix + (blkOf (x.comp label) [] 0 false ix).length) fun y hy => h y (List.mem_cons_of_mem _ hy)
    simp only [modGo, insSum_append, List.length_append, sumN, i1, i2]
    unfold Dc.comp
    rw [b1, b2]
    exact ⟨rfl, rfl⟩
end Go.Proofs.YtlcfoiapkblheaaGreatDoor
/- Valid modules without conflicts: their parts -/
namespace Go.Proofs.YtlcfoiapkblheaaGreatDoor
open Go.RowKit Go.Proofs Go.Shelf

theorem gdC_of {k : Int} {n m : ByteArray} {i d : Int} {len : Nat} (h : nodeE k n m i d len = 0) (h15 : (k == 15) = false) : gdC k len := by
  have hl := err_len h
  have h15' : k ≠ 15 := by simpa using h15
  refine ⟨?_, ?_, ?_, ?_⟩
  · rintro rfl
    have : (shapeZ 6).2.2.1 = 1 := rfl
    omega
  · rintro (rfl | rfl | rfl | rfl)
    · have : (shapeZ 7).2.2.1 = 2 := rfl
      omega
    · have : (shapeZ 10).2.2.1 = 2 := rfl
      omega
    · have : (shapeZ 12).2.2.1 = 2 := rfl
      omega
    · have : (shapeZ 8).2.2.1 = 2 := rfl
      omega
  · rintro (rfl | rfl)
    · have : (shapeZ 9).2.2.1 = 3 := rfl
      omega
    · have : (shapeZ 13).2.2.1 = 3 := rfl
      omega
  · intro hn
    have : (shapeZ k).2.2.1 = 0 := by
      by_cases hk : knownZ k
      · unfold knownZ at hk
        rcases hk with rfl | rfl | rfl | rfl | rfl | rfl | rfl | rfl | rfl | rfl | rfl | rfl | rfl | rfl | rfl
        all_goals first | rfl | (exfalso; omega)
      · rw [shapeZ_no hk]
    omega
theorem Fo.gd_of : ∀ f : Fo, (∀ y ∈ f.vis, y.err = 0) → f.sum = false → f.Gd
  | .nil, _, _ => trivial
  | .cons k n m i d A c s r, h, hs => by
    simp only [Fo.vis, List.mem_append, List.mem_cons] at h
    simp only [Fo.sum, Bool.or_eq_false_iff] at hs
    exact ⟨gdC_of (h ⟨0, k, n, m, i, d, A, s.len, c⟩ (.inr (.inl rfl))) hs.1.1, s.gd_of (fun y hy => h y (.inr (.inr hy))) hs.1.2, r.gd_of (fun y hy => h y (.inl hy)) hs.2⟩
theorem Fo.dep_le : ∀ (f : Fo) (dp : Nat), ∀ y ∈ f.pre dp, y.dep ≤ dp + f.count
  | .nil, _, y, hy => by simp [Fo.pre] at hy
  | .cons k n m i d A c s r, dp, y, hy => by
    simp only [Fo.pre, List.mem_cons, List.mem_append] at hy
    simp only [Fo.count]
    rcases hy with rfl | hy | hy
    · simp
    · have := s.dep_le (dp + 1) y hy; omega
    · have := r.dep_le dp y hy; omega
theorem conf_sum : ∀ (l : List Dc) (met : List ByteArray), confB met l = false → ∀ x ∈ l, (x.k == 15 || x.s.sum) = false
  | [], _, _, x, hx => by simp at hx
  | y :: r, met, h, x, hx => by
    unfold confB at h
    by_cases hc : (y.doubt || y.names.length != 1 || (y.k == 15 || y.s.sum) || hasN met (nameOf y)) = true
    · rw [if_pos hc] at h; simp at h
    rw [if_neg hc] at h
    rcases List.mem_cons.1 hx with rfl | hx
    · simp only [Bool.or_eq_true, not_or, Bool.not_eq_true] at hc
      simp [hc.1.2.1, hc.1.2.2]
    · exact conf_sum r _ h x hx
theorem dc_gd {label : ByteArray} {x : Dc} (hv : DcV label x) (hs : (x.k == 15 || x.s.sum) = false) : gdC x.k x.s.len ∧ x.s.Gd := by
  have h : x.body.Gd := Fo.gd_of _ hv.err (by simpa [Dc.body, Fo.sum] using hs)
  exact ⟨h.1, h.2.1⟩
theorem modE_zero {label : ByteArray} {uses : List ByteArray} {decls : List Dc} (h : modE label uses decls = 0) : checkE label uses decls = 0 ∧ confB [] decls = false ∧ leadsB (decls.map Dc.id) uses decls = true := by
  unfold modE at h
  by_cases h1 : checkE label uses decls = 0
  · rw [if_neg (by simpa using h1)] at h
    cases h2 : confB [] decls
    · rw [h2] at h
      simp only [Bool.false_eq_true, if_false] at h
      refine ⟨h1, rfl, ?_⟩
      cases h3 : leadsB (decls.map Dc.id) uses decls
      · rw [h3] at h; simp at h
      · rfl
    · rw [h2] at h; simp at h
  · rw [if_pos h1] at h
    exact absurd h h1
/-- The size of the code of a module that can be compiled. -/
theorem mod_size {label : ByteArray} {uses : List ByteArray} {decls : List Dc} (h : modE label uses decls = 0) : insSum (modGo label 0 decls).1 = sumN (fun x => x.sz + 1) decls ∧ (modGo label 0 decls).1.length = sumN (fun x => x.fn + 1) decls := by
  obtain ⟨h1, h2, _⟩ := modE_zero h
  obtain ⟨_, _, hv⟩ := checkE_zero h1
  exact modGo_sz label decls 0 fun x hx => dc_gd (hv x hx) (conf_sum decls [] h2 x hx)
end Go.Proofs.YtlcfoiapkblheaaGreatDoor
