/- What a valid module is like -/
import Derived.Test.YtlpipoihinceiaaGreatDoorGkv
import Derived.Test.YtlpipoihinceiaaGreatDoorGkp
namespace Go.Proofs.YtlpipoihinceiaaGreatDoor
open Go.RowKit Go.Proofs Go.Shelf

theorem err_len {k : Int} {n m : ByteArray} {i d : Int} {len : Nat} (h : nodeE k n m i d len = 0) : (len : Int) = (shapeZ k).2.2.1 := by
  unfold nodeE at h
  obtain ⟨⟨a, b, c, ok⟩, hs⟩ : ∃ t, shapeZ k = t := ⟨_, rfl⟩
  rw [hs] at h ⊢
  cases ok
  · simp at h
  · simp only at h
    cases ha : argB a b c n m i d len
    · unfold argB at ha
      simp only [Bool.or_eq_false_iff] at ha
      have := ha.2
      simpa using this
    · rw [ha] at h; simp at h
theorem okC_of_err {k : Int} {n m : ByteArray} {i d : Int} {len : Nat} (h : nodeE k n m i d len = 0) : okC k len := by
  have hl := err_len h
  refine ⟨?_, ?_, ?_⟩
  · rintro rfl
    have : (shapeZ 6).2.2.1 = 1 := rfl
    omega
  · rintro (rfl | rfl | rfl | rfl)
    · have : (shapeZ 7).2.2.1 = 2 := rfl
      omega
    · have : (shapeZ 10).2.2.1 = 2 := rfl
      omega
    · have : (shapeZ 12).2.2.1 = 2 := rfl
      omega
    · have : (shapeZ 8).2.2.1 = 2 := rfl
      omega
  · rintro (rfl | rfl)
    · have : (shapeZ 9).2.2.1 = 3 := rfl
      omega
    · have : (shapeZ 13).2.2.1 = 3 := rfl
      omega
theorem Fo.cok_of_err : ∀ (f : Fo) (dp : Nat), (∀ x ∈ f.pre dp, x.err = 0) → f.Cok
  | .nil, _, _ => trivial
  | .cons k n m i d A c s r, dp, h => by
    simp only [Fo.pre, List.mem_cons, List.mem_append] at h
    exact ⟨okC_of_err (h ⟨dp, k, n, m, i, d, A, s.len, c⟩ (.inl rfl)), s.cok_of_err (dp + 1) (fun x hx => h x (.inr (.inl hx))), r.cok_of_err dp (fun x hx => h x (.inr (.inr hx)))⟩
/-- The nodes of a visit are those of a check. -/
theorem Fo.vis_err : ∀ (f : Fo) (dp : Nat), (∀ x ∈ f.pre dp, x.err = 0) → ∀ x ∈ f.vis, x.err = 0
  | .nil, _, _, x, hx => by simp [Fo.vis] at hx
  | .cons k n m i d A c s r, dp, h, x, hx => by
    simp only [Fo.pre, List.mem_cons, List.mem_append] at h
    simp only [Fo.vis, List.mem_append, List.mem_cons] at hx
    rcases hx with hx | rfl | hx
    · exact r.vis_err dp (fun x hx => h x (.inr (.inr hx))) x hx
    · exact h ⟨dp, k, n, m, i, d, A, s.len, c⟩ (.inl rfl)
    · exact s.vis_err (dp + 1) (fun x hx => h x (.inr (.inl hx))) x hx
theorem ref_err {n m : ByteArray} {i d : Int} {len : Nat} (h : nodeE 5 n m i d len = 0) : n.size ≤ 90 ∧ 1 ≤ i ∧ i ≤ 999999 := by
  have e : nodeE 5 n m i d len = if argB 1 1 0 n m i d len then 1 else if namesE 5 n m 1 = 0 then numE 5 i d else namesE 5 n m 1 := rfl
  rw [e] at h
  cases ha : argB 1 1 0 n m i d len
  · rw [ha] at h
    simp only [Bool.false_eq_true, if_false] at h
    by_cases hn : namesE 5 n m 1 = 0
    · rw [if_pos hn] at h
      refine ⟨?_, ?_⟩
      · have hb : nmB 5 n 1 = true := by
          cases hb : nmB 5 n 1
          · simp [namesE, hb] at hn
          · rfl
        simp only [nmB, if_true, Bool.or_eq_true] at hb
        rcases hb with hb | hb
        · have : n.toList = [] := by simpa using hb
          rw [Lib.toList_data] at this
          have : n.size = 0 := by
            have h2 : n.data.toList.length = n.size := by simp
            rw [this] at h2
            simpa using h2.symm
          omega
        · unfold labelB at hb
          simp at hb
          exact hb.1
      · unfold numE at h
        cases hb : numB 5 i d
        · rw [hb] at h; simp at h
        · simp [numB] at hb; exact hb
    · rw [if_neg hn] at h; exact absurd h hn
  · rw [ha] at h; simp at h

theorem dd_sub : ∀ (p : ByteArray × Int) (l : List (ByteArray × Int)), ∀ x ∈ dd p l, x ∈ l
  | _, [], x, h => by simp [dd] at h
  | p, y :: r, x, h => by
    unfold dd at h
    split at h
    · exact List.mem_cons_of_mem _ (dd_sub y r x h)
    · rcases List.mem_cons.1 h with rfl | h
      · exact List.mem_cons_self ..
      · exact List.mem_cons_of_mem _ (dd_sub y r x h)
theorem compactL_sub : ∀ (l : List (ByteArray × Int)), ∀ x ∈ compactL l, x ∈ l
  | [], x, h => by simp [compactL] at h
  | y :: r, x, h => by
    rcases List.mem_cons.1 h with rfl | h
    · exact List.mem_cons_self ..
    · exact List.mem_cons_of_mem _ (dd_sub y r x h)
theorem refsOf_sub (l : List Nd) : ∀ r ∈ refsOf l, ∃ x ∈ l, x.k = 5 ∧ r = (x.n, x.i) := by
  intro r hr
  have h1 := compactL_sub _ _ hr
  have h2 : r ∈ refL l := List.mem_mergeSort.1 h1
  simp only [refL, List.mem_filterMap] at h2
  obtain ⟨x, hx, h3⟩ := h2
  by_cases hk : x.k = 5
  · rw [if_pos hk] at h3
    exact ⟨x, hx, hk, (Option.some.inj h3).symm⟩
  · rw [if_neg hk] at h3; cases h3

/-- What a valid declaration is like. -/
structure DcV (label : ByteArray) (x : Dc) : Prop where
  id : 1 ≤ x.id ∧ x.id ≤ 999999
  kind : x.kind = 1 ∨ x.kind = 2 ∨ x.kind = 3
  names : dnE x.names = 0
  cnt : x.s.count ≤ 399
  okc : okC x.k x.s.len
  cok : x.s.Cok
  err : ∀ y ∈ x.body.vis, y.err = 0
  nodot : x.body.vis.any (fun y => y.k == 4) = false
  nofree : nodeFree x.k x.n x.m x.s [] = false
  noref : x.body.vis.any (isRefTo label) = false
theorem declE_zero {label : ByteArray} {x : Dc} (h : declE label x = 0) : DcV label x := by
  unfold declE at h
  by_cases h1 : x.id < 1 ∨ 999999 < x.id
  · rw [if_pos h1] at h; simp at h
  rw [if_neg h1] at h
  by_cases h2 : x.kind ≠ 1 ∧ x.kind ≠ 2 ∧ x.kind ≠ 3
  · rw [if_pos h2] at h; simp at h
  rw [if_neg h2] at h
  by_cases h3 : dnE x.names ≠ 0
  · rw [if_pos h3] at h; exact absurd h h3
  rw [if_neg h3] at h
  by_cases h4 : exprE x.pre ≠ 0
  · rw [if_pos h4] at h; exact absurd h h4
  rw [if_neg h4] at h
  have h4' : exprE x.pre = 0 := by omega
  by_cases h5 : x.body.vis.any (fun y => y.k == 4) = true
  · rw [if_pos h5] at h; simp at h
  rw [if_neg h5] at h
  by_cases h6 : nodeFree x.k x.n x.m x.s [] = true
  · rw [if_pos h6] at h; simp at h
  rw [if_neg h6] at h
  by_cases h7 : x.body.vis.any (isRefTo label) = true
  · rw [if_pos h7] at h; simp at h
  obtain ⟨_, _, h8⟩ := exprE_zero h4'
  have hpre : ∀ y ∈ x.body.pre 1, y.err = 0 := by
    intro y hy
    refine h8 y ?_
    simpa [Dc.body, Dc.pre, Fo.pre] using hy
  exact ⟨by omega, by omega, by omega, (Dc.valid h4').2.2, okC_of_err (h8 _ (List.mem_cons_self ..)), x.s.cok_of_err 2 fun y hy => h8 y (List.mem_cons_of_mem _ hy), x.body.vis_err 1 hpre, by simpa using h5, by simpa using h6, by simpa using h7⟩
theorem declsE_zero (label : ByteArray) : ∀ (l : List Dc) (p : Option Int), declsE label p l = 0 → ∀ x ∈ l, declE label x = 0
  | [], _, _, x, hx => by simp at hx
  | y :: r, p, h, x, hx => by
    have key : declE label y = 0 ∧ declsE label (some y.id) r = 0 := by
      cases p with
      | none =>
        unfold declsE at h
        by_cases hy : declE label y = 0
        · rw [if_pos hy] at h; exact ⟨hy, h⟩
        · rw [if_neg hy] at h; exact absurd h hy
      | some p =>
        unfold declsE at h
        by_cases hy : declE label y = 0
        · rw [if_pos hy] at h
          by_cases hp : y.id ≤ p
          · rw [if_pos hp] at h; simp at h
          · rw [if_neg hp] at h; exact ⟨hy, h⟩
        · rw [if_neg hy] at h; exact absurd h hy
    rcases List.mem_cons.1 hx with rfl | hx
    · exact key.1
    · exact declsE_zero label r _ key.2 x hx
theorem checkE_zero {label : ByteArray} {uses : List ByteArray} {decls : List Dc} (h : checkE label uses decls = 0) : labelB label = true ∧ decls.length ≤ 100 ∧ ∀ x ∈ decls, DcV label x := by
  unfold checkE at h
  cases h0 : labelB label
  · rw [h0] at h; simp at h
  rw [h0] at h
  simp only [Bool.true_eq_false, if_false] at h
  by_cases h1 : srcE uses ≠ 0
  · rw [if_pos h1] at h; exact absurd h h1
  rw [if_neg h1] at h
  by_cases h2 : useAll label uses uses.length 0 ≠ 0
  · rw [if_pos h2] at h; exact absurd h h2
  rw [if_neg h2] at h
  by_cases h3 : 100 < decls.length
  · rw [if_pos h3] at h; simp at h
  rw [if_neg h3] at h
  exact ⟨rfl, by omega, fun x hx => declE_zero (declsE_zero label decls none h x hx)⟩
theorem wf64 {i : Int} (h : 1 ≤ i ∧ i ≤ 999999) : (Lit.int .i64 i).wf = true := by
  simp [Lit.wf, IntKind.min, IntKind.max, IntKind.bits, IntKind.signed]
  omega
theorem DcV.refs {label : ByteArray} {x : Dc} (h : DcV label x) : ∀ r ∈ x.refs, r.1.size ≤ 90 ∧ 1 ≤ r.2 ∧ r.2 ≤ 999999 := by
  intro r hr
  obtain ⟨y, hy, hk, rfl⟩ := refsOf_sub _ r hr
  have he := h.err y hy
  unfold Nd.err at he
  rw [hk] at he
  exact ref_err he
theorem okR_of {label : ByteArray} {decls : List Dc} (h : ∀ x ∈ decls, DcV label x) : OkR decls := fun x hx => ⟨wf64 (h x hx).id, by have := (h x hx).cnt; omega, fun r hr => by
  have := (h x hx).refs r hr
  exact ⟨by unfold maxLen; omega, wf64 this.2⟩⟩
theorem strD_of {label : ByteArray} {decls : List Dc} (h : ∀ x ∈ decls, DcV label x) : StrD decls := by
  intro x hx s hs
  have hn := (h x hx).names
  unfold dnE at hn
  split at hn
  · simp at hn
  · split at hn
    · rename_i _ ha
      have := List.all_eq_true.1 ha s hs
      unfold dnB at this
      simp only [Bool.or_eq_true] at this
      rcases this with h1 | h1
      · have := wordB_size h1; unfold maxLen; omega
      · simp at h1
        have h2 : s.toList = [] := h1.2
        rw [Lib.toList_data] at h2
        have h3 : s.data.toList.length = s.size := by simp
        rw [h2] at h3
        simp at h3
        unfold maxLen; omega
    · simp at hn
end Go.Proofs.YtlpipoihinceiaaGreatDoor
