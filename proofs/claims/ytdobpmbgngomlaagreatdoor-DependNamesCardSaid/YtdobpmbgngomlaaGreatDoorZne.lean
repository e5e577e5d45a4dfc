/- Texts of keys can be read back: equal keys have equal parts -/
import Derived.Test.YtdobpmbgngomlaaGreatDoorZmd
import Derived.Test.YtdobpmbgngomlaaGreatDoorZly
import Derived.Test.YtdobpmbgngomlaaGreatDoorZlz
import Derived.Test.YtdobpmbgngomlaaGreatDoorZnc
namespace Go.Proofs.YtdobpmbgngomlaaGreatDoor
open Go.RowKit Go.Proofs Go.Shelf

theorem u8_inj {a b : Nat} (ha : a < 256) (hb : b < 256) (h : UInt8.ofNat a = UInt8.ofNat b) : a = b := by
  have := congrArg UInt8.toNat h
  rw [UInt8.toNat_ofNat', UInt8.toNat_ofNat', Nat.mod_eq_of_lt (by simpa using ha), Nat.mod_eq_of_lt (by simpa using hb)] at this
  exact this
theorem encL_inj (n : Nat) : ∀ (m : Nat) (r s : List UInt8), encL n ++ r = encL m ++ s → n = m ∧ r = s := by
  induction n using Nat.strongRecOn with
  | _ n ih =>
    intro m r s h
    by_cases hn : n < 128 <;> by_cases hm : m < 128
    · rw [encL_small hn, encL_small hm] at h
      simp only [List.cons_append, List.nil_append, List.cons.injEq] at h
      exact ⟨u8_inj (by omega) (by omega) h.1, h.2⟩
    · rw [encL_small hn, encL_big hm] at h
      simp only [List.cons_append, List.nil_append, List.cons.injEq] at h
      have := u8_inj (by omega) (by omega) h.1
      omega
    · rw [encL_big hn, encL_small hm] at h
      simp only [List.cons_append, List.nil_append, List.cons.injEq] at h
      have := u8_inj (by omega) (by omega) h.1
      omega
    · rw [encL_big hn, encL_big hm] at h
      simp only [List.cons_append, List.cons.injEq] at h
      have h1 := u8_inj (by omega) (by omega) h.1
      obtain ⟨h2, h3⟩ := ih (n / 128) (by omega) (m / 128) r s h.2
      exact ⟨by omega, h3⟩
theorem numL_inj {a b : Int} (ha : 0 ≤ a ∧ a ≤ 1099511627776) (hb : 0 ≤ b ∧ b ≤ 1099511627776) {r s : List UInt8} (h : numL a ++ r = numL b ++ s) : a = b ∧ r = s := by
  unfold numL at h
  rw [if_pos ha, if_pos hb] at h
  obtain ⟨h1, h2⟩ := encL_inj _ _ _ _ h
  exact ⟨by omega, h2⟩
theorem txtL_inj {a b : ByteArray} (ha : a.size ≤ 65536) (hb : b.size ≤ 65536) {r s : List UInt8} (h : txtL a ++ r = txtL b ++ s) : a = b ∧ r = s := by
  unfold txtL at h
  rw [if_pos ha, if_pos hb, List.append_assoc, List.append_assoc] at h
  obtain ⟨h1, h2⟩ := encL_inj _ _ _ _ h
  have hl : a.data.toList.length = b.data.toList.length := by
    have e1 : a.data.toList.length = a.size := by simp
    have e2 : b.data.toList.length = b.size := by simp
    omega
  obtain ⟨h3, h4⟩ := List.append_inj h2 hl
  exact ⟨ByteArray.ext (Array.ext' h3), h4⟩
theorem size_of_empty {s : ByteArray} (h : s.toList.isEmpty = true) : s.size = 0 := by
  rw [List.isEmpty_iff, ByteArray.toList_eq] at h
  have h2 : s.data.toList.length = s.size := by simp
  rw [h] at h2
  simpa using h2.symm
theorem nameB_size {s : ByteArray} (h : nameB s = true) : s.size ≤ 65536 := by
  unfold nameB wordB at h
  simp at h
  omega
/-- What the words and numbers of a valid node are like. -/
theorem err_small {k : Int} {n m : ByteArray} {i d : Int} {len : Nat} (h : nodeE k n m i d len = 0) : (0 ≤ k ∧ k ≤ 15) ∧ n.size ≤ 65536 ∧ m.size ≤ 65536 ∧ (0 ≤ d ∧ d ≤ 999999) := by
  have hk : knownZ k := by
    by_cases hk : knownZ k
    · exact hk
    · unfold nodeE at h
      rw [shapeZ_no hk] at h
      simp at h
  have hkb : 0 ≤ k ∧ k ≤ 15 := by unfold knownZ at hk; omega
  refine ⟨hkb, ?_⟩
  unfold nodeE at h
  obtain ⟨⟨a, b, c, ok⟩, ht⟩ : ∃ t, shapeZ k = t := ⟨_, rfl⟩
  have ha2 : a ≤ 2 ∧ (2 ≤ b → k = 14) := by
    unfold knownZ at hk
    rcases hk with rfl | rfl | rfl | rfl | rfl | rfl | rfl | rfl | rfl | rfl | rfl | rfl | rfl | rfl | rfl <;> (simp [shapeZ] at ht; omega)
  rw [ht] at h
  cases ok
  · simp at h
  · simp only at h
    cases ha : argB a b c n m i d len
    · rw [ha] at h
      simp only [Bool.false_eq_true, if_false] at h
      by_cases hn : namesE k n m a = 0
      · rw [if_pos hn] at h
        unfold argB at ha
        simp only [Bool.or_eq_false_iff, Bool.and_eq_false_iff, decide_eq_false_iff_not, Bool.not_eq_false'] at ha
        obtain ⟨⟨⟨⟨a1, a2⟩, a3⟩, a4⟩, a5⟩ := ha
        unfold namesE at hn
        by_cases h6 : nmB k n a = false ∨ (a = 2 ∧ nameB m = false)
        · rw [if_pos h6] at hn; simp at hn
        · rw [not_or] at h6
          obtain ⟨h7, h8⟩ := h6
          have h7' : nmB k n a = true := by simpa using h7
          refine ⟨?_, ?_, ?_⟩
          · unfold nmB at h7'
            by_cases k5 : k = 5
            · rw [if_pos k5, Bool.or_eq_true] at h7'
              rcases h7' with h9 | h9
              · have := size_of_empty h9; omega
              · have := labelB_size h9; omega
            · rw [if_neg k5] at h7'
              by_cases k10 : k = 10
              · rw [if_pos k10] at h7'
                unfold opB at h7'
                simp at h7'
                omega
              · rw [if_neg k10] at h7'
                by_cases ha1 : 1 ≤ a
                · rw [if_pos ha1] at h7'; exact nameB_size h7'
                · rcases a1 with a1 | a1
                  · omega
                  · have := size_of_empty a1; omega
          · rcases a2 with a2 | a2
            · have : a = 2 := by omega
              have h9 : nameB m = true := by
                cases hm : nameB m
                · exact absurd ⟨this, hm⟩ h8
                · rfl
              exact nameB_size h9
            · have := size_of_empty a2; omega
          · rcases a4 with a4 | a4
            · have k14 := ha2.2 (by omega)
              subst k14
              unfold numE at h
              cases hb : numB 14 i d
              · rw [hb] at h; simp at h
              · simp [numB] at hb; omega
            · have : d = 0 := by simpa using a4
              omega
      · rw [if_neg hn] at h; exact absurd h hn
    · rw [ha] at h; simp at h
end Go.Proofs.YtdobpmbgngomlaaGreatDoor
/- Equal keys, equal closures; equal bodies, equal keys -/
namespace Go.Proofs.YtdobpmbgngomlaaGreatDoor
open Go.RowKit Go.Proofs Go.Shelf

theorem eqF_refl : ∀ s : Fo, s.eqF s = true
  | .nil => rfl
  | .cons _ _ _ _ _ _ _ s r => by simp [Fo.eqF, eqF_refl s, eqF_refl r]
theorem eqF_symm : ∀ s s' : Fo, s.eqF s' = s'.eqF s
  | .nil, .nil => rfl
  | .nil, .cons .. => rfl
  | .cons .., .nil => rfl
  | .cons k n m i d _ _ s r, .cons k' n' m' i' d' _ _ s' r' => by
    simp only [Fo.eqF, eqF_symm s s', eqF_symm r r', Bool.beq_comm (a := k), Bool.beq_comm (a := n.toList), Bool.beq_comm (a := m.toList), Bool.beq_comm (a := i), Bool.beq_comm (a := d)]
theorem eqD_refl (x : Dc) : eqD x x = true := by simp [eqD, eqNd, eqF_refl]
theorem eqD_symm (x y : Dc) : eqD x y = eqD y x := by
  simp only [eqD, eqNd, eqF_symm x.s y.s, Bool.beq_comm (a := x.k), Bool.beq_comm (a := x.n.toList), Bool.beq_comm (a := x.m.toList), Bool.beq_comm (a := x.i), Bool.beq_comm (a := x.d)]
theorem toL_inj {a b : ByteArray} (h : a.toList = b.toList) : a = b := by
  rw [ByteArray.toList_eq, ByteArray.toList_eq] at h
  exact ByteArray.ext (Array.ext' h)
theorem eqF_refs : ∀ {s s' : Fo}, s.eqF s' = true → refL s.vis = refL s'.vis
  | .nil, .nil, _ => rfl
  | .nil, .cons .., h => by cases h
  | .cons .., .nil, h => by cases h
  | .cons k n m i d A c s r, .cons k' n' m' i' d' A' c' s' r', h => by
    simp only [Fo.eqF, Bool.and_eq_true, beq_iff_eq] at h
    obtain ⟨⟨⟨⟨⟨⟨rfl, hn⟩, _⟩, rfl⟩, _⟩, h1⟩, h2⟩ := h
    obtain rfl := toL_inj hn
    have e1 := eqF_refs h1
    have e2 := eqF_refs h2
    simp only [refL] at e1 e2
    simp only [Fo.vis, refL, List.filterMap_append, List.filterMap_cons, e1, e2]
theorem eqD_uses {x y : Dc} (h : eqD x y = true) (pack : ByteArray) : usesOf pack x.body = usesOf pack y.body := by
  have hb : x.body.eqF y.body = true := by
    simp only [Dc.body, Fo.eqF, Bool.and_true]
    exact h
  unfold usesOf refsOf
  rw [eqF_refs hb]
theorem sameB_symm (old new : List Mo) (n : ByteArray × Int) : sameB old new n = sameB new old n := by
  unfold sameB
  cases bodyOf old n <;> cases bodyOf new n <;> first | rfl | exact eqD_symm _ _
theorem sgnK_inj {i j : Int} (h : sgnK i = sgnK j) : i = j := by
  unfold sgnK at h
  split at h <;> split at h <;> omega
theorem sgnK_in {i : Int} (h : -999999999 ≤ i ∧ i ≤ 999999999) : 0 ≤ sgnK i ∧ sgnK i ≤ 1099511627776 := by
  unfold sgnK
  split <;> omega
theorem packS_size {pack : ByteArray} (hp : pack.size ≤ 90) {k : Int} {n : ByteArray} (h : n.size ≤ 65536) : (packS pack k n).size ≤ 65536 := by
  unfold packS
  split <;> omega
theorem beq_self_list (a : ByteArray) : (a.toList == a.toList) = true := by simp
theorem packS_inj {pack : ByteArray} {k : Int} {n n' : ByteArray} (h1 : ((k == 5) && (n.toList == pack.toList)) = false) (h2 : ((k == 5) && (n'.toList == pack.toList)) = false) (h : packS pack k n = packS pack k n') : n = n' := by
  unfold packS at h
  by_cases hk : k = 5
  · subst hk
    by_cases e1 : n.size = 0 <;> by_cases e2 : n'.size = 0
    · have a1 := toList_nil e1
      have a2 := toList_nil e2
      exact toL_inj (a1.trans a2.symm)
    · rw [if_pos ⟨rfl, e1⟩, if_neg (fun h => e2 h.2)] at h
      subst h
      simp at h2
    · rw [if_neg (fun h => e1 h.2), if_pos ⟨rfl, e2⟩] at h
      subst h
      simp at h1
    · rwa [if_neg (fun h => e1 h.2), if_neg (fun h => e2 h.2)] at h
  · rwa [if_neg (fun h => hk h.1), if_neg (fun h => hk h.1)] at h
theorem len_in {k : Int} {n m : ByteArray} {i d : Int} {len : Nat} (h : nodeE k n m i d len = 0) : (0 : Int) ≤ (len : Int) ∧ (len : Int) ≤ 1099511627776 := by
  have h1 := err_len h
  have h2 : (shapeZ k).2.2.1 ≤ 3 := by
    by_cases hk : knownZ k
    · unfold knownZ at hk
      rcases hk with rfl | rfl | rfl | rfl | rfl | rfl | rfl | rfl | rfl | rfl | rfl | rfl | rfl | rfl | rfl | rfl <;> simp [shapeZ]
    · rw [shapeZ_no hk]
      decide
  omega
theorem kt_inj {pack : ByteArray} (hp : pack.size ≤ 90) : ∀ (f g : Fo) (r s : List UInt8), (∀ x ∈ f.vis, x.err = 0) → (∀ x ∈ g.vis, x.err = 0) → f.vis.any (isRefTo pack) = false → g.vis.any (isRefTo pack) = false → f.len = g.len →
    f.kt pack ++ r = g.kt pack ++ s → f.eqF g = true ∧ r = s
  | .nil, .nil, r, s, _, _, _, _, _, h => ⟨rfl, by simpa [Fo.kt] using h⟩
  | .nil, .cons .., _, _, _, _, _, _, hl, _ => by simp [Fo.len] at hl
  | .cons .., .nil, _, _, _, _, _, _, hl, _ => by simp [Fo.len] at hl
  | .cons k n m i d A c f1 f2, .cons k' n' m' i' d' A' c' g1 g2, r, s, hf, hg, nf, ng, hl, h => by
    simp only [Fo.vis, List.mem_append, List.mem_cons] at hf hg
    simp only [Fo.vis, List.any_append, List.any_cons, Bool.or_eq_false_iff] at nf ng
    have ef : nodeE k n m i d f1.len = 0 := hf ⟨0, k, n, m, i, d, A, f1.len, c⟩ (.inr (.inl rfl))
    have eg : nodeE k' n' m' i' d' g1.len = 0 := hg ⟨0, k', n', m', i', d', A', g1.len, c'⟩ (.inr (.inl rfl))
    obtain ⟨a1, a2, a3, a4⟩ := err_small ef
    obtain ⟨b1, b2, b3, b4⟩ := err_small eg
    simp only [Fo.kt, nodeT, List.append_assoc] at h
    obtain ⟨q1, t1⟩ := numL_inj ⟨by omega, by omega⟩ ⟨by omega, by omega⟩ h
    obtain ⟨q2, t2⟩ := txtL_inj (packS_size hp a2) (packS_size hp b2) t1
    obtain ⟨q3, t3⟩ := txtL_inj a3 b3 t2
    obtain ⟨q4, t4⟩ := numL_inj (sgnK_in (err_bnd ef)) (sgnK_in (err_bnd eg)) t3
    obtain ⟨q5, t5⟩ := numL_inj ⟨by omega, by omega⟩ ⟨by omega, by omega⟩ t4
    obtain ⟨q6, t6⟩ := numL_inj (len_in ef) (len_in eg) t5
    obtain ⟨h4, t7⟩ := kt_inj hp f1 g1 _ _ (fun x hx => hf x (.inr (.inr hx))) (fun x hx => hg x (.inr (.inr hx))) nf.2.2 ng.2.2 (by omega) t6
    obtain ⟨h5, t8⟩ := kt_inj hp f2 g2 _ _ (fun x hx => hf x (.inl hx)) (fun x hx => hg x (.inl hx)) nf.1 ng.1 (by simp only [Fo.len] at hl; omega) t7
    clear h t1 t2 t3 t4 t5 t6 t7 ef eg hf hg
    have nf' := nf.2.1
    have ng' := ng.2.1
    have q7 := sgnK_inj q4
    subst q1 q3 q5 q7
    have q8 : n = n' := packS_inj nf' ng' q2
    subst q8
    exact ⟨by simp [Fo.eqF, h4, h5], t8⟩
/-- A name that exists in valid modules. -/
theorem body_v {l : List Mo} (h : chkL l = 0) {x : ByteArray × Int} {d : Dc} (hd : bodyOf l x = some d) : x.1.size ≤ 90 ∧ (1 ≤ x.2 ∧ x.2 ≤ 999999) ∧ (∀ y ∈ d.body.vis, y.err = 0) ∧ d.body.vis.any (isRefTo x.1) = false := by
  obtain ⟨m, hm, hdm, hl, hi⟩ := bodyOf_mem hd
  obtain ⟨v1, _, v3⟩ := checkE_zero (chkL_zero h m hm)
  have hv := v3 d hdm
  rw [← hl, ← hi]
  exact ⟨labelB_size v1, hv.id, hv.err, hv.noref⟩
theorem bodyT_some {l : List Mo} {x : ByteArray × Int} {d : Dc} (hd : bodyOf l x = some d) : bodyT l x = d.body.kt x.1 := by
  unfold bodyT
  rw [hd]
  simp only [Dc.body, Fo.kt, List.append_nil]
theorem entT_pos (l : List Mo) {x : ByteArray × Int} (h : x.1.size ≤ 90) (r : List UInt8) : entT l x ++ r ≠ [] := by
  unfold entT txtL
  rw [if_pos (by omega)]
  intro e
  have h1 : encL x.1.size = [] := by
    have := List.append_eq_nil_iff.1 e
    have := List.append_eq_nil_iff.1 this.1
    exact (List.append_eq_nil_iff.1 this.1).1
  rw [encL_small (by omega)] at h1
  simp at h1
theorem catE_inj {old new : List Mo} (ho : chkL old = 0) (hn : chkL new = 0) : ∀ (L L' : List (ByteArray × Int)), (∀ x ∈ L, (bodyOf old x).isSome = true) → (∀ x ∈ L', (bodyOf new x).isSome = true) → catE old L = catE new L' → L = L' ∧ ∀ x ∈ L, sameB old new x = true
  | [], [], _, _, _ => ⟨rfl, by simp⟩
  | [], x :: L', _, h', h => by
    obtain ⟨d, hd⟩ := Option.isSome_iff_exists.1 (h' x (List.mem_cons_self ..))
    exact absurd h.symm (entT_pos new (body_v hn hd).1 _)
  | x :: L, [], h', _, h => by
    obtain ⟨d, hd⟩ := Option.isSome_iff_exists.1 (h' x (List.mem_cons_self ..))
    exact absurd h (entT_pos old (body_v ho hd).1 _)
  | x :: L, x' :: L', h1, h2, h => by
    obtain ⟨d, hd⟩ := Option.isSome_iff_exists.1 (h1 x (List.mem_cons_self ..))
    obtain ⟨d', hd'⟩ := Option.isSome_iff_exists.1 (h2 x' (List.mem_cons_self ..))
    obtain ⟨a1, a2, a3, a4⟩ := body_v ho hd
    obtain ⟨b1, b2, b3, b4⟩ := body_v hn hd'
    have e1 : catE old (x :: L) = entT old x ++ catE old L := rfl
    have e2 : catE new (x' :: L') = entT new x' ++ catE new L' := rfl
    rw [e1, e2, entT, entT, bodyT_some hd, bodyT_some hd'] at h
    simp only [List.append_assoc] at h
    obtain ⟨c1, t1⟩ := txtL_inj (by omega) (by omega) h
    obtain ⟨c2, t2⟩ := numL_inj ⟨by omega, by omega⟩ ⟨by omega, by omega⟩ t1
    have hx : x = x' := Prod.ext c1 c2
    clear h t1 c1 c2 e1 e2
    subst hx
    obtain ⟨h3, t3⟩ := kt_inj a1 d.body d'.body _ _ a3 b3 a4 b4 rfl t2
    obtain ⟨h5, h4⟩ := catE_inj ho hn L L' (fun y hy => h1 y (List.mem_cons_of_mem _ hy)) (fun y hy => h2 y (List.mem_cons_of_mem _ hy)) t3
    subst h5
    refine ⟨rfl, fun y hy => ?_⟩
    rcases List.mem_cons.1 hy with rfl | hy
    · unfold sameB
      rw [hd, hd']
      simp only [Dc.body, Fo.eqF, Bool.and_true] at h3
      exact h3
    · exact h4 y hy
theorem eqF_kt (pack : ByteArray) : ∀ {s s' : Fo}, s.eqF s' = true → s.kt pack = s'.kt pack
  | .nil, .nil, _ => rfl
  | .nil, .cons .., h => by cases h
  | .cons .., .nil, h => by cases h
  | .cons k n m i d A c s r, .cons k' n' m' i' d' A' c' s' r', h => by
    simp only [Fo.eqF, Bool.and_eq_true, beq_iff_eq] at h
    obtain ⟨⟨⟨⟨⟨⟨rfl, hn⟩, hm⟩, rfl⟩, rfl⟩, h1⟩, h2⟩ := h
    obtain rfl := toL_inj hn
    obtain rfl := toL_inj hm
    simp only [Fo.kt, eqF_len h1, eqF_kt pack h1, eqF_kt pack h2]
theorem sameB_bodyT {old new : List Mo} {x : ByteArray × Int} (h : sameB old new x = true) : bodyT old x = bodyT new x := by
  obtain ⟨a, b, h1, h2, he⟩ := sameB_some h
  rw [bodyT_some h1, bodyT_some h2]
  apply eqF_kt
  simp only [Dc.body, Fo.eqF, Bool.and_true]
  exact he
theorem catE_same {old new : List Mo} : ∀ (L : List (ByteArray × Int)), (∀ x ∈ L, sameB old new x = true) → catE old L = catE new L
  | [], _ => rfl
  | x :: L, h => by
    have e1 : catE old (x :: L) = entT old x ++ catE old L := rfl
    have e2 : catE new (x :: L) = entT new x ++ catE new L := rfl
    rw [e1, e2, entT, entT, sameB_bodyT (h x (List.mem_cons_self ..)), catE_same L fun y hy => h y (List.mem_cons_of_mem _ hy)]
theorem keyL_cat {old new : List Mo} {n : ByteArray × Int} {L L' : List (ByteArray × Int)} (h : keyL old n L = keyL new n L') : catE old L = catE new L' := by
  unfold keyL at h
  exact List.append_cancel_left (List.append_cancel_left h)
theorem grf_some {l : List Mo} {x : ByteArray × Int} (h : grf l x ≠ none) : (bodyOf l x).isSome = true := by
  unfold grf at h
  cases hb : bodyOf l x with
  | none => rw [hb] at h; exact absurd rfl h
  | some d => rfl
/-- Equal keys: equal closures, of equal bodies. -/
theorem cert_inj {old new : List Mo} {n : ByteArray × Int} {L L' : List (ByteArray × Int)} (ho : loadE old n = 0) (hn : loadE new n = 0) (hL : Clo (grf old) n (some L)) (hL' : Clo (grf new) n (some L')) (h : certT old n L = certT new n L') : L = L' ∧ ∀ x ∈ L, sameB old new x = true := by
  unfold certT at h
  have h1 : keyL old n L = keyL new n L' := by
    have := congrArg (fun b : ByteArray => b.data.toList) h
    simpa using this
  refine catE_inj (loadE_zero ho).1 (loadE_zero hn).1 L L' (fun x hx => grf_some (hL.2.2 x ((hL.2.1 x).1 hx))) (fun x hx => grf_some (hL'.2.2 x ((hL'.2.1 x).1 hx))) (keyL_cat h1)
theorem sameB_grf {old new : List Mo} {x : ByteArray × Int} (h : sameB old new x = true) : grf old x = grf new x := by
  obtain ⟨a, b, ha, hb, he⟩ := sameB_some h
  unfold grf
  rw [ha, hb]
  simp only [Option.map_some, eqD_uses he]
/-- Where the bodies of a closure are equal, closure and key are. -/
theorem clo_same {old new : List Mo} {n : ByteArray × Int} {L : List (ByteArray × Int)} (hL : Clo (grf old) n (some L)) (hs : ∀ x ∈ L, sameB old new x = true) : Clo (grf new) n (some L) := by
  have h1 : ∀ x, Reach (grf new) n x → Reach (grf old) n x := fun x hx => by
    induction hx with
    | refl => exact .refl
    | step _ h2 h3 ih => exact ih.step (by rw [sameB_grf (hs _ ((hL.2.1 _).2 ih))]; exact h2) h3
  have h2 : ∀ x, Reach (grf old) n x → Reach (grf new) n x := fun x hx => by
    induction hx with
    | refl => exact .refl
    | step h0 h2 h3 ih => exact ih.step (by rw [← sameB_grf (hs _ ((hL.2.1 _).2 h0))]; exact h2) h3
  exact ⟨hL.1, fun x => ⟨fun hx => h2 x ((hL.2.1 x).1 hx), fun hx => (hL.2.1 x).2 (h1 x hx)⟩, fun x hx => by rw [← sameB_grf (hs x ((hL.2.1 x).2 (h1 x hx)))]; exact hL.2.2 x (h1 x hx)⟩
theorem key_same {old new : List Mo} (n : ByteArray × Int) {L : List (ByteArray × Int)} (hs : ∀ x ∈ L, sameB old new x = true) : certT old n L = certT new n L := by
  unfold certT keyL
  rw [catE_same L hs]
theorem sameB_refl {l : List Mo} {x : ByteArray × Int} (h : (bodyOf l x).isSome = true) : sameB l l x = true := by
  obtain ⟨d, hd⟩ := Option.isSome_iff_exists.1 h
  unfold sameB
  rw [hd]
  exact eqD_refl d
end Go.Proofs.YtdobpmbgngomlaaGreatDoor
