/- maker.expr at if -/
import Derived.Test.YtlpipoihinceiaaGreatDoorGkr
namespace Go.Proofs.YtlpipoihinceiaaGreatDoor
open Go.RowKit Go.Proofs Go.Shelf

set_option maxRecDepth 100000 in
set_option maxHeartbeats 2000000 in
theorem expr_9 (label : ByteArray) (s : Fo) (ih : s.All (ExprOK label)) : ExprAt label 9 s := by
  intro n m i d A c vars vA vc mb n₀ lb fb L F X hs hok hck hv hmc hmb hcs hL hF hvl
  have hlen : 3 ≤ s.len := hok.2.2 (by omega)
  obtain ⟨t0, ht0⟩ := Fo.tree_some (s := s) (j := 0) (by omega)
  obtain ⟨t1, ht1⟩ := Fo.tree_some (s := s) (j := 1) (by omega)
  obtain ⟨t2, ht2⟩ := Fo.tree_some (s := s) (j := 2) (by omega)
  have g0 := Lib.hid (Fo.comp_tree label ht0)
  have c0 : s.cnt 0 = 1 + t0.s.count := by unfold Fo.cnt; rw [ht0]
  have l0 := Lib.hid (t0.comp_len label)
  have g1 := Lib.hid (Fo.comp_tree label ht1)
  have c1 : s.cnt 1 = 1 + t1.s.count := by unfold Fo.cnt; rw [ht1]
  have l1 := Lib.hid (t1.comp_len label)
  have g2 := Lib.hid (Fo.comp_tree label ht2)
  have c2 : s.cnt 2 = 1 + t2.s.count := by unfold Fo.cnt; rw [ht2]
  have l2 := Lib.hid (t2.comp_len label)
  have cc := s.cnt_three
  rw [c0, c1, c2] at cc
  clear c0 c1 c2
  have HT := Lib.hid (And.intro hck (And.intro (And.intro ht0 (ih.tree ht0)) (And.intro (And.intro ht1 (ih.tree ht1)) (And.intro ht2 (ih.tree ht2)))))
  clear hck ht0 ht1 ht2 ih hlen hok
  obtain ⟨W0, hW0⟩ : ∃ W0, (((((X.alloc (.cells #[.pointer (some ⟨mb, 0, none⟩)] 188)).alloc (.cells #[.int .i64 9, .string n, .string m, .int .i64 i, .int .i64 d, .slice A s.len c] 28)).alloc (.cells #[.slice vA vars.length vc] 22)).alloc (.cells #[.func (.func 186) #[] #[.pointer (some ⟨lb, 0, none⟩)]] 231)).alloc (.cells #[.func (.func 187) #[] #[.pointer (some ⟨fb, 0, none⟩)]] 234)).alloc (.cells #[.func (.func 188) #[] #[.pointer (some ⟨lb, 0, none⟩)]] 159) = W0 := ⟨_, rfl⟩
  obtain ⟨E0, cs0, hk0⟩ := env_start label s 9 n m i d A c vars vA vc mb n₀ lb fb L F X W0 hs hv hmc hmb hcs hW0
  clear hs hv hmc hcs
  obtain ⟨L1, HL1⟩ : ∃ Q, Hid (L ++ (t0.comp label (vars ++ []) L.length).1 = Q) := ⟨_, Lib.hid rfl⟩
  obtain ⟨F1, HF1⟩ : ∃ Q, Hid (F ++ (t0.comp label (vars ++ []) L.length).2 = Q) := ⟨_, Lib.hid rfl⟩
  have qL1 : L1.length ≤ L.length + 3 * (1 + t0.s.count) ∧ L.length ≤ L1.length := by rw [← HL1.out, List.length_append]; have := (l0.out (vars ++ []) L.length).1; omega
  have qF1 : F1.length ≤ F.length + (1 + t0.s.count) := by rw [← HF1.out, List.length_append]; have := (l0.out (vars ++ []) L.length).2.1; omega
  obtain ⟨L2, HL2⟩ : ∃ Q, Hid (L1 ++ [(⟨9, 0, 0, ⟨#[]⟩⟩ : Ins)] = Q) := ⟨_, Lib.hid rfl⟩
  have qL2 : L2.length ≤ L1.length + 1 ∧ L1.length < L2.length := by rw [← HL2.out, List.length_append]; simp
  obtain ⟨N1, HN1⟩ : ∃ Q, Hid (L1.length = Q) := ⟨_, Lib.hid rfl⟩
  have qN1 : N1 ≤ L1.length ∧ L1.length ≤ N1 := by rw [HN1.out]; omega
  obtain ⟨L3, HL3⟩ : ∃ Q, Hid (L2 ++ (t1.comp label (vars ++ []) L2.length).1 = Q) := ⟨_, Lib.hid rfl⟩
  obtain ⟨F2, HF2⟩ : ∃ Q, Hid (F1 ++ (t1.comp label (vars ++ []) L2.length).2 = Q) := ⟨_, Lib.hid rfl⟩
  have qL3 : L3.length ≤ L2.length + 3 * (1 + t1.s.count) ∧ L2.length ≤ L3.length := by rw [← HL3.out, List.length_append]; have := (l1.out (vars ++ []) L2.length).1; omega
  have qF2 : F2.length ≤ F1.length + (1 + t1.s.count) := by rw [← HF2.out, List.length_append]; have := (l1.out (vars ++ []) L2.length).2.1; omega
  obtain ⟨L4, HL4⟩ : ∃ Q, Hid (L3 ++ [(⟨8, 0, 0, ⟨#[]⟩⟩ : Ins)] = Q) := ⟨_, Lib.hid rfl⟩
  have qL4 : L4.length ≤ L3.length + 1 ∧ L3.length < L4.length := by rw [← HL4.out, List.length_append]; simp
  obtain ⟨N3, HN3⟩ : ∃ Q, Hid (L3.length = Q) := ⟨_, Lib.hid rfl⟩
  have qN3 : N3 ≤ L3.length ∧ L3.length ≤ N3 := by rw [HN3.out]; omega
  obtain ⟨L5, HL5⟩ : ∃ Q, Hid (setA L4 N1 L4.length = Q) := ⟨_, Lib.hid rfl⟩
  have qL5 : L5.length ≤ L4.length ∧ L4.length ≤ L5.length := by rw [← HL5.out, setA_length]; omega
  obtain ⟨L6, HL6⟩ : ∃ Q, Hid (L5 ++ (t2.comp label (vars ++ []) L5.length).1 = Q) := ⟨_, Lib.hid rfl⟩
  obtain ⟨F3, HF3⟩ : ∃ Q, Hid (F2 ++ (t2.comp label (vars ++ []) L5.length).2 = Q) := ⟨_, Lib.hid rfl⟩
  have qL6 : L6.length ≤ L5.length + 3 * (1 + t2.s.count) ∧ L5.length ≤ L6.length := by rw [← HL6.out, List.length_append]; have := (l2.out (vars ++ []) L5.length).1; omega
  have qF3 : F3.length ≤ F2.length + (1 + t2.s.count) := by rw [← HF3.out, List.length_append]; have := (l2.out (vars ++ []) L5.length).2.1; omega
  obtain ⟨L7, HL7⟩ : ∃ Q, Hid (setA L6 N3 L6.length = Q) := ⟨_, Lib.hid rfl⟩
  have qL7 : L7.length ≤ L6.length ∧ L6.length ≤ L7.length := by rw [← HL7.out, setA_length]; omega
  have HR1 : Hid (L ++ (nodeC label 9 n m i d A c s (s.comp label) vars L.length).1 = L7) := by
    show _ = _
    have e : (nodeC label 9 n m i d A c s (s.comp label) vars L.length).1 = (ifC (t0.comp label) (t1.comp label) (t2.comp label) vars L.length).1 := by rw [← g0.out, ← g1.out, ← g2.out]; rfl
    obtain ⟨P0, hP0⟩ : ∃ P0, t0.comp label (vars ++ []) L.length = P0 := ⟨_, rfl⟩
    have e1 : L1 = L ++ P0.1 := by rw [← HL1.out, hP0]
    have n1 : N1 = L.length + P0.1.length := by rw [← HN1.out, e1, List.length_append]
    have m2 : L2.length = N1 + 1 := by rw [← HL2.out, List.length_append, HN1.out]; rfl
    obtain ⟨P1, hP1⟩ : ∃ P1, t1.comp label (vars ++ []) (N1 + 1) = P1 := ⟨_, rfl⟩
    have e3 : L3 = L2 ++ P1.1 := by rw [← HL3.out, m2, hP1]
    have n3 : N3 = N1 + 1 + P1.1.length := by rw [← HN3.out, e3, List.length_append, m2]
    have m4 : L4.length = N3 + 1 := by rw [← HL4.out, List.length_append, HN3.out]; rfl
    have e4 : L4 = (L ++ P0.1) ++ (⟨9, 0, 0, ⟨#[]⟩⟩ : Ins) :: (P1.1 ++ [(⟨8, 0, 0, ⟨#[]⟩⟩ : Ins)]) := by rw [← HL4.out, e3, ← HL2.out, e1]; simp
    have e5 : L5 = (L ++ P0.1) ++ (⟨9, (N3 + 1 : Nat), 0, ⟨#[]⟩⟩ : Ins) :: (P1.1 ++ [(⟨8, 0, 0, ⟨#[]⟩⟩ : Ins)]) := by rw [← HL5.out, m4, e4, setA_at _ _ _ _ (by rw [n1, List.length_append])]
    have m5 : L5.length = N3 + 1 := by rw [← HL5.out, setA_length, m4]
    obtain ⟨P2, hP2⟩ : ∃ P2, t2.comp label (vars ++ []) (N3 + 1) = P2 := ⟨_, rfl⟩
    have e6 : L6 = ((L ++ P0.1) ++ (⟨9, (N3 + 1 : Nat), 0, ⟨#[]⟩⟩ : Ins) :: P1.1) ++ (⟨8, 0, 0, ⟨#[]⟩⟩ : Ins) :: P2.1 := by rw [← HL6.out, m5, hP2, e5]; simp
    have m6 : L6.length = N3 + 1 + P2.1.length := by rw [← HL6.out, List.length_append, m5, hP2]
    have e7 : L7 = ((L ++ P0.1) ++ (⟨9, (N3 + 1 : Nat), 0, ⟨#[]⟩⟩ : Ins) :: P1.1) ++ (⟨8, (N3 + 1 + P2.1.length : Nat), 0, ⟨#[]⟩⟩ : Ins) :: P2.1 := by rw [← HL7.out, m6, e6, setA_at _ _ _ _ (by rw [n3, n1]; simp; omega)]
    rw [List.append_nil] at hP0 hP1 hP2
    rw [e, e7]
    simp only [ifC, hP0, ← n1, hP1, ← n3, hP2]
    simp
  have HR2 : Hid (F ++ (nodeC label 9 n m i d A c s (s.comp label) vars L.length).2 = F3) := by
    show _ = _
    have e : (nodeC label 9 n m i d A c s (s.comp label) vars L.length).2 = (ifC (t0.comp label) (t1.comp label) (t2.comp label) vars L.length).2 := by rw [← g0.out, ← g1.out, ← g2.out]; rfl
    obtain ⟨P0, hP0⟩ : ∃ P0, t0.comp label (vars ++ []) L.length = P0 := ⟨_, rfl⟩
    have n1 : N1 = L.length + P0.1.length := by rw [← HN1.out, ← HL1.out, hP0, List.length_append]
    have m2 : L2.length = N1 + 1 := by rw [← HL2.out, List.length_append, HN1.out]; rfl
    obtain ⟨P1, hP1⟩ : ∃ P1, t1.comp label (vars ++ []) (N1 + 1) = P1 := ⟨_, rfl⟩
    have n3 : N3 = N1 + 1 + P1.1.length := by rw [← HN3.out, ← HL3.out, m2, hP1, List.length_append, m2]
    have m5 : L5.length = N3 + 1 := by rw [← HL5.out, setA_length, ← HL4.out, List.length_append, HN3.out]; rfl
    rw [e, ← HF3.out, ← HF2.out, ← HF1.out, m5, m2, hP0, hP1]
    rw [List.append_nil] at hP0 hP1 ⊢
    simp only [ifC, hP0, ← n1, hP1, ← n3]
    simp
  rw [HR1.out, HR2.out]
  obtain ⟨r0, r1, r2, r3, r4⟩ := E0.cells
  go_enter Tryz.func189, Tryz.ntmps189
  go_wp2_with fail
  refine (part_at E0 cs0 HT.out.2.1.1 HT.out.2.1.2 HT.out.1 0 rfl [] none 0 0 rfl (SlS.nil _ _ _ _ (by simp [maxLen])) L1 F1 HL1.out HF1.out (by omega) (by omega) (by omega)).mono ?_
  rintro e w1 ⟨⟨v1, rfl⟩, cs1, hk1⟩
  have E1 := E0.kc hk1
  have K1 := Lib.hid (hk0.trans hk1)
  clear cs0 hk0 hk1 E0 r0 r1 r2 r3 r4 hW0
  obtain ⟨r0, r1, r2, r3, r4⟩ := E1.cells
  go_wp2_with fail
  refine (emit_at cs1 9 0 0 ⟨#[]⟩ (by omega) N1 HN1.out L2 HL2.out).mono ?_
  rintro e w2 ⟨rfl, cs2, hk2⟩
  have E2 := E1.kc hk2
  have K2 := Lib.hid (K1.out.trans hk2)
  clear cs1 hk2 E1 r0 r1 r2 r3 r4
  obtain ⟨r0, r1, r2, r3, r4⟩ := E2.cells
  go_wp2_with fail
  refine (part_at E2 cs2 HT.out.2.2.1.1 HT.out.2.2.1.2 HT.out.1 1 rfl [] none 0 0 rfl (SlS.nil _ _ _ _ (by simp [maxLen])) L3 F2 HL3.out HF2.out (by omega) (by omega) (by omega)).mono ?_
  rintro e w3 ⟨⟨v3, rfl⟩, cs3, hk3⟩
  have E3 := E2.kc hk3
  have K3 := Lib.hid (K2.out.trans hk3)
  clear cs2 hk3 E2 r0 r1 r2 r3 r4
  obtain ⟨r0, r1, r2, r3, r4⟩ := E3.cells
  go_wp2_with fail
  refine (emit_at cs3 8 0 0 ⟨#[]⟩ (by omega) N3 HN3.out L4 HL4.out).mono ?_
  rintro e w4 ⟨rfl, cs4, hk4⟩
  have E4 := E3.kc hk4
  have K4 := Lib.hid (K3.out.trans hk4)
  clear cs3 hk4 E3 r0 r1 r2 r3 r4
  obtain ⟨r0, r1, r2, r3, r4⟩ := E4.cells
  go_wp2_with fail
  refine (target_at cs4 N1 (by omega) (by omega) L5 HL5.out).mono ?_
  rintro e w5 ⟨⟨v5, rfl⟩, cs5, hk5⟩
  have E5 := E4.kc hk5
  have K5 := Lib.hid (K4.out.trans hk5)
  clear cs4 hk5 E4 r0 r1 r2 r3 r4
  obtain ⟨r0, r1, r2, r3, r4⟩ := E5.cells
  go_wp2_with fail
  refine (part_at E5 cs5 HT.out.2.2.2.1 HT.out.2.2.2.2 HT.out.1 2 rfl [] none 0 0 rfl (SlS.nil _ _ _ _ (by simp [maxLen])) L6 F3 HL6.out HF3.out (by omega) (by omega) (by omega)).mono ?_
  rintro e w6 ⟨⟨v6, rfl⟩, cs6, hk6⟩
  have E6 := E5.kc hk6
  have K6 := Lib.hid (K5.out.trans hk6)
  clear cs5 hk6 E5 r0 r1 r2 r3 r4
  obtain ⟨r0, r1, r2, r3, r4⟩ := E6.cells
  go_wp2_with fail
  refine (target_at cs6 N3 (by omega) (by omega) L7 HL7.out).mono ?_
  rintro e w7 ⟨⟨v7, rfl⟩, cs7, hk7⟩
  have E7 := E6.kc hk7
  have K7 := Lib.hid (K6.out.trans hk7)
  clear cs6 hk7 E6 r0 r1 r2 r3 r4
  obtain ⟨r0, r1, r2, r3, r4⟩ := E7.cells
  go_wp2
  go_end0
  exact ⟨⟨_, rfl⟩, cs7, K7.out⟩

end Go.Proofs.YtlpipoihinceiaaGreatDoor
/- maker.expr at case -/
namespace Go.Proofs.YtlpipoihinceiaaGreatDoor
open Go.RowKit Go.Proofs Go.Shelf

set_option maxRecDepth 100000 in
set_option maxHeartbeats 2000000 in
theorem expr_13 (label : ByteArray) (s : Fo) (ih : s.All (ExprOK label)) : ExprAt label 13 s := by
  intro n m i d A c vars vA vc mb n₀ lb fb L F X hs hok hck hv hmc hmb hcs hL hF hvl
  have hlen : 3 ≤ s.len := hok.2.2 (by omega)
  obtain ⟨t0, ht0⟩ := Fo.tree_some (s := s) (j := 0) (by omega)
  obtain ⟨t1, ht1⟩ := Fo.tree_some (s := s) (j := 1) (by omega)
  obtain ⟨t2, ht2⟩ := Fo.tree_some (s := s) (j := 2) (by omega)
  have g0 := Lib.hid (Fo.comp_tree label ht0)
  have c0 : s.cnt 0 = 1 + t0.s.count := by unfold Fo.cnt; rw [ht0]
  have l0 := Lib.hid (t0.comp_len label)
  have g1 := Lib.hid (Fo.comp_tree label ht1)
  have c1 : s.cnt 1 = 1 + t1.s.count := by unfold Fo.cnt; rw [ht1]
  have l1 := Lib.hid (t1.comp_len label)
  have g2 := Lib.hid (Fo.comp_tree label ht2)
  have c2 : s.cnt 2 = 1 + t2.s.count := by unfold Fo.cnt; rw [ht2]
  have l2 := Lib.hid (t2.comp_len label)
  have cc := s.cnt_three
  rw [c0, c1, c2] at cc
  clear c0 c1 c2
  have HT := Lib.hid (And.intro hck (And.intro (And.intro ht0 (ih.tree ht0)) (And.intro (And.intro ht1 (ih.tree ht1)) (And.intro ht2 (ih.tree ht2)))))
  clear hck ht0 ht1 ht2 ih hlen hok
  obtain ⟨W0, hW0⟩ : ∃ W0, (((((X.alloc (.cells #[.pointer (some ⟨mb, 0, none⟩)] 188)).alloc (.cells #[.int .i64 13, .string n, .string m, .int .i64 i, .int .i64 d, .slice A s.len c] 28)).alloc (.cells #[.slice vA vars.length vc] 22)).alloc (.cells #[.func (.func 186) #[] #[.pointer (some ⟨lb, 0, none⟩)]] 231)).alloc (.cells #[.func (.func 187) #[] #[.pointer (some ⟨fb, 0, none⟩)]] 234)).alloc (.cells #[.func (.func 188) #[] #[.pointer (some ⟨lb, 0, none⟩)]] 159) = W0 := ⟨_, rfl⟩
  obtain ⟨E0, cs0, hk0⟩ := env_start label s 13 n m i d A c vars vA vc mb n₀ lb fb L F X W0 hs hv hmc hmb hcs hW0
  clear hs hv hmc hcs
  obtain ⟨L1, HL1⟩ : ∃ Q, Hid (L ++ (t0.comp label (vars ++ []) L.length).1 = Q) := ⟨_, Lib.hid rfl⟩
  obtain ⟨F1, HF1⟩ : ∃ Q, Hid (F ++ (t0.comp label (vars ++ []) L.length).2 = Q) := ⟨_, Lib.hid rfl⟩
  have qL1 : L1.length ≤ L.length + 3 * (1 + t0.s.count) ∧ L.length ≤ L1.length := by rw [← HL1.out, List.length_append]; have := (l0.out (vars ++ []) L.length).1; omega
  have qF1 : F1.length ≤ F.length + (1 + t0.s.count) := by rw [← HF1.out, List.length_append]; have := (l0.out (vars ++ []) L.length).2.1; omega
  obtain ⟨L2, HL2⟩ : ∃ Q, Hid (L1 ++ [(⟨13, 0, 0, ⟨#[]⟩⟩ : Ins)] = Q) := ⟨_, Lib.hid rfl⟩
  have qL2 : L2.length ≤ L1.length + 1 ∧ L1.length < L2.length := by rw [← HL2.out, List.length_append]; simp
  obtain ⟨N1, HN1⟩ : ∃ Q, Hid (L1.length = Q) := ⟨_, Lib.hid rfl⟩
  have qN1 : N1 ≤ L1.length ∧ L1.length ≤ N1 := by rw [HN1.out]; omega
  obtain ⟨L3, HL3⟩ : ∃ Q, Hid (L2 ++ (t2.comp label (vars ++ [n, m]) L2.length).1 = Q) := ⟨_, Lib.hid rfl⟩
  obtain ⟨F2, HF2⟩ : ∃ Q, Hid (F1 ++ (t2.comp label (vars ++ [n, m]) L2.length).2 = Q) := ⟨_, Lib.hid rfl⟩
  have qL3 : L3.length ≤ L2.length + 3 * (1 + t2.s.count) ∧ L2.length ≤ L3.length := by rw [← HL3.out, List.length_append]; have := (l2.out (vars ++ [n, m]) L2.length).1; omega
  have qF2 : F2.length ≤ F1.length + (1 + t2.s.count) := by rw [← HF2.out, List.length_append]; have := (l2.out (vars ++ [n, m]) L2.length).2.1; omega
  obtain ⟨L4, HL4⟩ : ∃ Q, Hid (L3 ++ [(⟨15, 2, 0, ⟨#[]⟩⟩ : Ins)] = Q) := ⟨_, Lib.hid rfl⟩
  have qL4 : L4.length ≤ L3.length + 1 ∧ L3.length < L4.length := by rw [← HL4.out, List.length_append]; simp
  obtain ⟨N3, HN3⟩ : ∃ Q, Hid (L3.length = Q) := ⟨_, Lib.hid rfl⟩
  have qN3 : N3 ≤ L3.length ∧ L3.length ≤ N3 := by rw [HN3.out]; omega
  obtain ⟨L5, HL5⟩ : ∃ Q, Hid (L4 ++ [(⟨8, 0, 0, ⟨#[]⟩⟩ : Ins)] = Q) := ⟨_, Lib.hid rfl⟩
  have qL5 : L5.length ≤ L4.length + 1 ∧ L4.length < L5.length := by rw [← HL5.out, List.length_append]; simp
  obtain ⟨N4, HN4⟩ : ∃ Q, Hid (L4.length = Q) := ⟨_, Lib.hid rfl⟩
  have qN4 : N4 ≤ L4.length ∧ L4.length ≤ N4 := by rw [HN4.out]; omega
  obtain ⟨L6, HL6⟩ : ∃ Q, Hid (setA L5 N1 L5.length = Q) := ⟨_, Lib.hid rfl⟩
  have qL6 : L6.length ≤ L5.length ∧ L5.length ≤ L6.length := by rw [← HL6.out, setA_length]; omega
  obtain ⟨L7, HL7⟩ : ∃ Q, Hid (L6 ++ (t1.comp label (vars ++ []) L6.length).1 = Q) := ⟨_, Lib.hid rfl⟩
  obtain ⟨F3, HF3⟩ : ∃ Q, Hid (F2 ++ (t1.comp label (vars ++ []) L6.length).2 = Q) := ⟨_, Lib.hid rfl⟩
  have qL7 : L7.length ≤ L6.length + 3 * (1 + t1.s.count) ∧ L6.length ≤ L7.length := by rw [← HL7.out, List.length_append]; have := (l1.out (vars ++ []) L6.length).1; omega
  have qF3 : F3.length ≤ F2.length + (1 + t1.s.count) := by rw [← HF3.out, List.length_append]; have := (l1.out (vars ++ []) L6.length).2.1; omega
  obtain ⟨L8, HL8⟩ : ∃ Q, Hid (setA L7 N4 L7.length = Q) := ⟨_, Lib.hid rfl⟩
  have qL8 : L8.length ≤ L7.length ∧ L7.length ≤ L8.length := by rw [← HL8.out, setA_length]; omega
  have HR1 : Hid (L ++ (nodeC label 13 n m i d A c s (s.comp label) vars L.length).1 = L8) := by
    show _ = _
    have e : (nodeC label 13 n m i d A c s (s.comp label) vars L.length).1 = (caseC (t0.comp label) (t1.comp label) (t2.comp label) n m vars L.length).1 := by rw [← g0.out, ← g1.out, ← g2.out]; rfl
    obtain ⟨P0, hP0⟩ : ∃ P0, t0.comp label (vars ++ []) L.length = P0 := ⟨_, rfl⟩
    have e1 : L1 = L ++ P0.1 := by rw [← HL1.out, hP0]
    have n1 : N1 = L.length + P0.1.length := by rw [← HN1.out, e1, List.length_append]
    have m2 : L2.length = N1 + 1 := by rw [← HL2.out, List.length_append, HN1.out]; rfl
    obtain ⟨P2, hP2⟩ : ∃ P2, t2.comp label (vars ++ [n, m]) (N1 + 1) = P2 := ⟨_, rfl⟩
    have e3 : L3 = L2 ++ P2.1 := by rw [← HL3.out, m2, hP2]
    have m3 : L3.length = N1 + 1 + P2.1.length := by rw [e3, List.length_append, m2]
    have n4 : N4 = N1 + 2 + P2.1.length := by rw [← HN4.out, ← HL4.out, List.length_append, m3]; simp; omega
    have m5 : L5.length = N4 + 1 := by rw [← HL5.out, List.length_append, HN4.out]; rfl
    have e5 : L5 = (L ++ P0.1) ++ (⟨13, 0, 0, ⟨#[]⟩⟩ : Ins) :: (P2.1 ++ [(⟨15, 2, 0, ⟨#[]⟩⟩ : Ins), (⟨8, 0, 0, ⟨#[]⟩⟩ : Ins)]) := by rw [← HL5.out, ← HL4.out, e3, ← HL2.out, e1]; simp
    have e6 : L6 = (L ++ P0.1) ++ (⟨13, (N4 + 1 : Nat), 0, ⟨#[]⟩⟩ : Ins) :: (P2.1 ++ [(⟨15, 2, 0, ⟨#[]⟩⟩ : Ins), (⟨8, 0, 0, ⟨#[]⟩⟩ : Ins)]) := by rw [← HL6.out, m5, e5, setA_at _ _ _ _ (by rw [n1, List.length_append])]
    have m6 : L6.length = N4 + 1 := by rw [← HL6.out, setA_length, m5]
    obtain ⟨P1, hP1⟩ : ∃ P1, t1.comp label (vars ++ []) (N4 + 1) = P1 := ⟨_, rfl⟩
    have e7 : L7 = ((L ++ P0.1) ++ (⟨13, (N4 + 1 : Nat), 0, ⟨#[]⟩⟩ : Ins) :: (P2.1 ++ [(⟨15, 2, 0, ⟨#[]⟩⟩ : Ins)])) ++ (⟨8, 0, 0, ⟨#[]⟩⟩ : Ins) :: P1.1 := by rw [← HL7.out, m6, hP1, e6]; simp
    have m7 : L7.length = N4 + 1 + P1.1.length := by rw [← HL7.out, List.length_append, m6, hP1]
    have e8 : L8 = ((L ++ P0.1) ++ (⟨13, (N4 + 1 : Nat), 0, ⟨#[]⟩⟩ : Ins) :: (P2.1 ++ [(⟨15, 2, 0, ⟨#[]⟩⟩ : Ins)])) ++ (⟨8, (N4 + 1 + P1.1.length : Nat), 0, ⟨#[]⟩⟩ : Ins) :: P1.1 := by rw [← HL8.out, m7, e7, setA_at _ _ _ _ (by rw [n4, n1]; simp; omega)]
    rw [List.append_nil] at hP0 hP1
    rw [e, e8]
    simp only [caseC, hP0, ← n1, hP2, ← n4, hP1]
    simp
  have HR2 : Hid (F ++ (nodeC label 13 n m i d A c s (s.comp label) vars L.length).2 = F3) := by
    show _ = _
    have e : (nodeC label 13 n m i d A c s (s.comp label) vars L.length).2 = (caseC (t0.comp label) (t1.comp label) (t2.comp label) n m vars L.length).2 := by rw [← g0.out, ← g1.out, ← g2.out]; rfl
    obtain ⟨P0, hP0⟩ : ∃ P0, t0.comp label (vars ++ []) L.length = P0 := ⟨_, rfl⟩
    have n1 : N1 = L.length + P0.1.length := by rw [← HN1.out, ← HL1.out, hP0, List.length_append]
    have m2 : L2.length = N1 + 1 := by rw [← HL2.out, List.length_append, HN1.out]; rfl
    obtain ⟨P2, hP2⟩ : ∃ P2, t2.comp label (vars ++ [n, m]) (N1 + 1) = P2 := ⟨_, rfl⟩
    have m3 : L3.length = N1 + 1 + P2.1.length := by rw [← HL3.out, m2, hP2, List.length_append, m2]
    have n4 : N4 = N1 + 2 + P2.1.length := by rw [← HN4.out, ← HL4.out, List.length_append, m3]; simp; omega
    have m6 : L6.length = N4 + 1 := by rw [← HL6.out, setA_length, ← HL5.out, List.length_append, HN4.out]; rfl
    rw [e, ← HF3.out, ← HF2.out, ← HF1.out, m6, m2, hP0, hP2]
    rw [List.append_nil] at hP0 ⊢
    simp only [caseC, hP0, ← n1, hP2, ← n4]
    simp
  rw [HR1.out, HR2.out]
  obtain ⟨r0, r1, r2, r3, r4⟩ := E0.cells
  go_enter Tryz.func189, Tryz.ntmps189
  go_wp2_with fail
  refine (part_at E0 cs0 HT.out.2.1.1 HT.out.2.1.2 HT.out.1 0 rfl [] none 0 0 rfl (SlS.nil _ _ _ _ (by simp [maxLen])) L1 F1 HL1.out HF1.out (by omega) (by omega) (by omega)).mono ?_
  rintro e w1 ⟨⟨v1, rfl⟩, cs1, hk1⟩
  have E1 := E0.kc hk1
  have K1 := Lib.hid (hk0.trans hk1)
  clear cs0 hk0 hk1 E0 r0 r1 r2 r3 r4 hW0
  obtain ⟨r0, r1, r2, r3, r4⟩ := E1.cells
  go_wp2_with fail
  refine (emit_at cs1 13 0 0 ⟨#[]⟩ (by omega) N1 HN1.out L2 HL2.out).mono ?_
  rintro e w2 ⟨rfl, cs2, hk2⟩
  have E2 := E1.kc hk2
  have K2 := Lib.hid (K1.out.trans hk2)
  clear cs1 hk2 E1 r0 r1 r2 r3 r4
  obtain ⟨r0, r1, r2, r3, r4⟩ := E2.cells
  go_wp2_with fail
  have hba2 := (Below.refl w2.heap.size w2).alloc (Nat.le_refl _) (.cells #[.string n, .string m] 9)
  refine (part_at (E2.kc (Kc.below hba2)) (cs2.below hba2) HT.out.2.2.2.1 HT.out.2.2.2.2 HT.out.1 2 rfl [n, m] (some ⟨w2.heap.size, 0, none⟩) 2 2 rfl (more_new2 w2 n m) L3 F2 HL3.out HF2.out (by omega) (by omega) (by omega)).mono ?_
  rintro e w3 ⟨⟨v3, rfl⟩, cs3, hk3⟩
  replace hk3 := (Kc.below hba2).trans hk3
  clear hba2
  have E3 := E2.kc hk3
  have K3 := Lib.hid (K2.out.trans hk3)
  clear cs2 hk3 E2 r0 r1 r2 r3 r4
  obtain ⟨r0, r1, r2, r3, r4⟩ := E3.cells
  go_wp2_with fail
  refine (emit_at cs3 15 2 0 ⟨#[]⟩ (by omega) N3 HN3.out L4 HL4.out).mono ?_
  rintro e w4 ⟨rfl, cs4, hk4⟩
  have E4 := E3.kc hk4
  have K4 := Lib.hid (K3.out.trans hk4)
  clear cs3 hk4 E3 r0 r1 r2 r3 r4
  obtain ⟨r0, r1, r2, r3, r4⟩ := E4.cells
  go_wp2_with fail
  refine (emit_at cs4 8 0 0 ⟨#[]⟩ (by omega) N4 HN4.out L5 HL5.out).mono ?_
  rintro e w5 ⟨rfl, cs5, hk5⟩
  have E5 := E4.kc hk5
  have K5 := Lib.hid (K4.out.trans hk5)
  clear cs4 hk5 E4 r0 r1 r2 r3 r4
  obtain ⟨r0, r1, r2, r3, r4⟩ := E5.cells
  go_wp2_with fail
  refine (target_at cs5 N1 (by omega) (by omega) L6 HL6.out).mono ?_
  rintro e w6 ⟨⟨v6, rfl⟩, cs6, hk6⟩
  have E6 := E5.kc hk6
  have K6 := Lib.hid (K5.out.trans hk6)
  clear cs5 hk6 E5 r0 r1 r2 r3 r4
  obtain ⟨r0, r1, r2, r3, r4⟩ := E6.cells
  go_wp2_with fail
  refine (part_at E6 cs6 HT.out.2.2.1.1 HT.out.2.2.1.2 HT.out.1 1 rfl [] none 0 0 rfl (SlS.nil _ _ _ _ (by simp [maxLen])) L7 F3 HL7.out HF3.out (by omega) (by omega) (by omega)).mono ?_
  rintro e w7 ⟨⟨v7, rfl⟩, cs7, hk7⟩
  have E7 := E6.kc hk7
  have K7 := Lib.hid (K6.out.trans hk7)
  clear cs6 hk7 E6 r0 r1 r2 r3 r4
  obtain ⟨r0, r1, r2, r3, r4⟩ := E7.cells
  go_wp2_with fail
  refine (target_at cs7 N4 (by omega) (by omega) L8 HL8.out).mono ?_
  rintro e w8 ⟨⟨v8, rfl⟩, cs8, hk8⟩
  have E8 := E7.kc hk8
  have K8 := Lib.hid (K7.out.trans hk8)
  clear cs7 hk8 E7 r0 r1 r2 r3 r4
  obtain ⟨r0, r1, r2, r3, r4⟩ := E8.cells
  go_wp2
  go_end0
  exact ⟨⟨_, rfl⟩, cs8, K8.out⟩

end Go.Proofs.YtlpipoihinceiaaGreatDoor
/- maker.expr at functions and at nodes without parts; maker.expr -/
namespace Go.Proofs.YtlpipoihinceiaaGreatDoor
open Go.RowKit Go.Proofs Go.Shelf

theorem belowd (X : World) : Below X.heap.size X X.drew := ⟨rfl, rfl, rfl, Nat.le_refl _, fun _ _ => rfl⟩
theorem kcd {n₀ : Nat} {X Y : World} (h : Kc n₀ X.drew Y) : Kc n₀ X Y := ⟨h.os, h.tape, h.output, h.size, h.block⟩
theorem later_at {n₀ lb fb : Nat} {L : List Ins} {F : List FnE} {W : World} (h : CS n₀ lb fb L F W) (k : Int) (n m : ByteArray) (i d : Int) (A : Option Addr) (c : Nat) (s : Fo) (place : Nat) (vars : List ByteArray) (mks : Nat → List Blk) (vA : Option Addr) (vc : Nat) (hv : VarsAt W vA vc vars) (hF : F.length ≤ 1000000) (F' : List FnE) (hF' : F ++ [⟨k, n, m, i, d, A, c, s, place, vars, mks⟩] = F') :
    Calls Tryz.prog 187 #[.agg #[.int .i64 k, .string n, .string m, .int .i64 i, .int .i64 d, .slice A s.len c, .int .i64 place, .slice vA vars.length vc], .pointer (some ⟨fb, 0, none⟩)] W (PartP n₀ lb fb L F' W) := by
  subst hF'
  exact later_any ⟨k, n, m, i, d, A, c, s, place, vars, mks⟩ vA vc n₀ lb fb L F W h hv hF

set_option maxRecDepth 100000 in
set_option maxHeartbeats 2000000 in
theorem expr_6 (label : ByteArray) (s : Fo) : ExprAt label 6 s := by
  intro n m i d A c vars vA vc mb n₀ lb fb L F X hs hok hck hv hmc hmb hcs hL hF hvl
  obtain ⟨W0, hW0⟩ : ∃ W0, (((((X.alloc (.cells #[.pointer (some ⟨mb, 0, none⟩)] 188)).alloc (.cells #[.int .i64 6, .string n, .string m, .int .i64 i, .int .i64 d, .slice A s.len c] 28)).alloc (.cells #[.slice vA vars.length vc] 22)).alloc (.cells #[.func (.func 186) #[] #[.pointer (some ⟨lb, 0, none⟩)]] 231)).alloc (.cells #[.func (.func 187) #[] #[.pointer (some ⟨fb, 0, none⟩)]] 234)).alloc (.cells #[.func (.func 188) #[] #[.pointer (some ⟨lb, 0, none⟩)]] 159) = W0 := ⟨_, rfl⟩
  obtain ⟨E0, cs0, hk0⟩ := env_start label s 6 n m i d A c vars vA vc mb n₀ lb fb L F X W0 hs hv hmc hmb hcs hW0
  clear hs hv hmc hcs hok hck
  obtain ⟨L1, HL1⟩ : ∃ Q, Hid (L ++ [(⟨5, 0, 0, ⟨#[]⟩⟩ : Ins)] = Q) := ⟨_, Lib.hid rfl⟩
  obtain ⟨N, HN⟩ : ∃ Q, Hid (L.length = Q) := ⟨_, Lib.hid rfl⟩
  obtain ⟨F1, HF1⟩ : ∃ Q, Hid (F ++ [(⟨6, n, m, i, d, A, c, s, N, vars, blkOf ((s.comp label).getD 0 noComp) (vars ++ [n]) vars.length true⟩ : FnE)] = Q) := ⟨_, Lib.hid rfl⟩
  have HR1 : Hid (L ++ (nodeC label 6 n m i d A c s (s.comp label) vars L.length).1 = L1) := by rw [← HL1.out]; exact Lib.hid rfl
  have HR2 : Hid (F ++ (nodeC label 6 n m i d A c s (s.comp label) vars L.length).2 = F1) := by rw [← HF1.out, ← HN.out]; exact Lib.hid rfl
  rw [HR1.out, HR2.out]
  obtain ⟨r0, r1, r2, r3, r4, r5, r6, r7, r8, r9⟩ := E0.cells2
  have HE := Lib.hid (fun (W : World) (hk : Kc n₀ W0 W) => (E0.kc hk).cells2)
  have HC := Lib.hid (And.intro cs0 hk0)
  have HV := Lib.hid (fun (W : World) (hk : Kc n₀ W0 W) => (E0.kc hk).va)
  clear cs0 hk0 E0
  go_enter Tryz.func189, Tryz.ntmps189
  go_wp2_with fail
  go_region_held3 (fun W => W.cell? ⟨X.heap.size, 0, none⟩ = some (.pointer (some ⟨mb, 0, none⟩)) ∧ W.cell? ⟨X.heap.size + 1, 0, none⟩ = some (.int .i64 6) ∧ W.cell? ⟨X.heap.size + 1, 1, none⟩ = some (.string n) ∧ W.cell? ⟨X.heap.size + 1, 2, none⟩ = some (.string m) ∧ W.cell? ⟨X.heap.size + 1, 3, none⟩ = some (.int .i64 i) ∧ W.cell? ⟨X.heap.size + 1, 4, none⟩ = some (.int .i64 d) ∧ W.cell? ⟨X.heap.size + 1, 5, none⟩ = some (.slice A s.len c) ∧
    W.cell? ⟨X.heap.size + 1 + 1, 0, none⟩ = some (.slice vA vars.length vc) ∧ W.cell? ⟨X.heap.size + 1 + 1 + 1, 0, none⟩ = some (.func (.func 186) #[] #[.pointer (some ⟨lb, 0, none⟩)]) ∧ W.cell? ⟨X.heap.size + 1 + 1 + 1 + 1, 0, none⟩ = some (.func (.func 187) #[] #[.pointer (some ⟨fb, 0, none⟩)]))
    (first | exact HE.out _ (kcs (Kc.refl _ _) rfl) | exact HE.out _ hk1' | exact HE.out _ (hk1'.trans hk2))
    (first
      | (go_at_call 186; refine (emit_at (by exact HC.out.1.below (belowd _)) 5 0 0 ⟨#[]⟩ (by omega) N HN.out L1 HL1.out).mono ?_; rintro e w1 ⟨rfl, cs1, hk1⟩; have hk1' : Kc n₀ W0 w1 := kcd hk1)
      | (go_at_call 187; refine (later_at cs1 6 n m i d A c s N vars _ vA vc (HV.out _ hk1') (by omega) F1 HF1.out).mono ?_; rintro e w2 ⟨⟨v2, rfl⟩, cs2, hk2⟩))
  all_goals (
    go_wp2
    go_end0
    exact ⟨⟨_, rfl⟩, cs2, HC.out.2.trans (hk1'.trans hk2)⟩)

set_option maxRecDepth 100000 in
set_option maxHeartbeats 2000000 in
theorem expr_0 (label : ByteArray) (k : Int) (s : Fo) (hk : k ≠ 6 ∧ k ≠ 7 ∧ k ≠ 10 ∧ k ≠ 12 ∧ k ≠ 8 ∧ k ≠ 9 ∧ k ≠ 13) : ExprAt label k s := by
  intro n m i d A c vars vA vc mb n₀ lb fb L F X hs hok hck hv hmc hmb hcs hL hF hvl
  obtain ⟨h6, h7, h10, h12, h8, h9, h13⟩ := hk
  have HN6 : Hid (nodeC label k n m i d A c s (s.comp label) vars L.length = ([simpleI label k n i d vars], [])) := by
    show _ = _
    unfold nodeC
    rw [if_neg h6, if_neg h7, if_neg h10, if_neg h12, if_neg h8, if_neg h9, if_neg h13]
  have k6 : (k == 6) = false := by simpa using h6
  have k7 : (k == 7) = false := by simpa using h7
  have k10 : (k == 10) = false := by simpa using h10
  have k12 : (k == 12) = false := by simpa using h12
  have k8 : (k == 8) = false := by simpa using h8
  have k9 : (k == 9) = false := by simpa using h9
  have k13 : (k == 13) = false := by simpa using h13
  clear h6 h7 h10 h12 h8 h9 h13
  obtain ⟨W0, hW0⟩ : ∃ W0, (((((X.alloc (.cells #[.pointer (some ⟨mb, 0, none⟩)] 188)).alloc (.cells #[.int .i64 k, .string n, .string m, .int .i64 i, .int .i64 d, .slice A s.len c] 28)).alloc (.cells #[.slice vA vars.length vc] 22)).alloc (.cells #[.func (.func 186) #[] #[.pointer (some ⟨lb, 0, none⟩)]] 231)).alloc (.cells #[.func (.func 187) #[] #[.pointer (some ⟨fb, 0, none⟩)]] 234)).alloc (.cells #[.func (.func 188) #[] #[.pointer (some ⟨lb, 0, none⟩)]] 159) = W0 := ⟨_, rfl⟩
  obtain ⟨E0, cs0, hk0⟩ := env_start label s k n m i d A c vars vA vc mb n₀ lb fb L F X W0 hs hv hmc hmb hcs hW0
  clear hs hv hmc hcs hok hck
  obtain ⟨xi, Hxi⟩ : ∃ Q, Hid (simpleI label k n i d vars = Q) := ⟨_, Lib.hid rfl⟩
  have HSM := Lib.hid (fun (W : World) (hm : W.cell? ⟨mb, 0, none⟩ = some (.string label)) (hv : VarsAt W vA vc vars) => simple_any label k n m i d A s.len c vars vA vc mb W hm hv (by omega))
  rw [Hxi.out] at HSM HN6
  obtain ⟨xop, xa, xb, xnm⟩ := xi
  obtain ⟨L1, HL1⟩ : ∃ Q, Hid (L ++ [(⟨xop, xa, xb, xnm⟩ : Ins)] = Q) := ⟨_, Lib.hid rfl⟩
  have HR1 : Hid (L ++ (nodeC label k n m i d A c s (s.comp label) vars L.length).1 = L1) := by show _ = _; rw [HN6.out]; exact HL1.out
  have HR2 : Hid (F ++ (nodeC label k n m i d A c s (s.comp label) vars L.length).2 = F) := by show _ = _; rw [HN6.out]; simp
  rw [HR1.out, HR2.out]
  obtain ⟨r0, r1, r2, r3, r4, r5, r6, r7, r8, r9⟩ := E0.cells2
  have HE := Lib.hid (fun (W : World) (hk : Kc n₀ W0 W) => (E0.kc hk).cells2)
  have HC := Lib.hid (And.intro cs0 (And.intro hk0 (And.intro E0.va E0.mc)))
  clear cs0 hk0 E0
  go_enter Tryz.func189, Tryz.ntmps189
  go_wp2_with fail
  go_region_held3 (fun W => W.cell? ⟨X.heap.size, 0, none⟩ = some (.pointer (some ⟨mb, 0, none⟩)) ∧ W.cell? ⟨X.heap.size + 1, 0, none⟩ = some (.int .i64 k) ∧ W.cell? ⟨X.heap.size + 1, 1, none⟩ = some (.string n) ∧ W.cell? ⟨X.heap.size + 1, 2, none⟩ = some (.string m) ∧ W.cell? ⟨X.heap.size + 1, 3, none⟩ = some (.int .i64 i) ∧ W.cell? ⟨X.heap.size + 1, 4, none⟩ = some (.int .i64 d) ∧ W.cell? ⟨X.heap.size + 1, 5, none⟩ = some (.slice A s.len c) ∧
    W.cell? ⟨X.heap.size + 1 + 1, 0, none⟩ = some (.slice vA vars.length vc) ∧ W.cell? ⟨X.heap.size + 1 + 1 + 1, 0, none⟩ = some (.func (.func 186) #[] #[.pointer (some ⟨lb, 0, none⟩)]) ∧ W.cell? ⟨X.heap.size + 1 + 1 + 1 + 1, 0, none⟩ = some (.func (.func 187) #[] #[.pointer (some ⟨fb, 0, none⟩)]))
    (first | exact HE.out _ (kcs (Kc.refl _ _) rfl) | exact HE.out _ hk1' | exact HE.out _ (hk1'.trans hk2))
    (first
      | (go_at_call 223; refine (HSM.out _ (by exact HC.out.2.2.2) (by exact HC.out.2.2.1)).mono ?_; rintro e w1 ⟨rfl, hb1⟩; have hk1' : Kc n₀ W0 w1 := kcb hb1)
      | (go_at_call 186; refine (emit_at (by exact HC.out.1.below (dbel hb1)) xop xa xb xnm (by omega) _ rfl L1 HL1.out).mono ?_; rintro e w2 ⟨rfl, cs2, hk2⟩))
  all_goals (
    go_wp2
    go_end0
    exact ⟨⟨_, rfl⟩, cs2, HC.out.2.1.trans (hk1'.trans hk2)⟩)

theorem expr_step (label : ByteArray) (s : Fo) (ih : s.All (ExprOK label)) : ExprOK label s := by
  intro k
  by_cases h6 : k = 6
  · subst h6; exact expr_6 label s
  by_cases h7 : k = 7
  · subst h7; exact expr_7 label s ih
  by_cases h10 : k = 10
  · subst h10; exact expr_10 label s ih
  by_cases h12 : k = 12
  · subst h12; exact expr_12 label s ih
  by_cases h8 : k = 8
  · subst h8; exact expr_8 label s ih
  by_cases h9 : k = 9
  · subst h9; exact expr_9 label s ih
  by_cases h13 : k = 13
  · subst h13; exact expr_13 label s ih
  exact expr_0 label k s ⟨h6, h7, h10, h12, h8, h9, h13⟩
theorem expr_any (label : ByteArray) (s : Fo) : ExprOK label s := Fo.by_parts (expr_step label) s
end Go.Proofs.YtlpipoihinceiaaGreatDoor
