/- ref21.check, CheckExpr (printed by gen_ycm.py) -/
import Derived.Test.YtacjjkbkhpdhnaaGreatDoorYck
import Derived.Test.YtacjjkbkhpdhnaaGreatDoorYde
namespace Go.Proofs.YtacjjkbkhpdhnaaGreatDoor
open Go.RowKit Go.Proofs Go.Shelf
theorem ck_parts {k a b c : Int} {n m : ByteArray} {i d : Int} {s : Fo} {p q : Bool} (hz : shapeZ k = (a, b, c, true)) (hp : decide (1 ≤ a) = p) (hq : decide (2 ≤ a) = q) (hA : argB a b c n m i d s.len = false) :
    (namedB k n m p q = false → ckN k n m i d s = 6) ∧ (namedB k n m p q = true → (k = 13 ∧ (n.toList == m.toList) = true) → ckN k n m i d s = 7) ∧
    (namedB k n m p q = true → ¬ (k = 13 ∧ (n.toList == m.toList) = true) → numB k i d = false → ckN k n m i d s = 2) ∧
    (namedB k n m p q = true → ¬ (k = 13 ∧ (n.toList == m.toList) = true) → numB k i d = true → ckN k n m i d s = s.ck) := by
  have hE := nodeE_of hz n m i d s.len
  rw [hA] at hE
  simp only [Bool.false_eq_true, if_false] at hE
  obtain ⟨h1, h2⟩ := named_names hz n m
  subst hp hq
  refine ⟨fun h => ?_, fun h h' => ?_, fun h h' hn => ?_, fun h h' hn => ?_⟩
  · rw [h1 h, if_neg (by omega)] at hE
    rw [ckN, hE, if_neg (by omega)]
  · rw [h2 h, if_pos h', if_neg (by omega)] at hE
    rw [ckN, hE, if_neg (by omega)]
  · rw [h2 h, if_neg h', if_pos rfl, numE, hn] at hE
    rw [ckN, hE]
    rfl
  · rw [h2 h, if_neg h', if_pos rfl, numE, hn] at hE
    rw [ckN, hE]
    rfl
set_option maxRecDepth 100000 in
set_option maxHeartbeats 8000000 in
theorem ck_step0 (s : Fo) (IH : Hid (s.All CkOK)) (k cc : Int) (hz : shapeZ k = (0, 1, cc, true)) (n m : ByteArray) (i d : Int) (A : Option Addr) (c : Nat) (w : World) (hn : n.size ≤ 1000) (hm : m.size ≤ 1000) (HSt : Hid s.Short) (HS : Hid (s.Sl w w.heap.size A c)) (hA : argB 0 1 cc n m i d s.len = false) :
    Calls Tryz.prog 159 #[.agg #[.int .i64 k, .string n, .string m, .int .i64 i, .int .i64 d, .slice A s.len c]] w fun e w' => e = .returned (.int .i64 (ckN k n m i d s)) ∧ Below w.heap.size w w' := by
  have hcap : s.len ≤ 9223372036854775807 := by have := HS.out.1; have := HS.out.2.1; unfold maxLen at this; omega
  have HP := Lib.hid (ck_parts (p := false) (q := false) hz rfl rfl hA)
  simp [argB] at hA
  obtain ⟨⟨⟨gn, gm⟩, zd⟩, zl⟩ := hA
  subst zl
  have bd : (d == 0) = true := by simpa using zd
  have cd : (d != 0) = false := by simpa using zd
  clear zd
  have en : n.toList.isEmpty = true := by simpa using gn
  have em : m.toList.isEmpty = true := by simpa using gm
  obtain ⟨W0, hW0⟩ : ∃ W0, w.alloc (.cells #[.int .i64 k, .string n, .string m, .int .i64 i, .int .i64 d, .slice A s.len c] 28) = W0 := ⟨_, rfl⟩
  have hB0 : Below w.heap.size w W0 := by subst hW0; exact (Below.refl _ _).alloc (Nat.le_refl _) _
  have hzw : w.heap.size < W0.heap.size := by subst hW0; simp
  have hx0 : W0.heap[w.heap.size]? = some (.cells #[.int .i64 k, .string n, .string m, .int .i64 i, .int .i64 d, .slice A s.len c] 28 (0, 0)) := by rw [← hW0]; exact heap_alloc_new w _
  have HSH : Hid (Calls Tryz.prog 177 #[.int .i64 k] W0 fun e w' => e = .returned (.tuple #[.agg #[.bool false, .bool false, .bool true, .bool false, .int .i64 s.len], .bool true]) ∧ Below W0.heap.size W0 w') := shapeOf21_any k _ _ _ true W0 hz
  obtain ⟨R, HR⟩ : ∃ R, Hid (ckN k n m i d s = R) := ⟨_, Lib.hid rfl⟩
  rw [HR.out]
  rw [HR.out] at HP
  have hk13 : k ≠ 13 := by rintro rfl; simp [shapeZ] at hz
  have t13 := Lib.hid (show (k == 13) = false by simpa using hk13)
  have h13 : ¬ (k = 13 ∧ (n.toList == m.toList) = true) := fun h => hk13 h.1
  clear hk13
  clear HR hz
  have HX := Lib.hid (And.intro hB0 hx0)
  have y0 : W0.cell? ⟨w.heap.size, 0, none⟩ = some (.int .i64 k) := cell_of_row W0 w.heap.size 0 _ _ (0, 0) hx0
  clear hB0 hx0
  go_enter Tryz.func159, Tryz.ntmps159
  go_wp2_with fail
  refine HSH.out.mono ?_
  rintro e w1 ⟨rfl, hb1⟩
  clear HSH y0 hW0
  have hx1 := (hb1.block w.heap.size hzw).trans HX.out.2
  have hz1 : w.heap.size < w1.heap.size := Nat.lt_of_lt_of_le hzw hb1.size
  have hB1 : Below w.heap.size w w1 := HX.out.1.trans (hb1.mono (Nat.le_of_lt hzw))
  obtain ⟨W2, HW2⟩ : ∃ W2, Hid (w1.alloc (.cells #[.bool false, .bool false, .bool true, .bool false, .int .i64 s.len] 198) = W2) := ⟨_, Lib.hid rfl⟩
  have hz2 : w1.heap.size < W2.heap.size := by rw [← HW2.out]; simp
  have hx2 : W2.heap[w.heap.size]? = some (.cells #[.int .i64 k, .string n, .string m, .int .i64 i, .int .i64 d, .slice A s.len c] 28 (0, 0)) := by rw [← HW2.out, Below.heap_alloc _ _ _ hz1]; exact hx1
  have hB2 : Below w.heap.size w W2 := by rw [← HW2.out]; exact hB1.alloc (by omega) _
  have HC : Hid (∀ X, Below W2.heap.size W2 X → Below w.heap.size w X ∧ w.heap.size < X.heap.size ∧ X.cell? ⟨w.heap.size, 0, none⟩ = some (.int .i64 k) ∧ X.cell? ⟨w.heap.size, 1, none⟩ = some (.string n) ∧ X.cell? ⟨w.heap.size, 2, none⟩ = some (.string m) ∧ X.cell? ⟨w.heap.size, 3, none⟩ = some (.int .i64 i) ∧ X.cell? ⟨w.heap.size, 4, none⟩ = some (.int .i64 d) ∧ X.cell? ⟨w.heap.size, 5, none⟩ = some (.slice A s.len c)) := fun X hX => by
    have h0 := (hX.block w.heap.size (by omega)).trans hx2
    have := hX.size
    exact ⟨hB2.trans (hX.mono (by omega)), by omega, cell_of_row X _ 0 _ _ (0, 0) h0, cell_of_row X _ 1 _ _ (0, 0) h0, cell_of_row X _ 2 _ _ (0, 0) h0, cell_of_row X _ 3 _ _ (0, 0) h0, cell_of_row X _ 4 _ _ (0, 0) h0, cell_of_row X _ 5 _ _ (0, 0) h0⟩
  have x0 := cell_of_row w1 w.heap.size 0 _ _ (0, 0) hx1
  have x1 := cell_of_row w1 w.heap.size 1 _ _ (0, 0) hx1
  have x2 := cell_of_row w1 w.heap.size 2 _ _ (0, 0) hx1
  have x3 := cell_of_row w1 w.heap.size 3 _ _ (0, 0) hx1
  have x4 := cell_of_row w1 w.heap.size 4 _ _ (0, 0) hx1
  have x5 := cell_of_row w1 w.heap.size 5 _ _ (0, 0) hx1
  simp at x0 x1 x2 x3 x4 x5
  have HN := Lib.hid (named21_any k n m i d (.slice A s.len c) false false true false s.len W2 hn hm)
  clear hx1 hx2 hB1 hB2 hb1
  cases hnm : namedB k n m false false with
  | false =>
    obtain rfl : R = 6 := HP.out.1 hnm
    rw [hnm] at HN
    clear hnm HP
    go_wp2_with fail
    rw [HW2.out]
    refine HN.out.mono ?_
    rintro e w2 ⟨rfl, hb2⟩
    have HB := Lib.hid (HC.out w2 hb2).1
    clear hb2
    go_wp2
    go_ret
    exact ⟨rfl, HB.out⟩
  | true =>
  rw [hnm] at HN
  have HP2 := Lib.hid (And.intro (HP.out.2.1 hnm) (And.intro (HP.out.2.2.1 hnm) (HP.out.2.2.2 hnm)))
  clear hnm HP
  go_wp2_with fail
  rw [HW2.out]
  refine HN.out.mono ?_
  rintro e w2 ⟨rfl, hb2⟩
  have HB2 := Lib.hid hb2
  clear x0 x1 x2 x3 x4 x5 hb2 HN
  obtain ⟨_, hz2', x0, x1, x2, x3, x4, x5⟩ := HC.out w2 HB2.out
  have HR := Lib.hid (ranged21_any k n m i d (.slice A s.len c) w2)
  cases hnu : numB k i d with
  | false =>
    obtain rfl : R = 2 := HP2.out.2.1 h13 hnu
    rw [hnu] at HR
    clear hnu HP2 h13
    have t := t13.out
    all_goals (
      go_wp2_with fail
      refine HR.out.mono ?_
      rintro e w3 ⟨rfl, hb3⟩
      have HB := Lib.hid (HC.out w3 (HB2.out.trans (hb3.mono HB2.out.size))).1
      clear hb3
      go_wp2
      go_ret
      exact ⟨rfl, HB.out⟩)
  | true =>
    have HRs := Lib.hid (HP2.out.2.2 h13 hnu)
    rw [hnu] at HR
    clear hnu HP2 h13
    have t := t13.out
    all_goals (
      go_wp2_with fail
      refine HR.out.mono ?_
      rintro e w3 ⟨rfl, hb3⟩
      have HB3 := Lib.hid (HB2.out.trans (hb3.mono HB2.out.size))
      clear hb3 x0 x1 x2 x3 x4 x5
      go_wp2_with fail
      go_loopg [5, 6] s.len (fun g ct _ wr => ∃ (j : Nat) (r : Fo), g = r.len ∧ j + r.len = s.len ∧ ct = .int .i64 j ∧ R = r.ck ∧ r.Short ∧ r.All CkOK ∧
        (r ≠ .nil → ∃ b o, A = some ⟨b, o, none⟩ ∧ b < w.heap.size ∧ r.At wr w.heap.size b (o + j * 6)) ∧ Below W2.heap.size W2 wr)
      case atStart =>
        refine ⟨0, s, rfl, by omega, rfl, HRs.out, HSt.out, IH.out, ?_, HB3.out⟩
        intro hne
        obtain ⟨b, o, e, hb, h⟩ := HS.out.2.2 hne
        exact ⟨b, o, e, hb, by rw [Nat.zero_mul, Nat.add_zero]; exact h.keep (Nat.le_refl _) (fun p hp => (HC.out _ HB3.out).1.cell hp) hb⟩
      case round =>
        obtain ⟨j, r, HG, hjr, rfl, hRr, hsh, HA, HAt, HB⟩ := hrel
        have HBh := Lib.hid HB
        have HRr := Lib.hid (And.intro hRr (And.intro hsh HA))
        clear hRr hsh HA HB
        obtain ⟨hBw, hzr, _, _, _, _, _, x5⟩ := HC.out wr HBh.out
        have HBw := Lib.hid hBw
        clear hBw
        cases r with
        | nil =>
          have hjr2 : s.len ≤ j := by simp only [Fo.len] at hjr; omega
          have hjr1 : j ≤ s.len := by simp only [Fo.len] at hjr; omega
          have hR0 := HRr.out.1
          simp only [Fo.ck] at hR0
          subst hR0
          clear hjr HG HRr HRs
          go_wp2
          go_ret
          exact ⟨rfl, HBw.out⟩
        | cons rk rn rm ri rd A' c' rs rr =>
          have hjr2 : j < s.len := by simp only [Fo.len] at hjr; omega
          obtain ⟨b, o, rfl, hb, h0, h1, h2, h3, h4, ⟨h5, hc', hm', hs'⟩, hr'⟩ := HAt (by simp)
          have hcall := HRr.out.2.2.1 rk rn rm ri rd A' c' wr HRr.out.2.1.1.1 HRr.out.2.1.1.2 HRr.out.2.1.2.1 ⟨hc', hm', fun hne => by
            obtain ⟨b', o', e, hb', h'⟩ := hs' hne
            exact ⟨b', o', e, by omega, h'.keep (by omega) (fun _ _ => rfl) hb'⟩⟩
          have hRk := HRr.out.1
          rw [Fo.ck_cons] at hRk
          obtain ⟨E1, HE1⟩ : ∃ E1, Hid (ckN rk rn rm ri rd rs = E1) := ⟨_, Lib.hid rfl⟩
          rw [HE1.out] at hRk hcall
          have HCL := Lib.hid hcall
          have HK := Lib.hid (And.intro hr' (And.intro hRk HAt))
          clear hcall hRk HAt hr' hs'
          by_cases hE : E1 = 0
          · subst hE
            go_wp2_with fail
            refine HCL.out.mono ?_
            rintro e w4 ⟨rfl, hb4⟩
            have HB4 := Lib.hid hb4
            clear hb4
            go_wp2
            go_roundg rr.len
            case measure => first | (rw [HG]; simp [Fo.len]; done) | (simp only [Fo.len]; omega)
            case rel =>
              refine ⟨j + 1, rr, rfl, by simp only [Fo.len] at hjr; omega, by go_num, by rw [HK.out.2.1]; rfl, HRr.out.2.1.2.2, HRr.out.2.2.2, ?_, HBh.out.trans (HB4.out.mono HBh.out.size)⟩
              intro hne
              refine ⟨b, o, rfl, hb, ?_⟩
              rw [show o + (j + 1) * 6 = o + j * 6 + 6 by omega]
              exact HK.out.1.keep (Nat.le_refl _) (fun p hp => HB4.out.cell (by omega)) hb
          · have hE' : (E1 != 0) = true := by simpa using hE
            have HRE := Lib.hid (show R = E1 by rw [HK.out.2.1, if_neg hE])
            clear hE
            go_wp2_with fail
            refine HCL.out.mono ?_
            rintro e w4 ⟨rfl, hb4⟩
            have HB4 := Lib.hid (HBw.out.trans (hb4.mono HBw.out.size))
            clear hb4
            go_wp2
            go_ret
            exact ⟨by rw [HRE.out]; rfl, HB4.out⟩)
set_option maxRecDepth 100000 in
set_option maxHeartbeats 8000000 in
theorem ck_step1 (s : Fo) (IH : Hid (s.All CkOK)) (k cc : Int) (hz : shapeZ k = (1, 0, cc, true)) (n m : ByteArray) (i d : Int) (A : Option Addr) (c : Nat) (w : World) (hn : n.size ≤ 1000) (hm : m.size ≤ 1000) (HSt : Hid s.Short) (HS : Hid (s.Sl w w.heap.size A c)) (hA : argB 1 0 cc n m i d s.len = false) :
    Calls Tryz.prog 159 #[.agg #[.int .i64 k, .string n, .string m, .int .i64 i, .int .i64 d, .slice A s.len c]] w fun e w' => e = .returned (.int .i64 (ckN k n m i d s)) ∧ Below w.heap.size w w' := by
  have hcap : s.len ≤ 9223372036854775807 := by have := HS.out.1; have := HS.out.2.1; unfold maxLen at this; omega
  have HP := Lib.hid (ck_parts (p := true) (q := false) hz rfl rfl hA)
  simp [argB] at hA
  obtain ⟨⟨⟨gm, zi⟩, zd⟩, zl⟩ := hA
  subst zl
  have bi : (i == 0) = true := by simpa using zi
  have ci : (i != 0) = false := by simpa using zi
  clear zi
  have bd : (d == 0) = true := by simpa using zd
  have cd : (d != 0) = false := by simpa using zd
  clear zd
  have em : m.toList.isEmpty = true := by simpa using gm
  obtain ⟨W0, hW0⟩ : ∃ W0, w.alloc (.cells #[.int .i64 k, .string n, .string m, .int .i64 i, .int .i64 d, .slice A s.len c] 28) = W0 := ⟨_, rfl⟩
  have hB0 : Below w.heap.size w W0 := by subst hW0; exact (Below.refl _ _).alloc (Nat.le_refl _) _
  have hzw : w.heap.size < W0.heap.size := by subst hW0; simp
  have hx0 : W0.heap[w.heap.size]? = some (.cells #[.int .i64 k, .string n, .string m, .int .i64 i, .int .i64 d, .slice A s.len c] 28 (0, 0)) := by rw [← hW0]; exact heap_alloc_new w _
  have HSH : Hid (Calls Tryz.prog 177 #[.int .i64 k] W0 fun e w' => e = .returned (.tuple #[.agg #[.bool true, .bool false, .bool false, .bool false, .int .i64 s.len], .bool true]) ∧ Below W0.heap.size W0 w') := shapeOf21_any k _ _ _ true W0 hz
  obtain ⟨R, HR⟩ : ∃ R, Hid (ckN k n m i d s = R) := ⟨_, Lib.hid rfl⟩
  rw [HR.out]
  rw [HR.out] at HP
  have hk13 : k ≠ 13 := by rintro rfl; simp [shapeZ] at hz
  have t13 := Lib.hid (show (k == 13) = false by simpa using hk13)
  have h13 : ¬ (k = 13 ∧ (n.toList == m.toList) = true) := fun h => hk13 h.1
  clear hk13
  clear HR hz
  have HX := Lib.hid (And.intro hB0 hx0)
  have y0 : W0.cell? ⟨w.heap.size, 0, none⟩ = some (.int .i64 k) := cell_of_row W0 w.heap.size 0 _ _ (0, 0) hx0
  clear hB0 hx0
  go_enter Tryz.func159, Tryz.ntmps159
  go_wp2_with fail
  refine HSH.out.mono ?_
  rintro e w1 ⟨rfl, hb1⟩
  clear HSH y0 hW0
  have hx1 := (hb1.block w.heap.size hzw).trans HX.out.2
  have hz1 : w.heap.size < w1.heap.size := Nat.lt_of_lt_of_le hzw hb1.size
  have hB1 : Below w.heap.size w w1 := HX.out.1.trans (hb1.mono (Nat.le_of_lt hzw))
  obtain ⟨W2, HW2⟩ : ∃ W2, Hid (w1.alloc (.cells #[.bool true, .bool false, .bool false, .bool false, .int .i64 s.len] 198) = W2) := ⟨_, Lib.hid rfl⟩
  have hz2 : w1.heap.size < W2.heap.size := by rw [← HW2.out]; simp
  have hx2 : W2.heap[w.heap.size]? = some (.cells #[.int .i64 k, .string n, .string m, .int .i64 i, .int .i64 d, .slice A s.len c] 28 (0, 0)) := by rw [← HW2.out, Below.heap_alloc _ _ _ hz1]; exact hx1
  have hB2 : Below w.heap.size w W2 := by rw [← HW2.out]; exact hB1.alloc (by omega) _
  have HC : Hid (∀ X, Below W2.heap.size W2 X → Below w.heap.size w X ∧ w.heap.size < X.heap.size ∧ X.cell? ⟨w.heap.size, 0, none⟩ = some (.int .i64 k) ∧ X.cell? ⟨w.heap.size, 1, none⟩ = some (.string n) ∧ X.cell? ⟨w.heap.size, 2, none⟩ = some (.string m) ∧ X.cell? ⟨w.heap.size, 3, none⟩ = some (.int .i64 i) ∧ X.cell? ⟨w.heap.size, 4, none⟩ = some (.int .i64 d) ∧ X.cell? ⟨w.heap.size, 5, none⟩ = some (.slice A s.len c)) := fun X hX => by
    have h0 := (hX.block w.heap.size (by omega)).trans hx2
    have := hX.size
    exact ⟨hB2.trans (hX.mono (by omega)), by omega, cell_of_row X _ 0 _ _ (0, 0) h0, cell_of_row X _ 1 _ _ (0, 0) h0, cell_of_row X _ 2 _ _ (0, 0) h0, cell_of_row X _ 3 _ _ (0, 0) h0, cell_of_row X _ 4 _ _ (0, 0) h0, cell_of_row X _ 5 _ _ (0, 0) h0⟩
  have x0 := cell_of_row w1 w.heap.size 0 _ _ (0, 0) hx1
  have x1 := cell_of_row w1 w.heap.size 1 _ _ (0, 0) hx1
  have x2 := cell_of_row w1 w.heap.size 2 _ _ (0, 0) hx1
  have x3 := cell_of_row w1 w.heap.size 3 _ _ (0, 0) hx1
  have x4 := cell_of_row w1 w.heap.size 4 _ _ (0, 0) hx1
  have x5 := cell_of_row w1 w.heap.size 5 _ _ (0, 0) hx1
  simp at x0 x1 x2 x3 x4 x5
  have HN := Lib.hid (named21_any k n m i d (.slice A s.len c) true false false false s.len W2 hn hm)
  clear hx1 hx2 hB1 hB2 hb1
  cases hnm : namedB k n m true false with
  | false =>
    obtain rfl : R = 6 := HP.out.1 hnm
    rw [hnm] at HN
    clear hnm HP
    go_wp2_with fail
    rw [HW2.out]
    refine HN.out.mono ?_
    rintro e w2 ⟨rfl, hb2⟩
    have HB := Lib.hid (HC.out w2 hb2).1
    clear hb2
    go_wp2
    go_ret
    exact ⟨rfl, HB.out⟩
  | true =>
  rw [hnm] at HN
  have HP2 := Lib.hid (And.intro (HP.out.2.1 hnm) (And.intro (HP.out.2.2.1 hnm) (HP.out.2.2.2 hnm)))
  clear hnm HP
  go_wp2_with fail
  rw [HW2.out]
  refine HN.out.mono ?_
  rintro e w2 ⟨rfl, hb2⟩
  have HB2 := Lib.hid hb2
  clear x0 x1 x2 x3 x4 x5 hb2 HN
  obtain ⟨_, hz2', x0, x1, x2, x3, x4, x5⟩ := HC.out w2 HB2.out
  have HR := Lib.hid (ranged21_any k n m i d (.slice A s.len c) w2)
  cases hnu : numB k i d with
  | false =>
    obtain rfl : R = 2 := HP2.out.2.1 h13 hnu
    rw [hnu] at HR
    clear hnu HP2 h13
    have t := t13.out
    all_goals (
      go_wp2_with fail
      refine HR.out.mono ?_
      rintro e w3 ⟨rfl, hb3⟩
      have HB := Lib.hid (HC.out w3 (HB2.out.trans (hb3.mono HB2.out.size))).1
      clear hb3
      go_wp2
      go_ret
      exact ⟨rfl, HB.out⟩)
  | true =>
    have HRs := Lib.hid (HP2.out.2.2 h13 hnu)
    rw [hnu] at HR
    clear hnu HP2 h13
    have t := t13.out
    all_goals (
      go_wp2_with fail
      refine HR.out.mono ?_
      rintro e w3 ⟨rfl, hb3⟩
      have HB3 := Lib.hid (HB2.out.trans (hb3.mono HB2.out.size))
      clear hb3 x0 x1 x2 x3 x4 x5
      go_wp2_with fail
      go_loopg [5, 6] s.len (fun g ct _ wr => ∃ (j : Nat) (r : Fo), g = r.len ∧ j + r.len = s.len ∧ ct = .int .i64 j ∧ R = r.ck ∧ r.Short ∧ r.All CkOK ∧
        (r ≠ .nil → ∃ b o, A = some ⟨b, o, none⟩ ∧ b < w.heap.size ∧ r.At wr w.heap.size b (o + j * 6)) ∧ Below W2.heap.size W2 wr)
      case atStart =>
        refine ⟨0, s, rfl, by omega, rfl, HRs.out, HSt.out, IH.out, ?_, HB3.out⟩
        intro hne
        obtain ⟨b, o, e, hb, h⟩ := HS.out.2.2 hne
        exact ⟨b, o, e, hb, by rw [Nat.zero_mul, Nat.add_zero]; exact h.keep (Nat.le_refl _) (fun p hp => (HC.out _ HB3.out).1.cell hp) hb⟩
      case round =>
        obtain ⟨j, r, HG, hjr, rfl, hRr, hsh, HA, HAt, HB⟩ := hrel
        have HBh := Lib.hid HB
        have HRr := Lib.hid (And.intro hRr (And.intro hsh HA))
        clear hRr hsh HA HB
        obtain ⟨hBw, hzr, _, _, _, _, _, x5⟩ := HC.out wr HBh.out
        have HBw := Lib.hid hBw
        clear hBw
        cases r with
        | nil =>
          have hjr2 : s.len ≤ j := by simp only [Fo.len] at hjr; omega
          have hjr1 : j ≤ s.len := by simp only [Fo.len] at hjr; omega
          have hR0 := HRr.out.1
          simp only [Fo.ck] at hR0
          subst hR0
          clear hjr HG HRr HRs
          go_wp2
          go_ret
          exact ⟨rfl, HBw.out⟩
        | cons rk rn rm ri rd A' c' rs rr =>
          have hjr2 : j < s.len := by simp only [Fo.len] at hjr; omega
          obtain ⟨b, o, rfl, hb, h0, h1, h2, h3, h4, ⟨h5, hc', hm', hs'⟩, hr'⟩ := HAt (by simp)
          have hcall := HRr.out.2.2.1 rk rn rm ri rd A' c' wr HRr.out.2.1.1.1 HRr.out.2.1.1.2 HRr.out.2.1.2.1 ⟨hc', hm', fun hne => by
            obtain ⟨b', o', e, hb', h'⟩ := hs' hne
            exact ⟨b', o', e, by omega, h'.keep (by omega) (fun _ _ => rfl) hb'⟩⟩
          have hRk := HRr.out.1
          rw [Fo.ck_cons] at hRk
          obtain ⟨E1, HE1⟩ : ∃ E1, Hid (ckN rk rn rm ri rd rs = E1) := ⟨_, Lib.hid rfl⟩
          rw [HE1.out] at hRk hcall
          have HCL := Lib.hid hcall
          have HK := Lib.hid (And.intro hr' (And.intro hRk HAt))
          clear hcall hRk HAt hr' hs'
          by_cases hE : E1 = 0
          · subst hE
            go_wp2_with fail
            refine HCL.out.mono ?_
            rintro e w4 ⟨rfl, hb4⟩
            have HB4 := Lib.hid hb4
            clear hb4
            go_wp2
            go_roundg rr.len
            case measure => first | (rw [HG]; simp [Fo.len]; done) | (simp only [Fo.len]; omega)
            case rel =>
              refine ⟨j + 1, rr, rfl, by simp only [Fo.len] at hjr; omega, by go_num, by rw [HK.out.2.1]; rfl, HRr.out.2.1.2.2, HRr.out.2.2.2, ?_, HBh.out.trans (HB4.out.mono HBh.out.size)⟩
              intro hne
              refine ⟨b, o, rfl, hb, ?_⟩
              rw [show o + (j + 1) * 6 = o + j * 6 + 6 by omega]
              exact HK.out.1.keep (Nat.le_refl _) (fun p hp => HB4.out.cell (by omega)) hb
          · have hE' : (E1 != 0) = true := by simpa using hE
            have HRE := Lib.hid (show R = E1 by rw [HK.out.2.1, if_neg hE])
            clear hE
            go_wp2_with fail
            refine HCL.out.mono ?_
            rintro e w4 ⟨rfl, hb4⟩
            have HB4 := Lib.hid (HBw.out.trans (hb4.mono HBw.out.size))
            clear hb4
            go_wp2
            go_ret
            exact ⟨by rw [HRE.out]; rfl, HB4.out⟩)
set_option maxRecDepth 100000 in
set_option maxHeartbeats 8000000 in
theorem ck_step2 (s : Fo) (IH : Hid (s.All CkOK)) (k cc : Int) (hz : shapeZ k = (2, 0, cc, true)) (n m : ByteArray) (i d : Int) (A : Option Addr) (c : Nat) (w : World) (hn : n.size ≤ 1000) (hm : m.size ≤ 1000) (HSt : Hid s.Short) (HS : Hid (s.Sl w w.heap.size A c)) (hA : argB 2 0 cc n m i d s.len = false) :
    Calls Tryz.prog 159 #[.agg #[.int .i64 k, .string n, .string m, .int .i64 i, .int .i64 d, .slice A s.len c]] w fun e w' => e = .returned (.int .i64 (ckN k n m i d s)) ∧ Below w.heap.size w w' := by
  have hcap : s.len ≤ 9223372036854775807 := by have := HS.out.1; have := HS.out.2.1; unfold maxLen at this; omega
  have HP := Lib.hid (ck_parts (p := true) (q := true) hz rfl rfl hA)
  simp [argB] at hA
  obtain ⟨⟨zi, zd⟩, zl⟩ := hA
  subst zl
  have bi : (i == 0) = true := by simpa using zi
  have ci : (i != 0) = false := by simpa using zi
  clear zi
  have bd : (d == 0) = true := by simpa using zd
  have cd : (d != 0) = false := by simpa using zd
  clear zd
  obtain ⟨W0, hW0⟩ : ∃ W0, w.alloc (.cells #[.int .i64 k, .string n, .string m, .int .i64 i, .int .i64 d, .slice A s.len c] 28) = W0 := ⟨_, rfl⟩
  have hB0 : Below w.heap.size w W0 := by subst hW0; exact (Below.refl _ _).alloc (Nat.le_refl _) _
  have hzw : w.heap.size < W0.heap.size := by subst hW0; simp
  have hx0 : W0.heap[w.heap.size]? = some (.cells #[.int .i64 k, .string n, .string m, .int .i64 i, .int .i64 d, .slice A s.len c] 28 (0, 0)) := by rw [← hW0]; exact heap_alloc_new w _
  have HSH : Hid (Calls Tryz.prog 177 #[.int .i64 k] W0 fun e w' => e = .returned (.tuple #[.agg #[.bool true, .bool true, .bool false, .bool false, .int .i64 s.len], .bool true]) ∧ Below W0.heap.size W0 w') := shapeOf21_any k _ _ _ true W0 hz
  obtain ⟨R, HR⟩ : ∃ R, Hid (ckN k n m i d s = R) := ⟨_, Lib.hid rfl⟩
  rw [HR.out]
  rw [HR.out] at HP
  clear HR hz
  have HX := Lib.hid (And.intro hB0 hx0)
  have y0 : W0.cell? ⟨w.heap.size, 0, none⟩ = some (.int .i64 k) := cell_of_row W0 w.heap.size 0 _ _ (0, 0) hx0
  clear hB0 hx0
  go_enter Tryz.func159, Tryz.ntmps159
  go_wp2_with fail
  refine HSH.out.mono ?_
  rintro e w1 ⟨rfl, hb1⟩
  clear HSH y0 hW0
  have hx1 := (hb1.block w.heap.size hzw).trans HX.out.2
  have hz1 : w.heap.size < w1.heap.size := Nat.lt_of_lt_of_le hzw hb1.size
  have hB1 : Below w.heap.size w w1 := HX.out.1.trans (hb1.mono (Nat.le_of_lt hzw))
  obtain ⟨W2, HW2⟩ : ∃ W2, Hid (w1.alloc (.cells #[.bool true, .bool true, .bool false, .bool false, .int .i64 s.len] 198) = W2) := ⟨_, Lib.hid rfl⟩
  have hz2 : w1.heap.size < W2.heap.size := by rw [← HW2.out]; simp
  have hx2 : W2.heap[w.heap.size]? = some (.cells #[.int .i64 k, .string n, .string m, .int .i64 i, .int .i64 d, .slice A s.len c] 28 (0, 0)) := by rw [← HW2.out, Below.heap_alloc _ _ _ hz1]; exact hx1
  have hB2 : Below w.heap.size w W2 := by rw [← HW2.out]; exact hB1.alloc (by omega) _
  have HC : Hid (∀ X, Below W2.heap.size W2 X → Below w.heap.size w X ∧ w.heap.size < X.heap.size ∧ X.cell? ⟨w.heap.size, 0, none⟩ = some (.int .i64 k) ∧ X.cell? ⟨w.heap.size, 1, none⟩ = some (.string n) ∧ X.cell? ⟨w.heap.size, 2, none⟩ = some (.string m) ∧ X.cell? ⟨w.heap.size, 3, none⟩ = some (.int .i64 i) ∧ X.cell? ⟨w.heap.size, 4, none⟩ = some (.int .i64 d) ∧ X.cell? ⟨w.heap.size, 5, none⟩ = some (.slice A s.len c)) := fun X hX => by
    have h0 := (hX.block w.heap.size (by omega)).trans hx2
    have := hX.size
    exact ⟨hB2.trans (hX.mono (by omega)), by omega, cell_of_row X _ 0 _ _ (0, 0) h0, cell_of_row X _ 1 _ _ (0, 0) h0, cell_of_row X _ 2 _ _ (0, 0) h0, cell_of_row X _ 3 _ _ (0, 0) h0, cell_of_row X _ 4 _ _ (0, 0) h0, cell_of_row X _ 5 _ _ (0, 0) h0⟩
  have x0 := cell_of_row w1 w.heap.size 0 _ _ (0, 0) hx1
  have x1 := cell_of_row w1 w.heap.size 1 _ _ (0, 0) hx1
  have x2 := cell_of_row w1 w.heap.size 2 _ _ (0, 0) hx1
  have x3 := cell_of_row w1 w.heap.size 3 _ _ (0, 0) hx1
  have x4 := cell_of_row w1 w.heap.size 4 _ _ (0, 0) hx1
  have x5 := cell_of_row w1 w.heap.size 5 _ _ (0, 0) hx1
  simp at x0 x1 x2 x3 x4 x5
  have HN := Lib.hid (named21_any k n m i d (.slice A s.len c) true true false false s.len W2 hn hm)
  clear hx1 hx2 hB1 hB2 hb1
  cases hnm : namedB k n m true true with
  | false =>
    obtain rfl : R = 6 := HP.out.1 hnm
    rw [hnm] at HN
    clear hnm HP
    go_wp2_with fail
    rw [HW2.out]
    refine HN.out.mono ?_
    rintro e w2 ⟨rfl, hb2⟩
    have HB := Lib.hid (HC.out w2 hb2).1
    clear hb2
    go_wp2
    go_ret
    exact ⟨rfl, HB.out⟩
  | true =>
  rw [hnm] at HN
  have HP2 := Lib.hid (And.intro (HP.out.2.1 hnm) (And.intro (HP.out.2.2.1 hnm) (HP.out.2.2.2 hnm)))
  clear hnm HP
  go_wp2_with fail
  rw [HW2.out]
  refine HN.out.mono ?_
  rintro e w2 ⟨rfl, hb2⟩
  have HB2 := Lib.hid hb2
  clear x0 x1 x2 x3 x4 x5 hb2 HN
  obtain ⟨_, hz2', x0, x1, x2, x3, x4, x5⟩ := HC.out w2 HB2.out
  by_cases h13 : k = 13 ∧ (n.toList == m.toList) = true
  · obtain rfl : R = 7 := HP2.out.1 h13
    obtain ⟨rfl, h13b⟩ := h13
    have HB := Lib.hid (HC.out w2 HB2.out).1
    clear HP2
    go_wp2
    go_ret
    exact ⟨rfl, HB.out⟩
  have HR := Lib.hid (ranged21_any k n m i d (.slice A s.len c) w2)
  have t13 : (k == 13) = false ∨ ((k == 13) = true ∧ (n.toList == m.toList) = false) := by
    by_cases h : k = 13
    · right
      refine ⟨by simpa using h, ?_⟩
      cases h' : n.toList == m.toList
      · rfl
      · exact absurd ⟨h, h'⟩ h13
    · left
      simpa using h
  cases hnu : numB k i d with
  | false =>
    obtain rfl : R = 2 := HP2.out.2.1 h13 hnu
    rw [hnu] at HR
    clear hnu HP2 h13
    rcases t13 with t | ⟨t, t'⟩
    all_goals (
      go_wp2_with fail
      refine HR.out.mono ?_
      rintro e w3 ⟨rfl, hb3⟩
      have HB := Lib.hid (HC.out w3 (HB2.out.trans (hb3.mono HB2.out.size))).1
      clear hb3
      go_wp2
      go_ret
      exact ⟨rfl, HB.out⟩)
  | true =>
    have HRs := Lib.hid (HP2.out.2.2 h13 hnu)
    rw [hnu] at HR
    clear hnu HP2 h13
    rcases t13 with t | ⟨t, t'⟩
    all_goals (
      go_wp2_with fail
      refine HR.out.mono ?_
      rintro e w3 ⟨rfl, hb3⟩
      have HB3 := Lib.hid (HB2.out.trans (hb3.mono HB2.out.size))
      clear hb3 x0 x1 x2 x3 x4 x5
      go_wp2_with fail
      go_loopg [5, 6] s.len (fun g ct _ wr => ∃ (j : Nat) (r : Fo), g = r.len ∧ j + r.len = s.len ∧ ct = .int .i64 j ∧ R = r.ck ∧ r.Short ∧ r.All CkOK ∧
        (r ≠ .nil → ∃ b o, A = some ⟨b, o, none⟩ ∧ b < w.heap.size ∧ r.At wr w.heap.size b (o + j * 6)) ∧ Below W2.heap.size W2 wr)
      case atStart =>
        refine ⟨0, s, rfl, by omega, rfl, HRs.out, HSt.out, IH.out, ?_, HB3.out⟩
        intro hne
        obtain ⟨b, o, e, hb, h⟩ := HS.out.2.2 hne
        exact ⟨b, o, e, hb, by rw [Nat.zero_mul, Nat.add_zero]; exact h.keep (Nat.le_refl _) (fun p hp => (HC.out _ HB3.out).1.cell hp) hb⟩
      case round =>
        obtain ⟨j, r, HG, hjr, rfl, hRr, hsh, HA, HAt, HB⟩ := hrel
        have HBh := Lib.hid HB
        have HRr := Lib.hid (And.intro hRr (And.intro hsh HA))
        clear hRr hsh HA HB
        obtain ⟨hBw, hzr, _, _, _, _, _, x5⟩ := HC.out wr HBh.out
        have HBw := Lib.hid hBw
        clear hBw
        cases r with
        | nil =>
          have hjr2 : s.len ≤ j := by simp only [Fo.len] at hjr; omega
          have hjr1 : j ≤ s.len := by simp only [Fo.len] at hjr; omega
          have hR0 := HRr.out.1
          simp only [Fo.ck] at hR0
          subst hR0
          clear hjr HG HRr HRs
          go_wp2
          go_ret
          exact ⟨rfl, HBw.out⟩
        | cons rk rn rm ri rd A' c' rs rr =>
          have hjr2 : j < s.len := by simp only [Fo.len] at hjr; omega
          obtain ⟨b, o, rfl, hb, h0, h1, h2, h3, h4, ⟨h5, hc', hm', hs'⟩, hr'⟩ := HAt (by simp)
          have hcall := HRr.out.2.2.1 rk rn rm ri rd A' c' wr HRr.out.2.1.1.1 HRr.out.2.1.1.2 HRr.out.2.1.2.1 ⟨hc', hm', fun hne => by
            obtain ⟨b', o', e, hb', h'⟩ := hs' hne
            exact ⟨b', o', e, by omega, h'.keep (by omega) (fun _ _ => rfl) hb'⟩⟩
          have hRk := HRr.out.1
          rw [Fo.ck_cons] at hRk
          obtain ⟨E1, HE1⟩ : ∃ E1, Hid (ckN rk rn rm ri rd rs = E1) := ⟨_, Lib.hid rfl⟩
          rw [HE1.out] at hRk hcall
          have HCL := Lib.hid hcall
          have HK := Lib.hid (And.intro hr' (And.intro hRk HAt))
          clear hcall hRk HAt hr' hs'
          by_cases hE : E1 = 0
          · subst hE
            go_wp2_with fail
            refine HCL.out.mono ?_
            rintro e w4 ⟨rfl, hb4⟩
            have HB4 := Lib.hid hb4
            clear hb4
            go_wp2
            go_roundg rr.len
            case measure => first | (rw [HG]; simp [Fo.len]; done) | (simp only [Fo.len]; omega)
            case rel =>
              refine ⟨j + 1, rr, rfl, by simp only [Fo.len] at hjr; omega, by go_num, by rw [HK.out.2.1]; rfl, HRr.out.2.1.2.2, HRr.out.2.2.2, ?_, HBh.out.trans (HB4.out.mono HBh.out.size)⟩
              intro hne
              refine ⟨b, o, rfl, hb, ?_⟩
              rw [show o + (j + 1) * 6 = o + j * 6 + 6 by omega]
              exact HK.out.1.keep (Nat.le_refl _) (fun p hp => HB4.out.cell (by omega)) hb
          · have hE' : (E1 != 0) = true := by simpa using hE
            have HRE := Lib.hid (show R = E1 by rw [HK.out.2.1, if_neg hE])
            clear hE
            go_wp2_with fail
            refine HCL.out.mono ?_
            rintro e w4 ⟨rfl, hb4⟩
            have HB4 := Lib.hid (HBw.out.trans (hb4.mono HBw.out.size))
            clear hb4
            go_wp2
            go_ret
            exact ⟨by rw [HRE.out]; rfl, HB4.out⟩)
set_option maxRecDepth 100000 in
set_option maxHeartbeats 8000000 in
theorem ck_step3 (s : Fo) (IH : Hid (s.All CkOK)) (k cc : Int) (hz : shapeZ k = (1, 1, cc, true)) (n m : ByteArray) (i d : Int) (A : Option Addr) (c : Nat) (w : World) (hn : n.size ≤ 1000) (hm : m.size ≤ 1000) (HSt : Hid s.Short) (HS : Hid (s.Sl w w.heap.size A c)) (hA : argB 1 1 cc n m i d s.len = false) :
    Calls Tryz.prog 159 #[.agg #[.int .i64 k, .string n, .string m, .int .i64 i, .int .i64 d, .slice A s.len c]] w fun e w' => e = .returned (.int .i64 (ckN k n m i d s)) ∧ Below w.heap.size w w' := by
  have hcap : s.len ≤ 9223372036854775807 := by have := HS.out.1; have := HS.out.2.1; unfold maxLen at this; omega
  have HP := Lib.hid (ck_parts (p := true) (q := false) hz rfl rfl hA)
  simp [argB] at hA
  obtain ⟨⟨gm, zd⟩, zl⟩ := hA
  subst zl
  have bd : (d == 0) = true := by simpa using zd
  have cd : (d != 0) = false := by simpa using zd
  clear zd
  have em : m.toList.isEmpty = true := by simpa using gm
  obtain ⟨W0, hW0⟩ : ∃ W0, w.alloc (.cells #[.int .i64 k, .string n, .string m, .int .i64 i, .int .i64 d, .slice A s.len c] 28) = W0 := ⟨_, rfl⟩
  have hB0 : Below w.heap.size w W0 := by subst hW0; exact (Below.refl _ _).alloc (Nat.le_refl _) _
  have hzw : w.heap.size < W0.heap.size := by subst hW0; simp
  have hx0 : W0.heap[w.heap.size]? = some (.cells #[.int .i64 k, .string n, .string m, .int .i64 i, .int .i64 d, .slice A s.len c] 28 (0, 0)) := by rw [← hW0]; exact heap_alloc_new w _
  have HSH : Hid (Calls Tryz.prog 177 #[.int .i64 k] W0 fun e w' => e = .returned (.tuple #[.agg #[.bool true, .bool false, .bool true, .bool false, .int .i64 s.len], .bool true]) ∧ Below W0.heap.size W0 w') := shapeOf21_any k _ _ _ true W0 hz
  obtain ⟨R, HR⟩ : ∃ R, Hid (ckN k n m i d s = R) := ⟨_, Lib.hid rfl⟩
  rw [HR.out]
  rw [HR.out] at HP
  have hk13 : k ≠ 13 := by rintro rfl; simp [shapeZ] at hz
  have t13 := Lib.hid (show (k == 13) = false by simpa using hk13)
  have h13 : ¬ (k = 13 ∧ (n.toList == m.toList) = true) := fun h => hk13 h.1
  clear hk13
  clear HR hz
  have HX := Lib.hid (And.intro hB0 hx0)
  have y0 : W0.cell? ⟨w.heap.size, 0, none⟩ = some (.int .i64 k) := cell_of_row W0 w.heap.size 0 _ _ (0, 0) hx0
  clear hB0 hx0
  go_enter Tryz.func159, Tryz.ntmps159
  go_wp2_with fail
  refine HSH.out.mono ?_
  rintro e w1 ⟨rfl, hb1⟩
  clear HSH y0 hW0
  have hx1 := (hb1.block w.heap.size hzw).trans HX.out.2
  have hz1 : w.heap.size < w1.heap.size := Nat.lt_of_lt_of_le hzw hb1.size
  have hB1 : Below w.heap.size w w1 := HX.out.1.trans (hb1.mono (Nat.le_of_lt hzw))
  obtain ⟨W2, HW2⟩ : ∃ W2, Hid (w1.alloc (.cells #[.bool true, .bool false, .bool true, .bool false, .int .i64 s.len] 198) = W2) := ⟨_, Lib.hid rfl⟩
  have hz2 : w1.heap.size < W2.heap.size := by rw [← HW2.out]; simp
  have hx2 : W2.heap[w.heap.size]? = some (.cells #[.int .i64 k, .string n, .string m, .int .i64 i, .int .i64 d, .slice A s.len c] 28 (0, 0)) := by rw [← HW2.out, Below.heap_alloc _ _ _ hz1]; exact hx1
  have hB2 : Below w.heap.size w W2 := by rw [← HW2.out]; exact hB1.alloc (by omega) _
  have HC : Hid (∀ X, Below W2.heap.size W2 X → Below w.heap.size w X ∧ w.heap.size < X.heap.size ∧ X.cell? ⟨w.heap.size, 0, none⟩ = some (.int .i64 k) ∧ X.cell? ⟨w.heap.size, 1, none⟩ = some (.string n) ∧ X.cell? ⟨w.heap.size, 2, none⟩ = some (.string m) ∧ X.cell? ⟨w.heap.size, 3, none⟩ = some (.int .i64 i) ∧ X.cell? ⟨w.heap.size, 4, none⟩ = some (.int .i64 d) ∧ X.cell? ⟨w.heap.size, 5, none⟩ = some (.slice A s.len c)) := fun X hX => by
    have h0 := (hX.block w.heap.size (by omega)).trans hx2
    have := hX.size
    exact ⟨hB2.trans (hX.mono (by omega)), by omega, cell_of_row X _ 0 _ _ (0, 0) h0, cell_of_row X _ 1 _ _ (0, 0) h0, cell_of_row X _ 2 _ _ (0, 0) h0, cell_of_row X _ 3 _ _ (0, 0) h0, cell_of_row X _ 4 _ _ (0, 0) h0, cell_of_row X _ 5 _ _ (0, 0) h0⟩
  have x0 := cell_of_row w1 w.heap.size 0 _ _ (0, 0) hx1
  have x1 := cell_of_row w1 w.heap.size 1 _ _ (0, 0) hx1
  have x2 := cell_of_row w1 w.heap.size 2 _ _ (0, 0) hx1
  have x3 := cell_of_row w1 w.heap.size 3 _ _ (0, 0) hx1
  have x4 := cell_of_row w1 w.heap.size 4 _ _ (0, 0) hx1
  have x5 := cell_of_row w1 w.heap.size 5 _ _ (0, 0) hx1
  simp at x0 x1 x2 x3 x4 x5
  have HN := Lib.hid (named21_any k n m i d (.slice A s.len c) true false true false s.len W2 hn hm)
  clear hx1 hx2 hB1 hB2 hb1
  cases hnm : namedB k n m true false with
  | false =>
    obtain rfl : R = 6 := HP.out.1 hnm
    rw [hnm] at HN
    clear hnm HP
    go_wp2_with fail
    rw [HW2.out]
    refine HN.out.mono ?_
    rintro e w2 ⟨rfl, hb2⟩
    have HB := Lib.hid (HC.out w2 hb2).1
    clear hb2
    go_wp2
    go_ret
    exact ⟨rfl, HB.out⟩
  | true =>
  rw [hnm] at HN
  have HP2 := Lib.hid (And.intro (HP.out.2.1 hnm) (And.intro (HP.out.2.2.1 hnm) (HP.out.2.2.2 hnm)))
  clear hnm HP
  go_wp2_with fail
  rw [HW2.out]
  refine HN.out.mono ?_
  rintro e w2 ⟨rfl, hb2⟩
  have HB2 := Lib.hid hb2
  clear x0 x1 x2 x3 x4 x5 hb2 HN
  obtain ⟨_, hz2', x0, x1, x2, x3, x4, x5⟩ := HC.out w2 HB2.out
  have HR := Lib.hid (ranged21_any k n m i d (.slice A s.len c) w2)
  cases hnu : numB k i d with
  | false =>
    obtain rfl : R = 2 := HP2.out.2.1 h13 hnu
    rw [hnu] at HR
    clear hnu HP2 h13
    have t := t13.out
    all_goals (
      go_wp2_with fail
      refine HR.out.mono ?_
      rintro e w3 ⟨rfl, hb3⟩
      have HB := Lib.hid (HC.out w3 (HB2.out.trans (hb3.mono HB2.out.size))).1
      clear hb3
      go_wp2
      go_ret
      exact ⟨rfl, HB.out⟩)
  | true =>
    have HRs := Lib.hid (HP2.out.2.2 h13 hnu)
    rw [hnu] at HR
    clear hnu HP2 h13
    have t := t13.out
    all_goals (
      go_wp2_with fail
      refine HR.out.mono ?_
      rintro e w3 ⟨rfl, hb3⟩
      have HB3 := Lib.hid (HB2.out.trans (hb3.mono HB2.out.size))
      clear hb3 x0 x1 x2 x3 x4 x5
      go_wp2_with fail
      go_loopg [5, 6] s.len (fun g ct _ wr => ∃ (j : Nat) (r : Fo), g = r.len ∧ j + r.len = s.len ∧ ct = .int .i64 j ∧ R = r.ck ∧ r.Short ∧ r.All CkOK ∧
        (r ≠ .nil → ∃ b o, A = some ⟨b, o, none⟩ ∧ b < w.heap.size ∧ r.At wr w.heap.size b (o + j * 6)) ∧ Below W2.heap.size W2 wr)
      case atStart =>
        refine ⟨0, s, rfl, by omega, rfl, HRs.out, HSt.out, IH.out, ?_, HB3.out⟩
        intro hne
        obtain ⟨b, o, e, hb, h⟩ := HS.out.2.2 hne
        exact ⟨b, o, e, hb, by rw [Nat.zero_mul, Nat.add_zero]; exact h.keep (Nat.le_refl _) (fun p hp => (HC.out _ HB3.out).1.cell hp) hb⟩
      case round =>
        obtain ⟨j, r, HG, hjr, rfl, hRr, hsh, HA, HAt, HB⟩ := hrel
        have HBh := Lib.hid HB
        have HRr := Lib.hid (And.intro hRr (And.intro hsh HA))
        clear hRr hsh HA HB
        obtain ⟨hBw, hzr, _, _, _, _, _, x5⟩ := HC.out wr HBh.out
        have HBw := Lib.hid hBw
        clear hBw
        cases r with
        | nil =>
          have hjr2 : s.len ≤ j := by simp only [Fo.len] at hjr; omega
          have hjr1 : j ≤ s.len := by simp only [Fo.len] at hjr; omega
          have hR0 := HRr.out.1
          simp only [Fo.ck] at hR0
          subst hR0
          clear hjr HG HRr HRs
          go_wp2
          go_ret
          exact ⟨rfl, HBw.out⟩
        | cons rk rn rm ri rd A' c' rs rr =>
          have hjr2 : j < s.len := by simp only [Fo.len] at hjr; omega
          obtain ⟨b, o, rfl, hb, h0, h1, h2, h3, h4, ⟨h5, hc', hm', hs'⟩, hr'⟩ := HAt (by simp)
          have hcall := HRr.out.2.2.1 rk rn rm ri rd A' c' wr HRr.out.2.1.1.1 HRr.out.2.1.1.2 HRr.out.2.1.2.1 ⟨hc', hm', fun hne => by
            obtain ⟨b', o', e, hb', h'⟩ := hs' hne
            exact ⟨b', o', e, by omega, h'.keep (by omega) (fun _ _ => rfl) hb'⟩⟩
          have hRk := HRr.out.1
          rw [Fo.ck_cons] at hRk
          obtain ⟨E1, HE1⟩ : ∃ E1, Hid (ckN rk rn rm ri rd rs = E1) := ⟨_, Lib.hid rfl⟩
          rw [HE1.out] at hRk hcall
          have HCL := Lib.hid hcall
          have HK := Lib.hid (And.intro hr' (And.intro hRk HAt))
          clear hcall hRk HAt hr' hs'
          by_cases hE : E1 = 0
          · subst hE
            go_wp2_with fail
            refine HCL.out.mono ?_
            rintro e w4 ⟨rfl, hb4⟩
            have HB4 := Lib.hid hb4
            clear hb4
            go_wp2
            go_roundg rr.len
            case measure => first | (rw [HG]; simp [Fo.len]; done) | (simp only [Fo.len]; omega)
            case rel =>
              refine ⟨j + 1, rr, rfl, by simp only [Fo.len] at hjr; omega, by go_num, by rw [HK.out.2.1]; rfl, HRr.out.2.1.2.2, HRr.out.2.2.2, ?_, HBh.out.trans (HB4.out.mono HBh.out.size)⟩
              intro hne
              refine ⟨b, o, rfl, hb, ?_⟩
              rw [show o + (j + 1) * 6 = o + j * 6 + 6 by omega]
              exact HK.out.1.keep (Nat.le_refl _) (fun p hp => HB4.out.cell (by omega)) hb
          · have hE' : (E1 != 0) = true := by simpa using hE
            have HRE := Lib.hid (show R = E1 by rw [HK.out.2.1, if_neg hE])
            clear hE
            go_wp2_with fail
            refine HCL.out.mono ?_
            rintro e w4 ⟨rfl, hb4⟩
            have HB4 := Lib.hid (HBw.out.trans (hb4.mono HBw.out.size))
            clear hb4
            go_wp2
            go_ret
            exact ⟨by rw [HRE.out]; rfl, HB4.out⟩)
set_option maxRecDepth 100000 in
set_option maxHeartbeats 8000000 in
theorem ck_step4 (s : Fo) (IH : Hid (s.All CkOK)) (k cc : Int) (hz : shapeZ k = (0, 0, cc, true)) (n m : ByteArray) (i d : Int) (A : Option Addr) (c : Nat) (w : World) (hn : n.size ≤ 1000) (hm : m.size ≤ 1000) (HSt : Hid s.Short) (HS : Hid (s.Sl w w.heap.size A c)) (hA : argB 0 0 cc n m i d s.len = false) :
    Calls Tryz.prog 159 #[.agg #[.int .i64 k, .string n, .string m, .int .i64 i, .int .i64 d, .slice A s.len c]] w fun e w' => e = .returned (.int .i64 (ckN k n m i d s)) ∧ Below w.heap.size w w' := by
  have hcap : s.len ≤ 9223372036854775807 := by have := HS.out.1; have := HS.out.2.1; unfold maxLen at this; omega
  have HP := Lib.hid (ck_parts (p := false) (q := false) hz rfl rfl hA)
  simp [argB] at hA
  obtain ⟨⟨⟨⟨gn, gm⟩, zi⟩, zd⟩, zl⟩ := hA
  subst zl
  have bi : (i == 0) = true := by simpa using zi
  have ci : (i != 0) = false := by simpa using zi
  clear zi
  have bd : (d == 0) = true := by simpa using zd
  have cd : (d != 0) = false := by simpa using zd
  clear zd
  have en : n.toList.isEmpty = true := by simpa using gn
  have em : m.toList.isEmpty = true := by simpa using gm
  obtain ⟨W0, hW0⟩ : ∃ W0, w.alloc (.cells #[.int .i64 k, .string n, .string m, .int .i64 i, .int .i64 d, .slice A s.len c] 28) = W0 := ⟨_, rfl⟩
  have hB0 : Below w.heap.size w W0 := by subst hW0; exact (Below.refl _ _).alloc (Nat.le_refl _) _
  have hzw : w.heap.size < W0.heap.size := by subst hW0; simp
  have hx0 : W0.heap[w.heap.size]? = some (.cells #[.int .i64 k, .string n, .string m, .int .i64 i, .int .i64 d, .slice A s.len c] 28 (0, 0)) := by rw [← hW0]; exact heap_alloc_new w _
  have HSH : Hid (Calls Tryz.prog 177 #[.int .i64 k] W0 fun e w' => e = .returned (.tuple #[.agg #[.bool false, .bool false, .bool false, .bool false, .int .i64 s.len], .bool true]) ∧ Below W0.heap.size W0 w') := shapeOf21_any k _ _ _ true W0 hz
  obtain ⟨R, HR⟩ : ∃ R, Hid (ckN k n m i d s = R) := ⟨_, Lib.hid rfl⟩
  rw [HR.out]
  rw [HR.out] at HP
  have hk13 : k ≠ 13 := by rintro rfl; simp [shapeZ] at hz
  have t13 := Lib.hid (show (k == 13) = false by simpa using hk13)
  have h13 : ¬ (k = 13 ∧ (n.toList == m.toList) = true) := fun h => hk13 h.1
  clear hk13
  clear HR hz
  have HX := Lib.hid (And.intro hB0 hx0)
  have y0 : W0.cell? ⟨w.heap.size, 0, none⟩ = some (.int .i64 k) := cell_of_row W0 w.heap.size 0 _ _ (0, 0) hx0
  clear hB0 hx0
  go_enter Tryz.func159, Tryz.ntmps159
  go_wp2_with fail
  refine HSH.out.mono ?_
  rintro e w1 ⟨rfl, hb1⟩
  clear HSH y0 hW0
  have hx1 := (hb1.block w.heap.size hzw).trans HX.out.2
  have hz1 : w.heap.size < w1.heap.size := Nat.lt_of_lt_of_le hzw hb1.size
  have hB1 : Below w.heap.size w w1 := HX.out.1.trans (hb1.mono (Nat.le_of_lt hzw))
  obtain ⟨W2, HW2⟩ : ∃ W2, Hid (w1.alloc (.cells #[.bool false, .bool false, .bool false, .bool false, .int .i64 s.len] 198) = W2) := ⟨_, Lib.hid rfl⟩
  have hz2 : w1.heap.size < W2.heap.size := by rw [← HW2.out]; simp
  have hx2 : W2.heap[w.heap.size]? = some (.cells #[.int .i64 k, .string n, .string m, .int .i64 i, .int .i64 d, .slice A s.len c] 28 (0, 0)) := by rw [← HW2.out, Below.heap_alloc _ _ _ hz1]; exact hx1
  have hB2 : Below w.heap.size w W2 := by rw [← HW2.out]; exact hB1.alloc (by omega) _
  have HC : Hid (∀ X, Below W2.heap.size W2 X → Below w.heap.size w X ∧ w.heap.size < X.heap.size ∧ X.cell? ⟨w.heap.size, 0, none⟩ = some (.int .i64 k) ∧ X.cell? ⟨w.heap.size, 1, none⟩ = some (.string n) ∧ X.cell? ⟨w.heap.size, 2, none⟩ = some (.string m) ∧ X.cell? ⟨w.heap.size, 3, none⟩ = some (.int .i64 i) ∧ X.cell? ⟨w.heap.size, 4, none⟩ = some (.int .i64 d) ∧ X.cell? ⟨w.heap.size, 5, none⟩ = some (.slice A s.len c)) := fun X hX => by
    have h0 := (hX.block w.heap.size (by omega)).trans hx2
    have := hX.size
    exact ⟨hB2.trans (hX.mono (by omega)), by omega, cell_of_row X _ 0 _ _ (0, 0) h0, cell_of_row X _ 1 _ _ (0, 0) h0, cell_of_row X _ 2 _ _ (0, 0) h0, cell_of_row X _ 3 _ _ (0, 0) h0, cell_of_row X _ 4 _ _ (0, 0) h0, cell_of_row X _ 5 _ _ (0, 0) h0⟩
  have x0 := cell_of_row w1 w.heap.size 0 _ _ (0, 0) hx1
  have x1 := cell_of_row w1 w.heap.size 1 _ _ (0, 0) hx1
  have x2 := cell_of_row w1 w.heap.size 2 _ _ (0, 0) hx1
  have x3 := cell_of_row w1 w.heap.size 3 _ _ (0, 0) hx1
  have x4 := cell_of_row w1 w.heap.size 4 _ _ (0, 0) hx1
  have x5 := cell_of_row w1 w.heap.size 5 _ _ (0, 0) hx1
  simp at x0 x1 x2 x3 x4 x5
  have HN := Lib.hid (named21_any k n m i d (.slice A s.len c) false false false false s.len W2 hn hm)
  clear hx1 hx2 hB1 hB2 hb1
  cases hnm : namedB k n m false false with
  | false =>
    obtain rfl : R = 6 := HP.out.1 hnm
    rw [hnm] at HN
    clear hnm HP
    go_wp2_with fail
    rw [HW2.out]
    refine HN.out.mono ?_
    rintro e w2 ⟨rfl, hb2⟩
    have HB := Lib.hid (HC.out w2 hb2).1
    clear hb2
    go_wp2
    go_ret
    exact ⟨rfl, HB.out⟩
  | true =>
  rw [hnm] at HN
  have HP2 := Lib.hid (And.intro (HP.out.2.1 hnm) (And.intro (HP.out.2.2.1 hnm) (HP.out.2.2.2 hnm)))
  clear hnm HP
  go_wp2_with fail
  rw [HW2.out]
  refine HN.out.mono ?_
  rintro e w2 ⟨rfl, hb2⟩
  have HB2 := Lib.hid hb2
  clear x0 x1 x2 x3 x4 x5 hb2 HN
  obtain ⟨_, hz2', x0, x1, x2, x3, x4, x5⟩ := HC.out w2 HB2.out
  have HR := Lib.hid (ranged21_any k n m i d (.slice A s.len c) w2)
  cases hnu : numB k i d with
  | false =>
    obtain rfl : R = 2 := HP2.out.2.1 h13 hnu
    rw [hnu] at HR
    clear hnu HP2 h13
    have t := t13.out
    all_goals (
      go_wp2_with fail
      refine HR.out.mono ?_
      rintro e w3 ⟨rfl, hb3⟩
      have HB := Lib.hid (HC.out w3 (HB2.out.trans (hb3.mono HB2.out.size))).1
      clear hb3
      go_wp2
      go_ret
      exact ⟨rfl, HB.out⟩)
  | true =>
    have HRs := Lib.hid (HP2.out.2.2 h13 hnu)
    rw [hnu] at HR
    clear hnu HP2 h13
    have t := t13.out
    all_goals (
      go_wp2_with fail
      refine HR.out.mono ?_
      rintro e w3 ⟨rfl, hb3⟩
      have HB3 := Lib.hid (HB2.out.trans (hb3.mono HB2.out.size))
      clear hb3 x0 x1 x2 x3 x4 x5
      go_wp2_with fail
      go_loopg [5, 6] s.len (fun g ct _ wr => ∃ (j : Nat) (r : Fo), g = r.len ∧ j + r.len = s.len ∧ ct = .int .i64 j ∧ R = r.ck ∧ r.Short ∧ r.All CkOK ∧
        (r ≠ .nil → ∃ b o, A = some ⟨b, o, none⟩ ∧ b < w.heap.size ∧ r.At wr w.heap.size b (o + j * 6)) ∧ Below W2.heap.size W2 wr)
      case atStart =>
        refine ⟨0, s, rfl, by omega, rfl, HRs.out, HSt.out, IH.out, ?_, HB3.out⟩
        intro hne
        obtain ⟨b, o, e, hb, h⟩ := HS.out.2.2 hne
        exact ⟨b, o, e, hb, by rw [Nat.zero_mul, Nat.add_zero]; exact h.keep (Nat.le_refl _) (fun p hp => (HC.out _ HB3.out).1.cell hp) hb⟩
      case round =>
        obtain ⟨j, r, HG, hjr, rfl, hRr, hsh, HA, HAt, HB⟩ := hrel
        have HBh := Lib.hid HB
        have HRr := Lib.hid (And.intro hRr (And.intro hsh HA))
        clear hRr hsh HA HB
        obtain ⟨hBw, hzr, _, _, _, _, _, x5⟩ := HC.out wr HBh.out
        have HBw := Lib.hid hBw
        clear hBw
        cases r with
        | nil =>
          have hjr2 : s.len ≤ j := by simp only [Fo.len] at hjr; omega
          have hjr1 : j ≤ s.len := by simp only [Fo.len] at hjr; omega
          have hR0 := HRr.out.1
          simp only [Fo.ck] at hR0
          subst hR0
          clear hjr HG HRr HRs
          go_wp2
          go_ret
          exact ⟨rfl, HBw.out⟩
        | cons rk rn rm ri rd A' c' rs rr =>
          have hjr2 : j < s.len := by simp only [Fo.len] at hjr; omega
          obtain ⟨b, o, rfl, hb, h0, h1, h2, h3, h4, ⟨h5, hc', hm', hs'⟩, hr'⟩ := HAt (by simp)
          have hcall := HRr.out.2.2.1 rk rn rm ri rd A' c' wr HRr.out.2.1.1.1 HRr.out.2.1.1.2 HRr.out.2.1.2.1 ⟨hc', hm', fun hne => by
            obtain ⟨b', o', e, hb', h'⟩ := hs' hne
            exact ⟨b', o', e, by omega, h'.keep (by omega) (fun _ _ => rfl) hb'⟩⟩
          have hRk := HRr.out.1
          rw [Fo.ck_cons] at hRk
          obtain ⟨E1, HE1⟩ : ∃ E1, Hid (ckN rk rn rm ri rd rs = E1) := ⟨_, Lib.hid rfl⟩
          rw [HE1.out] at hRk hcall
          have HCL := Lib.hid hcall
          have HK := Lib.hid (And.intro hr' (And.intro hRk HAt))
          clear hcall hRk HAt hr' hs'
          by_cases hE : E1 = 0
          · subst hE
            go_wp2_with fail
            refine HCL.out.mono ?_
            rintro e w4 ⟨rfl, hb4⟩
            have HB4 := Lib.hid hb4
            clear hb4
            go_wp2
            go_roundg rr.len
            case measure => first | (rw [HG]; simp [Fo.len]; done) | (simp only [Fo.len]; omega)
            case rel =>
              refine ⟨j + 1, rr, rfl, by simp only [Fo.len] at hjr; omega, by go_num, by rw [HK.out.2.1]; rfl, HRr.out.2.1.2.2, HRr.out.2.2.2, ?_, HBh.out.trans (HB4.out.mono HBh.out.size)⟩
              intro hne
              refine ⟨b, o, rfl, hb, ?_⟩
              rw [show o + (j + 1) * 6 = o + j * 6 + 6 by omega]
              exact HK.out.1.keep (Nat.le_refl _) (fun p hp => HB4.out.cell (by omega)) hb
          · have hE' : (E1 != 0) = true := by simpa using hE
            have HRE := Lib.hid (show R = E1 by rw [HK.out.2.1, if_neg hE])
            clear hE
            go_wp2_with fail
            refine HCL.out.mono ?_
            rintro e w4 ⟨rfl, hb4⟩
            have HB4 := Lib.hid (HBw.out.trans (hb4.mono HBw.out.size))
            clear hb4
            go_wp2
            go_ret
            exact ⟨by rw [HRE.out]; rfl, HB4.out⟩)
set_option maxRecDepth 100000 in
set_option maxHeartbeats 8000000 in
theorem ck_step5 (s : Fo) (IH : Hid (s.All CkOK)) (k cc : Int) (hz : shapeZ k = (0, 2, cc, true)) (n m : ByteArray) (i d : Int) (A : Option Addr) (c : Nat) (w : World) (hn : n.size ≤ 1000) (hm : m.size ≤ 1000) (HSt : Hid s.Short) (HS : Hid (s.Sl w w.heap.size A c)) (hA : argB 0 2 cc n m i d s.len = false) :
    Calls Tryz.prog 159 #[.agg #[.int .i64 k, .string n, .string m, .int .i64 i, .int .i64 d, .slice A s.len c]] w fun e w' => e = .returned (.int .i64 (ckN k n m i d s)) ∧ Below w.heap.size w w' := by
  have hcap : s.len ≤ 9223372036854775807 := by have := HS.out.1; have := HS.out.2.1; unfold maxLen at this; omega
  have HP := Lib.hid (ck_parts (p := false) (q := false) hz rfl rfl hA)
  simp [argB] at hA
  obtain ⟨⟨gn, gm⟩, zl⟩ := hA
  subst zl
  have en : n.toList.isEmpty = true := by simpa using gn
  have em : m.toList.isEmpty = true := by simpa using gm
  obtain ⟨W0, hW0⟩ : ∃ W0, w.alloc (.cells #[.int .i64 k, .string n, .string m, .int .i64 i, .int .i64 d, .slice A s.len c] 28) = W0 := ⟨_, rfl⟩
  have hB0 : Below w.heap.size w W0 := by subst hW0; exact (Below.refl _ _).alloc (Nat.le_refl _) _
  have hzw : w.heap.size < W0.heap.size := by subst hW0; simp
  have hx0 : W0.heap[w.heap.size]? = some (.cells #[.int .i64 k, .string n, .string m, .int .i64 i, .int .i64 d, .slice A s.len c] 28 (0, 0)) := by rw [← hW0]; exact heap_alloc_new w _
  have HSH : Hid (Calls Tryz.prog 177 #[.int .i64 k] W0 fun e w' => e = .returned (.tuple #[.agg #[.bool false, .bool false, .bool true, .bool true, .int .i64 s.len], .bool true]) ∧ Below W0.heap.size W0 w') := shapeOf21_any k _ _ _ true W0 hz
  obtain ⟨R, HR⟩ : ∃ R, Hid (ckN k n m i d s = R) := ⟨_, Lib.hid rfl⟩
  rw [HR.out]
  rw [HR.out] at HP
  have hk13 : k ≠ 13 := by rintro rfl; simp [shapeZ] at hz
  have t13 := Lib.hid (show (k == 13) = false by simpa using hk13)
  have h13 : ¬ (k = 13 ∧ (n.toList == m.toList) = true) := fun h => hk13 h.1
  clear hk13
  clear HR hz
  have HX := Lib.hid (And.intro hB0 hx0)
  have y0 : W0.cell? ⟨w.heap.size, 0, none⟩ = some (.int .i64 k) := cell_of_row W0 w.heap.size 0 _ _ (0, 0) hx0
  clear hB0 hx0
  go_enter Tryz.func159, Tryz.ntmps159
  go_wp2_with fail
  refine HSH.out.mono ?_
  rintro e w1 ⟨rfl, hb1⟩
  clear HSH y0 hW0
  have hx1 := (hb1.block w.heap.size hzw).trans HX.out.2
  have hz1 : w.heap.size < w1.heap.size := Nat.lt_of_lt_of_le hzw hb1.size
  have hB1 : Below w.heap.size w w1 := HX.out.1.trans (hb1.mono (Nat.le_of_lt hzw))
  obtain ⟨W2, HW2⟩ : ∃ W2, Hid (w1.alloc (.cells #[.bool false, .bool false, .bool true, .bool true, .int .i64 s.len] 198) = W2) := ⟨_, Lib.hid rfl⟩
  have hz2 : w1.heap.size < W2.heap.size := by rw [← HW2.out]; simp
  have hx2 : W2.heap[w.heap.size]? = some (.cells #[.int .i64 k, .string n, .string m, .int .i64 i, .int .i64 d, .slice A s.len c] 28 (0, 0)) := by rw [← HW2.out, Below.heap_alloc _ _ _ hz1]; exact hx1
  have hB2 : Below w.heap.size w W2 := by rw [← HW2.out]; exact hB1.alloc (by omega) _
  have HC : Hid (∀ X, Below W2.heap.size W2 X → Below w.heap.size w X ∧ w.heap.size < X.heap.size ∧ X.cell? ⟨w.heap.size, 0, none⟩ = some (.int .i64 k) ∧ X.cell? ⟨w.heap.size, 1, none⟩ = some (.string n) ∧ X.cell? ⟨w.heap.size, 2, none⟩ = some (.string m) ∧ X.cell? ⟨w.heap.size, 3, none⟩ = some (.int .i64 i) ∧ X.cell? ⟨w.heap.size, 4, none⟩ = some (.int .i64 d) ∧ X.cell? ⟨w.heap.size, 5, none⟩ = some (.slice A s.len c)) := fun X hX => by
    have h0 := (hX.block w.heap.size (by omega)).trans hx2
    have := hX.size
    exact ⟨hB2.trans (hX.mono (by omega)), by omega, cell_of_row X _ 0 _ _ (0, 0) h0, cell_of_row X _ 1 _ _ (0, 0) h0, cell_of_row X _ 2 _ _ (0, 0) h0, cell_of_row X _ 3 _ _ (0, 0) h0, cell_of_row X _ 4 _ _ (0, 0) h0, cell_of_row X _ 5 _ _ (0, 0) h0⟩
  have x0 := cell_of_row w1 w.heap.size 0 _ _ (0, 0) hx1
  have x1 := cell_of_row w1 w.heap.size 1 _ _ (0, 0) hx1
  have x2 := cell_of_row w1 w.heap.size 2 _ _ (0, 0) hx1
  have x3 := cell_of_row w1 w.heap.size 3 _ _ (0, 0) hx1
  have x4 := cell_of_row w1 w.heap.size 4 _ _ (0, 0) hx1
  have x5 := cell_of_row w1 w.heap.size 5 _ _ (0, 0) hx1
  simp at x0 x1 x2 x3 x4 x5
  have HN := Lib.hid (named21_any k n m i d (.slice A s.len c) false false true true s.len W2 hn hm)
  clear hx1 hx2 hB1 hB2 hb1
  cases hnm : namedB k n m false false with
  | false =>
    obtain rfl : R = 6 := HP.out.1 hnm
    rw [hnm] at HN
    clear hnm HP
    go_wp2_with fail
    rw [HW2.out]
    refine HN.out.mono ?_
    rintro e w2 ⟨rfl, hb2⟩
    have HB := Lib.hid (HC.out w2 hb2).1
    clear hb2
    go_wp2
    go_ret
    exact ⟨rfl, HB.out⟩
  | true =>
  rw [hnm] at HN
  have HP2 := Lib.hid (And.intro (HP.out.2.1 hnm) (And.intro (HP.out.2.2.1 hnm) (HP.out.2.2.2 hnm)))
  clear hnm HP
  go_wp2_with fail
  rw [HW2.out]
  refine HN.out.mono ?_
  rintro e w2 ⟨rfl, hb2⟩
  have HB2 := Lib.hid hb2
  clear x0 x1 x2 x3 x4 x5 hb2 HN
  obtain ⟨_, hz2', x0, x1, x2, x3, x4, x5⟩ := HC.out w2 HB2.out
  have HR := Lib.hid (ranged21_any k n m i d (.slice A s.len c) w2)
  cases hnu : numB k i d with
  | false =>
    obtain rfl : R = 2 := HP2.out.2.1 h13 hnu
    rw [hnu] at HR
    clear hnu HP2 h13
    have t := t13.out
    all_goals (
      go_wp2_with fail
      refine HR.out.mono ?_
      rintro e w3 ⟨rfl, hb3⟩
      have HB := Lib.hid (HC.out w3 (HB2.out.trans (hb3.mono HB2.out.size))).1
      clear hb3
      go_wp2
      go_ret
      exact ⟨rfl, HB.out⟩)
  | true =>
    have HRs := Lib.hid (HP2.out.2.2 h13 hnu)
    rw [hnu] at HR
    clear hnu HP2 h13
    have t := t13.out
    all_goals (
      go_wp2_with fail
      refine HR.out.mono ?_
      rintro e w3 ⟨rfl, hb3⟩
      have HB3 := Lib.hid (HB2.out.trans (hb3.mono HB2.out.size))
      clear hb3 x0 x1 x2 x3 x4 x5
      go_wp2_with fail
      go_loopg [5, 6] s.len (fun g ct _ wr => ∃ (j : Nat) (r : Fo), g = r.len ∧ j + r.len = s.len ∧ ct = .int .i64 j ∧ R = r.ck ∧ r.Short ∧ r.All CkOK ∧
        (r ≠ .nil → ∃ b o, A = some ⟨b, o, none⟩ ∧ b < w.heap.size ∧ r.At wr w.heap.size b (o + j * 6)) ∧ Below W2.heap.size W2 wr)
      case atStart =>
        refine ⟨0, s, rfl, by omega, rfl, HRs.out, HSt.out, IH.out, ?_, HB3.out⟩
        intro hne
        obtain ⟨b, o, e, hb, h⟩ := HS.out.2.2 hne
        exact ⟨b, o, e, hb, by rw [Nat.zero_mul, Nat.add_zero]; exact h.keep (Nat.le_refl _) (fun p hp => (HC.out _ HB3.out).1.cell hp) hb⟩
      case round =>
        obtain ⟨j, r, HG, hjr, rfl, hRr, hsh, HA, HAt, HB⟩ := hrel
        have HBh := Lib.hid HB
        have HRr := Lib.hid (And.intro hRr (And.intro hsh HA))
        clear hRr hsh HA HB
        obtain ⟨hBw, hzr, _, _, _, _, _, x5⟩ := HC.out wr HBh.out
        have HBw := Lib.hid hBw
        clear hBw
        cases r with
        | nil =>
          have hjr2 : s.len ≤ j := by simp only [Fo.len] at hjr; omega
          have hjr1 : j ≤ s.len := by simp only [Fo.len] at hjr; omega
          have hR0 := HRr.out.1
          simp only [Fo.ck] at hR0
          subst hR0
          clear hjr HG HRr HRs
          go_wp2
          go_ret
          exact ⟨rfl, HBw.out⟩
        | cons rk rn rm ri rd A' c' rs rr =>
          have hjr2 : j < s.len := by simp only [Fo.len] at hjr; omega
          obtain ⟨b, o, rfl, hb, h0, h1, h2, h3, h4, ⟨h5, hc', hm', hs'⟩, hr'⟩ := HAt (by simp)
          have hcall := HRr.out.2.2.1 rk rn rm ri rd A' c' wr HRr.out.2.1.1.1 HRr.out.2.1.1.2 HRr.out.2.1.2.1 ⟨hc', hm', fun hne => by
            obtain ⟨b', o', e, hb', h'⟩ := hs' hne
            exact ⟨b', o', e, by omega, h'.keep (by omega) (fun _ _ => rfl) hb'⟩⟩
          have hRk := HRr.out.1
          rw [Fo.ck_cons] at hRk
          obtain ⟨E1, HE1⟩ : ∃ E1, Hid (ckN rk rn rm ri rd rs = E1) := ⟨_, Lib.hid rfl⟩
          rw [HE1.out] at hRk hcall
          have HCL := Lib.hid hcall
          have HK := Lib.hid (And.intro hr' (And.intro hRk HAt))
          clear hcall hRk HAt hr' hs'
          by_cases hE : E1 = 0
          · subst hE
            go_wp2_with fail
            refine HCL.out.mono ?_
            rintro e w4 ⟨rfl, hb4⟩
            have HB4 := Lib.hid hb4
            clear hb4
            go_wp2
            go_roundg rr.len
            case measure => first | (rw [HG]; simp [Fo.len]; done) | (simp only [Fo.len]; omega)
            case rel =>
              refine ⟨j + 1, rr, rfl, by simp only [Fo.len] at hjr; omega, by go_num, by rw [HK.out.2.1]; rfl, HRr.out.2.1.2.2, HRr.out.2.2.2, ?_, HBh.out.trans (HB4.out.mono HBh.out.size)⟩
              intro hne
              refine ⟨b, o, rfl, hb, ?_⟩
              rw [show o + (j + 1) * 6 = o + j * 6 + 6 by omega]
              exact HK.out.1.keep (Nat.le_refl _) (fun p hp => HB4.out.cell (by omega)) hb
          · have hE' : (E1 != 0) = true := by simpa using hE
            have HRE := Lib.hid (show R = E1 by rw [HK.out.2.1, if_neg hE])
            clear hE
            go_wp2_with fail
            refine HCL.out.mono ?_
            rintro e w4 ⟨rfl, hb4⟩
            have HB4 := Lib.hid (HBw.out.trans (hb4.mono HBw.out.size))
            clear hb4
            go_wp2
            go_ret
            exact ⟨by rw [HRE.out]; rfl, HB4.out⟩)
theorem ck_step (s : Fo) (ih : s.All CkOK) : CkOK s := by
  intro k n m i d A c w hn hm hst hs
  by_cases hk : knownZ k
  · obtain ⟨a, b, cc, hz⟩ := shapeZ_known hk
    cases hA : argB a b cc n m i d s.len with
    | true =>
      refine (check21_arg k a b cc hz n m i d A s.len c w hA).mono fun e w' ⟨h1, h2⟩ => ⟨?_, h2⟩
      rw [h1, ckN, nodeE_of hz n m i d s.len, hA]
      rfl
    | false =>
      rcases shapeZ_ab hz with ⟨rfl, rfl⟩ | ⟨rfl, rfl⟩ | ⟨rfl, rfl⟩ | ⟨rfl, rfl⟩ | ⟨rfl, rfl⟩ | ⟨rfl, rfl⟩
      · exact ck_step0 s (Lib.hid ih) k cc hz n m i d A c w hn hm (Lib.hid hst) (Lib.hid hs) hA
      · exact ck_step1 s (Lib.hid ih) k cc hz n m i d A c w hn hm (Lib.hid hst) (Lib.hid hs) hA
      · exact ck_step2 s (Lib.hid ih) k cc hz n m i d A c w hn hm (Lib.hid hst) (Lib.hid hs) hA
      · exact ck_step3 s (Lib.hid ih) k cc hz n m i d A c w hn hm (Lib.hid hst) (Lib.hid hs) hA
      · exact ck_step4 s (Lib.hid ih) k cc hz n m i d A c w hn hm (Lib.hid hst) (Lib.hid hs) hA
      · exact ck_step5 s (Lib.hid ih) k cc hz n m i d A c w hn hm (Lib.hid hst) (Lib.hid hs) hA
  · refine (check21_no k hk n m i d A s.len c w).mono fun e w' ⟨h1, h2⟩ => ⟨?_, h2⟩
    have e9 : nodeE k n m i d s.len = 9 := by unfold nodeE; rw [shapeZ_no hk]
    rw [h1, ckN, e9]
    rfl
theorem ck_any (s : Fo) : CkOK s := Fo.by_parts ck_step s
end Go.Proofs.YtacjjkbkhpdhnaaGreatDoor
