/- compile.fields, inRange; ref28.fields, ranged: at any instruction (printed by gen_xca.py) -/
import Derived.Test.YtlpipoihinceiaaGreatDoorVfl
import Derived.Test.YtlpipoihinceiaaGreatDoorGkt
import Derived.Lib.Hide
namespace Go.Proofs.YtlpipoihinceiaaGreatDoor
open Go.RowKit Go.Proofs Go.Shelf

theorem results_three {fn : Func} {t u v : Tmp} (h : fn.results = #[.tmp t, .tmp u, .tmp v]) (tmps : Array Value) (P : Program) (w : World) :
    (results fn tmps).run P w = .ok (.tuple #[tmps.getD t undef, tmps.getD u undef, tmps.getD v undef]) w := by simp [results, h]
def knO (op : Int) : Bool := decide (1 ≤ op) && decide (op ≤ 16)
theorem fields_no (j : Int) (h : ¬ (1 ≤ j ∧ j ≤ 16)) (w : World) : Calls Tryz.prog 198 #[.int .i64 j] w fun e w' => e = .returned (.tuple #[.bool false, .bool false, .bool false, .bool false]) ∧ w = w' := by
  have n1 : (j == 1) = false := by simp; omega
  have n2 : (j == 2) = false := by simp; omega
  have n3 : (j == 3) = false := by simp; omega
  have n4 : (j == 4) = false := by simp; omega
  have n5 : (j == 5) = false := by simp; omega
  have n6 : (j == 6) = false := by simp; omega
  have n7 : (j == 7) = false := by simp; omega
  have n8 : (j == 8) = false := by simp; omega
  have n9 : (j == 9) = false := by simp; omega
  have n10 : (j == 10) = false := by simp; omega
  have n11 : (j == 11) = false := by simp; omega
  have n12 : (j == 12) = false := by simp; omega
  have n13 : (j == 13) = false := by simp; omega
  have n14 : (j == 14) = false := by simp; omega
  have n15 : (j == 15) = false := by simp; omega
  have n16 : (j == 16) = false := by simp; omega
  clear h
  go_enter Tryz.func198, Tryz.ntmps198
  go_wp2
  refine bodyPost_ret (results_four rfl _ _ _) rfl ?_
  exact ⟨rfl, rfl⟩
theorem fld_no {j : Int} (h : ¬ (1 ≤ j ∧ j ≤ 16)) : fldA j = false ∧ fldB j = false ∧ fldN j = false := by
  have n1 : (j == 1) = false := by simp; omega
  have n2 : (j == 2) = false := by simp; omega
  have n3 : (j == 3) = false := by simp; omega
  have n4 : (j == 4) = false := by simp; omega
  have n5 : (j == 5) = false := by simp; omega
  have n6 : (j == 6) = false := by simp; omega
  have n7 : (j == 7) = false := by simp; omega
  have n8 : (j == 8) = false := by simp; omega
  have n9 : (j == 9) = false := by simp; omega
  have n10 : (j == 10) = false := by simp; omega
  have n11 : (j == 11) = false := by simp; omega
  have n12 : (j == 12) = false := by simp; omega
  have n13 : (j == 13) = false := by simp; omega
  have n14 : (j == 14) = false := by simp; omega
  have n15 : (j == 15) = false := by simp; omega
  have n16 : (j == 16) = false := by simp; omega
  simp only [fldA, fldB, fldN, n1, n2, n3, n4, n5, n8, n9, n10, n13, n15, n16, Bool.or_false, and_self]
theorem fields_gen (j : Int) (w : World) : Calls Tryz.prog 198 #[.int .i64 j] w fun e w' => e = .returned (.tuple #[.bool (fldA j), .bool (fldB j), .bool (fldN j), .bool (knO j)]) ∧ w = w' := by
  by_cases h : 1 ≤ j ∧ j ≤ 16
  · obtain ⟨n, rfl⟩ := Int.eq_ofNat_of_zero_le (show 0 ≤ j by omega)
    have e : knO (n : Int) = true := by simp only [knO, Bool.and_eq_true, decide_eq_true_eq]; exact h
    rw [e]
    exact fields_any n (by omega) (by omega) w
  · obtain ⟨e1, e2, e3⟩ := fld_no h
    have e : knO j = false := by simp only [knO, Bool.and_eq_false_iff, decide_eq_false_iff_not]; omega
    rw [e1, e2, e3, e]
    exact fields_no j h w
theorem fields28_any (j : Int) (w : World) : Calls Tryz.prog 201 #[.int .i64 j] w fun e w' => e = .returned (.tuple #[.bool (fldA j), .bool (fldB j), .bool (fldN j)]) ∧ w = w' := by
  by_cases h : 1 ≤ j ∧ j ≤ 16
  · rcases (show j = 1 ∨ j = 2 ∨ j = 3 ∨ j = 4 ∨ j = 5 ∨ j = 6 ∨ j = 7 ∨ j = 8 ∨ j = 9 ∨ j = 10 ∨ j = 11 ∨ j = 12 ∨ j = 13 ∨ j = 14 ∨ j = 15 ∨ j = 16 by omega) with rfl | rfl | rfl | rfl | rfl | rfl | rfl | rfl | rfl | rfl | rfl | rfl | rfl | rfl | rfl | rfl
    all_goals (
      clear h
      go_enter Tryz.func201, Tryz.ntmps201
      go_wp2
      refine bodyPost_ret (results_three rfl _ _ _) rfl ?_
      exact ⟨rfl, rfl⟩)
  · obtain ⟨e1, e2, e3⟩ := fld_no h
    rw [e1, e2, e3]
    clear e1 e2 e3
    have n1 : (j == 1) = false := by simp; omega
    have n2 : (j == 2) = false := by simp; omega
    have n3 : (j == 3) = false := by simp; omega
    have n4 : (j == 4) = false := by simp; omega
    have n5 : (j == 5) = false := by simp; omega
    have n6 : (j == 6) = false := by simp; omega
    have n7 : (j == 7) = false := by simp; omega
    have n8 : (j == 8) = false := by simp; omega
    have n9 : (j == 9) = false := by simp; omega
    have n10 : (j == 10) = false := by simp; omega
    have n11 : (j == 11) = false := by simp; omega
    have n12 : (j == 12) = false := by simp; omega
    have n13 : (j == 13) = false := by simp; omega
    have n14 : (j == 14) = false := by simp; omega
    have n15 : (j == 15) = false := by simp; omega
    have n16 : (j == 16) = false := by simp; omega
    clear h
    go_enter Tryz.func201, Tryz.ntmps201
    go_wp2
    refine bodyPost_ret (results_three rfl _ _ _) rfl ?_
    exact ⟨rfl, rfl⟩

def parAt (bl : List Blk) (a : Int) : Bool := match bl[a.toNat]? with
  | some b => b.par
  | none => false
/-- The numbers of an instruction are in range. -/
def rngB (bl : List Blk) (len : Nat) (op a b : Int) : Bool :=
  if op = 1 then decide (-999999999 ≤ a) && decide (a ≤ 999999999) else if op = 2 then (a == 0 || a == 1) else if op = 3 then decide (0 ≤ a) && decide (a ≤ 800) else
  if op = 4 then decide (1 ≤ a) && decide (a ≤ 999999) else if op = 5 then (decide (0 ≤ a) && decide (a < (bl.length : Int))) && parAt bl a else
  if op = 8 ∨ op = 9 ∨ op = 13 then decide (0 ≤ a) && decide (a < (len : Int)) else if op = 15 then (a == 1 || a == 2) else
  if op = 16 then ((decide (1 ≤ b) && decide (b ≤ 999999)) && decide (0 ≤ a)) && decide (a ≤ b) else true
/-- Which blocks are those of functions, in memory. -/
def ParAt (W : World) (A : Option Addr) (c : Nat) (bl : List Blk) : Prop := bl.length ≤ c ∧ c ≤ 9223372036854775807 ∧ ∀ (k : Nat) (b : Blk), bl[k]? = some b → ∃ g o, A = some ⟨g, o, none⟩ ∧ W.cell? ⟨g, o + k * 3 + 1, none⟩ = some (.bool b.par)
set_option maxRecDepth 100000 in
set_option maxHeartbeats 8000000 in
theorem inRange_gen (lb : ByteArray) (A1 : Option Addr) (c1 : Nat) (bl : List Blk) (A2 : Option Addr) (n2 c2 : Nat) (cap : Int) (par : Bool) (lA : Option Addr) (len lc : Nat) (j a b : Int) (nm : ByteArray) (w : World) (h : ParAt w A1 c1 bl) :
    Calls Tryz.prog 200 #[.agg #[.string lb, .slice A1 bl.length c1, .slice A2 n2 c2], .agg #[.int .i64 cap, .bool par, .slice lA len lc], .agg #[.int .i64 j, .int .i64 a, .int .i64 b, .string nm]] w fun e w' => e = .returned (.bool (rngB bl len j a b)) ∧ Below w.heap.size w w' := by
  obtain ⟨W0, hW0⟩ : ∃ W0, ((w.alloc (.cells #[.string lb, .slice A1 bl.length c1, .slice A2 n2 c2] 62)).alloc (.cells #[.int .i64 cap, .bool par, .slice lA len lc] 133)).alloc (.cells #[.int .i64 j, .int .i64 a, .int .i64 b, .string nm] 130) = W0 := ⟨_, rfl⟩
  have hB0 : Below w.heap.size w W0 := by subst hW0; exact (((Below.refl _ _).alloc (Nat.le_refl _) _).alloc (by simp) _).alloc (by simp; omega) _
  have y1 : W0.cell? ⟨w.heap.size, 1, none⟩ = some (.slice A1 bl.length c1) := by subst hW0; go_simp
  have y2 : W0.cell? ⟨w.heap.size + 1, 2, none⟩ = some (.slice lA len lc) := by subst hW0; go_simp
  have z0 : W0.cell? ⟨w.heap.size + 1 + 1, 0, none⟩ = some (.int .i64 j) := by subst hW0; go_simp
  have z1 : W0.cell? ⟨w.heap.size + 1 + 1, 1, none⟩ = some (.int .i64 a) := by subst hW0; go_simp
  have z2 : W0.cell? ⟨w.heap.size + 1 + 1, 2, none⟩ = some (.int .i64 b) := by subst hW0; go_simp
  have HB := Lib.hid hB0
  obtain ⟨N, HN⟩ : ∃ q, Hid (bl.length = q) := ⟨_, Lib.hid rfl⟩
  obtain ⟨E, HE⟩ : ∃ q, Hid (rngB bl len j a b = q) := ⟨_, Lib.hid rfl⟩
  have HP := Lib.hid h
  have hn1 := h.1
  have hn2 := h.2.1
  rw [HE.out]
  rw [HN.out] at hn1 y1 hW0 ⊢
  clear h hB0
  by_cases hj : j = 1
  · subst hj
    cases h1 : decide (-999999999 ≤ a) <;> cases h2 : decide (a ≤ 999999999)
    all_goals (
      go_enter Tryz.func200, Tryz.ntmps200
      go_wp2
      go_ret
      exact ⟨by rw [← HE.out]; simp [rngB, h1, h2], HB.out⟩
    )
  by_cases hj2 : j = 2
  · subst hj2
    cases h1 : a == 0 <;> cases h2 : a == 1
    all_goals (
      go_enter Tryz.func200, Tryz.ntmps200
      go_wp2
      go_ret
      exact ⟨by rw [← HE.out]; simp [rngB, h1, h2], HB.out⟩
    )
  by_cases hj3 : j = 3
  · subst hj3
    cases h1 : decide (0 ≤ a) <;> cases h2 : decide (a ≤ 800)
    all_goals (
      go_enter Tryz.func200, Tryz.ntmps200
      go_wp2
      go_ret
      exact ⟨by rw [← HE.out]; simp [rngB, h1, h2], HB.out⟩
    )
  by_cases hj4 : j = 4
  · subst hj4
    cases h1 : decide (1 ≤ a) <;> cases h2 : decide (a ≤ 999999)
    all_goals (
      go_enter Tryz.func200, Tryz.ntmps200
      go_wp2
      go_ret
      exact ⟨by rw [← HE.out]; simp [rngB, h1, h2], HB.out⟩
    )
  by_cases hj5 : j = 5
  · subst hj5
    by_cases h1 : 0 ≤ a
    · by_cases h2 : a < (N : Int)
      · obtain ⟨k, rfl⟩ := Int.eq_ofNat_of_zero_le h1
        have hk : k < bl.length := by rw [HN.out]; omega
        obtain ⟨g, o, rfl, hcell⟩ := HP.out.2.2 k _ (List.getElem?_eq_getElem hk)
        have hc0 := (HB.out.cell (World.block_lt_of_cell? w ⟨g, o + k * 3 + 1, none⟩ hcell)).trans hcell
        have HX := Lib.hid (show parAt bl (k : Int) = bl[k].par by simp [parAt, hk])
        generalize bl[k].par = p at hc0 HX
        clear hcell hk
        cases p
        all_goals (
          go_enter Tryz.func200, Tryz.ntmps200
          go_wp2
          go_ret
          exact ⟨by rw [← HE.out]; simp [rngB, HX.out, HN.out, h2], HB.out⟩)
      · have h2' : decide (a < (N : Int)) = false := by simpa using h2
        have h1' : decide (0 ≤ a) = true := by simpa using h1
        clear h2
        go_enter Tryz.func200, Tryz.ntmps200
        go_wp2
        go_ret
        exact ⟨by rw [← HE.out]; simp only [rngB, HN.out, h2', h1']; rfl, HB.out⟩
    · have h1' : decide (0 ≤ a) = false := by simpa using h1
      clear h1
      go_enter Tryz.func200, Tryz.ntmps200
      go_wp2
      go_ret
      exact ⟨by rw [← HE.out]; simp only [rngB, h1']; rfl, HB.out⟩
  by_cases hj8 : j = 8 ∨ j = 9 ∨ j = 13
  · rcases hj8 with rfl | rfl | rfl
    all_goals cases h1 : decide (0 ≤ a) <;> cases h2 : decide (a < (len : Int))
    all_goals (
      go_enter Tryz.func200, Tryz.ntmps200
      go_wp2
      go_ret
      exact ⟨by rw [← HE.out]; simp [rngB, h1, h2], HB.out⟩
    )
  by_cases hj15 : j = 15
  · subst hj15
    cases h1 : a == 1 <;> cases h2 : a == 2
    all_goals (
      go_enter Tryz.func200, Tryz.ntmps200
      go_wp2
      go_ret
      exact ⟨by rw [← HE.out]; simp [rngB, h1, h2], HB.out⟩
    )
  by_cases hj16 : j = 16
  · subst hj16
    cases h1 : decide (1 ≤ b) <;> cases h2 : decide (b ≤ 999999) <;> cases h3 : decide (0 ≤ a) <;> cases h4 : decide (a ≤ b)
    all_goals (
      go_enter Tryz.func200, Tryz.ntmps200
      go_wp2
      go_ret
      exact ⟨by rw [← HE.out]; simp [rngB, h1, h2, h3, h4], HB.out⟩
    )
  have m1 : (j == 1) = false := by simpa using hj
  have m2 : (j == 2) = false := by simpa using hj2
  have m3 : (j == 3) = false := by simpa using hj3
  have m4 : (j == 4) = false := by simpa using hj4
  have m5 : (j == 5) = false := by simpa using hj5
  have m8 : (j == 8) = false := by simp; omega
  have m9 : (j == 9) = false := by simp; omega
  have m13 : (j == 13) = false := by simp; omega
  have m15 : (j == 15) = false := by simpa using hj15
  have m16 : (j == 16) = false := by simpa using hj16
  have HR := Lib.hid (show E = true by rw [← HE.out, rngB, if_neg hj, if_neg hj2, if_neg hj3, if_neg hj4, if_neg hj5, if_neg hj8, if_neg hj15, if_neg hj16])
  clear hj hj2 hj3 hj4 hj5 hj8 hj15 hj16
  go_enter Tryz.func200, Tryz.ntmps200
  go_wp2
  go_ret
  exact ⟨by rw [HR.out]; rfl, HB.out⟩
set_option maxRecDepth 100000 in
set_option maxHeartbeats 8000000 in
theorem ranged28_gen (A1 : Option Addr) (c1 : Nat) (bl : List Blk) (len : Nat) (j a b : Int) (nm : ByteArray) (w : World) (h : ParAt w A1 c1 bl) :
    Calls Tryz.prog 202 #[.agg #[.int .i64 j, .int .i64 a, .int .i64 b, .string nm], .int .i64 len, .slice A1 bl.length c1] w fun e w' => e = .returned (.bool (rngB bl len j a b)) ∧ Below w.heap.size w w' := by
  obtain ⟨W0, hW0⟩ : ∃ W0, w.alloc (.cells #[.int .i64 j, .int .i64 a, .int .i64 b, .string nm] 130) = W0 := ⟨_, rfl⟩
  have hB0 : Below w.heap.size w W0 := by subst hW0; exact (Below.refl _ _).alloc (Nat.le_refl _) _
  have z0 : W0.cell? ⟨w.heap.size, 0, none⟩ = some (.int .i64 j) := by subst hW0; go_simp
  have z1 : W0.cell? ⟨w.heap.size, 1, none⟩ = some (.int .i64 a) := by subst hW0; go_simp
  have z2 : W0.cell? ⟨w.heap.size, 2, none⟩ = some (.int .i64 b) := by subst hW0; go_simp
  have HB := Lib.hid hB0
  obtain ⟨N, HN⟩ : ∃ q, Hid (bl.length = q) := ⟨_, Lib.hid rfl⟩
  obtain ⟨E, HE⟩ : ∃ q, Hid (rngB bl len j a b = q) := ⟨_, Lib.hid rfl⟩
  have HP := Lib.hid h
  have hn1 := h.1
  have hn2 := h.2.1
  rw [HE.out]
  rw [HN.out] at hn1 ⊢
  clear h hB0
  by_cases hj : j = 1
  · subst hj
    cases h1 : decide (-999999999 ≤ a) <;> cases h2 : decide (a ≤ 999999999)
    all_goals (
      go_enter Tryz.func202, Tryz.ntmps202
      go_wp2
      go_ret
      exact ⟨by rw [← HE.out]; simp [rngB, h1, h2], HB.out⟩
    )
  by_cases hj2 : j = 2
  · subst hj2
    cases h1 : a == 0 <;> cases h2 : a == 1
    all_goals (
      go_enter Tryz.func202, Tryz.ntmps202
      go_wp2
      go_ret
      exact ⟨by rw [← HE.out]; simp [rngB, h1, h2], HB.out⟩
    )
  by_cases hj3 : j = 3
  · subst hj3
    cases h1 : decide (0 ≤ a) <;> cases h2 : decide (a ≤ 800)
    all_goals (
      go_enter Tryz.func202, Tryz.ntmps202
      go_wp2
      go_ret
      exact ⟨by rw [← HE.out]; simp [rngB, h1, h2], HB.out⟩
    )
  by_cases hj4 : j = 4
  · subst hj4
    cases h1 : decide (1 ≤ a) <;> cases h2 : decide (a ≤ 999999)
    all_goals (
      go_enter Tryz.func202, Tryz.ntmps202
      go_wp2
      go_ret
      exact ⟨by rw [← HE.out]; simp [rngB, h1, h2], HB.out⟩
    )
  by_cases hj5 : j = 5
  · subst hj5
    by_cases h1 : 0 ≤ a
    · by_cases h2 : a < (N : Int)
      · obtain ⟨k, rfl⟩ := Int.eq_ofNat_of_zero_le h1
        have hk : k < bl.length := by rw [HN.out]; omega
        obtain ⟨g, o, rfl, hcell⟩ := HP.out.2.2 k _ (List.getElem?_eq_getElem hk)
        have hc0 := (HB.out.cell (World.block_lt_of_cell? w ⟨g, o + k * 3 + 1, none⟩ hcell)).trans hcell
        have HX := Lib.hid (show parAt bl (k : Int) = bl[k].par by simp [parAt, hk])
        generalize bl[k].par = p at hc0 HX
        clear hcell hk
        cases p
        all_goals (
          go_enter Tryz.func202, Tryz.ntmps202
          go_wp2
          go_ret
          exact ⟨by rw [← HE.out]; simp [rngB, HX.out, HN.out, h2], HB.out⟩)
      · have h2' : decide (a < (N : Int)) = false := by simpa using h2
        have h1' : decide (0 ≤ a) = true := by simpa using h1
        clear h2
        go_enter Tryz.func202, Tryz.ntmps202
        go_wp2
        go_ret
        exact ⟨by rw [← HE.out]; simp only [rngB, HN.out, h2', h1']; rfl, HB.out⟩
    · have h1' : decide (0 ≤ a) = false := by simpa using h1
      clear h1
      go_enter Tryz.func202, Tryz.ntmps202
      go_wp2
      go_ret
      exact ⟨by rw [← HE.out]; simp only [rngB, h1']; rfl, HB.out⟩
  by_cases hj8 : j = 8 ∨ j = 9 ∨ j = 13
  · rcases hj8 with rfl | rfl | rfl
    all_goals cases h1 : decide (0 ≤ a) <;> cases h2 : decide (a < (len : Int))
    all_goals (
      go_enter Tryz.func202, Tryz.ntmps202
      go_wp2
      go_ret
      exact ⟨by rw [← HE.out]; simp [rngB, h1, h2], HB.out⟩
    )
  by_cases hj15 : j = 15
  · subst hj15
    cases h1 : a == 1 <;> cases h2 : a == 2
    all_goals (
      go_enter Tryz.func202, Tryz.ntmps202
      go_wp2
      go_ret
      exact ⟨by rw [← HE.out]; simp [rngB, h1, h2], HB.out⟩
    )
  by_cases hj16 : j = 16
  · subst hj16
    cases h1 : decide (1 ≤ b) <;> cases h2 : decide (b ≤ 999999) <;> cases h3 : decide (0 ≤ a) <;> cases h4 : decide (a ≤ b)
    all_goals (
      go_enter Tryz.func202, Tryz.ntmps202
      go_wp2
      go_ret
      exact ⟨by rw [← HE.out]; simp [rngB, h1, h2, h3, h4], HB.out⟩
    )
  have m1 : (j == 1) = false := by simpa using hj
  have m2 : (j == 2) = false := by simpa using hj2
  have m3 : (j == 3) = false := by simpa using hj3
  have m4 : (j == 4) = false := by simpa using hj4
  have m5 : (j == 5) = false := by simpa using hj5
  have m8 : (j == 8) = false := by simp; omega
  have m9 : (j == 9) = false := by simp; omega
  have m13 : (j == 13) = false := by simp; omega
  have m15 : (j == 15) = false := by simpa using hj15
  have m16 : (j == 16) = false := by simpa using hj16
  have HR := Lib.hid (show E = true by rw [← HE.out, rngB, if_neg hj, if_neg hj2, if_neg hj3, if_neg hj4, if_neg hj5, if_neg hj8, if_neg hj15, if_neg hj16])
  clear hj hj2 hj3 hj4 hj5 hj8 hj15 hj16
  go_enter Tryz.func202, Tryz.ntmps202
  go_wp2
  go_ret
  exact ⟨by rw [HR.out]; rfl, HB.out⟩
end Go.Proofs.YtlpipoihinceiaaGreatDoor
