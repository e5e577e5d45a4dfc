/- ref21: shapeOf, ranged, named -/
import Derived.Test.YtacjjkbkhpdhnaaGreatDoorZlo
import Derived.Test.YtacjjkbkhpdhnaaGreatDoorZlc
import Derived.Test.YtacjjkbkhpdhnaaGreatDoorZld
namespace Go.Proofs.YtacjjkbkhpdhnaaGreatDoor
open Go.RowKit Go.Proofs Go.Shelf
set_option maxHeartbeats 1000000 in
theorem shapeOf21_any (k a b c : Int) (ok : Bool) (w : World) (h : shapeZ k = (a, b, c, ok)) : Calls Tryz.prog 177 #[.int .i64 k] w fun e w' =>
    e = .returned (.tuple #[.agg #[.bool (decide (1 ≤ a)), .bool (decide (2 ≤ a)), .bool (decide (1 ≤ b)), .bool (decide (2 ≤ b)), .int .i64 c], .bool ok]) ∧ Below w.heap.size w w' := by
  have HB := Lib.hid (fun o => (Below.refl w.heap.size w).alloc (Nat.le_refl _) o)
  by_cases hk : knownZ k
  · unfold knownZ at hk
    rcases hk with rfl | rfl | rfl | rfl | rfl | rfl | rfl | rfl | rfl | rfl | rfl | rfl | rfl | rfl | rfl
    all_goals
      simp only [shapeZ, Int.reduceEq, if_true, if_false, Prod.mk.injEq] at h
      obtain ⟨rfl, rfl, rfl, rfl⟩ := h
      go_enter Tryz.func177, Tryz.ntmps177
      go_wp2
      exact bodyPost_ret (by simp [results, Tryz.results177, go_sem]) rfl ⟨rfl, HB.out _⟩
  · rw [shapeZ_no hk] at h
    simp only [Prod.mk.injEq] at h
    obtain ⟨rfl, rfl, rfl, rfl⟩ := h
    unfold knownZ at hk
    have HK := Lib.hid hk
    clear hk
    have n1 : (k == 1) = false := by have := HK.out; simp; omega
    have n2 : (k == 2) = false := by have := HK.out; simp; omega
    have n3 : (k == 3) = false := by have := HK.out; simp; omega
    have n4 : (k == 4) = false := by have := HK.out; simp; omega
    have n5 : (k == 5) = false := by have := HK.out; simp; omega
    have n6 : (k == 6) = false := by have := HK.out; simp; omega
    have n7 : (k == 7) = false := by have := HK.out; simp; omega
    have n12 : (k == 12) = false := by have := HK.out; simp; omega
    have n8 : (k == 8) = false := by have := HK.out; simp; omega
    have n10 : (k == 10) = false := by have := HK.out; simp; omega
    have n9 : (k == 9) = false := by have := HK.out; simp; omega
    have n15 : (k == 15) = false := by have := HK.out; simp; omega
    have n11 : (k == 11) = false := by have := HK.out; simp; omega
    have n13 : (k == 13) = false := by have := HK.out; simp; omega
    have n14 : (k == 14) = false := by have := HK.out; simp; omega
    go_enter Tryz.func177, Tryz.ntmps177
    go_wp2
    exact bodyPost_ret (by simp [results, Tryz.results177, go_sem]) rfl ⟨rfl, HB.out _⟩
set_option maxHeartbeats 1000000 in
theorem ranged21_any (k : Int) (n m : ByteArray) (i d : Int) (v : Value) (w : World) : Calls Tryz.prog 179 #[.agg #[.int .i64 k, .string n, .string m, .int .i64 i, .int .i64 d, v]] w fun e w' =>
    e = .returned (.bool (numB k i d)) ∧ Below w.heap.size w w' := by
  have HB := Lib.hid (fun o => (Below.refl w.heap.size w).alloc (Nat.le_refl _) o)
  by_cases hk : k = 1 ∨ k = 2 ∨ k = 5 ∨ k = 14
  · rcases hk with rfl | rfl | rfl | rfl
    all_goals
      go_enter Tryz.func179, Tryz.ntmps179
      go_wp2
    all_goals go_ret
    all_goals refine ⟨ret_bool ?_, HB.out _⟩
    all_goals simp [numB]
    all_goals (try simp_all)
    all_goals (try omega)
  · have HK := Lib.hid hk
    have n1 : (k == 1) = false := by simp; omega
    have n2 : (k == 2) = false := by simp; omega
    have n5 : (k == 5) = false := by simp; omega
    have n14 : (k == 14) = false := by simp; omega
    clear hk
    go_enter Tryz.func179, Tryz.ntmps179
    go_wp2
    go_ret
    refine ⟨ret_bool ?_, HB.out _⟩
    have := HK.out
    unfold numB
    rw [if_neg (by omega), if_neg (by omega), if_neg (by omega), if_neg (by omega)]
def opsS : List ByteArray := [⟨#[43]⟩, ⟨#[45]⟩, ⟨#[42]⟩, ⟨#[61]⟩, ⟨#[60]⟩]
theorem ops_has (n : ByteArray) : hasS opsS n = opB n := by
  have e : n.toList = n.data.toList := ByteArray.toList_eq n
  have hsz : n.data.toList.length = n.size := by simp
  unfold hasS opB opsS
  rw [e]
  generalize n.data.toList = l at hsz
  rw [← hsz]
  match l with
  | [] => simp [ByteArray.toList_eq]
  | [c] =>
    simp only [List.any_cons, List.any_nil, ByteArray.toList_eq, List.headD_cons, Lib.indexByte, List.length_singleton, decide_true, Bool.true_and]
    by_cases h1 : c = 43
    · subst h1; rfl
    by_cases h2 : c = 45
    · subst h2; rfl
    by_cases h3 : c = 42
    · subst h3; rfl
    by_cases h4 : c = 61
    · subst h4; rfl
    by_cases h5 : c = 60
    · subst h5; rfl
    simp [h1, h2, h3, h4, h5, Ne.symm h1, Ne.symm h2, Ne.symm h3, Ne.symm h4, Ne.symm h5]
  | c :: c' :: r =>
    simp [ByteArray.toList_eq]
def namedB (k : Int) (n m : ByteArray) (p q : Bool) : Bool := (!q || nameB m) && (if k = 5 then n.toList.isEmpty || labelB n else if k = 10 then opB n else !p || nameB n)
theorem slS_ops (w : World) : SlS (w.alloc (.cells #[.string ⟨#[43]⟩, .string ⟨#[45]⟩, .string ⟨#[42]⟩, .string ⟨#[61]⟩, .string ⟨#[60]⟩] 9)) (w.alloc (.cells #[.string ⟨#[43]⟩, .string ⟨#[45]⟩, .string ⟨#[42]⟩, .string ⟨#[61]⟩, .string ⟨#[60]⟩] 9)).heap.size (some ⟨w.heap.size, 0, none⟩) 5 opsS := slS_new w opsS _ (by decide)
set_option maxRecDepth 100000 in
set_option maxHeartbeats 2000000 in
theorem named21_tail (k : Int) (n m : ByteArray) (i d : Int) (v : Value) (p q r1 r2 : Bool) (c : Int) (w : World) (hn : n.size ≤ 1000) (hm : m.size ≤ 1000) (hq : q = false ∨ nameB m = true) :
    Calls Tryz.prog 178 #[.agg #[.int .i64 k, .string n, .string m, .int .i64 i, .int .i64 d, v], .agg #[.bool p, .bool q, .bool r1, .bool r2, .int .i64 c]] w fun e w' =>
    e = .returned (.bool (if k = 5 then n.toList.isEmpty || labelB n else if k = 10 then opB n else !p || nameB n)) ∧ Below w.heap.size w w' := by
  obtain ⟨W0, hW0⟩ : ∃ W0, (w.alloc (.cells #[.int .i64 k, .string n, .string m, .int .i64 i, .int .i64 d, v] 28)).alloc (.cells #[.bool p, .bool q, .bool r1, .bool r2, .int .i64 c] 198) = W0 := ⟨_, rfl⟩
  have hB0 : Below w.heap.size w W0 := by subst hW0; exact ((Below.refl _ _).alloc (Nat.le_refl _) _).alloc (by simp) _
  have hz0 : w.heap.size + 2 = W0.heap.size := by subst hW0; simp
  have hx0 : W0.heap[w.heap.size]? = some (.cells #[.int .i64 k, .string n, .string m, .int .i64 i, .int .i64 d, v] 28 (0, 0)) := by
    rw [← hW0, Below.heap_alloc _ _ _ (by simp)]
    exact heap_alloc_new w _
  have hx1 : W0.heap[w.heap.size + 1]? = some (.cells #[.bool p, .bool q, .bool r1, .bool r2, .int .i64 c] 198 (0, 0)) := by
    rw [← hW0]
    have := heap_alloc_new (w.alloc (.cells #[.int .i64 k, .string n, .string m, .int .i64 i, .int .i64 d, v] 28)) (.cells #[.bool p, .bool q, .bool r1, .bool r2, .int .i64 c] 198)
    simpa using this
  have HC : Hid (∀ X, Below W0.heap.size W0 X → Below w.heap.size w X ∧ X.cell? ⟨w.heap.size, 0, none⟩ = some (.int .i64 k) ∧ X.cell? ⟨w.heap.size, 1, none⟩ = some (.string n) ∧ X.cell? ⟨w.heap.size, 2, none⟩ = some (.string m) ∧ X.cell? ⟨w.heap.size + 1, 0, none⟩ = some (.bool p) ∧ X.cell? ⟨w.heap.size + 1, 1, none⟩ = some (.bool q)) := fun X hX => by
    have h0 := (hX.block w.heap.size (by omega)).trans hx0
    have h1 := (hX.block (w.heap.size + 1) (by omega)).trans hx1
    exact ⟨hB0.trans (hX.mono (by omega)), cell_of_row X _ 0 _ _ (0, 0) h0, cell_of_row X _ 1 _ _ (0, 0) h0, cell_of_row X _ 2 _ _ (0, 0) h0, cell_of_row X _ 0 _ _ (0, 0) h1, cell_of_row X _ 1 _ _ (0, 0) h1⟩
  obtain ⟨_, x0, x1, x2, y0, y1⟩ := HC.out W0 (Below.refl _ _)
  obtain ⟨R, HR⟩ : ∃ R, Hid ((if k = 5 then n.toList.isEmpty || labelB n else if k = 10 then opB n else !p || nameB n) = R) := ⟨_, Lib.hid rfl⟩
  rw [HR.out]
  clear hB0 hx0 hx1
  go_enter Tryz.func178, Tryz.ntmps178
  cases q with
  | false =>
    have HB := Lib.hid (Below.refl W0.heap.size W0)
    clear hq
    by_cases k5 : k = 5
    · subst k5
      cases he : n.toList.isEmpty with
      | true =>
        have ER := Lib.hid (show R = true by rw [← HR.out]; simp [he])
        have he2 : n.toList = [] := by simpa using he
        clear HR
        go_wp2
        go_ret
        exact ⟨by rw [ER.out]; rfl, (HC.out _ HB.out).1⟩
      | false =>
        have ER := Lib.hid (show R = labelB n by rw [← HR.out]; simp [he])
        have HL := Lib.hid (Label20_any n W0 (by omega))
        have he2 : (n.toList == []) = false := by simpa using he
        clear HR
        go_wp2_with fail
        refine HL.out.mono ?_
        rintro e w2 ⟨rfl, rfl⟩
        go_wp2
        go_ret
        exact ⟨by rw [ER.out]; rfl, (HC.out _ HB.out).1⟩
    have k5' : (k == 5) = false := by simpa using k5
    by_cases k10 : k = 10
    · subst k10
      have ER := Lib.hid (show R = hasS opsS n by rw [← HR.out, ops_has]; simp)
      have HH := Lib.hid (has21_any opsS n _ _ _ (slS_ops W0))
      rw [show opsS.length = 5 from rfl] at HH
      have HB2 := Lib.hid ((HC.out _ HB.out).1.alloc (HC.out _ HB.out).1.size (.cells #[.string ⟨#[43]⟩, .string ⟨#[45]⟩, .string ⟨#[42]⟩, .string ⟨#[61]⟩, .string ⟨#[60]⟩] 9))
      clear HR
      have hzX : w.heap.size < W0.heap.size := by have := HB.out.size; omega
      go_wp2_with fail
      refine HH.out.mono ?_
      rintro e w2 ⟨rfl, rfl⟩
      go_wp2
      go_ret
      exact ⟨by rw [ER.out]; rfl, HB2.out⟩
    have k10' : (k == 10) = false := by simpa using k10
    cases p with
    | false =>
      have ER := Lib.hid (show R = true by rw [← HR.out, if_neg k5, if_neg k10]; rfl)
      clear HR k5 k10
      go_wp2
      go_ret
      exact ⟨by rw [ER.out]; rfl, (HC.out _ HB.out).1⟩
    | true =>
      have ER := Lib.hid (show R = nameB n by rw [← HR.out, if_neg k5, if_neg k10]; rfl)
      have HN := Lib.hid (name21_any n W0 (by omega))
      clear HR k5 k10
      go_wp2_with fail
      refine HN.out.mono ?_
      rintro e w2 ⟨rfl, hb2⟩
      have HB2 := Lib.hid ((HC.out _ HB.out).1.trans (hb2.mono (HC.out _ HB.out).1.size))
      clear hb2
      go_wp2
      go_ret
      exact ⟨by rw [ER.out]; rfl, HB2.out⟩
  | true =>
    have hmn := hq.resolve_left (by simp)
    have HM := Lib.hid (name21_any m W0 (by omega))
    rw [hmn] at HM
    clear hmn hq
    go_wp2_with fail
    refine HM.out.mono ?_
    rintro e w1 ⟨rfl, hb1⟩
    have HB := Lib.hid hb1
    clear x0 x1 x2 y0 y1 hb1 hW0
    obtain ⟨_, x0, x1, x2, y0, y1⟩ := HC.out w1 HB.out
    by_cases k5 : k = 5
    · subst k5
      cases he : n.toList.isEmpty with
      | true =>
        have ER := Lib.hid (show R = true by rw [← HR.out]; simp [he])
        have he2 : n.toList = [] := by simpa using he
        clear HR
        go_wp2
        go_ret
        exact ⟨by rw [ER.out]; rfl, (HC.out _ HB.out).1⟩
      | false =>
        have ER := Lib.hid (show R = labelB n by rw [← HR.out]; simp [he])
        have HL := Lib.hid (Label20_any n w1 (by omega))
        have he2 : (n.toList == []) = false := by simpa using he
        clear HR
        go_wp2_with fail
        refine HL.out.mono ?_
        rintro e w2 ⟨rfl, rfl⟩
        go_wp2
        go_ret
        exact ⟨by rw [ER.out]; rfl, (HC.out _ HB.out).1⟩
    have k5' : (k == 5) = false := by simpa using k5
    by_cases k10 : k = 10
    · subst k10
      have ER := Lib.hid (show R = hasS opsS n by rw [← HR.out, ops_has]; simp)
      have HH := Lib.hid (has21_any opsS n _ _ _ (slS_ops w1))
      rw [show opsS.length = 5 from rfl] at HH
      have HB2 := Lib.hid ((HC.out _ HB.out).1.alloc (HC.out _ HB.out).1.size (.cells #[.string ⟨#[43]⟩, .string ⟨#[45]⟩, .string ⟨#[42]⟩, .string ⟨#[61]⟩, .string ⟨#[60]⟩] 9))
      clear HR
      have hzX : w.heap.size < w1.heap.size := by have := HB.out.size; omega
      go_wp2_with fail
      refine HH.out.mono ?_
      rintro e w2 ⟨rfl, rfl⟩
      go_wp2
      go_ret
      exact ⟨by rw [ER.out]; rfl, HB2.out⟩
    have k10' : (k == 10) = false := by simpa using k10
    cases p with
    | false =>
      have ER := Lib.hid (show R = true by rw [← HR.out, if_neg k5, if_neg k10]; rfl)
      clear HR k5 k10
      go_wp2
      go_ret
      exact ⟨by rw [ER.out]; rfl, (HC.out _ HB.out).1⟩
    | true =>
      have ER := Lib.hid (show R = nameB n by rw [← HR.out, if_neg k5, if_neg k10]; rfl)
      have HN := Lib.hid (name21_any n w1 (by omega))
      clear HR k5 k10
      go_wp2_with fail
      refine HN.out.mono ?_
      rintro e w2 ⟨rfl, hb2⟩
      have HB2 := Lib.hid ((HC.out _ HB.out).1.trans (hb2.mono (HC.out _ HB.out).1.size))
      clear hb2
      go_wp2
      go_ret
      exact ⟨by rw [ER.out]; rfl, HB2.out⟩
set_option maxRecDepth 100000 in
set_option maxHeartbeats 1000000 in
theorem named21_any (k : Int) (n m : ByteArray) (i d : Int) (v : Value) (p q r1 r2 : Bool) (c : Int) (w : World) (hn : n.size ≤ 1000) (hm : m.size ≤ 1000) :
    Calls Tryz.prog 178 #[.agg #[.int .i64 k, .string n, .string m, .int .i64 i, .int .i64 d, v], .agg #[.bool p, .bool q, .bool r1, .bool r2, .int .i64 c]] w fun e w' =>
    e = .returned (.bool (namedB k n m p q)) ∧ Below w.heap.size w w' := by
  by_cases hq : q = false ∨ nameB m = true
  · refine (named21_tail k n m i d v p q r1 r2 c w hn hm hq).mono fun e w' ⟨h1, h2⟩ => ⟨?_, h2⟩
    rw [h1, namedB, show (!q || nameB m) = true by rcases hq with rfl | h <;> simp [*], Bool.true_and]
  · obtain rfl : q = true := by cases q <;> simp_all
    have hmn : nameB m = false := by cases h : nameB m <;> simp_all
    have ER := Lib.hid (show namedB k n m p true = false by simp [namedB, hmn])
    obtain ⟨W0, hW0⟩ : ∃ W0, (w.alloc (.cells #[.int .i64 k, .string n, .string m, .int .i64 i, .int .i64 d, v] 28)).alloc (.cells #[.bool p, .bool true, .bool r1, .bool r2, .int .i64 c] 198) = W0 := ⟨_, rfl⟩
    have hB0 : Below w.heap.size w W0 := by subst hW0; exact ((Below.refl _ _).alloc (Nat.le_refl _) _).alloc (by simp) _
    have x2 : W0.cell? ⟨w.heap.size, 2, none⟩ = some (.string m) := by subst hW0; go_simp
    have y1 : W0.cell? ⟨w.heap.size + 1, 1, none⟩ = some (.bool true) := by subst hW0; go_simp
    have HM := Lib.hid (name21_any m W0 (by omega))
    rw [hmn] at HM
    have HB := Lib.hid hB0
    clear hmn hq hB0
    go_enter Tryz.func178, Tryz.ntmps178
    go_wp2_with fail
    refine HM.out.mono ?_
    rintro e w1 ⟨rfl, hb1⟩
    have HB2 := Lib.hid (HB.out.trans (hb1.mono HB.out.size))
    clear hb1
    go_wp2
    go_ret
    exact ⟨by rw [ER.out]; rfl, HB2.out⟩
end Go.Proofs.YtacjjkbkhpdhnaaGreatDoor
