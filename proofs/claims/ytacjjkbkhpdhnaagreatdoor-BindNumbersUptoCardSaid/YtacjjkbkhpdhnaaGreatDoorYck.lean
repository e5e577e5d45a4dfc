/- ref21.check (printed by gen_yck.py) -/
import Derived.Test.YtacjjkbkhpdhnaaGreatDoorYsh
import Derived.Test.YtacjjkbkhpdhnaaGreatDoorZlf
import Derived.Test.YtacjjkbkhpdhnaaGreatDoorZla
namespace Go.Proofs.YtacjjkbkhpdhnaaGreatDoor
open Go.RowKit Go.Proofs Go.Shelf
def Fo.ck : Fo → Int
  | .nil => 0
  | .cons k n m i d _ _ s r => if nodeE k n m i d s.len = 0 then (if s.ck = 0 then r.ck else s.ck) else nodeE k n m i d s.len
def ckN (k : Int) (n m : ByteArray) (i d : Int) (s : Fo) : Int := if nodeE k n m i d s.len = 0 then s.ck else nodeE k n m i d s.len
theorem Fo.ck_cons (k : Int) (n m : ByteArray) (i d : Int) (A : Option Addr) (c : Nat) (s r : Fo) : (Fo.cons k n m i d A c s r).ck = if ckN k n m i d s = 0 then r.ck else ckN k n m i d s := by
  unfold ckN
  simp only [Fo.ck]
  by_cases h : nodeE k n m i d s.len = 0
  · simp only [h, if_true]
  · simp only [h, if_false]
def Fo.Short : Fo → Prop
  | .nil => True
  | .cons _ n m _ _ _ _ s r => (n.size ≤ 1000 ∧ m.size ≤ 1000) ∧ s.Short ∧ r.Short
theorem shapeZ_ab {k a b c : Int} (h : shapeZ k = (a, b, c, true)) : (a = 0 ∧ b = 1) ∨ (a = 1 ∧ b = 0) ∨ (a = 2 ∧ b = 0) ∨ (a = 1 ∧ b = 1) ∨ (a = 0 ∧ b = 0) ∨ (a = 0 ∧ b = 2) := by
  by_cases hk : knownZ k
  · unfold knownZ at hk
    rcases hk with rfl | rfl | rfl | rfl | rfl | rfl | rfl | rfl | rfl | rfl | rfl | rfl | rfl | rfl | rfl
    all_goals
      simp only [shapeZ, Int.reduceEq, if_true, if_false, Prod.mk.injEq] at h
      obtain ⟨rfl, rfl, rfl, _⟩ := h
      decide
  · rw [shapeZ_no hk] at h
    simp at h
theorem shapeZ_known {k : Int} (h : knownZ k) : ∃ a b c, shapeZ k = (a, b, c, true) := by
  unfold knownZ at h
  rcases h with rfl | rfl | rfl | rfl | rfl | rfl | rfl | rfl | rfl | rfl | rfl | rfl | rfl | rfl | rfl
  all_goals exact ⟨_, _, _, rfl⟩
theorem nodeE_of {k a b c : Int} (h : shapeZ k = (a, b, c, true)) (n m : ByteArray) (i d : Int) (len : Nat) : nodeE k n m i d len = if argB a b c n m i d len then 1 else if namesE k n m a = 0 then numE k i d else namesE k n m a := by
  unfold nodeE
  rw [h]
theorem named_names {k a b c : Int} (h : shapeZ k = (a, b, c, true)) (n m : ByteArray) : (namedB k n m (decide (1 ≤ a)) (decide (2 ≤ a)) = false → namesE k n m a = 6) ∧
    (namedB k n m (decide (1 ≤ a)) (decide (2 ≤ a)) = true → namesE k n m a = if k = 13 ∧ (n.toList == m.toList) = true then 7 else 0) := by
  have hab := shapeZ_ab h
  have e : namedB k n m (decide (1 ≤ a)) (decide (2 ≤ a)) = !(decide (nmB k n a = false ∨ (a = 2 ∧ nameB m = false))) := by
    unfold namedB nmB
    have ha : a = 0 ∨ a = 1 ∨ a = 2 := by omega
    by_cases h5 : k = 5
    · simp only [h5, if_true]
      rcases ha with rfl | rfl | rfl <;> cases nameB m <;> cases (n.toList.isEmpty || labelB n) <;> rfl
    · simp only [h5, if_false]
      by_cases h10 : k = 10
      · simp only [h10, if_true]
        rcases ha with rfl | rfl | rfl <;> cases nameB m <;> cases opB n <;> rfl
      · simp only [h10, if_false]
        rcases ha with rfl | rfl | rfl <;> cases nameB m <;> cases nameB n <;> rfl
  rw [e]
  unfold namesE
  by_cases hP : nmB k n a = false ∨ (a = 2 ∧ nameB m = false)
  · rw [decide_eq_true hP]; exact ⟨fun _ => if_pos hP, fun h => by simp at h⟩
  · rw [decide_eq_false hP]; exact ⟨fun h => by simp at h, fun _ => if_neg hP⟩
set_option maxHeartbeats 1000000 in
theorem check21_no (k : Int) (hk : ¬ knownZ k) (n m : ByteArray) (i d : Int) (A : Option Addr) (len cap : Nat) (w : World) : Calls Tryz.prog 159 #[.agg #[.int .i64 k, .string n, .string m, .int .i64 i, .int .i64 d, .slice A len cap]] w fun e w' =>
    e = .returned (.int .i64 9) ∧ Below w.heap.size w w' := by
  have HSH := Lib.hid (fun W => shapeOf21_any k 0 0 0 false W (shapeZ_no hk))
  go_enter Tryz.func159, Tryz.ntmps159
  go_wp2_with (go_at_call 177; refine (HSH.out _).mono ?_; rintro e w1 ⟨rfl, hb1⟩; obtain ⟨hB1, hz1⟩ := after_call hb1)
  go_ret
  exact ⟨rfl, hB1.alloc hB1.size _⟩
set_option maxRecDepth 100000 in
set_option maxHeartbeats 8000000 in
theorem check21_arg (k a b c : Int) (hz : shapeZ k = (a, b, c, true)) (n m : ByteArray) (i d : Int) (A : Option Addr) (len cap : Nat) (w : World) (hA : argB a b c n m i d len = true) : Calls Tryz.prog 159 #[.agg #[.int .i64 k, .string n, .string m, .int .i64 i, .int .i64 d, .slice A len cap]] w fun e w' =>
    e = .returned (.int .i64 1) ∧ Below w.heap.size w w' := by
  have HSH0 := Lib.hid (fun W => shapeOf21_any k a b c true W hz)
  have hab := shapeZ_ab hz
  clear hz
  rcases hab with ⟨rfl, rfl⟩ | ⟨rfl, rfl⟩ | ⟨rfl, rfl⟩ | ⟨rfl, rfl⟩ | ⟨rfl, rfl⟩ | ⟨rfl, rfl⟩
  · have HSH : Hid (∀ W, Calls Tryz.prog 177 #[.int .i64 k] W fun e w' => e = .returned (.tuple #[.agg #[.bool false, .bool false, .bool true, .bool false, .int .i64 c], .bool true]) ∧ Below W.heap.size W w') := HSH0.out
    clear HSH0
    cases hn : n.toList.isEmpty with
    | false =>
      have gn : (n.toList == []) = false := by simpa using hn
      clear hA
      go_enter Tryz.func159, Tryz.ntmps159
      go_wp2_with (go_at_call 177; refine (HSH.out _).mono ?_; rintro e w1 ⟨rfl, hb1⟩; obtain ⟨hc1, hf1⟩ := bcell hb1; obtain ⟨hB1, hz1⟩ := after_call hb1)
      go_ret
      exact ⟨rfl, hB1.alloc hB1.size _⟩
    | true =>
      have gn : n.toList = [] := by simpa using hn
      cases hm : m.toList.isEmpty with
      | false =>
        have gm : (m.toList == []) = false := by simpa using hm
        clear hA
        go_enter Tryz.func159, Tryz.ntmps159
        go_wp2_with (go_at_call 177; refine (HSH.out _).mono ?_; rintro e w1 ⟨rfl, hb1⟩; obtain ⟨hc1, hf1⟩ := bcell hb1; obtain ⟨hB1, hz1⟩ := after_call hb1)
        go_ret
        exact ⟨rfl, hB1.alloc hB1.size _⟩
      | true =>
        have gm : m.toList = [] := by simpa using hm
        by_cases zd : d = 0
        rotate_left
        · have bd : (d == 0) = false := by simpa using zd
          have cd : (d != 0) = true := by simpa using zd
          clear zd
          clear hA
          go_enter Tryz.func159, Tryz.ntmps159
          go_wp2_with (go_at_call 177; refine (HSH.out _).mono ?_; rintro e w1 ⟨rfl, hb1⟩; obtain ⟨hc1, hf1⟩ := bcell hb1; obtain ⟨hB1, hz1⟩ := after_call hb1)
          go_ret
          exact ⟨rfl, hB1.alloc hB1.size _⟩
        have bd : (d == 0) = true := by simpa using zd
        have cd : (d != 0) = false := by simpa using zd
        clear zd
        have cl : ((len : Int) != c) = true := by simpa [argB, hn, hm, cd] using hA
        have bl : ((len : Int) == c) = false := by simpa using cl
        clear hA
        go_enter Tryz.func159, Tryz.ntmps159
        go_wp2_with (go_at_call 177; refine (HSH.out _).mono ?_; rintro e w1 ⟨rfl, hb1⟩; obtain ⟨hc1, hf1⟩ := bcell hb1; obtain ⟨hB1, hz1⟩ := after_call hb1)
        go_ret
        exact ⟨rfl, hB1.alloc hB1.size _⟩
  · have HSH : Hid (∀ W, Calls Tryz.prog 177 #[.int .i64 k] W fun e w' => e = .returned (.tuple #[.agg #[.bool true, .bool false, .bool false, .bool false, .int .i64 c], .bool true]) ∧ Below W.heap.size W w') := HSH0.out
    clear HSH0
    cases hm : m.toList.isEmpty with
    | false =>
      have gm : (m.toList == []) = false := by simpa using hm
      clear hA
      go_enter Tryz.func159, Tryz.ntmps159
      go_wp2_with (go_at_call 177; refine (HSH.out _).mono ?_; rintro e w1 ⟨rfl, hb1⟩; obtain ⟨hc1, hf1⟩ := bcell hb1; obtain ⟨hB1, hz1⟩ := after_call hb1)
      go_ret
      exact ⟨rfl, hB1.alloc hB1.size _⟩
    | true =>
      have gm : m.toList = [] := by simpa using hm
      by_cases zi : i = 0
      rotate_left
      · have bi : (i == 0) = false := by simpa using zi
        have ci : (i != 0) = true := by simpa using zi
        clear zi
        clear hA
        go_enter Tryz.func159, Tryz.ntmps159
        go_wp2_with (go_at_call 177; refine (HSH.out _).mono ?_; rintro e w1 ⟨rfl, hb1⟩; obtain ⟨hc1, hf1⟩ := bcell hb1; obtain ⟨hB1, hz1⟩ := after_call hb1)
        go_ret
        exact ⟨rfl, hB1.alloc hB1.size _⟩
      have bi : (i == 0) = true := by simpa using zi
      have ci : (i != 0) = false := by simpa using zi
      clear zi
      by_cases zd : d = 0
      rotate_left
      · have bd : (d == 0) = false := by simpa using zd
        have cd : (d != 0) = true := by simpa using zd
        clear zd
        clear hA
        go_enter Tryz.func159, Tryz.ntmps159
        go_wp2_with (go_at_call 177; refine (HSH.out _).mono ?_; rintro e w1 ⟨rfl, hb1⟩; obtain ⟨hc1, hf1⟩ := bcell hb1; obtain ⟨hB1, hz1⟩ := after_call hb1)
        go_ret
        exact ⟨rfl, hB1.alloc hB1.size _⟩
      have bd : (d == 0) = true := by simpa using zd
      have cd : (d != 0) = false := by simpa using zd
      clear zd
      have cl : ((len : Int) != c) = true := by simpa [argB, hm, ci, cd] using hA
      have bl : ((len : Int) == c) = false := by simpa using cl
      clear hA
      go_enter Tryz.func159, Tryz.ntmps159
      go_wp2_with (go_at_call 177; refine (HSH.out _).mono ?_; rintro e w1 ⟨rfl, hb1⟩; obtain ⟨hc1, hf1⟩ := bcell hb1; obtain ⟨hB1, hz1⟩ := after_call hb1)
      go_ret
      exact ⟨rfl, hB1.alloc hB1.size _⟩
  · have HSH : Hid (∀ W, Calls Tryz.prog 177 #[.int .i64 k] W fun e w' => e = .returned (.tuple #[.agg #[.bool true, .bool true, .bool false, .bool false, .int .i64 c], .bool true]) ∧ Below W.heap.size W w') := HSH0.out
    clear HSH0
    by_cases zi : i = 0
    rotate_left
    · have bi : (i == 0) = false := by simpa using zi
      have ci : (i != 0) = true := by simpa using zi
      clear zi
      clear hA
      go_enter Tryz.func159, Tryz.ntmps159
      go_wp2_with (go_at_call 177; refine (HSH.out _).mono ?_; rintro e w1 ⟨rfl, hb1⟩; obtain ⟨hc1, hf1⟩ := bcell hb1; obtain ⟨hB1, hz1⟩ := after_call hb1)
      go_ret
      exact ⟨rfl, hB1.alloc hB1.size _⟩
    have bi : (i == 0) = true := by simpa using zi
    have ci : (i != 0) = false := by simpa using zi
    clear zi
    by_cases zd : d = 0
    rotate_left
    · have bd : (d == 0) = false := by simpa using zd
      have cd : (d != 0) = true := by simpa using zd
      clear zd
      clear hA
      go_enter Tryz.func159, Tryz.ntmps159
      go_wp2_with (go_at_call 177; refine (HSH.out _).mono ?_; rintro e w1 ⟨rfl, hb1⟩; obtain ⟨hc1, hf1⟩ := bcell hb1; obtain ⟨hB1, hz1⟩ := after_call hb1)
      go_ret
      exact ⟨rfl, hB1.alloc hB1.size _⟩
    have bd : (d == 0) = true := by simpa using zd
    have cd : (d != 0) = false := by simpa using zd
    clear zd
    have cl : ((len : Int) != c) = true := by simpa [argB, ci, cd] using hA
    have bl : ((len : Int) == c) = false := by simpa using cl
    clear hA
    go_enter Tryz.func159, Tryz.ntmps159
    go_wp2_with (go_at_call 177; refine (HSH.out _).mono ?_; rintro e w1 ⟨rfl, hb1⟩; obtain ⟨hc1, hf1⟩ := bcell hb1; obtain ⟨hB1, hz1⟩ := after_call hb1)
    go_ret
    exact ⟨rfl, hB1.alloc hB1.size _⟩
  · have HSH : Hid (∀ W, Calls Tryz.prog 177 #[.int .i64 k] W fun e w' => e = .returned (.tuple #[.agg #[.bool true, .bool false, .bool true, .bool false, .int .i64 c], .bool true]) ∧ Below W.heap.size W w') := HSH0.out
    clear HSH0
    cases hm : m.toList.isEmpty with
    | false =>
      have gm : (m.toList == []) = false := by simpa using hm
      clear hA
      go_enter Tryz.func159, Tryz.ntmps159
      go_wp2_with (go_at_call 177; refine (HSH.out _).mono ?_; rintro e w1 ⟨rfl, hb1⟩; obtain ⟨hc1, hf1⟩ := bcell hb1; obtain ⟨hB1, hz1⟩ := after_call hb1)
      go_ret
      exact ⟨rfl, hB1.alloc hB1.size _⟩
    | true =>
      have gm : m.toList = [] := by simpa using hm
      by_cases zd : d = 0
      rotate_left
      · have bd : (d == 0) = false := by simpa using zd
        have cd : (d != 0) = true := by simpa using zd
        clear zd
        clear hA
        go_enter Tryz.func159, Tryz.ntmps159
        go_wp2_with (go_at_call 177; refine (HSH.out _).mono ?_; rintro e w1 ⟨rfl, hb1⟩; obtain ⟨hc1, hf1⟩ := bcell hb1; obtain ⟨hB1, hz1⟩ := after_call hb1)
        go_ret
        exact ⟨rfl, hB1.alloc hB1.size _⟩
      have bd : (d == 0) = true := by simpa using zd
      have cd : (d != 0) = false := by simpa using zd
      clear zd
      have cl : ((len : Int) != c) = true := by simpa [argB, hm, cd] using hA
      have bl : ((len : Int) == c) = false := by simpa using cl
      clear hA
      go_enter Tryz.func159, Tryz.ntmps159
      go_wp2_with (go_at_call 177; refine (HSH.out _).mono ?_; rintro e w1 ⟨rfl, hb1⟩; obtain ⟨hc1, hf1⟩ := bcell hb1; obtain ⟨hB1, hz1⟩ := after_call hb1)
      go_ret
      exact ⟨rfl, hB1.alloc hB1.size _⟩
  · have HSH : Hid (∀ W, Calls Tryz.prog 177 #[.int .i64 k] W fun e w' => e = .returned (.tuple #[.agg #[.bool false, .bool false, .bool false, .bool false, .int .i64 c], .bool true]) ∧ Below W.heap.size W w') := HSH0.out
    clear HSH0
    cases hn : n.toList.isEmpty with
    | false =>
      have gn : (n.toList == []) = false := by simpa using hn
      clear hA
      go_enter Tryz.func159, Tryz.ntmps159
      go_wp2_with (go_at_call 177; refine (HSH.out _).mono ?_; rintro e w1 ⟨rfl, hb1⟩; obtain ⟨hc1, hf1⟩ := bcell hb1; obtain ⟨hB1, hz1⟩ := after_call hb1)
      go_ret
      exact ⟨rfl, hB1.alloc hB1.size _⟩
    | true =>
      have gn : n.toList = [] := by simpa using hn
      cases hm : m.toList.isEmpty with
      | false =>
        have gm : (m.toList == []) = false := by simpa using hm
        clear hA
        go_enter Tryz.func159, Tryz.ntmps159
        go_wp2_with (go_at_call 177; refine (HSH.out _).mono ?_; rintro e w1 ⟨rfl, hb1⟩; obtain ⟨hc1, hf1⟩ := bcell hb1; obtain ⟨hB1, hz1⟩ := after_call hb1)
        go_ret
        exact ⟨rfl, hB1.alloc hB1.size _⟩
      | true =>
        have gm : m.toList = [] := by simpa using hm
        by_cases zi : i = 0
        rotate_left
        · have bi : (i == 0) = false := by simpa using zi
          have ci : (i != 0) = true := by simpa using zi
          clear zi
          clear hA
          go_enter Tryz.func159, Tryz.ntmps159
          go_wp2_with (go_at_call 177; refine (HSH.out _).mono ?_; rintro e w1 ⟨rfl, hb1⟩; obtain ⟨hc1, hf1⟩ := bcell hb1; obtain ⟨hB1, hz1⟩ := after_call hb1)
          go_ret
          exact ⟨rfl, hB1.alloc hB1.size _⟩
        have bi : (i == 0) = true := by simpa using zi
        have ci : (i != 0) = false := by simpa using zi
        clear zi
        by_cases zd : d = 0
        rotate_left
        · have bd : (d == 0) = false := by simpa using zd
          have cd : (d != 0) = true := by simpa using zd
          clear zd
          clear hA
          go_enter Tryz.func159, Tryz.ntmps159
          go_wp2_with (go_at_call 177; refine (HSH.out _).mono ?_; rintro e w1 ⟨rfl, hb1⟩; obtain ⟨hc1, hf1⟩ := bcell hb1; obtain ⟨hB1, hz1⟩ := after_call hb1)
          go_ret
          exact ⟨rfl, hB1.alloc hB1.size _⟩
        have bd : (d == 0) = true := by simpa using zd
        have cd : (d != 0) = false := by simpa using zd
        clear zd
        have cl : ((len : Int) != c) = true := by simpa [argB, hn, hm, ci, cd] using hA
        have bl : ((len : Int) == c) = false := by simpa using cl
        clear hA
        go_enter Tryz.func159, Tryz.ntmps159
        go_wp2_with (go_at_call 177; refine (HSH.out _).mono ?_; rintro e w1 ⟨rfl, hb1⟩; obtain ⟨hc1, hf1⟩ := bcell hb1; obtain ⟨hB1, hz1⟩ := after_call hb1)
        go_ret
        exact ⟨rfl, hB1.alloc hB1.size _⟩
  · have HSH : Hid (∀ W, Calls Tryz.prog 177 #[.int .i64 k] W fun e w' => e = .returned (.tuple #[.agg #[.bool false, .bool false, .bool true, .bool true, .int .i64 c], .bool true]) ∧ Below W.heap.size W w') := HSH0.out
    clear HSH0
    cases hn : n.toList.isEmpty with
    | false =>
      have gn : (n.toList == []) = false := by simpa using hn
      clear hA
      go_enter Tryz.func159, Tryz.ntmps159
      go_wp2_with (go_at_call 177; refine (HSH.out _).mono ?_; rintro e w1 ⟨rfl, hb1⟩; obtain ⟨hc1, hf1⟩ := bcell hb1; obtain ⟨hB1, hz1⟩ := after_call hb1)
      go_ret
      exact ⟨rfl, hB1.alloc hB1.size _⟩
    | true =>
      have gn : n.toList = [] := by simpa using hn
      cases hm : m.toList.isEmpty with
      | false =>
        have gm : (m.toList == []) = false := by simpa using hm
        clear hA
        go_enter Tryz.func159, Tryz.ntmps159
        go_wp2_with (go_at_call 177; refine (HSH.out _).mono ?_; rintro e w1 ⟨rfl, hb1⟩; obtain ⟨hc1, hf1⟩ := bcell hb1; obtain ⟨hB1, hz1⟩ := after_call hb1)
        go_ret
        exact ⟨rfl, hB1.alloc hB1.size _⟩
      | true =>
        have gm : m.toList = [] := by simpa using hm
        have cl : ((len : Int) != c) = true := by simpa [argB, hn, hm] using hA
        have bl : ((len : Int) == c) = false := by simpa using cl
        clear hA
        go_enter Tryz.func159, Tryz.ntmps159
        go_wp2_with (go_at_call 177; refine (HSH.out _).mono ?_; rintro e w1 ⟨rfl, hb1⟩; obtain ⟨hc1, hf1⟩ := bcell hb1; obtain ⟨hB1, hz1⟩ := after_call hb1)
        go_ret
        exact ⟨rfl, hB1.alloc hB1.size _⟩
def CkOK (s : Fo) : Prop := ∀ (k : Int) (n m : ByteArray) (i d : Int) (A : Option Addr) (c : Nat) (w : World), n.size ≤ 1000 → m.size ≤ 1000 → s.Short → s.Sl w w.heap.size A c →
    Calls Tryz.prog 159 #[.agg #[.int .i64 k, .string n, .string m, .int .i64 i, .int .i64 d, .slice A s.len c]] w fun e w' => e = .returned (.int .i64 (ckN k n m i d s)) ∧ Below w.heap.size w w'
end Go.Proofs.YtacjjkbkhpdhnaaGreatDoor
