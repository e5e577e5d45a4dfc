/- ref20: letter, digit, word, Word, slash, Label -/
import Derived.Test.YtlcfoiapkblheaaGreatDoorGkc
namespace Go.Proofs.YtlcfoiapkblheaaGreatDoor
open Go.RowKit Go.Proofs Go.Shelf

set_option maxHeartbeats 400000 in
theorem letter20_any (c : Int) (w : World) : Calls Tryz.prog 204 #[.int .u8 c] w fun e w' => e = .returned (.bool (letZ c)) ∧ w = w' := by
  by_cases h1 : 97 ≤ c
  · by_cases h2 : c ≤ 122
    all_goals
      go_enter Tryz.func204, Tryz.ntmps204
      go_wp2
      go_ret
      exact ⟨by simp [letZ, h1, h2], rfl⟩
  · have h2 : decide (97 ≤ c) = false := by simpa using h1
    go_enter Tryz.func204, Tryz.ntmps204
    go_wp2
    go_ret
    exact ⟨by simp [letZ]; omega, rfl⟩
set_option maxHeartbeats 400000 in
theorem digit20_any (c : Int) (w : World) : Calls Tryz.prog 205 #[.int .u8 c] w fun e w' => e = .returned (.bool (digZ c)) ∧ w = w' := by
  by_cases h1 : 48 ≤ c
  · by_cases h2 : c ≤ 57
    all_goals
      go_enter Tryz.func205, Tryz.ntmps205
      go_wp2
      go_ret
      exact ⟨by simp [digZ, h1, h2], rfl⟩
  · have h2 : decide (48 ≤ c) = false := by simpa using h1
    go_enter Tryz.func205, Tryz.ntmps205
    go_wp2
    go_ret
    exact ⟨by simp [digZ]; omega, rfl⟩

def word20 (s : ByteArray) (most : Nat) : Bool := decide (s.size ≤ most) && wordL s.data.toList
theorem word20_24 (s : ByteArray) : word20 s 24 = wordB s := rfl
theorem word20_20 (s : ByteArray) : word20 s 20 = partB s := by
  unfold word20 partB wordB
  by_cases h : s.size ≤ 20
  · simp [h]; intro _; omega
  · simp [h]
theorem take_snoc (s : ByteArray) (k : Nat) (h : k < s.size) : s.data.toList.take (k + 1) = s.data.toList.take k ++ [s[k]] := by
  rw [List.take_succ_eq_append_getElem (by simpa using h)]; rfl
theorem wordL_head (s : ByteArray) (h : 0 < s.size) : wordL s.data.toList = (letB s[0] && restL s.data.toList) := by
  have e : s.data.toList[0]? = some s[0] := getElem_data s 0 h
  generalize s[0] = c at e
  cases hl : s.data.toList with
  | nil => rw [hl] at e; simp at e
  | cons a r =>
    rw [hl] at e
    simp at e
    subst e
    simp only [wordL, restL, List.all_cons]
    cases letB a <;> simp

set_option maxHeartbeats 1000000 in
theorem word20_any (s : ByteArray) (most : Nat) (w : World) (hm : most ≤ 1000) (hs : s.size ≤ 9223372036854775807) : Calls Tryz.prog 153 #[.string s, .int .i64 most] w fun e w' => e = .returned (.bool (word20 s most)) ∧ w = w' := by
  by_cases h0 : s.size = 0
  · have e2 : word20 s most = false := by
      have := toList_nil h0
      rw [ByteArray.toList_eq] at this
      simp [word20, this, wordL]
    have E2 := Lib.hid e2
    have h1 : (s.size : Int) < 1 := by omega
    have h2 : decide ((s.size : Int) < 1) = true := by simpa using h1
    clear e2 h0
    go_enter Tryz.func153, Tryz.ntmps153
    go_wp2
    go_ret
    exact ⟨by rw [E2.out]; rfl, rfl⟩
  have h1 : ¬ (s.size : Int) < 1 := by omega
  have h2 : decide ((s.size : Int) < 1) = false := by simpa using h1
  by_cases hmo : most < s.size
  · have E2 := Lib.hid (show word20 s most = false by simp [word20]; omega)
    have h3 : decide ((most : Int) < (s.size : Int)) = true := by simp; omega
    have h4 : decide (most < s.size) = true := by simp; omega
    clear h0
    go_enter Tryz.func153, Tryz.ntmps153
    go_wp2
    go_ret
    exact ⟨by rw [E2.out]; rfl, rfl⟩
  have h3 : decide ((most : Int) < (s.size : Int)) = false := by simp; omega
  have h4 : decide (most < s.size) = false := by simp; omega
  have hp : 0 < s.size := by omega
  have HW := Lib.hid (show word20 s most = (letB s[0] && restL s.data.toList) by rw [← wordL_head s hp]; simp [word20]; omega)
  by_cases hl : letZ (s[0].toNat) = true
  · have HL := Lib.hid (show letB s[0] = true from hl)
    go_enter Tryz.func153, Tryz.ntmps153
    go_wp2_with (go_at_call 204; refine (letter20_any _ _).mono ?_; rintro e w' ⟨rfl, rfl⟩)
    go_loop [5] (fun i => ∃ k : Nat, k ≤ s.size ∧ i = .int .i64 k ∧ restL (s.data.toList.take k) = true) (fun i => s.size - (intOf i).toNat)
    case atStart => exact ⟨0, Nat.zero_le _, rfl, rfl⟩
    case round =>
      obtain ⟨k, hk, rfl, hr⟩ := hrel
      have HR := Lib.hid hr
      clear hr hl
      by_cases hlt : k < s.size
      · have HS := Lib.hid (take_snoc s k hlt)
        have HN := Lib.hid (getElem_data s k hlt)
        have yes : (letZ (s[k].toNat) || digZ (s[k].toNat)) = true → restL (s.data.toList.take (k + 1)) = true := fun h => by
          rw [HS.out, restL, List.all_append]
          have h1 := HR.out
          unfold restL at h1
          rw [h1]
          simpa [letB, digB] using h
        have no : (letZ (s[k].toNat) || digZ (s[k].toNat)) = false → word20 s most = false := fun h => by
          rw [HW.out, HL.out, Bool.true_and, restL, List.all_eq_false]
          exact ⟨s[k], List.mem_of_getElem? HN.out, by simpa [letB, digB] using h⟩
        have AG := Lib.hid (And.intro yes no)
        clear yes no
        cases l1 : letZ (s[k].toNat) with
        | true =>
          have AG' := Lib.hid (AG.out.1 (by rw [l1]; rfl))
          go_wp2_with (first | (go_at_call 204; refine (letter20_any _ _).mono ?_; rintro e w' ⟨rfl, rfl⟩) | (go_at_call 205; refine (digit20_any _ _).mono ?_; rintro e w' ⟨rfl, rfl⟩))
          go_round
          case rel => exact ⟨k + 1, by omega, by go_num, AG'.out⟩
          case measure => simp [intOf]; omega
        | false =>
          cases d1 : digZ (s[k].toNat) with
          | true =>
            have AG' := Lib.hid (AG.out.1 (by rw [l1, d1]; rfl))
            go_wp2_with (first | (go_at_call 204; refine (letter20_any _ _).mono ?_; rintro e w' ⟨rfl, rfl⟩) | (go_at_call 205; refine (digit20_any _ _).mono ?_; rintro e w' ⟨rfl, rfl⟩))
            go_round
            case rel => exact ⟨k + 1, by omega, by go_num, AG'.out⟩
            case measure => simp [intOf]; omega
          | false =>
            have AG' := Lib.hid (AG.out.2 (by rw [l1, d1]; rfl))
            go_wp2_with (first | (go_at_call 204; refine (letter20_any _ _).mono ?_; rintro e w' ⟨rfl, rfl⟩) | (go_at_call 205; refine (digit20_any _ _).mono ?_; rintro e w' ⟨rfl, rfl⟩))
            go_ret
            exact ⟨by rw [AG'.out]; rfl, rfl⟩
      · have AG' := Lib.hid (show word20 s most = true by
          have hk' := HR.out
          rw [List.take_of_length_le (by simp; omega)] at hk'
          rw [HW.out, HL.out, hk']; rfl)
        go_wp2
        go_ret
        exact ⟨by rw [AG'.out]; rfl, rfl⟩
  · have hl' : letZ (s[0].toNat) = false := by simpa using hl
    have E2 := Lib.hid (show word20 s most = false by rw [HW.out, show letB s[0] = false from hl']; rfl)
    clear hl
    go_enter Tryz.func153, Tryz.ntmps153
    go_wp2_with (go_at_call 204; refine (letter20_any _ _).mono ?_; rintro e w' ⟨rfl, rfl⟩)
    go_ret
    exact ⟨by rw [E2.out]; rfl, rfl⟩
theorem Word20_any (s : ByteArray) (w : World) (hs : s.size ≤ 9223372036854775807) : Calls Tryz.prog 165 #[.string s] w fun e w' => e = .returned (.bool (wordB s)) ∧ w = w' := by
  have H := Lib.hid (word20_any s 24 w (by omega) hs)
  rw [word20_24] at H
  go_enter Tryz.func165, Tryz.ntmps165
  go_wp2_with fail
  refine H.out.mono ?_
  rintro e w' ⟨rfl, rfl⟩
  go_wp2
  go_ret
  exact ⟨rfl, rfl⟩
end Go.Proofs.YtlcfoiapkblheaaGreatDoor
