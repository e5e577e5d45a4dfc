/- ref20: letter, digit, word, Word, slash, Label -/
import Derived.Test.YtacjjkbkhpdhnaaGreatDoorZlc
import Derived.Lib.IndexLaws
import Derived.Test.YtacjjkbkhpdhnaaGreatDoorZlg
import Derived.Test.YtacjjkbkhpdhnaaGreatDoorZlp
namespace Go.Proofs.YtacjjkbkhpdhnaaGreatDoor
open Go.RowKit Go.Proofs Go.Shelf

set_option maxHeartbeats 400000 in
theorem letter20_any (c : Int) (w : World) : Calls Tryz.prog 135 #[.int .u8 c] w fun e w' => e = .returned (.bool (letZ c)) ∧ w = w' := by
  by_cases h1 : 97 ≤ c
  · by_cases h2 : c ≤ 122
    all_goals
      go_enter Tryz.func135, Tryz.ntmps135
      go_wp2
      go_ret
      exact ⟨by simp [letZ, h1, h2], rfl⟩
  · have h2 : decide (97 ≤ c) = false := by simpa using h1
    go_enter Tryz.func135, Tryz.ntmps135
    go_wp2
    go_ret
    exact ⟨by simp [letZ]; omega, rfl⟩
set_option maxHeartbeats 400000 in
theorem digit20_any (c : Int) (w : World) : Calls Tryz.prog 136 #[.int .u8 c] w fun e w' => e = .returned (.bool (digZ c)) ∧ w = w' := by
  by_cases h1 : 48 ≤ c
  · by_cases h2 : c ≤ 57
    all_goals
      go_enter Tryz.func136, Tryz.ntmps136
      go_wp2
      go_ret
      exact ⟨by simp [digZ, h1, h2], rfl⟩
  · have h2 : decide (48 ≤ c) = false := by simpa using h1
    go_enter Tryz.func136, Tryz.ntmps136
    go_wp2
    go_ret
    exact ⟨by simp [digZ]; omega, rfl⟩

def word20 (s : ByteArray) (most : Nat) : Bool := decide (s.size ≤ most) && wordL s.data.toList
theorem word20_24 (s : ByteArray) : word20 s 24 = wordB s := rfl
theorem word20_20 (s : ByteArray) : word20 s 20 = partB s := by
  unfold word20 partB wordB
  by_cases h : s.size ≤ 20
  · simp [h]; intro _; omega
  · simp [h]
theorem take_snoc (s : ByteArray) (k : Nat) (h : k < s.size) : s.data.toList.take (k + 1) = s.data.toList.take k ++ [s[k]] := by
  rw [List.take_succ_eq_append_getElem (by simpa using h)]; rfl
theorem wordL_head (s : ByteArray) (h : 0 < s.size) : wordL s.data.toList = (letB s[0] && restL s.data.toList) := by
  have e : s.data.toList[0]? = some s[0] := getElem_data s 0 h
  generalize s[0] = c at e
  cases hl : s.data.toList with
  | nil => rw [hl] at e; simp at e
  | cons a r =>
    rw [hl] at e
    simp at e
    subst e
    simp only [wordL, restL, List.all_cons]
    cases letB a <;> simp

set_option maxHeartbeats 1000000 in
theorem word20_any (s : ByteArray) (most : Nat) (w : World) (hm : most ≤ 1000) (hs : s.size ≤ 9223372036854775807) : Calls Tryz.prog 103 #[.string s, .int .i64 most] w fun e w' => e = .returned (.bool (word20 s most)) ∧ w = w' := by
  by_cases h0 : s.size = 0
  · have e2 : word20 s most = false := by
      have := toList_nil h0
      rw [ByteArray.toList_eq] at this
      simp [word20, this, wordL]
    have E2 := Lib.hid e2
    have h1 : (s.size : Int) < 1 := by omega
    have h2 : decide ((s.size : Int) < 1) = true := by simpa using h1
    clear e2 h0
    go_enter Tryz.func103, Tryz.ntmps103
    go_wp2
    go_ret
    exact ⟨by rw [E2.out]; rfl, rfl⟩
  have h1 : ¬ (s.size : Int) < 1 := by omega
  have h2 : decide ((s.size : Int) < 1) = false := by simpa using h1
  by_cases hmo : most < s.size
  · have E2 := Lib.hid (show word20 s most = false by simp [word20]; omega)
    have h3 : decide ((most : Int) < (s.size : Int)) = true := by simp; omega
    have h4 : decide (most < s.size) = true := by simp; omega
    clear h0
    go_enter Tryz.func103, Tryz.ntmps103
    go_wp2
    go_ret
    exact ⟨by rw [E2.out]; rfl, rfl⟩
  have h3 : decide ((most : Int) < (s.size : Int)) = false := by simp; omega
  have h4 : decide (most < s.size) = false := by simp; omega
  have hp : 0 < s.size := by omega
  have HW := Lib.hid (show word20 s most = (letB s[0] && restL s.data.toList) by rw [← wordL_head s hp]; simp [word20]; omega)
  by_cases hl : letZ (s[0].toNat) = true
  · have HL := Lib.hid (show letB s[0] = true from hl)
    go_enter Tryz.func103, Tryz.ntmps103
    go_wp2_with (go_at_call 135; refine (letter20_any _ _).mono ?_; rintro e w' ⟨rfl, rfl⟩)
    go_loop [5] (fun i => ∃ k : Nat, k ≤ s.size ∧ i = .int .i64 k ∧ restL (s.data.toList.take k) = true) (fun i => s.size - (intOf i).toNat)
    case atStart => exact ⟨0, Nat.zero_le _, rfl, rfl⟩
    case round =>
      obtain ⟨k, hk, rfl, hr⟩ := hrel
      have HR := Lib.hid hr
      clear hr hl
      by_cases hlt : k < s.size
      · have HS := Lib.hid (take_snoc s k hlt)
        have HN := Lib.hid (getElem_data s k hlt)
        have yes : (letZ (s[k].toNat) || digZ (s[k].toNat)) = true → restL (s.data.toList.take (k + 1)) = true := fun h => by
          rw [HS.out, restL, List.all_append]
          have h1 := HR.out
          unfold restL at h1
          rw [h1]
          simpa [letB, digB] using h
        have no : (letZ (s[k].toNat) || digZ (s[k].toNat)) = false → word20 s most = false := fun h => by
          rw [HW.out, HL.out, Bool.true_and, restL, List.all_eq_false]
          exact ⟨s[k], List.mem_of_getElem? HN.out, by simpa [letB, digB] using h⟩
        have AG := Lib.hid (And.intro yes no)
        clear yes no
        cases l1 : letZ (s[k].toNat) with
        | true =>
          have AG' := Lib.hid (AG.out.1 (by rw [l1]; rfl))
          go_wp2_with (first | (go_at_call 135; refine (letter20_any _ _).mono ?_; rintro e w' ⟨rfl, rfl⟩) | (go_at_call 136; refine (digit20_any _ _).mono ?_; rintro e w' ⟨rfl, rfl⟩))
          go_round
          case rel => exact ⟨k + 1, by omega, by go_num, AG'.out⟩
          case measure => simp [intOf]; omega
        | false =>
          cases d1 : digZ (s[k].toNat) with
          | true =>
            have AG' := Lib.hid (AG.out.1 (by rw [l1, d1]; rfl))
            go_wp2_with (first | (go_at_call 135; refine (letter20_any _ _).mono ?_; rintro e w' ⟨rfl, rfl⟩) | (go_at_call 136; refine (digit20_any _ _).mono ?_; rintro e w' ⟨rfl, rfl⟩))
            go_round
            case rel => exact ⟨k + 1, by omega, by go_num, AG'.out⟩
            case measure => simp [intOf]; omega
          | false =>
            have AG' := Lib.hid (AG.out.2 (by rw [l1, d1]; rfl))
            go_wp2_with (first | (go_at_call 135; refine (letter20_any _ _).mono ?_; rintro e w' ⟨rfl, rfl⟩) | (go_at_call 136; refine (digit20_any _ _).mono ?_; rintro e w' ⟨rfl, rfl⟩))
            go_ret
            exact ⟨by rw [AG'.out]; rfl, rfl⟩
      · have AG' := Lib.hid (show word20 s most = true by
          have hk' := HR.out
          rw [List.take_of_length_le (by simp; omega)] at hk'
          rw [HW.out, HL.out, hk']; rfl)
        go_wp2
        go_ret
        exact ⟨by rw [AG'.out]; rfl, rfl⟩
  · have hl' : letZ (s[0].toNat) = false := by simpa using hl
    have E2 := Lib.hid (show word20 s most = false by rw [HW.out, show letB s[0] = false from hl']; rfl)
    clear hl
    go_enter Tryz.func103, Tryz.ntmps103
    go_wp2_with (go_at_call 135; refine (letter20_any _ _).mono ?_; rintro e w' ⟨rfl, rfl⟩)
    go_ret
    exact ⟨by rw [E2.out]; rfl, rfl⟩
theorem Word20_any (s : ByteArray) (w : World) (hs : s.size ≤ 9223372036854775807) : Calls Tryz.prog 119 #[.string s] w fun e w' => e = .returned (.bool (wordB s)) ∧ w = w' := by
  have H := Lib.hid (word20_any s 24 w (by omega) hs)
  rw [word20_24] at H
  go_enter Tryz.func119, Tryz.ntmps119
  go_wp2_with fail
  refine H.out.mono ?_
  rintro e w' ⟨rfl, rfl⟩
  go_wp2
  go_ret
  exact ⟨rfl, rfl⟩
end Go.Proofs.YtacjjkbkhpdhnaaGreatDoor
/- ref20: slash, Label -/
namespace Go.Proofs.YtacjjkbkhpdhnaaGreatDoor
open Go.RowKit Go.Proofs Go.Shelf
theorem indexByte_no : ∀ (l : List UInt8) (c : UInt8), (∀ k : Nat, l[k]? ≠ some c) → Lib.indexByte l c = -1
  | [], _, _ => rfl
  | b :: l, c, h => by
    have h0 : (b == c) = false := by have := h 0; simpa using this
    have hr := indexByte_no l c (fun k => by have := h (k + 1); simpa using this)
    simp [Lib.indexByte, h0, hr]
theorem indexByte_at : ∀ (l : List UInt8) (c : UInt8) (o : Nat), l[o]? = some c → (∀ k : Nat, k < o → l[k]? ≠ some c) → Lib.indexByte l c = o
  | [], _, _, h, _ => by simp at h
  | b :: l, c, 0, h, _ => by simp at h; subst h; simp [Lib.indexByte]
  | b :: l, c, o + 1, h, hk => by
    have h0 : (b == c) = false := by have := hk 0 (by omega); simpa using this
    have hr := indexByte_at l c o (by simpa using h) (fun k hk' => by have := hk (k + 1) (by omega); simpa using this)
    simp [Lib.indexByte, h0, hr]
    try omega
def slashN (s : ByteArray) : Nat := if Lib.indexByte s.data.toList 47 = -1 then s.size else (Lib.indexByte s.data.toList 47).toNat
theorem slash_none {s : ByteArray} (h : ∀ k : Nat, s.data.toList[k]? ≠ some 47) : slashN s = s.size := by
  unfold slashN
  rw [if_pos (indexByte_no _ _ h)]
theorem slash_at {s : ByteArray} {o : Nat} (h : s.data.toList[o]? = some 47) (hk : ∀ k : Nat, k < o → s.data.toList[k]? ≠ some 47) : slashN s = o := by
  unfold slashN
  rw [indexByte_at _ _ _ h hk, if_neg (by omega)]
  simp
theorem slash_parts (s : ByteArray) : (slashN s = s.size ∧ partsB 47 s = [s]) ∨ (slashN s < s.size ∧ partsB 47 s = s.extract 0 (slashN s) :: partsB 47 (s.extract (slashN s + 1) s.size)) := by
  by_cases h : Lib.indexByte s.data.toList 47 = -1
  · exact .inl ⟨by unfold slashN; rw [if_pos h], partsB_none 47 s h⟩
  · obtain ⟨o, ho⟩ : ∃ o : Nat, Lib.indexByte s.data.toList 47 = o := ⟨(Lib.indexByte s.data.toList 47).toNat, by have := Lib.indexByte_ge s.data.toList 47; omega⟩
    have e : slashN s = o := by unfold slashN; rw [ho, if_neg (by omega)]; simp
    obtain ⟨h1, h2⟩ := partsB_some 47 s o ho
    exact .inr (by rw [e]; exact ⟨h1, h2⟩)
set_option maxHeartbeats 1000000 in
theorem slash20_any (s : ByteArray) (w : World) (hs : s.size ≤ 1000) : Calls Tryz.prog 102 #[.string s] w fun e w' => e = .returned (.int .i64 (slashN s)) ∧ w = w' := by
  go_enter Tryz.func102, Tryz.ntmps102
  go_wp2
  go_loop [3] (fun i => ∃ k : Nat, k ≤ s.size ∧ i = .int .i64 k ∧ ∀ j, j < k → s.data.toList[j]? ≠ some 47) (fun i => s.size - (intOf i).toNat)
  case atStart => exact ⟨0, Nat.zero_le _, rfl, fun j hj => by omega⟩
  case round =>
    obtain ⟨k, hk, rfl, hr⟩ := hrel
    have HR := Lib.hid hr
    clear hr
    by_cases hlt : k < s.size
    · have HN := Lib.hid (getElem_data s k hlt)
      by_cases hc : s[k] = 47
      · have E := Lib.hid (slash_at (by rw [HN.out, hc]) HR.out)
        have c1 : ((s[k].toNat : Int) != 47) = false := by rw [hc]; rfl
        have c2 : (s[k] != 47) = false := by rw [hc]; rfl
        have c3 : s[k].toNat = 47 := by rw [hc]; rfl
        clear hc
        go_wp2
        go_ret
        exact ⟨by rw [E.out]; rfl, rfl⟩
      · have hne : s[k].toNat ≠ 47 := fun h => hc (UInt8.toNat_inj.1 h)
        have c1 : ((s[k].toNat : Int) != 47) = true := by simp; omega
        have E : Hid (∀ j, j < k + 1 → s.data.toList[j]? ≠ some 47) := fun j hj => by
          by_cases hjk : j = k
          · subst hjk; rw [HN.out]; simpa using hc
          · exact HR.out j (by omega)
        clear hc
        go_wp2
        go_round
        case rel => exact ⟨k + 1, by omega, by go_num, E.out⟩
        case measure => simp [intOf]; omega
    · have E := Lib.hid (show slashN s = k by
        obtain rfl : k = s.size := by omega
        refine slash_none fun j => ?_
        by_cases hj : j < s.size
        · exact HR.out j hj
        · rw [List.getElem?_eq_none (by simp; omega)]; simp)
      go_wp2
      go_ret
      exact ⟨by rw [E.out]; rfl, rfl⟩
set_option maxHeartbeats 1000000 in
theorem Label20_any (s : ByteArray) (w : World) (hs : s.size ≤ 9223372036854775807) : Calls Tryz.prog 49 #[.string s] w fun e w' => e = .returned (.bool (labelB s)) ∧ w = w' := by
  by_cases h90 : s.size ≤ 90
  · have hd : decide (90 < (s.size : Int)) = false := by simp; omega
    obtain ⟨R, HR⟩ : ∃ R, Hid (labelB s = R) := ⟨_, Lib.hid rfl⟩
    have HR2 := Lib.hid (show (partsB 47 s).all partB = R by rw [← HR.out]; simp [labelB, h90])
    rw [HR.out]
    clear HR
    go_enter Tryz.func49, Tryz.ntmps49
    go_wp2_with (go_at_call 102; refine (slash20_any _ _ (by omega)).mono ?_; rintro e w' ⟨rfl, rfl⟩)
    go_loop [0, 3] (fun v i => ∃ cur : ByteArray, cur.size ≤ 90 ∧ v = .string cur ∧ i = .int .i64 (slashN cur) ∧ (partsB 47 cur).all partB = R) (fun v _ => match v with | .string cur => cur.size | _ => 0)
    case atStart => exact ⟨s, h90, rfl, rfl, HR2.out⟩
    case round =>
      obtain ⟨cur, hcs, rfl, rfl, hR⟩ := hrel
      rcases slash_parts cur with ⟨h1, h2⟩ | ⟨h1, h2⟩
      · have E := Lib.hid (show partB cur = R by rw [← hR, h2]; simp)
        have H20 := Lib.hid (word20_any cur 20 w (by omega) (by omega))
        rw [word20_20, E.out] at H20
        rw [h1]
        clear h1 h2 hR hd
        go_wp2_with fail
        refine H20.out.mono ?_
        rintro e w' ⟨rfl, rfl⟩
        go_wp2
        go_ret
        exact ⟨rfl, rfl⟩
      · have H20 := Lib.hid (word20_any (cur.extract 0 (slashN cur)) 20 w (by omega) (by simp; omega))
        rw [word20_20] at H20
        have hle : slashN cur ≤ cur.size := by omega
        have hle1 : slashN cur + 1 ≤ cur.size := by omega
        have HSZ := Lib.hid (show (cur.extract (slashN cur + 1) cur.size).size = cur.size - (slashN cur + 1) by simp)
        have HSL := Lib.hid (slash20_any (cur.extract (slashN cur + 1) cur.size) w (by simp; omega))
        rw [h2, List.all_cons] at hR
        have HRR := Lib.hid hR
        clear hR h2
        generalize slashN cur = n at *
        cases hp : partB (cur.extract 0 n) with
        | true =>
          have HR3 := Lib.hid (show (partsB 47 (cur.extract (n + 1) cur.size)).all partB = R by rw [← HRR.out, hp]; rfl)
          rw [hp] at H20
          clear hp HRR
          go_wp2_with fail
          refine H20.out.mono ?_
          rintro e w' ⟨rfl, rfl⟩
          go_wp2_with fail
          refine HSL.out.mono ?_
          rintro e w' ⟨rfl, rfl⟩
          go_wp2
          go_round
          case rel => exact ⟨cur.extract (n + 1) cur.size, by rw [HSZ.out]; omega, rfl, rfl, HR3.out⟩
          case measure => show (cur.extract (n + 1) cur.size).size < cur.size; rw [HSZ.out]; omega
        | false =>
          have E := Lib.hid (show R = false by rw [← HRR.out, hp]; rfl)
          rw [hp] at H20
          clear hp HRR
          go_wp2_with fail
          refine H20.out.mono ?_
          rintro e w' ⟨rfl, rfl⟩
          go_wp2
          go_ret
          exact ⟨by rw [E.out]; rfl, rfl⟩
  · have hd : decide (90 < (s.size : Int)) = true := by simp; omega
    have E := Lib.hid (show labelB s = false by simp [labelB, h90])
    go_enter Tryz.func49, Tryz.ntmps49
    go_wp2
    go_ret
    exact ⟨by rw [E.out]; rfl, rfl⟩
end Go.Proofs.YtacjjkbkhpdhnaaGreatDoor
/- ref21: Has, Reserved, Name -/
namespace Go.Proofs.YtacjjkbkhpdhnaaGreatDoor
open Go.RowKit Go.Proofs Go.Shelf

set_option maxHeartbeats 1000000 in
theorem has21_any (l : List ByteArray) (s : ByteArray) (A : Option Addr) (c : Nat) (w : World) (hs : SlS w w.heap.size A c l) :
    Calls Tryz.prog 113 #[.slice A l.length c, .string s] w fun e w' => e = .returned (.bool (hasS l s)) ∧ w = w' := by
  have hc1 := hs.1
  have hc2 := hs.2.1
  unfold maxLen at hc2
  have HS := Lib.hid hs
  clear hs
  obtain ⟨E, HE⟩ : ∃ E, Hid (hasS l s = E) := ⟨_, Lib.hid rfl⟩
  rw [HE.out]
  obtain ⟨n, HN⟩ : ∃ n, Hid (l.length = n) := ⟨_, Lib.hid rfl⟩
  rw [HN.out] at hc1 ⊢
  go_enter Tryz.func113, Tryz.ntmps113
  go_wp2
  go_loop [5] (fun ct => ∃ j : Nat, j ≤ n ∧ ct = .int .i64 j ∧ (∀ i, i < j → ∀ v, l[i]? = some v → (v.toList == s.toList) = false)) (fun ct => n - (intOf ct).toNat)
  case atStart => exact ⟨0, by omega, rfl, by intro i hi; omega⟩
  case round =>
    obtain ⟨j, hj, rfl, HA⟩ := hrel
    have HA' := Lib.hid HA
    clear HA
    by_cases hlt : j < n
    · have hjl : j < l.length := by rw [HN.out]; exact hlt
      obtain ⟨b, o, rfl, hb, hcell⟩ := HS.out.at_ hjl
      have hj2 := Lib.hid (List.getElem?_eq_getElem hjl)
      generalize l[j] = v at hcell hj2
      clear hjl
      cases hv : v.toList == s.toList
      · go_wp2
        go_round
        case measure => simp [intOf]; omega
        case rel =>
          refine ⟨j + 1, by omega, by go_num, fun i hi u hu => ?_⟩
          by_cases hij : i = j
          · subst hij
            rw [hj2.out] at hu
            cases hu
            exact hv
          · exact HA'.out i (by omega) u hu
      · have HR := Lib.hid (show E = true by
          rw [← HE.out, hasS, List.any_eq_true]
          exact ⟨v, List.mem_of_getElem? hj2.out, by rw [Bool.beq_comm] at hv; exact hv⟩)
        go_wp2
        go_ret
        exact ⟨by rw [HR.out]; rfl, rfl⟩
    · have HR := Lib.hid (show E = false by
        rw [← HE.out, hasS, List.any_eq_false]
        intro v hv
        obtain ⟨i, hi⟩ := List.mem_iff_getElem?.1 hv
        have := HA'.out i (by have := (List.getElem?_eq_some_iff.1 hi).1; rw [HN.out] at this; omega) v hi
        rw [Bool.beq_comm] at this
        simp [this])
      go_wp2
      go_ret
      exact ⟨by rw [HR.out]; rfl, rfl⟩
theorem slS_new (w : World) (l : List ByteArray) (t : TypeId) (hl : l.length ≤ maxLen) : SlS (w.alloc (.cells (l.map Value.string).toArray t)) (w.alloc (.cells (l.map Value.string).toArray t)).heap.size (some ⟨w.heap.size, 0, none⟩) l.length l :=
  ⟨Nat.le_refl _, hl, fun _ => ⟨w.heap.size, 0, rfl, by simp, fun j s hj => by
    rw [Nat.zero_add, cell_of_row _ w.heap.size j _ _ (0, 0) (heap_alloc_new w _)]
    simp [hj]⟩⟩
def resvS : List ByteArray := reserved.map fun l => ⟨l.toArray⟩
theorem reserved_has (s : ByteArray) : hasS resvS s = resB s.toList := by
  unfold hasS resvS resB
  rw [List.any_map]
  congr 1
  funext r
  simp only [Function.comp, ByteArray.toList_eq]
set_option maxRecDepth 100000 in
set_option maxHeartbeats 1000000 in
theorem reserved21_any (w : World) : Calls Tryz.prog 120 #[] w fun e w' => e = .returned (.slice (some ⟨w.heap.size, 0, none⟩) 17 17) ∧ SlS w' w'.heap.size (some ⟨w.heap.size, 0, none⟩) 17 resvS ∧ Below w.heap.size w w' := by
  go_enter Tryz.func120, Tryz.ntmps120
  go_wp2
  go_ret
  exact ⟨rfl, slS_new w resvS _ (by decide), (Below.refl _ _).alloc (Nat.le_refl _) _⟩
set_option maxRecDepth 100000 in
set_option maxHeartbeats 1000000 in
theorem name21_any (s : ByteArray) (w : World) (hs : s.size ≤ 9223372036854775807) : Calls Tryz.prog 83 #[.string s] w fun e w' => e = .returned (.bool (nameB s)) ∧ Below w.heap.size w w' := by
  have HW := Lib.hid (Word20_any s w hs)
  cases hw : wordB s with
  | false =>
    have E := Lib.hid (show nameB s = false by simp [nameB, hw])
    rw [hw] at HW
    clear hw
    go_enter Tryz.func83, Tryz.ntmps83
    go_wp2_with fail
    refine HW.out.mono ?_
    rintro e w' ⟨rfl, rfl⟩
    go_wp2
    go_ret
    exact ⟨by rw [E.out]; rfl, Below.refl _ _⟩
  | true =>
    have E := Lib.hid (show nameB s = !hasS resvS s by rw [reserved_has]; simp [nameB, hw])
    rw [hw] at HW
    clear hw
    have HV := Lib.hid (reserved21_any w)
    go_enter Tryz.func83, Tryz.ntmps83
    go_wp2_with fail
    refine HW.out.mono ?_
    rintro e w' ⟨rfl, rfl⟩
    go_wp2_with fail
    refine HV.out.mono ?_
    rintro e w1 ⟨rfl, hs1, hb1⟩
    have HH := Lib.hid (has21_any resvS s _ _ w1 hs1)
    rw [show resvS.length = 17 from rfl] at HH
    have HB := Lib.hid hb1
    clear hs1 hb1
    cases hh : hasS resvS s
    all_goals (
      rw [hh] at E HH
      go_wp2_with fail
      refine HH.out.mono ?_
      rintro e w' ⟨rfl, rfl⟩
      go_wp2
      go_ret
      exact ⟨by rw [E.out]; rfl, HB.out⟩)
end Go.Proofs.YtacjjkbkhpdhnaaGreatDoor
/- ref21.With: a list with one more string -/
namespace Go.Proofs.YtacjjkbkhpdhnaaGreatDoor
open Go.RowKit Go.Proofs Go.Shelf
theorem SlS.news {W : World} {B : Nat} {A : Option Addr} {c : Nat} {l : List ByteArray} (h : SlS W B A c l) :
    (A = none → l.length = 0) ∧ ∀ ad, A = some ad → ∀ j u, (l.map Value.string)[j]? = some u → W.cell? (ad.add j) = some u := by
  refine ⟨fun hA => ?_, fun a' e j u hu => ?_⟩
  · cases l with
    | nil => rfl
    | cons x r => obtain ⟨b, o, e, _⟩ := h.2.2 (by simp); rw [hA] at e; cases e
  · rw [List.getElem?_map] at hu
    obtain ⟨s, hs1, rfl⟩ := Option.map_eq_some_iff.1 hu
    obtain ⟨b, o, e', hb, hcell⟩ := h.2.2 (by intro e; subst e; simp at hs1)
    rw [e] at e'
    cases e'
    have := hcell j s hs1
    cases j <;> simpa [Addr.add] using this
theorem SlS.take {W : World} {B : Nat} {A : Option Addr} {c : Nat} {l : List ByteArray} (h : SlS W B A c l) (k : Nat) : SlS W B A c (l.take k) := by
  refine ⟨by have := h.1; simp; omega, h.2.1, fun hne => ?_⟩
  obtain ⟨b, o, e, hb, hc⟩ := h.2.2 (by intro e; subst e; simp at hne)
  exact ⟨b, o, e, hb, fun j s hj => hc j s (by
    rw [List.getElem?_take] at hj
    split at hj
    · exact hj
    · cases hj)⟩
theorem SlS.drop {W : World} {B : Nat} {g c : Nat} {l : List ByteArray} (h : SlS W B (some ⟨g, 0, none⟩) c l) (k : Nat) (hk : k < c) : SlS W B (some ⟨g, k, none⟩) (c - k) (l.drop k) := by
  refine ⟨by have := h.1; simp; omega, by have := h.2.1; omega, fun hne => ?_⟩
  obtain ⟨b, o, e, hb, hc⟩ := h.2.2 (by intro e; subst e; simp at hne)
  simp only [Option.some.injEq, Addr.mk.injEq, and_true] at e
  obtain ⟨rfl, rfl⟩ := e
  exact ⟨g, k, rfl, hb, fun j s hj => by
    rw [List.getElem?_drop] at hj
    have := hc (k + j) s hj
    rwa [Nat.zero_add] at this⟩
def OwnS (W : World) (g c : Nat) (l : List ByteArray) : Prop := VarsAt W (some ⟨g, 0, none⟩) c l
theorem OwnS.of {W : World} {base : Nat} {v : Value} {l : List ByteArray} (h : W.ownsRow base 9 1 v l.length (l.map .string)) (hne : l ≠ []) : ∃ g c, v = .slice (some ⟨g, 0, none⟩) l.length c ∧ OwnS W g c l := by
  rcases h.2 with ⟨h1, h2⟩ | ⟨g, cap, cur, h1, h2, h3, h4⟩
  · exact absurd (List.length_eq_zero_iff.1 h2) hne
  · exact ⟨g, cap, h1, h.1, .inr ⟨g, cap, cur, rfl, Nat.zero_le _, h3, h4⟩⟩
end Go.Proofs.YtacjjkbkhpdhnaaGreatDoor
