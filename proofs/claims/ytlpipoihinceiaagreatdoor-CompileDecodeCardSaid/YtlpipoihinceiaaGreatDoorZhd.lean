/- ref20: letter, digit, word, Word, slash, Label -/
import Derived.Test.YtlpipoihinceiaaGreatDoorGkc
import Derived.Lib.IndexLaws
import Derived.Test.YtlpipoihinceiaaGreatDoorGkg
import Derived.Test.YtlpipoihinceiaaGreatDoorGkd
namespace Go.Proofs.YtlpipoihinceiaaGreatDoor
open Go.RowKit Go.Proofs Go.Shelf

set_option maxHeartbeats 400000 in
theorem letter20_any (c : Int) (w : World) : Calls Tryz.prog 165 #[.int .u8 c] w fun e w' => e = .returned (.bool (letZ c)) ∧ w = w' := by
  by_cases h1 : 97 ≤ c
  · by_cases h2 : c ≤ 122
    all_goals
      go_enter Tryz.func165, Tryz.ntmps165
      go_wp2
      go_ret
      exact ⟨by simp [letZ, h1, h2], rfl⟩
  · have h2 : decide (97 ≤ c) = false := by simpa using h1
    go_enter Tryz.func165, Tryz.ntmps165
    go_wp2
    go_ret
    exact ⟨by simp [letZ]; omega, rfl⟩
set_option maxHeartbeats 400000 in
theorem digit20_any (c : Int) (w : World) : Calls Tryz.prog 166 #[.int .u8 c] w fun e w' => e = .returned (.bool (digZ c)) ∧ w = w' := by
  by_cases h1 : 48 ≤ c
  · by_cases h2 : c ≤ 57
    all_goals
      go_enter Tryz.func166, Tryz.ntmps166
      go_wp2
      go_ret
      exact ⟨by simp [digZ, h1, h2], rfl⟩
  · have h2 : decide (48 ≤ c) = false := by simpa using h1
    go_enter Tryz.func166, Tryz.ntmps166
    go_wp2
    go_ret
    exact ⟨by simp [digZ]; omega, rfl⟩

def word20 (s : ByteArray) (most : Nat) : Bool := decide (s.size ≤ most) && wordL s.data.toList
theorem word20_24 (s : ByteArray) : word20 s 24 = wordB s := rfl
theorem word20_20 (s : ByteArray) : word20 s 20 = partB s := by
  unfold word20 partB wordB
  by_cases h : s.size ≤ 20
  · simp [h]; intro _; omega
  · simp [h]
theorem take_snoc (s : ByteArray) (k : Nat) (h : k < s.size) : s.data.toList.take (k + 1) = s.data.toList.take k ++ [s[k]] := by
  rw [List.take_succ_eq_append_getElem (by simpa using h)]; rfl
theorem wordL_head (s : ByteArray) (h : 0 < s.size) : wordL s.data.toList = (letB s[0] && restL s.data.toList) := by
  have e : s.data.toList[0]? = some s[0] := getElem_data s 0 h
  generalize s[0] = c at e
  cases hl : s.data.toList with
  | nil => rw [hl] at e; simp at e
  | cons a r =>
    rw [hl] at e
    simp at e
    subst e
    simp only [wordL, restL, List.all_cons]
    cases letB a <;> simp

set_option maxHeartbeats 1000000 in
theorem word20_any (s : ByteArray) (most : Nat) (w : World) (hm : most ≤ 1000) (hs : s.size ≤ 9223372036854775807) : Calls Tryz.prog 118 #[.string s, .int .i64 most] w fun e w' => e = .returned (.bool (word20 s most)) ∧ w = w' := by
  by_cases h0 : s.size = 0
  · have e2 : word20 s most = false := by
      have := toList_nil h0
      rw [ByteArray.toList_eq] at this
      simp [word20, this, wordL]
    have E2 := Lib.hid e2
    have h1 : (s.size : Int) < 1 := by omega
    have h2 : decide ((s.size : Int) < 1) = true := by simpa using h1
    clear e2 h0
    go_enter Tryz.func118, Tryz.ntmps118
    go_wp2
    go_ret
    exact ⟨by rw [E2.out]; rfl, rfl⟩
  have h1 : ¬ (s.size : Int) < 1 := by omega
  have h2 : decide ((s.size : Int) < 1) = false := by simpa using h1
  by_cases hmo : most < s.size
  · have E2 := Lib.hid (show word20 s most = false by simp [word20]; omega)
    have h3 : decide ((most : Int) < (s.size : Int)) = true := by simp; omega
    have h4 : decide (most < s.size) = true := by simp; omega
    clear h0
    go_enter Tryz.func118, Tryz.ntmps118
    go_wp2
    go_ret
    exact ⟨by rw [E2.out]; rfl, rfl⟩
  have h3 : decide ((most : Int) < (s.size : Int)) = false := by simp; omega
  have h4 : decide (most < s.size) = false := by simp; omega
  have hp : 0 < s.size := by omega
  have HW := Lib.hid (show word20 s most = (letB s[0] && restL s.data.toList) by rw [← wordL_head s hp]; simp [word20]; omega)
  by_cases hl : letZ (s[0].toNat) = true
  · have HL := Lib.hid (show letB s[0] = true from hl)
    go_enter Tryz.func118, Tryz.ntmps118
    go_wp2_with (go_at_call 165; refine (letter20_any _ _).mono ?_; rintro e w' ⟨rfl, rfl⟩)
    go_loop [5] (fun i => ∃ k : Nat, k ≤ s.size ∧ i = .int .i64 k ∧ restL (s.data.toList.take k) = true) (fun i => s.size - (intOf i).toNat)
    case atStart => exact ⟨0, Nat.zero_le _, rfl, rfl⟩
    case round =>
      obtain ⟨k, hk, rfl, hr⟩ := hrel
      have HR := Lib.hid hr
      clear hr hl
      by_cases hlt : k < s.size
      · have HS := Lib.hid (take_snoc s k hlt)
        have HN := Lib.hid (getElem_data s k hlt)
        have yes : (letZ (s[k].toNat) || digZ (s[k].toNat)) = true → restL (s.data.toList.take (k + 1)) = true := fun h => by
          rw [HS.out, restL, List.all_append]
          have h1 := HR.out
          unfold restL at h1
          rw [h1]
          simpa [letB, digB] using h
        have no : (letZ (s[k].toNat) || digZ (s[k].toNat)) = false → word20 s most = false := fun h => by
          rw [HW.out, HL.out, Bool.true_and, restL, List.all_eq_false]
          exact ⟨s[k], List.mem_of_getElem? HN.out, by simpa [letB, digB] using h⟩
        have AG := Lib.hid (And.intro yes no)
        clear yes no
        cases l1 : letZ (s[k].toNat) with
        | true =>
          have AG' := Lib.hid (AG.out.1 (by rw [l1]; rfl))
          go_wp2_with (first | (go_at_call 165; refine (letter20_any _ _).mono ?_; rintro e w' ⟨rfl, rfl⟩) | (go_at_call 166; refine (digit20_any _ _).mono ?_; rintro e w' ⟨rfl, rfl⟩))
          go_round
          case rel => exact ⟨k + 1, by omega, by go_num, AG'.out⟩
          case measure => simp [intOf]; omega
        | false =>
          cases d1 : digZ (s[k].toNat) with
          | true =>
            have AG' := Lib.hid (AG.out.1 (by rw [l1, d1]; rfl))
            go_wp2_with (first | (go_at_call 165; refine (letter20_any _ _).mono ?_; rintro e w' ⟨rfl, rfl⟩) | (go_at_call 166; refine (digit20_any _ _).mono ?_; rintro e w' ⟨rfl, rfl⟩))
            go_round
            case rel => exact ⟨k + 1, by omega, by go_num, AG'.out⟩
            case measure => simp [intOf]; omega
          | false =>
            have AG' := Lib.hid (AG.out.2 (by rw [l1, d1]; rfl))
            go_wp2_with (first | (go_at_call 165; refine (letter20_any _ _).mono ?_; rintro e w' ⟨rfl, rfl⟩) | (go_at_call 166; refine (digit20_any _ _).mono ?_; rintro e w' ⟨rfl, rfl⟩))
            go_ret
            exact ⟨by rw [AG'.out]; rfl, rfl⟩
      · have AG' := Lib.hid (show word20 s most = true by
          have hk' := HR.out
          rw [List.take_of_length_le (by simp; omega)] at hk'
          rw [HW.out, HL.out, hk']; rfl)
        go_wp2
        go_ret
        exact ⟨by rw [AG'.out]; rfl, rfl⟩
  · have hl' : letZ (s[0].toNat) = false := by simpa using hl
    have E2 := Lib.hid (show word20 s most = false by rw [HW.out, show letB s[0] = false from hl']; rfl)
    clear hl
    go_enter Tryz.func118, Tryz.ntmps118
    go_wp2_with (go_at_call 165; refine (letter20_any _ _).mono ?_; rintro e w' ⟨rfl, rfl⟩)
    go_ret
    exact ⟨by rw [E2.out]; rfl, rfl⟩
theorem Word20_any (s : ByteArray) (w : World) (hs : s.size ≤ 9223372036854775807) : Calls Tryz.prog 137 #[.string s] w fun e w' => e = .returned (.bool (wordB s)) ∧ w = w' := by
  have H := Lib.hid (word20_any s 24 w (by omega) hs)
  rw [word20_24] at H
  go_enter Tryz.func137, Tryz.ntmps137
  go_wp2_with fail
  refine H.out.mono ?_
  rintro e w' ⟨rfl, rfl⟩
  go_wp2
  go_ret
  exact ⟨rfl, rfl⟩
end Go.Proofs.YtlpipoihinceiaaGreatDoor
/- ref20: slash, Label -/
namespace Go.Proofs.YtlpipoihinceiaaGreatDoor
open Go.RowKit Go.Proofs Go.Shelf

theorem indexByte_no : ∀ (l : List UInt8) (c : UInt8), (∀ k : Nat, l[k]? ≠ some c) → Lib.indexByte l c = -1
  | [], _, _ => rfl
  | b :: l, c, h => by
    have h0 : (b == c) = false := by have := h 0; simpa using this
    have hr := indexByte_no l c (fun k => by have := h (k + 1); simpa using this)
    simp [Lib.indexByte, h0, hr]
theorem indexByte_at : ∀ (l : List UInt8) (c : UInt8) (o : Nat), l[o]? = some c → (∀ k : Nat, k < o → l[k]? ≠ some c) → Lib.indexByte l c = o
  | [], _, _, h, _ => by simp at h
  | b :: l, c, 0, h, _ => by simp at h; subst h; simp [Lib.indexByte]
  | b :: l, c, o + 1, h, hk => by
    have h0 : (b == c) = false := by have := hk 0 (by omega); simpa using this
    have hr := indexByte_at l c o (by simpa using h) (fun k hk' => by have := hk (k + 1) (by omega); simpa using this)
    simp [Lib.indexByte, h0, hr]
    try omega
/-- Where the first slash stands, or the length. -/
def slashN (s : ByteArray) : Nat := if Lib.indexByte s.data.toList 47 = -1 then s.size else (Lib.indexByte s.data.toList 47).toNat
theorem slash_none {s : ByteArray} (h : ∀ k : Nat, s.data.toList[k]? ≠ some 47) : slashN s = s.size := by
  unfold slashN
  rw [if_pos (indexByte_no _ _ h)]
theorem slash_at {s : ByteArray} {o : Nat} (h : s.data.toList[o]? = some 47) (hk : ∀ k : Nat, k < o → s.data.toList[k]? ≠ some 47) : slashN s = o := by
  unfold slashN
  rw [indexByte_at _ _ _ h hk, if_neg (by omega)]
  simp
theorem slash_parts (s : ByteArray) : (slashN s = s.size ∧ partsB 47 s = [s]) ∨ (slashN s < s.size ∧ partsB 47 s = s.extract 0 (slashN s) :: partsB 47 (s.extract (slashN s + 1) s.size)) := by
  by_cases h : Lib.indexByte s.data.toList 47 = -1
  · exact .inl ⟨by unfold slashN; rw [if_pos h], partsB_none 47 s h⟩
  · obtain ⟨o, ho⟩ : ∃ o : Nat, Lib.indexByte s.data.toList 47 = o := ⟨(Lib.indexByte s.data.toList 47).toNat, by have := Lib.indexByte_ge s.data.toList 47; omega⟩
    have e : slashN s = o := by unfold slashN; rw [ho, if_neg (by omega)]; simp
    obtain ⟨h1, h2⟩ := partsB_some 47 s o ho
    exact .inr (by rw [e]; exact ⟨h1, h2⟩)

set_option maxHeartbeats 1000000 in
theorem slash20_any (s : ByteArray) (w : World) (hs : s.size ≤ 1000) : Calls Tryz.prog 117 #[.string s] w fun e w' => e = .returned (.int .i64 (slashN s)) ∧ w = w' := by
  go_enter Tryz.func117, Tryz.ntmps117
  go_wp2
  go_loop [3] (fun i => ∃ k : Nat, k ≤ s.size ∧ i = .int .i64 k ∧ ∀ j, j < k → s.data.toList[j]? ≠ some 47) (fun i => s.size - (intOf i).toNat)
  case atStart => exact ⟨0, Nat.zero_le _, rfl, fun j hj => by omega⟩
  case round =>
    obtain ⟨k, hk, rfl, hr⟩ := hrel
    have HR := Lib.hid hr
    clear hr
    by_cases hlt : k < s.size
    · have HN := Lib.hid (getElem_data s k hlt)
      by_cases hc : s[k] = 47
      · have E := Lib.hid (slash_at (by rw [HN.out, hc]) HR.out)
        have c1 : ((s[k].toNat : Int) != 47) = false := by rw [hc]; rfl
        have c2 : (s[k] != 47) = false := by rw [hc]; rfl
        have c3 : s[k].toNat = 47 := by rw [hc]; rfl
        clear hc
        go_wp2
        go_ret
        exact ⟨by rw [E.out]; rfl, rfl⟩
      · have hne : s[k].toNat ≠ 47 := fun h => hc (UInt8.toNat_inj.1 h)
        have c1 : ((s[k].toNat : Int) != 47) = true := by simp; omega
        have E : Hid (∀ j, j < k + 1 → s.data.toList[j]? ≠ some 47) := fun j hj => by
          by_cases hjk : j = k
          · subst hjk; rw [HN.out]; simpa using hc
          · exact HR.out j (by omega)
        clear hc
        go_wp2
        go_round
        case rel => exact ⟨k + 1, by omega, by go_num, E.out⟩
        case measure => simp [intOf]; omega
    · have E := Lib.hid (show slashN s = k by
        obtain rfl : k = s.size := by omega
        refine slash_none fun j => ?_
        by_cases hj : j < s.size
        · exact HR.out j hj
        · rw [List.getElem?_eq_none (by simp; omega)]; simp)
      go_wp2
      go_ret
      exact ⟨by rw [E.out]; rfl, rfl⟩

set_option maxHeartbeats 1000000 in
theorem Label20_any (s : ByteArray) (w : World) (hs : s.size ≤ 9223372036854775807) : Calls Tryz.prog 51 #[.string s] w fun e w' => e = .returned (.bool (labelB s)) ∧ w = w' := by
  by_cases h90 : s.size ≤ 90
  · have hd : decide (90 < (s.size : Int)) = false := by simp; omega
    obtain ⟨R, HR⟩ : ∃ R, Hid (labelB s = R) := ⟨_, Lib.hid rfl⟩
    have HR2 := Lib.hid (show (partsB 47 s).all partB = R by rw [← HR.out]; simp [labelB, h90])
    rw [HR.out]
    clear HR
    go_enter Tryz.func51, Tryz.ntmps51
    go_wp2_with (go_at_call 117; refine (slash20_any _ _ (by omega)).mono ?_; rintro e w' ⟨rfl, rfl⟩)
    go_loop [0, 3] (fun v i => ∃ cur : ByteArray, cur.size ≤ 90 ∧ v = .string cur ∧ i = .int .i64 (slashN cur) ∧ (partsB 47 cur).all partB = R) (fun v _ => match v with | .string cur => cur.size | _ => 0)
    case atStart => exact ⟨s, h90, rfl, rfl, HR2.out⟩
    case round =>
      obtain ⟨cur, hcs, rfl, rfl, hR⟩ := hrel
      rcases slash_parts cur with ⟨h1, h2⟩ | ⟨h1, h2⟩
      · have E := Lib.hid (show partB cur = R by rw [← hR, h2]; simp)
        have H20 := Lib.hid (word20_any cur 20 w (by omega) (by omega))
        rw [word20_20, E.out] at H20
        rw [h1]
        clear h1 h2 hR hd
        go_wp2_with fail
        refine H20.out.mono ?_
        rintro e w' ⟨rfl, rfl⟩
        go_wp2
        go_ret
        exact ⟨rfl, rfl⟩
      · have H20 := Lib.hid (word20_any (cur.extract 0 (slashN cur)) 20 w (by omega) (by simp; omega))
        rw [word20_20] at H20
        have hle : slashN cur ≤ cur.size := by omega
        have hle1 : slashN cur + 1 ≤ cur.size := by omega
        have HSZ := Lib.hid (show (cur.extract (slashN cur + 1) cur.size).size = cur.size - (slashN cur + 1) by simp)
        have HSL := Lib.hid (slash20_any (cur.extract (slashN cur + 1) cur.size) w (by simp; omega))
        rw [h2, List.all_cons] at hR
        have HRR := Lib.hid hR
        clear hR h2
        generalize slashN cur = n at *
        cases hp : partB (cur.extract 0 n) with
        | true =>
          have HR3 := Lib.hid (show (partsB 47 (cur.extract (n + 1) cur.size)).all partB = R by rw [← HRR.out, hp]; rfl)
          rw [hp] at H20
          clear hp HRR
          go_wp2_with fail
          refine H20.out.mono ?_
          rintro e w' ⟨rfl, rfl⟩
          go_wp2_with fail
          refine HSL.out.mono ?_
          rintro e w' ⟨rfl, rfl⟩
          go_wp2
          go_round
          case rel => exact ⟨cur.extract (n + 1) cur.size, by rw [HSZ.out]; omega, rfl, rfl, HR3.out⟩
          case measure => show (cur.extract (n + 1) cur.size).size < cur.size; rw [HSZ.out]; omega
        | false =>
          have E := Lib.hid (show R = false by rw [← HRR.out, hp]; rfl)
          rw [hp] at H20
          clear hp HRR
          go_wp2_with fail
          refine H20.out.mono ?_
          rintro e w' ⟨rfl, rfl⟩
          go_wp2
          go_ret
          exact ⟨by rw [E.out]; rfl, rfl⟩
  · have hd : decide (90 < (s.size : Int)) = true := by simp; omega
    have E := Lib.hid (show labelB s = false by simp [labelB, h90])
    go_enter Tryz.func51, Tryz.ntmps51
    go_wp2
    go_ret
    exact ⟨by rw [E.out]; rfl, rfl⟩
end Go.Proofs.YtlpipoihinceiaaGreatDoor
/- ref21: Has, Reserved, Name -/
namespace Go.Proofs.YtlpipoihinceiaaGreatDoor
open Go.RowKit Go.Proofs Go.Shelf

set_option maxHeartbeats 1000000 in
theorem has21_any (l : List ByteArray) (s : ByteArray) (A : Option Addr) (c : Nat) (w : World) (hs : SlS w w.heap.size A c l) :
    Calls Tryz.prog 130 #[.slice A l.length c, .string s] w fun e w' => e = .returned (.bool (hasS l s)) ∧ w = w' := by
  have hc1 := hs.1
  have hc2 := hs.2.1
  unfold maxLen at hc2
  have HS := Lib.hid hs
  clear hs
  obtain ⟨E, HE⟩ : ∃ E, Hid (hasS l s = E) := ⟨_, Lib.hid rfl⟩
  rw [HE.out]
  obtain ⟨n, HN⟩ : ∃ n, Hid (l.length = n) := ⟨_, Lib.hid rfl⟩
  rw [HN.out] at hc1 ⊢
  go_enter Tryz.func130, Tryz.ntmps130
  go_wp2
  go_loop [5] (fun ct => ∃ j : Nat, j ≤ n ∧ ct = .int .i64 j ∧ (∀ i, i < j → ∀ v, l[i]? = some v → (v.toList == s.toList) = false)) (fun ct => n - (intOf ct).toNat)
  case atStart => exact ⟨0, by omega, rfl, by intro i hi; omega⟩
  case round =>
    obtain ⟨j, hj, rfl, HA⟩ := hrel
    have HA' := Lib.hid HA
    clear HA
    by_cases hlt : j < n
    · have hjl : j < l.length := by rw [HN.out]; exact hlt
      obtain ⟨b, o, rfl, hb, hcell⟩ := HS.out.at_ hjl
      have hj2 := Lib.hid (List.getElem?_eq_getElem hjl)
      generalize l[j] = v at hcell hj2
      clear hjl
      cases hv : v.toList == s.toList
      · go_wp2
        go_round
        case measure => simp [intOf]; omega
        case rel =>
          refine ⟨j + 1, by omega, by go_num, fun i hi u hu => ?_⟩
          by_cases hij : i = j
          · subst hij
            rw [hj2.out] at hu
            cases hu
            exact hv
          · exact HA'.out i (by omega) u hu
      · have HR := Lib.hid (show E = true by
          rw [← HE.out, hasS, List.any_eq_true]
          exact ⟨v, List.mem_of_getElem? hj2.out, by rw [Bool.beq_comm] at hv; exact hv⟩)
        go_wp2
        go_ret
        exact ⟨by rw [HR.out]; rfl, rfl⟩
    · have HR := Lib.hid (show E = false by
        rw [← HE.out, hasS, List.any_eq_false]
        intro v hv
        obtain ⟨i, hi⟩ := List.mem_iff_getElem?.1 hv
        have := HA'.out i (by have := (List.getElem?_eq_some_iff.1 hi).1; rw [HN.out] at this; omega) v hi
        rw [Bool.beq_comm] at this
        simp [this])
      go_wp2
      go_ret
      exact ⟨by rw [HR.out]; rfl, rfl⟩
theorem slS_new (w : World) (l : List ByteArray) (t : TypeId) (hl : l.length ≤ maxLen) : SlS (w.alloc (.cells (l.map Value.string).toArray t)) (w.alloc (.cells (l.map Value.string).toArray t)).heap.size (some ⟨w.heap.size, 0, none⟩) l.length l :=
  ⟨Nat.le_refl _, hl, fun _ => ⟨w.heap.size, 0, rfl, by simp, fun j s hj => by
    rw [Nat.zero_add, cell_of_row _ w.heap.size j _ _ (0, 0) (heap_alloc_new w _)]
    simp [hj]⟩⟩
def resvS : List ByteArray := reserved.map fun l => ⟨l.toArray⟩
theorem reserved_has (s : ByteArray) : hasS resvS s = resB s.toList := by
  unfold hasS resvS resB
  rw [List.any_map]
  congr 1
  funext r
  simp only [Function.comp, ByteArray.toList_eq]
set_option maxRecDepth 100000 in
set_option maxHeartbeats 1000000 in
theorem reserved21_any (w : World) : Calls Tryz.prog 138 #[] w fun e w' => e = .returned (.slice (some ⟨w.heap.size, 0, none⟩) 17 17) ∧ SlS w' w'.heap.size (some ⟨w.heap.size, 0, none⟩) 17 resvS ∧ Below w.heap.size w w' := by
  go_enter Tryz.func138, Tryz.ntmps138
  go_wp2
  go_ret
  exact ⟨rfl, slS_new w resvS _ (by decide), (Below.refl _ _).alloc (Nat.le_refl _) _⟩
set_option maxRecDepth 100000 in
set_option maxHeartbeats 1000000 in
theorem name21_any (s : ByteArray) (w : World) (hs : s.size ≤ 9223372036854775807) : Calls Tryz.prog 87 #[.string s] w fun e w' => e = .returned (.bool (nameB s)) ∧ Below w.heap.size w w' := by
  have HW := Lib.hid (Word20_any s w hs)
  cases hw : wordB s with
  | false =>
    have E := Lib.hid (show nameB s = false by simp [nameB, hw])
    rw [hw] at HW
    clear hw
    go_enter Tryz.func87, Tryz.ntmps87
    go_wp2_with fail
    refine HW.out.mono ?_
    rintro e w' ⟨rfl, rfl⟩
    go_wp2
    go_ret
    exact ⟨by rw [E.out]; rfl, Below.refl _ _⟩
  | true =>
    have E := Lib.hid (show nameB s = !hasS resvS s by rw [reserved_has]; simp [nameB, hw])
    rw [hw] at HW
    clear hw
    have HV := Lib.hid (reserved21_any w)
    go_enter Tryz.func87, Tryz.ntmps87
    go_wp2_with fail
    refine HW.out.mono ?_
    rintro e w' ⟨rfl, rfl⟩
    go_wp2_with fail
    refine HV.out.mono ?_
    rintro e w1 ⟨rfl, hs1, hb1⟩
    have HH := Lib.hid (has21_any resvS s _ _ w1 hs1)
    rw [show resvS.length = 17 from rfl] at HH
    have HB := Lib.hid hb1
    clear hs1 hb1
    cases hh : hasS resvS s
    all_goals (
      rw [hh] at E HH
      go_wp2_with fail
      refine HH.out.mono ?_
      rintro e w' ⟨rfl, rfl⟩
      go_wp2
      go_ret
      exact ⟨by rw [E.out]; rfl, HB.out⟩)
end Go.Proofs.YtlpipoihinceiaaGreatDoor
/- ref21: shapeOf, ranged, named -/
namespace Go.Proofs.YtlpipoihinceiaaGreatDoor
open Go.RowKit Go.Proofs Go.Shelf

set_option maxHeartbeats 1000000 in
theorem shapeOf21_any (k a b c : Int) (ok : Bool) (w : World) (h : shapeZ k = (a, b, c, ok)) : Calls Tryz.prog 236 #[.int .i64 k] w fun e w' =>
    e = .returned (.tuple #[.agg #[.bool (decide (1 ≤ a)), .bool (decide (2 ≤ a)), .bool (decide (1 ≤ b)), .bool (decide (2 ≤ b)), .int .i64 c], .bool ok]) ∧ Below w.heap.size w w' := by
  have HB := Lib.hid (fun o => (Below.refl w.heap.size w).alloc (Nat.le_refl _) o)
  by_cases hk : knownZ k
  · unfold knownZ at hk
    rcases hk with rfl | rfl | rfl | rfl | rfl | rfl | rfl | rfl | rfl | rfl | rfl | rfl | rfl | rfl | rfl
    all_goals
      simp only [shapeZ, Int.reduceEq, if_true, if_false, Prod.mk.injEq] at h
      obtain ⟨rfl, rfl, rfl, rfl⟩ := h
      go_enter Tryz.func236, Tryz.ntmps236
      go_wp2
      exact bodyPost_ret (by simp [results, Tryz.results236, go_sem]) rfl ⟨rfl, HB.out _⟩
  · rw [shapeZ_no hk] at h
    simp only [Prod.mk.injEq] at h
    obtain ⟨rfl, rfl, rfl, rfl⟩ := h
    unfold knownZ at hk
    have HK := Lib.hid hk
    clear hk
    have n1 : (k == 1) = false := by have := HK.out; simp; omega
    have n2 : (k == 2) = false := by have := HK.out; simp; omega
    have n3 : (k == 3) = false := by have := HK.out; simp; omega
    have n4 : (k == 4) = false := by have := HK.out; simp; omega
    have n5 : (k == 5) = false := by have := HK.out; simp; omega
    have n6 : (k == 6) = false := by have := HK.out; simp; omega
    have n7 : (k == 7) = false := by have := HK.out; simp; omega
    have n12 : (k == 12) = false := by have := HK.out; simp; omega
    have n8 : (k == 8) = false := by have := HK.out; simp; omega
    have n10 : (k == 10) = false := by have := HK.out; simp; omega
    have n9 : (k == 9) = false := by have := HK.out; simp; omega
    have n15 : (k == 15) = false := by have := HK.out; simp; omega
    have n11 : (k == 11) = false := by have := HK.out; simp; omega
    have n13 : (k == 13) = false := by have := HK.out; simp; omega
    have n14 : (k == 14) = false := by have := HK.out; simp; omega
    go_enter Tryz.func236, Tryz.ntmps236
    go_wp2
    exact bodyPost_ret (by simp [results, Tryz.results236, go_sem]) rfl ⟨rfl, HB.out _⟩

set_option maxHeartbeats 1000000 in
theorem ranged21_any (k : Int) (n m : ByteArray) (i d : Int) (v : Value) (w : World) : Calls Tryz.prog 238 #[.agg #[.int .i64 k, .string n, .string m, .int .i64 i, .int .i64 d, v]] w fun e w' =>
    e = .returned (.bool (numB k i d)) ∧ Below w.heap.size w w' := by
  have HB := Lib.hid (fun o => (Below.refl w.heap.size w).alloc (Nat.le_refl _) o)
  by_cases hk : k = 1 ∨ k = 2 ∨ k = 5 ∨ k = 14
  · rcases hk with rfl | rfl | rfl | rfl
    all_goals
      go_enter Tryz.func238, Tryz.ntmps238
      go_wp2
    all_goals go_ret
    all_goals refine ⟨ret_bool ?_, HB.out _⟩
    all_goals simp [numB]
    all_goals (try simp_all)
    all_goals (try omega)
  · have HK := Lib.hid hk
    have n1 : (k == 1) = false := by simp; omega
    have n2 : (k == 2) = false := by simp; omega
    have n5 : (k == 5) = false := by simp; omega
    have n14 : (k == 14) = false := by simp; omega
    clear hk
    go_enter Tryz.func238, Tryz.ntmps238
    go_wp2
    go_ret
    refine ⟨ret_bool ?_, HB.out _⟩
    have := HK.out
    unfold numB
    rw [if_neg (by omega), if_neg (by omega), if_neg (by omega), if_neg (by omega)]

def opsS : List ByteArray := [⟨#[43]⟩, ⟨#[45]⟩, ⟨#[42]⟩, ⟨#[61]⟩, ⟨#[60]⟩]
theorem ops_has (n : ByteArray) : hasS opsS n = opB n := by
  have e : n.toList = n.data.toList := ByteArray.toList_eq n
  have hsz : n.data.toList.length = n.size := by simp
  unfold hasS opB opsS
  rw [e]
  generalize n.data.toList = l at hsz
  rw [← hsz]
  match l with
  | [] => simp [ByteArray.toList_eq]
  | [c] =>
    simp only [List.any_cons, List.any_nil, ByteArray.toList_eq, List.headD_cons, Lib.indexByte, List.length_singleton, decide_true, Bool.true_and]
    by_cases h1 : c = 43
    · subst h1; rfl
    by_cases h2 : c = 45
    · subst h2; rfl
    by_cases h3 : c = 42
    · subst h3; rfl
    by_cases h4 : c = 61
    · subst h4; rfl
    by_cases h5 : c = 60
    · subst h5; rfl
    simp [h1, h2, h3, h4, h5, Ne.symm h1, Ne.symm h2, Ne.symm h3, Ne.symm h4, Ne.symm h5]
  | c :: c' :: r =>
    simp [ByteArray.toList_eq]
/-- What ref21.named answers; p, q: whether the kind has a Name, a More. -/
def namedB (k : Int) (n m : ByteArray) (p q : Bool) : Bool := (!q || nameB m) && (if k = 5 then n.toList.isEmpty || labelB n else if k = 10 then opB n else !p || nameB n)
theorem slS_ops (w : World) : SlS (w.alloc (.cells #[.string ⟨#[43]⟩, .string ⟨#[45]⟩, .string ⟨#[42]⟩, .string ⟨#[61]⟩, .string ⟨#[60]⟩] 9)) (w.alloc (.cells #[.string ⟨#[43]⟩, .string ⟨#[45]⟩, .string ⟨#[42]⟩, .string ⟨#[61]⟩, .string ⟨#[60]⟩] 9)).heap.size (some ⟨w.heap.size, 0, none⟩) 5 opsS := slS_new w opsS _ (by decide)

set_option maxRecDepth 100000 in
set_option maxHeartbeats 2000000 in
theorem named21_tail (k : Int) (n m : ByteArray) (i d : Int) (v : Value) (p q r1 r2 : Bool) (c : Int) (w : World) (hn : n.size ≤ 1000) (hm : m.size ≤ 1000) (hq : q = false ∨ nameB m = true) :
    Calls Tryz.prog 237 #[.agg #[.int .i64 k, .string n, .string m, .int .i64 i, .int .i64 d, v], .agg #[.bool p, .bool q, .bool r1, .bool r2, .int .i64 c]] w fun e w' =>
    e = .returned (.bool (if k = 5 then n.toList.isEmpty || labelB n else if k = 10 then opB n else !p || nameB n)) ∧ Below w.heap.size w w' := by
  obtain ⟨W0, hW0⟩ : ∃ W0, (w.alloc (.cells #[.int .i64 k, .string n, .string m, .int .i64 i, .int .i64 d, v] 28)).alloc (.cells #[.bool p, .bool q, .bool r1, .bool r2, .int .i64 c] 280) = W0 := ⟨_, rfl⟩
  have hB0 : Below w.heap.size w W0 := by subst hW0; exact ((Below.refl _ _).alloc (Nat.le_refl _) _).alloc (by simp) _
  have hz0 : w.heap.size + 2 = W0.heap.size := by subst hW0; simp
  have hx0 : W0.heap[w.heap.size]? = some (.cells #[.int .i64 k, .string n, .string m, .int .i64 i, .int .i64 d, v] 28 (0, 0)) := by
    rw [← hW0, Below.heap_alloc _ _ _ (by simp)]
    exact heap_alloc_new w _
  have hx1 : W0.heap[w.heap.size + 1]? = some (.cells #[.bool p, .bool q, .bool r1, .bool r2, .int .i64 c] 280 (0, 0)) := by
    rw [← hW0]
    have := heap_alloc_new (w.alloc (.cells #[.int .i64 k, .string n, .string m, .int .i64 i, .int .i64 d, v] 28)) (.cells #[.bool p, .bool q, .bool r1, .bool r2, .int .i64 c] 280)
    simpa using this
  have HC : Hid (∀ X, Below W0.heap.size W0 X → Below w.heap.size w X ∧ X.cell? ⟨w.heap.size, 0, none⟩ = some (.int .i64 k) ∧ X.cell? ⟨w.heap.size, 1, none⟩ = some (.string n) ∧ X.cell? ⟨w.heap.size, 2, none⟩ = some (.string m) ∧ X.cell? ⟨w.heap.size + 1, 0, none⟩ = some (.bool p) ∧ X.cell? ⟨w.heap.size + 1, 1, none⟩ = some (.bool q)) := fun X hX => by
    have h0 := (hX.block w.heap.size (by omega)).trans hx0
    have h1 := (hX.block (w.heap.size + 1) (by omega)).trans hx1
    exact ⟨hB0.trans (hX.mono (by omega)), cell_of_row X _ 0 _ _ (0, 0) h0, cell_of_row X _ 1 _ _ (0, 0) h0, cell_of_row X _ 2 _ _ (0, 0) h0, cell_of_row X _ 0 _ _ (0, 0) h1, cell_of_row X _ 1 _ _ (0, 0) h1⟩
  obtain ⟨_, x0, x1, x2, y0, y1⟩ := HC.out W0 (Below.refl _ _)
  obtain ⟨R, HR⟩ : ∃ R, Hid ((if k = 5 then n.toList.isEmpty || labelB n else if k = 10 then opB n else !p || nameB n) = R) := ⟨_, Lib.hid rfl⟩
  rw [HR.out]
  clear hB0 hx0 hx1
  go_enter Tryz.func237, Tryz.ntmps237
  cases q with
  | false =>
    have HB := Lib.hid (Below.refl W0.heap.size W0)
    clear hq
    by_cases k5 : k = 5
    · subst k5
      cases he : n.toList.isEmpty with
      | true =>
        have ER := Lib.hid (show R = true by rw [← HR.out]; simp [he])
        have he2 : n.toList = [] := by simpa using he
        clear HR
        go_wp2
        go_ret
        exact ⟨by rw [ER.out]; rfl, (HC.out _ HB.out).1⟩
      | false =>
        have ER := Lib.hid (show R = labelB n by rw [← HR.out]; simp [he])
        have HL := Lib.hid (Label20_any n W0 (by omega))
        have he2 : (n.toList == []) = false := by simpa using he
        clear HR
        go_wp2_with fail
        refine HL.out.mono ?_
        rintro e w2 ⟨rfl, rfl⟩
        go_wp2
        go_ret
        exact ⟨by rw [ER.out]; rfl, (HC.out _ HB.out).1⟩
    have k5' : (k == 5) = false := by simpa using k5
    by_cases k10 : k = 10
    · subst k10
      have ER := Lib.hid (show R = hasS opsS n by rw [← HR.out, ops_has]; simp)
      have HH := Lib.hid (has21_any opsS n _ _ _ (slS_ops W0))
      rw [show opsS.length = 5 from rfl] at HH
      have HB2 := Lib.hid ((HC.out _ HB.out).1.alloc (HC.out _ HB.out).1.size (.cells #[.string ⟨#[43]⟩, .string ⟨#[45]⟩, .string ⟨#[42]⟩, .string ⟨#[61]⟩, .string ⟨#[60]⟩] 9))
      clear HR
      have hzX : w.heap.size < W0.heap.size := by have := HB.out.size; omega
      go_wp2_with fail
      refine HH.out.mono ?_
      rintro e w2 ⟨rfl, rfl⟩
      go_wp2
      go_ret
      exact ⟨by rw [ER.out]; rfl, HB2.out⟩
    have k10' : (k == 10) = false := by simpa using k10
    cases p with
    | false =>
      have ER := Lib.hid (show R = true by rw [← HR.out, if_neg k5, if_neg k10]; rfl)
      clear HR k5 k10
      go_wp2
      go_ret
      exact ⟨by rw [ER.out]; rfl, (HC.out _ HB.out).1⟩
    | true =>
      have ER := Lib.hid (show R = nameB n by rw [← HR.out, if_neg k5, if_neg k10]; rfl)
      have HN := Lib.hid (name21_any n W0 (by omega))
      clear HR k5 k10
      go_wp2_with fail
      refine HN.out.mono ?_
      rintro e w2 ⟨rfl, hb2⟩
      have HB2 := Lib.hid ((HC.out _ HB.out).1.trans (hb2.mono (HC.out _ HB.out).1.size))
      clear hb2
      go_wp2
      go_ret
      exact ⟨by rw [ER.out]; rfl, HB2.out⟩
  | true =>
    have hmn := hq.resolve_left (by simp)
    have HM := Lib.hid (name21_any m W0 (by omega))
    rw [hmn] at HM
    clear hmn hq
    go_wp2_with fail
    refine HM.out.mono ?_
    rintro e w1 ⟨rfl, hb1⟩
    have HB := Lib.hid hb1
    clear x0 x1 x2 y0 y1 hb1 hW0
    obtain ⟨_, x0, x1, x2, y0, y1⟩ := HC.out w1 HB.out
    by_cases k5 : k = 5
    · subst k5
      cases he : n.toList.isEmpty with
      | true =>
        have ER := Lib.hid (show R = true by rw [← HR.out]; simp [he])
        have he2 : n.toList = [] := by simpa using he
        clear HR
        go_wp2
        go_ret
        exact ⟨by rw [ER.out]; rfl, (HC.out _ HB.out).1⟩
      | false =>
        have ER := Lib.hid (show R = labelB n by rw [← HR.out]; simp [he])
        have HL := Lib.hid (Label20_any n w1 (by omega))
        have he2 : (n.toList == []) = false := by simpa using he
        clear HR
        go_wp2_with fail
        refine HL.out.mono ?_
        rintro e w2 ⟨rfl, rfl⟩
        go_wp2
        go_ret
        exact ⟨by rw [ER.out]; rfl, (HC.out _ HB.out).1⟩
    have k5' : (k == 5) = false := by simpa using k5
    by_cases k10 : k = 10
    · subst k10
      have ER := Lib.hid (show R = hasS opsS n by rw [← HR.out, ops_has]; simp)
      have HH := Lib.hid (has21_any opsS n _ _ _ (slS_ops w1))
      rw [show opsS.length = 5 from rfl] at HH
      have HB2 := Lib.hid ((HC.out _ HB.out).1.alloc (HC.out _ HB.out).1.size (.cells #[.string ⟨#[43]⟩, .string ⟨#[45]⟩, .string ⟨#[42]⟩, .string ⟨#[61]⟩, .string ⟨#[60]⟩] 9))
      clear HR
      have hzX : w.heap.size < w1.heap.size := by have := HB.out.size; omega
      go_wp2_with fail
      refine HH.out.mono ?_
      rintro e w2 ⟨rfl, rfl⟩
      go_wp2
      go_ret
      exact ⟨by rw [ER.out]; rfl, HB2.out⟩
    have k10' : (k == 10) = false := by simpa using k10
    cases p with
    | false =>
      have ER := Lib.hid (show R = true by rw [← HR.out, if_neg k5, if_neg k10]; rfl)
      clear HR k5 k10
      go_wp2
      go_ret
      exact ⟨by rw [ER.out]; rfl, (HC.out _ HB.out).1⟩
    | true =>
      have ER := Lib.hid (show R = nameB n by rw [← HR.out, if_neg k5, if_neg k10]; rfl)
      have HN := Lib.hid (name21_any n w1 (by omega))
      clear HR k5 k10
      go_wp2_with fail
      refine HN.out.mono ?_
      rintro e w2 ⟨rfl, hb2⟩
      have HB2 := Lib.hid ((HC.out _ HB.out).1.trans (hb2.mono (HC.out _ HB.out).1.size))
      clear hb2
      go_wp2
      go_ret
      exact ⟨by rw [ER.out]; rfl, HB2.out⟩

set_option maxRecDepth 100000 in
set_option maxHeartbeats 1000000 in
theorem named21_any (k : Int) (n m : ByteArray) (i d : Int) (v : Value) (p q r1 r2 : Bool) (c : Int) (w : World) (hn : n.size ≤ 1000) (hm : m.size ≤ 1000) :
    Calls Tryz.prog 237 #[.agg #[.int .i64 k, .string n, .string m, .int .i64 i, .int .i64 d, v], .agg #[.bool p, .bool q, .bool r1, .bool r2, .int .i64 c]] w fun e w' =>
    e = .returned (.bool (namedB k n m p q)) ∧ Below w.heap.size w w' := by
  by_cases hq : q = false ∨ nameB m = true
  · refine (named21_tail k n m i d v p q r1 r2 c w hn hm hq).mono fun e w' ⟨h1, h2⟩ => ⟨?_, h2⟩
    rw [h1, namedB, show (!q || nameB m) = true by rcases hq with rfl | h <;> simp [*], Bool.true_and]
  · obtain rfl : q = true := by cases q <;> simp_all
    have hmn : nameB m = false := by cases h : nameB m <;> simp_all
    have ER := Lib.hid (show namedB k n m p true = false by simp [namedB, hmn])
    obtain ⟨W0, hW0⟩ : ∃ W0, (w.alloc (.cells #[.int .i64 k, .string n, .string m, .int .i64 i, .int .i64 d, v] 28)).alloc (.cells #[.bool p, .bool true, .bool r1, .bool r2, .int .i64 c] 280) = W0 := ⟨_, rfl⟩
    have hB0 : Below w.heap.size w W0 := by subst hW0; exact ((Below.refl _ _).alloc (Nat.le_refl _) _).alloc (by simp) _
    have x2 : W0.cell? ⟨w.heap.size, 2, none⟩ = some (.string m) := by subst hW0; go_simp
    have y1 : W0.cell? ⟨w.heap.size + 1, 1, none⟩ = some (.bool true) := by subst hW0; go_simp
    have HM := Lib.hid (name21_any m W0 (by omega))
    rw [hmn] at HM
    have HB := Lib.hid hB0
    clear hmn hq hB0
    go_enter Tryz.func237, Tryz.ntmps237
    go_wp2_with fail
    refine HM.out.mono ?_
    rintro e w1 ⟨rfl, hb1⟩
    have HB2 := Lib.hid (HB.out.trans (hb1.mono HB.out.size))
    clear hb1
    go_wp2
    go_ret
    exact ⟨by rw [ER.out]; rfl, HB2.out⟩
end Go.Proofs.YtlpipoihinceiaaGreatDoor
