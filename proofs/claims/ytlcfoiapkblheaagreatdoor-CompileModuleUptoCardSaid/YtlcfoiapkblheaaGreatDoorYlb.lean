/- ref20: slash, Label -/
import Derived.Test.YtlcfoiapkblheaaGreatDoorYla
import Derived.Lib.IndexLaws
namespace Go.Proofs.YtlcfoiapkblheaaGreatDoor
open Go.RowKit Go.Proofs Go.Shelf

theorem indexByte_no : ∀ (l : List UInt8) (c : UInt8), (∀ k : Nat, l[k]? ≠ some c) → Lib.indexByte l c = -1
  | [], _, _ => rfl
  | b :: l, c, h => by
    have h0 : (b == c) = false := by have := h 0; simpa using this
    have hr := indexByte_no l c (fun k => by have := h (k + 1); simpa using this)
    simp [Lib.indexByte, h0, hr]
theorem indexByte_at : ∀ (l : List UInt8) (c : UInt8) (o : Nat), l[o]? = some c → (∀ k : Nat, k < o → l[k]? ≠ some c) → Lib.indexByte l c = o
  | [], _, _, h, _ => by simp at h
  | b :: l, c, 0, h, _ => by simp at h; subst h; simp [Lib.indexByte]
  | b :: l, c, o + 1, h, hk => by
    have h0 : (b == c) = false := by have := hk 0 (by omega); simpa using this
    have hr := indexByte_at l c o (by simpa using h) (fun k hk' => by have := hk (k + 1) (by omega); simpa using this)
    simp [Lib.indexByte, h0, hr]
    try omega
/-- Where the first slash stands, or the length. -/
def slashN (s : ByteArray) : Nat := if Lib.indexByte s.data.toList 47 = -1 then s.size else (Lib.indexByte s.data.toList 47).toNat
theorem slash_none {s : ByteArray} (h : ∀ k : Nat, s.data.toList[k]? ≠ some 47) : slashN s = s.size := by
  unfold slashN
  rw [if_pos (indexByte_no _ _ h)]
theorem slash_at {s : ByteArray} {o : Nat} (h : s.data.toList[o]? = some 47) (hk : ∀ k : Nat, k < o → s.data.toList[k]? ≠ some 47) : slashN s = o := by
  unfold slashN
  rw [indexByte_at _ _ _ h hk, if_neg (by omega)]
  simp
theorem slash_parts (s : ByteArray) : (slashN s = s.size ∧ partsB 47 s = [s]) ∨ (slashN s < s.size ∧ partsB 47 s = s.extract 0 (slashN s) :: partsB 47 (s.extract (slashN s + 1) s.size)) := by
  by_cases h : Lib.indexByte s.data.toList 47 = -1
  · exact .inl ⟨by unfold slashN; rw [if_pos h], partsB_none 47 s h⟩
  · obtain ⟨o, ho⟩ : ∃ o : Nat, Lib.indexByte s.data.toList 47 = o := ⟨(Lib.indexByte s.data.toList 47).toNat, by have := Lib.indexByte_ge s.data.toList 47; omega⟩
    have e : slashN s = o := by unfold slashN; rw [ho, if_neg (by omega)]; simp
    obtain ⟨h1, h2⟩ := partsB_some 47 s o ho
    exact .inr (by rw [e]; exact ⟨h1, h2⟩)

set_option maxHeartbeats 1000000 in
theorem slash20_any (s : ByteArray) (w : World) (hs : s.size ≤ 1000) : Calls Tryz.prog 152 #[.string s] w fun e w' => e = .returned (.int .i64 (slashN s)) ∧ w = w' := by
  go_enter Tryz.func152, Tryz.ntmps152
  go_wp2
  go_loop [3] (fun i => ∃ k : Nat, k ≤ s.size ∧ i = .int .i64 k ∧ ∀ j, j < k → s.data.toList[j]? ≠ some 47) (fun i => s.size - (intOf i).toNat)
  case atStart => exact ⟨0, Nat.zero_le _, rfl, fun j hj => by omega⟩
  case round =>
    obtain ⟨k, hk, rfl, hr⟩ := hrel
    have HR := Lib.hid hr
    clear hr
    by_cases hlt : k < s.size
    · have HN := Lib.hid (getElem_data s k hlt)
      by_cases hc : s[k] = 47
      · have E := Lib.hid (slash_at (by rw [HN.out, hc]) HR.out)
        have c1 : ((s[k].toNat : Int) != 47) = false := by rw [hc]; rfl
        have c2 : (s[k] != 47) = false := by rw [hc]; rfl
        have c3 : s[k].toNat = 47 := by rw [hc]; rfl
        clear hc
        go_wp2
        go_ret
        exact ⟨by rw [E.out]; rfl, rfl⟩
      · have hne : s[k].toNat ≠ 47 := fun h => hc (UInt8.toNat_inj.1 h)
        have c1 : ((s[k].toNat : Int) != 47) = true := by simp; omega
        have E : Hid (∀ j, j < k + 1 → s.data.toList[j]? ≠ some 47) := fun j hj => by
          by_cases hjk : j = k
          · subst hjk; rw [HN.out]; simpa using hc
          · exact HR.out j (by omega)
        clear hc
        go_wp2
        go_round
        case rel => exact ⟨k + 1, by omega, by go_num, E.out⟩
        case measure => simp [intOf]; omega
    · have E := Lib.hid (show slashN s = k by
        obtain rfl : k = s.size := by omega
        refine slash_none fun j => ?_
        by_cases hj : j < s.size
        · exact HR.out j hj
        · rw [List.getElem?_eq_none (by simp; omega)]; simp)
      go_wp2
      go_ret
      exact ⟨by rw [E.out]; rfl, rfl⟩

set_option maxHeartbeats 1000000 in
theorem Label20_any (s : ByteArray) (w : World) (hs : s.size ≤ 9223372036854775807) : Calls Tryz.prog 82 #[.string s] w fun e w' => e = .returned (.bool (labelB s)) ∧ w = w' := by
  by_cases h90 : s.size ≤ 90
  · have hd : decide (90 < (s.size : Int)) = false := by simp; omega
    obtain ⟨R, HR⟩ : ∃ R, Hid (labelB s = R) := ⟨_, Lib.hid rfl⟩
    have HR2 := Lib.hid (show (partsB 47 s).all partB = R by rw [← HR.out]; simp [labelB, h90])
    rw [HR.out]
    clear HR
    go_enter Tryz.func82, Tryz.ntmps82
    go_wp2_with (go_at_call 152; refine (slash20_any _ _ (by omega)).mono ?_; rintro e w' ⟨rfl, rfl⟩)
    go_loop [0, 3] (fun v i => ∃ cur : ByteArray, cur.size ≤ 90 ∧ v = .string cur ∧ i = .int .i64 (slashN cur) ∧ (partsB 47 cur).all partB = R) (fun v _ => match v with | .string cur => cur.size | _ => 0)
    case atStart => exact ⟨s, h90, rfl, rfl, HR2.out⟩
    case round =>
      obtain ⟨cur, hcs, rfl, rfl, hR⟩ := hrel
      rcases slash_parts cur with ⟨h1, h2⟩ | ⟨h1, h2⟩
      · have E := Lib.hid (show partB cur = R by rw [← hR, h2]; simp)
        have H20 := Lib.hid (word20_any cur 20 w (by omega) (by omega))
        rw [word20_20, E.out] at H20
        rw [h1]
        clear h1 h2 hR hd
        go_wp2_with fail
        refine H20.out.mono ?_
        rintro e w' ⟨rfl, rfl⟩
        go_wp2
        go_ret
        exact ⟨rfl, rfl⟩
      · have H20 := Lib.hid (word20_any (cur.extract 0 (slashN cur)) 20 w (by omega) (by simp; omega))
        rw [word20_20] at H20
        have hle : slashN cur ≤ cur.size := by omega
        have hle1 : slashN cur + 1 ≤ cur.size := by omega
        have HSZ := Lib.hid (show (cur.extract (slashN cur + 1) cur.size).size = cur.size - (slashN cur + 1) by simp)
        have HSL := Lib.hid (slash20_any (cur.extract (slashN cur + 1) cur.size) w (by simp; omega))
        rw [h2, List.all_cons] at hR
        have HRR := Lib.hid hR
        clear hR h2
        generalize slashN cur = n at *
        cases hp : partB (cur.extract 0 n) with
        | true =>
          have HR3 := Lib.hid (show (partsB 47 (cur.extract (n + 1) cur.size)).all partB = R by rw [← HRR.out, hp]; rfl)
          rw [hp] at H20
          clear hp HRR
          go_wp2_with fail
          refine H20.out.mono ?_
          rintro e w' ⟨rfl, rfl⟩
          go_wp2_with fail
          refine HSL.out.mono ?_
          rintro e w' ⟨rfl, rfl⟩
          go_wp2
          go_round
          case rel => exact ⟨cur.extract (n + 1) cur.size, by rw [HSZ.out]; omega, rfl, rfl, HR3.out⟩
          case measure => show (cur.extract (n + 1) cur.size).size < cur.size; rw [HSZ.out]; omega
        | false =>
          have E := Lib.hid (show R = false by rw [← HRR.out, hp]; rfl)
          rw [hp] at H20
          clear hp HRR
          go_wp2_with fail
          refine H20.out.mono ?_
          rintro e w' ⟨rfl, rfl⟩
          go_wp2
          go_ret
          exact ⟨by rw [E.out]; rfl, rfl⟩
  · have hd : decide (90 < (s.size : Int)) = true := by simp; omega
    have E := Lib.hid (show labelB s = false by simp [labelB, h90])
    go_enter Tryz.func82, Tryz.ntmps82
    go_wp2
    go_ret
    exact ⟨by rw [E.out]; rfl, rfl⟩
end Go.Proofs.YtlcfoiapkblheaaGreatDoor
