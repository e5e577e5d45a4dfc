/- ref21: Has, Reserved, Name -/
import Derived.Test.YtlcfoiapkblheaaGreatDoorYlb
import Derived.Test.YtlcfoiapkblheaaGreatDoorGkc
import Derived.Test.YtlcfoiapkblheaaGreatDoorGkg
namespace Go.Proofs.YtlcfoiapkblheaaGreatDoor
open Go.RowKit Go.Proofs Go.Shelf

set_option maxHeartbeats 1000000 in
theorem has21_any (l : List ByteArray) (s : ByteArray) (A : Option Addr) (c : Nat) (w : World) (hs : SlS w w.heap.size A c l) :
    Calls Tryz.prog 135 #[.slice A l.length c, .string s] w fun e w' => e = .returned (.bool (hasS l s)) ∧ w = w' := by
  have hc1 := hs.1
  have hc2 := hs.2.1
  unfold maxLen at hc2
  have HS := Lib.hid hs
  clear hs
  obtain ⟨E, HE⟩ : ∃ E, Hid (hasS l s = E) := ⟨_, Lib.hid rfl⟩
  rw [HE.out]
  obtain ⟨n, HN⟩ : ∃ n, Hid (l.length = n) := ⟨_, Lib.hid rfl⟩
  rw [HN.out] at hc1 ⊢
  go_enter Tryz.func135, Tryz.ntmps135
  go_wp2
  go_loop [5] (fun ct => ∃ j : Nat, j ≤ n ∧ ct = .int .i64 j ∧ (∀ i, i < j → ∀ v, l[i]? = some v → (v.toList == s.toList) = false)) (fun ct => n - (intOf ct).toNat)
  case atStart => exact ⟨0, by omega, rfl, by intro i hi; omega⟩
  case round =>
    obtain ⟨j, hj, rfl, HA⟩ := hrel
    have HA' := Lib.hid HA
    clear HA
    by_cases hlt : j < n
    · have hjl : j < l.length := by rw [HN.out]; exact hlt
      obtain ⟨b, o, rfl, hb, hcell⟩ := HS.out.at_ hjl
      have hj2 := Lib.hid (List.getElem?_eq_getElem hjl)
      generalize l[j] = v at hcell hj2
      clear hjl
      cases hv : v.toList == s.toList
      · go_wp2
        go_round
        case measure => simp [intOf]; omega
        case rel =>
          refine ⟨j + 1, by omega, by go_num, fun i hi u hu => ?_⟩
          by_cases hij : i = j
          · subst hij
            rw [hj2.out] at hu
            cases hu
            exact hv
          · exact HA'.out i (by omega) u hu
      · have HR := Lib.hid (show E = true by
          rw [← HE.out, hasS, List.any_eq_true]
          exact ⟨v, List.mem_of_getElem? hj2.out, by rw [Bool.beq_comm] at hv; exact hv⟩)
        go_wp2
        go_ret
        exact ⟨by rw [HR.out]; rfl, rfl⟩
    · have HR := Lib.hid (show E = false by
        rw [← HE.out, hasS, List.any_eq_false]
        intro v hv
        obtain ⟨i, hi⟩ := List.mem_iff_getElem?.1 hv
        have := HA'.out i (by have := (List.getElem?_eq_some_iff.1 hi).1; rw [HN.out] at this; omega) v hi
        rw [Bool.beq_comm] at this
        simp [this])
      go_wp2
      go_ret
      exact ⟨by rw [HR.out]; rfl, rfl⟩
theorem slS_new (w : World) (l : List ByteArray) (t : TypeId) (hl : l.length ≤ maxLen) : SlS (w.alloc (.cells (l.map Value.string).toArray t)) (w.alloc (.cells (l.map Value.string).toArray t)).heap.size (some ⟨w.heap.size, 0, none⟩) l.length l :=
  ⟨Nat.le_refl _, hl, fun _ => ⟨w.heap.size, 0, rfl, by simp, fun j s hj => by
    rw [Nat.zero_add, cell_of_row _ w.heap.size j _ _ (0, 0) (heap_alloc_new w _)]
    simp [hj]⟩⟩
def resvS : List ByteArray := reserved.map fun l => ⟨l.toArray⟩
theorem reserved_has (s : ByteArray) : hasS resvS s = resB s.toList := by
  unfold hasS resvS resB
  rw [List.any_map]
  congr 1
  funext r
  simp only [Function.comp, ByteArray.toList_eq]
set_option maxRecDepth 100000 in
set_option maxHeartbeats 1000000 in
theorem reserved21_any (w : World) : Calls Tryz.prog 166 #[] w fun e w' => e = .returned (.slice (some ⟨w.heap.size, 0, none⟩) 17 17) ∧ SlS w' w'.heap.size (some ⟨w.heap.size, 0, none⟩) 17 resvS ∧ Below w.heap.size w w' := by
  go_enter Tryz.func166, Tryz.ntmps166
  go_wp2
  go_ret
  exact ⟨rfl, slS_new w resvS _ (by decide), (Below.refl _ _).alloc (Nat.le_refl _) _⟩
set_option maxRecDepth 100000 in
set_option maxHeartbeats 1000000 in
theorem name21_any (s : ByteArray) (w : World) (hs : s.size ≤ 9223372036854775807) : Calls Tryz.prog 106 #[.string s] w fun e w' => e = .returned (.bool (nameB s)) ∧ Below w.heap.size w w' := by
  have HW := Lib.hid (Word20_any s w hs)
  cases hw : wordB s with
  | false =>
    have E := Lib.hid (show nameB s = false by simp [nameB, hw])
    rw [hw] at HW
    clear hw
    go_enter Tryz.func106, Tryz.ntmps106
    go_wp2_with fail
    refine HW.out.mono ?_
    rintro e w' ⟨rfl, rfl⟩
    go_wp2
    go_ret
    exact ⟨by rw [E.out]; rfl, Below.refl _ _⟩
  | true =>
    have E := Lib.hid (show nameB s = !hasS resvS s by rw [reserved_has]; simp [nameB, hw])
    rw [hw] at HW
    clear hw
    have HV := Lib.hid (reserved21_any w)
    go_enter Tryz.func106, Tryz.ntmps106
    go_wp2_with fail
    refine HW.out.mono ?_
    rintro e w' ⟨rfl, rfl⟩
    go_wp2_with fail
    refine HV.out.mono ?_
    rintro e w1 ⟨rfl, hs1, hb1⟩
    have HH := Lib.hid (has21_any resvS s _ _ w1 hs1)
    rw [show resvS.length = 17 from rfl] at HH
    have HB := Lib.hid hb1
    clear hs1 hb1
    cases hh : hasS resvS s
    all_goals (
      rw [hh] at E HH
      go_wp2_with fail
      refine HH.out.mono ?_
      rintro e w' ⟨rfl, rfl⟩
      go_wp2
      go_ret
      exact ⟨by rw [E.out]; rfl, HB.out⟩)
end Go.Proofs.YtlcfoiapkblheaaGreatDoor
