/- ref21.With: a list with one more string -/
import Derived.Test.YtlcfoiapkblheaaGreatDoorYhs
import Derived.Test.YtlcfoiapkblheaaGreatDoorGkp
namespace Go.Proofs.YtlcfoiapkblheaaGreatDoor
open Go.RowKit Go.Proofs Go.Shelf

theorem SlS.news {W : World} {B : Nat} {A : Option Addr} {c : Nat} {l : List ByteArray} (h : SlS W B A c l) :
    (A = none → l.length = 0) ∧ ∀ ad, A = some ad → ∀ j u, (l.map Value.string)[j]? = some u → W.cell? (ad.add j) = some u := by
  refine ⟨fun hA => ?_, fun a' e j u hu => ?_⟩
  · cases l with
    | nil => rfl
    | cons x r => obtain ⟨b, o, e, _⟩ := h.2.2 (by simp); rw [hA] at e; cases e
  · rw [List.getElem?_map] at hu
    obtain ⟨s, hs1, rfl⟩ := Option.map_eq_some_iff.1 hu
    obtain ⟨b, o, e', hb, hcell⟩ := h.2.2 (by intro e; subst e; simp at hs1)
    rw [e] at e'
    cases e'
    have := hcell j s hs1
    cases j <;> simpa [Addr.add] using this
theorem SlS.take {W : World} {B : Nat} {A : Option Addr} {c : Nat} {l : List ByteArray} (h : SlS W B A c l) (k : Nat) : SlS W B A c (l.take k) := by
  refine ⟨by have := h.1; simp; omega, h.2.1, fun hne => ?_⟩
  obtain ⟨b, o, e, hb, hc⟩ := h.2.2 (by intro e; subst e; simp at hne)
  exact ⟨b, o, e, hb, fun j s hj => hc j s (by
    rw [List.getElem?_take] at hj
    split at hj
    · exact hj
    · cases hj)⟩
theorem SlS.drop {W : World} {B : Nat} {g c : Nat} {l : List ByteArray} (h : SlS W B (some ⟨g, 0, none⟩) c l) (k : Nat) (hk : k < c) : SlS W B (some ⟨g, k, none⟩) (c - k) (l.drop k) := by
  refine ⟨by have := h.1; simp; omega, by have := h.2.1; omega, fun hne => ?_⟩
  obtain ⟨b, o, e, hb, hc⟩ := h.2.2 (by intro e; subst e; simp at hne)
  simp only [Option.some.injEq, Addr.mk.injEq, and_true] at e
  obtain ⟨rfl, rfl⟩ := e
  exact ⟨g, k, rfl, hb, fun j s hj => by
    rw [List.getElem?_drop] at hj
    have := hc (k + j) s hj
    rwa [Nat.zero_add] at this⟩
theorem strs_one (l : List ByteArray) : ∀ u ∈ l.map Value.string, u.oneCell' = true := by
  intro u hu
  obtain ⟨s, _, rfl⟩ := List.mem_map.1 hu
  rfl
/-- A slice of strings of the call's own: not nil. -/
def OwnS (W : World) (g c : Nat) (l : List ByteArray) : Prop := VarsAt W (some ⟨g, 0, none⟩) c l
/-- What With hands back: some list that is not empty. -/
def With21P (n : Nat) (w : World) (e : Ending) (w' : World) : Prop := ∃ g c LL, e = .returned (.slice (some ⟨g, 0, none⟩) LL.length c) ∧ OwnS w' g c LL ∧ LL ≠ [] ∧ LL.length ≤ n + 1 ∧ Below w.heap.size w w'
theorem OwnS.of {W : World} {base : Nat} {v : Value} {l : List ByteArray} (h : W.ownsRow base 9 1 v l.length (l.map .string)) (hne : l ≠ []) : ∃ g c, v = .slice (some ⟨g, 0, none⟩) l.length c ∧ OwnS W g c l := by
  rcases h.2 with ⟨h1, h2⟩ | ⟨g, cap, cur, h1, h2, h3, h4⟩
  · exact absurd (List.length_eq_zero_iff.1 h2) hne
  · exact ⟨g, cap, h1, h.1, .inr ⟨g, cap, cur, rfl, Nat.zero_le _, h3, h4⟩⟩

set_option maxRecDepth 100000 in
set_option maxHeartbeats 4000000 in
theorem with21_any (l : List ByteArray) (s : ByteArray) (g c : Nat) (w : World) (hs : OwnS w g c l) (hl : l.length ≤ 1000000) :
    Calls Tryz.prog 241 #[.slice (some ⟨g, 0, none⟩) l.length c, .string s] w (With21P l.length w) := by
  obtain ⟨i0, hi, hz0, hz1, hz2⟩ := info_parts Tryz.infoString
  have hsl := (VarsAt.sls hs).1
  have hc1 := hsl.1
  have hc2 := hsl.2.1
  unfold maxLen at hc2
  have HS := Lib.hid (And.intro hs hsl)
  clear hs
  obtain ⟨n, HN⟩ : ∃ n, Hid (l.length = n) := ⟨_, Lib.hid rfl⟩
  rw [HN.out] at hc1 hl ⊢
  have HK : Hid (∀ X, Below w.heap.size w X → SlS X X.heap.size (some ⟨g, 0, none⟩) c l) := fun X hX => hsl.keep hX.size fun p hp => hX.cell hp
  have HW := Lib.hid (World.ownsRow_lit (base := w.heap.size) (e := 9) (size := 1) w #[] 0 (Nat.le_refl _) (by simp) rfl)
  have HB0 := Lib.hid ((Below.refl w.heap.size w).alloc (Nat.le_refl _) (.cells #[] 9))
  clear hsl
  go_enter Tryz.func241, Tryz.ntmps241
  go_wp2
  go_loop [5] (fun ct => ∃ j : Nat, j ≤ n ∧ ct = .int .i64 j) (fun ct => n - (intOf ct).toNat)
  case atStart => exact ⟨0, by omega, rfl⟩
  case round =>
    obtain ⟨j, hj, rfl⟩ := hrel
    by_cases hlt : j < n
    · have hjl : j < l.length := by rw [HN.out]; exact hlt
      obtain ⟨b, o, hA, hb, hcell⟩ := HS.out.2.at_ hjl
      simp only [Option.some.injEq, Addr.mk.injEq, and_true] at hA
      obtain ⟨rfl, rfl⟩ := hA
      rw [Nat.zero_add] at hcell
      generalize l[j] = v at hcell
      cases hv : Op.bytesLess v.toList s.toList
      · cases hv2 : v.toList == s.toList
        · have HL1 := Lib.hid (show ((l.take j).map Value.string).length = j * 1 by simp; omega)
          have HL3 := Lib.hid (show ((l.drop j).map Value.string).length = (n - j) * 1 by simp; have := HN.out; omega)
          have hjc : j < c := by omega
          have HT := Lib.hid (((HK.out _ HB0.out).take j).news)
          clear hjl
          go_wp2_with (first
            | (at_builtin; refine wpList_append_own_any _ rfl (.tmp 34) (.tmp 37) 22 rfl w.heap.size 9 i0 _ 1 16 Tryz.underlying22 hi hz0 hz1 hz2 rfl (by decide) _ 0 [] rfl HW.out _ j _ ((l.take j).map Value.string) rfl HL1.out (fun h => by cases h) HT.out.2 (strs_one _) (by unfold maxLen; omega) (by omega) (by simp) ?_; intro v1 w1 hown1 hg1; have hb1 := HB0.out.grown hg1 (by simp) (fun q hq => (HW.out.lt q hq).1); have hz1' := hb1.size)
            | (at_builtin; refine wpList_append_own _ rfl (.tmp 38) (.tmp 40) 22 rfl w.heap.size 9 i0 _ 1 16 Tryz.underlying22 hi hz0 hz1 hz2 rfl (by decide) v1 _ _ rfl (hown1.alloc _) ⟨w1.heap.size, 0, none⟩ 1 1 [.string s] rfl rfl (cell_one_new _ _ _) (strs_one [s]) (by unfold maxLen; omega) (by omega) (by simp; omega) ?_; intro v2 w2 hown2 hg2 _; have hb2 := (hb1.alloc hz1' (.cells #[.string s] 9)).grown hg2 (by simp; omega) (fun q hq => (hown1.lt q hq).1); have hz2' := hb2.size)
            | (at_builtin; refine wpList_append_own_any _ rfl (.tmp 42) (.tmp 45) 22 rfl w.heap.size 9 i0 _ 1 16 Tryz.underlying22 hi hz0 hz1 hz2 rfl (by decide) v2 _ _ rfl hown2 _ (n - j) _ ((l.drop j).map Value.string) rfl HL3.out (fun h => by cases h) ((HK.out _ hb2).drop j hjc).news.2 (strs_one _) (by unfold maxLen; omega) (by omega) (by omega) ?_; intro v3 w3 hown3 hg3; have hb3 := hb2.grown hg3 hz2' (fun q hq => (hown2.lt q hq).1)))
          go_ret
          have hf : w3.ownsRow w.heap.size 9 1 v3 (l.take j ++ s :: l.drop j).length ((l.take j ++ s :: l.drop j).map .string) := by
            have e1 : (l.take j ++ s :: l.drop j).length = 0 + j + 1 + (n - j) := by have := HN.out; simp; omega
            rw [e1]
            simpa using hown3
          obtain ⟨g', c', rfl, ho⟩ := OwnS.of hf (by simp)
          exact ⟨g', c', _, rfl, ho, by simp, by have := HN.out; simp; omega, hb3⟩
        · have hne : l ≠ [] := by intro e; subst e; simp at hjl
          have HF := Lib.hid (And.intro HS.out.1 hne)
          clear hne
          go_wp2
          go_ret
          exact ⟨g, c, l, by rw [HN.out]; rfl, HF.out.1, HF.out.2, by rw [HN.out]; omega, Below.refl _ _⟩
      · go_wp2
        go_round
        case measure => simp [intOf]; omega
        case rel => exact ⟨j + 1, by omega, by go_num⟩
    · obtain rfl : j = n := by omega
      have HL1 := Lib.hid (show ((l.take j).map Value.string).length = j * 1 by have := HN.out; simp; omega)
      have HT := Lib.hid (((HK.out _ HB0.out).take j).news)
      by_cases hcn : c = j
      · subst hcn
        rcases Nat.eq_zero_or_pos c with h0 | h0
        · subst h0
          go_wp2_with (first
              | (at_builtin; refine wpList_append_own_any _ rfl (.tmp 34) (.tmp 37) 22 rfl w.heap.size 9 i0 _ 1 16 Tryz.underlying22 hi hz0 hz1 hz2 rfl (by decide) _ 0 [] rfl HW.out _ 0 _ ((l.take 0).map Value.string) rfl HL1.out (fun h => by cases h) HT.out.2 (strs_one _) (by unfold maxLen; omega) (by omega) (by simp) ?_; intro v1 w1 hown1 hg1; have hb1 := HB0.out.grown hg1 (by simp) (fun q hq => (HW.out.lt q hq).1); have hz1' := hb1.size)
              | (at_builtin; refine wpList_append_own _ rfl (.tmp 38) (.tmp 40) 22 rfl w.heap.size 9 i0 _ 1 16 Tryz.underlying22 hi hz0 hz1 hz2 rfl (by decide) v1 _ _ rfl (hown1.alloc _) ⟨w1.heap.size, 0, none⟩ 1 1 [.string s] rfl rfl (cell_one_new _ _ _) (strs_one [s]) (by unfold maxLen; omega) (by omega) (by simp; omega) ?_; intro v2 w2 hown2 hg2 _; have hb2 := (hb1.alloc hz1' (.cells #[.string s] 9)).grown hg2 (by simp; omega) (fun q hq => (hown1.lt q hq).1); have hz2' := hb2.size)
              | (at_builtin; refine wpList_append_own_any _ rfl (.tmp 42) (.tmp 45) 22 rfl w.heap.size 9 i0 _ 1 16 Tryz.underlying22 hi hz0 hz1 hz2 rfl (by decide) v2 _ _ rfl hown2 _ _ _ [] rfl (by simp) (fun h => by cases h) (fun _ _ q u hu => by simp at hu) (fun u hu => by simp at hu) (by unfold maxLen; omega) (by omega) (by omega) ?_; intro v3 w3 hown3 hg3; have hb3 := hb2.grown hg3 hz2' (fun q hq => (hown2.lt q hq).1)))
          go_ret
          have hf : w3.ownsRow w.heap.size 9 1 v3 (l ++ [s]).length ((l ++ [s]).map .string) := by
            have e1 : (l ++ [s]).length = 0 + 0 + 1 + 0 := by have := HN.out; rw [List.length_append, this]; rfl
            have e2 : l.take 0 = l := List.take_of_length_le (by have := HN.out; omega)
            rw [e1]
            rw [e2] at hown3
            simpa using hown3
          obtain ⟨g', c', rfl, ho⟩ := OwnS.of hf (by simp)
          exact ⟨g', c', _, rfl, ho, by simp, by rw [List.length_append, HN.out]; exact Nat.le_refl _, hb3⟩
        · skip
          go_wp2_with (first
              | (at_builtin; refine wpList_append_own_any _ rfl (.tmp 34) (.tmp 37) 22 rfl w.heap.size 9 i0 _ 1 16 Tryz.underlying22 hi hz0 hz1 hz2 rfl (by decide) _ 0 [] rfl HW.out _ c _ ((l.take c).map Value.string) rfl HL1.out (fun h => by cases h) HT.out.2 (strs_one _) (by unfold maxLen; omega) (by omega) (by simp) ?_; intro v1 w1 hown1 hg1; have hb1 := HB0.out.grown hg1 (by simp) (fun q hq => (HW.out.lt q hq).1); have hz1' := hb1.size)
              | (at_builtin; refine wpList_append_own _ rfl (.tmp 38) (.tmp 40) 22 rfl w.heap.size 9 i0 _ 1 16 Tryz.underlying22 hi hz0 hz1 hz2 rfl (by decide) v1 _ _ rfl (hown1.alloc _) ⟨w1.heap.size, 0, none⟩ 1 1 [.string s] rfl rfl (cell_one_new _ _ _) (strs_one [s]) (by unfold maxLen; omega) (by omega) (by simp; omega) ?_; intro v2 w2 hown2 hg2 _; have hb2 := (hb1.alloc hz1' (.cells #[.string s] 9)).grown hg2 (by simp; omega) (fun q hq => (hown1.lt q hq).1); have hz2' := hb2.size)
              | (at_builtin; refine wpList_append_own_any _ rfl (.tmp 42) (.tmp 45) 22 rfl w.heap.size 9 i0 _ 1 16 Tryz.underlying22 hi hz0 hz1 hz2 rfl (by decide) v2 _ _ rfl hown2 _ _ _ [] rfl (by simp) (fun h => by cases h) (fun _ _ q u hu => by simp at hu) (fun u hu => by simp at hu) (by unfold maxLen; omega) (by omega) (by omega) ?_; intro v3 w3 hown3 hg3; have hb3 := hb2.grown hg3 hz2' (fun q hq => (hown2.lt q hq).1)))
          go_ret
          have hf : w3.ownsRow w.heap.size 9 1 v3 (l ++ [s]).length ((l ++ [s]).map .string) := by
            have e1 : (l ++ [s]).length = 0 + c + 1 + (c - c) := by have := HN.out; simp; omega
            have e2 : l.take c = l := List.take_of_length_le (by have := HN.out; omega)
            rw [e1]
            rw [e2] at hown3
            simpa using hown3
          obtain ⟨g', c', rfl, ho⟩ := OwnS.of hf (by simp)
          exact ⟨g', c', _, rfl, ho, by simp, by rw [List.length_append, HN.out]; exact Nat.le_refl _, hb3⟩
      · have hcn' : j < c := by omega
        clear hcn
        go_wp2_with (first
            | (at_builtin; refine wpList_append_own_any _ rfl (.tmp 34) (.tmp 37) 22 rfl w.heap.size 9 i0 _ 1 16 Tryz.underlying22 hi hz0 hz1 hz2 rfl (by decide) _ 0 [] rfl HW.out _ j _ ((l.take j).map Value.string) rfl HL1.out (fun h => by cases h) HT.out.2 (strs_one _) (by unfold maxLen; omega) (by omega) (by simp) ?_; intro v1 w1 hown1 hg1; have hb1 := HB0.out.grown hg1 (by simp) (fun q hq => (HW.out.lt q hq).1); have hz1' := hb1.size)
            | (at_builtin; refine wpList_append_own _ rfl (.tmp 38) (.tmp 40) 22 rfl w.heap.size 9 i0 _ 1 16 Tryz.underlying22 hi hz0 hz1 hz2 rfl (by decide) v1 _ _ rfl (hown1.alloc _) ⟨w1.heap.size, 0, none⟩ 1 1 [.string s] rfl rfl (cell_one_new _ _ _) (strs_one [s]) (by unfold maxLen; omega) (by omega) (by simp; omega) ?_; intro v2 w2 hown2 hg2 _; have hb2 := (hb1.alloc hz1' (.cells #[.string s] 9)).grown hg2 (by simp; omega) (fun q hq => (hown1.lt q hq).1); have hz2' := hb2.size)
            | (at_builtin; refine wpList_append_own_any _ rfl (.tmp 42) (.tmp 45) 22 rfl w.heap.size 9 i0 _ 1 16 Tryz.underlying22 hi hz0 hz1 hz2 rfl (by decide) v2 _ _ rfl hown2 _ _ _ [] rfl (by simp) (fun h => by cases h) (fun _ _ q u hu => by simp at hu) (fun u hu => by simp at hu) (by unfold maxLen; omega) (by omega) (by omega) ?_; intro v3 w3 hown3 hg3; have hb3 := hb2.grown hg3 hz2' (fun q hq => (hown2.lt q hq).1)))
        go_ret
        have hf : w3.ownsRow w.heap.size 9 1 v3 (l ++ [s]).length ((l ++ [s]).map .string) := by
          have e1 : (l ++ [s]).length = 0 + j + 1 + (j - j) := by have := HN.out; simp; omega
          have e2 : l.take j = l := List.take_of_length_le (by have := HN.out; omega)
          rw [e1]
          rw [e2] at hown3
          simpa using hown3
        obtain ⟨g', c', rfl, ho⟩ := OwnS.of hf (by simp)
        exact ⟨g', c', _, rfl, ho, by simp, by rw [List.length_append, HN.out]; exact Nat.le_refl _, hb3⟩
end Go.Proofs.YtlcfoiapkblheaaGreatDoor
