/- slices.BinarySearchFunc at names by testselect.compareNames -/
import Derived.Test.YtdobpmbgngomlaaGreatDoorZna
import Derived.Test.YtdobpmbgngomlaaGreatDoorDcs
import Derived.Deep.RegionHeld3
import Derived.Deep.QuietTactic
import Derived.BigQuiet
import Derived.Test.YtdobpmbgngomlaaGreatDoorZlz
import Derived.Test.YtdobpmbgngomlaaGreatDoorZmd
namespace Go.Proofs.YtdobpmbgngomlaaGreatDoor
open Go.RowKit Go.Proofs Go.Shelf

theorem below_grow (w : World) (q : Nat) (os : Array Obj) : Below w.heap.size w (Sort.grow (w.drewN q) os) :=
  ⟨rfl, rfl, rfl, by simp [Sort.grow], fun k hk => Sort.heap_grow_old _ _ (by simpa using hk)⟩
theorem tsCmpB (x y : ByteArray × Int) (w : World) : Calls Tryz.prog 52 #[.agg #[.string x.1, .int .i64 x.2], .agg #[.string y.1, .int .i64 y.2]] w fun e w' => e = .returned (.int .i64 (cmpN x.1 x.2 y.1 y.2)) ∧ Below w.heap.size w w' :=
  (tsCmp_any x.1 y.1 x.2 y.2 w).mono fun _ _ ⟨h1, q, os, h2⟩ => ⟨h1, by rw [h2]; exact below_grow w q os⟩
theorem bytesLess_irrefl (a : ByteArray) : Op.bytesLess a.toList a.toList = false := by
  cases hb : Op.bytesLess a.toList a.toList with
  | false => rfl
  | true => exact absurd ((lessN_iff (a, 0) (a, 0)).1 (by unfold lessN; simp [hb])) (ltN_irrefl _)
theorem cmpZ_zero (i j : Int) : cmpZ i j = 0 ↔ i = j := by
  unfold cmpZ
  by_cases h1 : i < j
  · rw [if_pos h1]; exact ⟨fun h => by omega, fun h => by omega⟩
  · rw [if_neg h1]
    by_cases h2 : j < i
    · rw [if_pos h2]; exact ⟨fun h => by omega, fun h => by omega⟩
    · rw [if_neg h2]; exact ⟨fun _ => by omega, fun _ => rfl⟩
theorem cmpN_zero (x y : ByteArray × Int) : cmpN x.1 x.2 y.1 y.2 = 0 ↔ x = y := by
  unfold cmpN orZ cmpB
  by_cases h1 : Op.bytesLess x.1.toList y.1.toList = true
  · rw [if_pos h1, if_neg (by omega)]
    refine ⟨fun h => by omega, fun e => ?_⟩
    subst e
    rw [bytesLess_irrefl] at h1
    cases h1
  · rw [if_neg h1]
    by_cases h2 : (x.1.toList == y.1.toList) = true
    · rw [if_pos h2, if_pos rfl, cmpZ_zero]
      have e : x.1 = y.1 := by
        have h3 : x.1.toList = y.1.toList := by simpa using h2
        rw [ByteArray.toList_eq, ByteArray.toList_eq] at h3
        exact ByteArray.ext (Array.ext' h3)
      exact ⟨fun h => Prod.ext e h, fun h => by rw [h]⟩
    · rw [if_neg h2, if_neg (by omega)]
      refine ⟨fun h => by omega, fun e => ?_⟩
      subst e
      exact absurd (by simp) h2
/-- What the search has found: everything ahead of i comes before t, nothing from j on does. -/
def SrI (L : List (ByteArray × Int)) (t : ByteArray × Int) (i j : Nat) : Prop := (∀ k x, k < i → L[k]? = some x → ltN x t) ∧ ∀ k x, j ≤ k → L[k]? = some x → ¬ ltN x t
theorem SrI.up {L : List (ByteArray × Int)} {t : ByteArray × Int} {i j m : Nat} {y : ByteArray × Int} (h : SrI L t i j) (hs : L.Pairwise ltN) (hy : L[m]? = some y) (hl : ltN y t) : SrI L t (m + 1) j := by
  refine ⟨fun k x hk hx => ?_, h.2⟩
  by_cases e : k = m
  · subst e; rw [hx] at hy; cases hy; exact hl
  · obtain ⟨h1, rfl⟩ := List.getElem?_eq_some_iff.1 hx
    obtain ⟨h2, rfl⟩ := List.getElem?_eq_some_iff.1 hy
    exact ltN_trans (List.pairwise_iff_getElem.1 hs k m h1 h2 (by omega)) hl
theorem SrI.down {L : List (ByteArray × Int)} {t : ByteArray × Int} {i j m : Nat} {y : ByteArray × Int} (h : SrI L t i j) (hs : L.Pairwise ltN) (hy : L[m]? = some y) (hl : ¬ ltN y t) : SrI L t i m := by
  refine ⟨h.1, fun k x hk hx hc => ?_⟩
  by_cases e : k = m
  · subst e; rw [hx] at hy; cases hy; exact hl hc
  · obtain ⟨h1, rfl⟩ := List.getElem?_eq_some_iff.1 hx
    obtain ⟨h2, rfl⟩ := List.getElem?_eq_some_iff.1 hy
    exact hl (ltN_trans (List.pairwise_iff_getElem.1 hs m k h2 h1 (by omega)) hc)
theorem SrI.found {L : List (ByteArray × Int)} {t : ByteArray × Int} {i : Nat} {y : ByteArray × Int} (h : SrI L t i i) (hs : L.Pairwise ltN) (hy : L[i]? = some y) : memN L t = decide (y = t) := by
  rw [Bool.eq_iff_iff, memN_iff, decide_eq_true_iff]
  refine ⟨fun hm => ?_, fun e => by subst e; exact List.mem_of_getElem? hy⟩
  obtain ⟨k, hk⟩ := List.getElem?_of_mem hm
  have hki : i ≤ k := by
    by_cases hlt : k < i
    · exact absurd (h.1 k t hlt hk) (ltN_irrefl _)
    · omega
  by_cases e : k = i
  · subst e; rw [hk] at hy; cases hy; rfl
  · obtain ⟨h1, rfl⟩ := List.getElem?_eq_some_iff.1 hk
    obtain ⟨h2, rfl⟩ := List.getElem?_eq_some_iff.1 hy
    exact absurd (List.pairwise_iff_getElem.1 hs i k h2 h1 (by omega)) (h.2 i _ (Nat.le_refl _) hy)
theorem SrI.none {L : List (ByteArray × Int)} {t : ByteArray × Int} {i : Nat} (h : SrI L t i i) (hi : L.length ≤ i) : memN L t = false := by
  cases hm : memN L t with
  | false => rfl
  | true =>
    obtain ⟨k, hk⟩ := List.getElem?_of_mem (memN_iff.1 hm)
    have := (List.getElem?_eq_some_iff.1 hk).1
    exact absurd (h.1 k t (by omega) hk) (ltN_irrefl _)
set_option maxRecDepth 100000 in
set_option maxHeartbeats 2000000 in
theorem slcSearchN_any (L : List (ByteArray × Int)) (t : ByteArray × Int) (A : Option Addr) (c base : Nat) (w : World) (h : w.ownsRow base 24 2 (.slice A L.length c) L.length (namesC L)) (hs : L.Pairwise ltN) (hl : L.length ≤ 1000000) :
    Calls Tryz.prog 55 #[.slice A L.length c, .agg #[.string t.1, .int .i64 t.2], .func (.func 52) #[] #[]] w fun e w' => (∃ i, e = .returned (.tuple #[.int .i64 i, .bool (memN L t)])) ∧ Below w.heap.size w w' := by
  obtain ⟨W0, hW0⟩ : ∃ W0, w.alloc (.cells #[.string t.1, .int .i64 t.2] 24) = W0 := ⟨_, rfl⟩
  have hz0 : w.heap.size < W0.heap.size := by subst hW0; simp
  have hB0 : Below w.heap.size w W0 := by subst hW0; exact (Below.refl _ _).alloc (Nat.le_refl _) _
  have n0 : W0.cell? ⟨w.heap.size, 0, none⟩ = some (.string t.1) := by subst hW0; go_simp
  have n1 : W0.cell? ⟨w.heap.size, 1, none⟩ = some (.int .i64 t.2) := by subst hW0; go_simp
  obtain ⟨N, HN⟩ : ∃ Q, Hid (L.length = Q) := ⟨_, Lib.hid rfl⟩
  obtain ⟨Z, HZ⟩ : ∃ Q, Hid (memN L t = Q) := ⟨_, Lib.hid rfl⟩
  have hr0 : W0.ownsRow base 24 2 (.slice A L.length c) L.length (namesC L) := by rw [← hW0]; exact h.alloc _
  have HK := Lib.hid (show ∀ X : World, Below W0.heap.size W0 X → X.cell? ⟨w.heap.size, 0, none⟩ = some (.string t.1) ∧ X.cell? ⟨w.heap.size, 1, none⟩ = some (.int .i64 t.2) ∧ X.ownsRow base 24 2 (.slice A L.length c) L.length (namesC L) from fun X hX =>
    ⟨(hX.cell (p := ⟨w.heap.size, 0, none⟩) hz0).trans n0, (hX.cell (p := ⟨w.heap.size, 1, none⟩) hz0).trans n1, own_of_blocks' hr0 fun k hk => hX.block k hk⟩)
  have HL := Lib.hid (And.intro hs (And.intro hl hB0))
  rw [HN.out] at hl
  rw [HN.out, HZ.out]
  rw [HN.out] at HK
  clear h hs hB0 n0 n1 hr0
  have eg := enterFn (fid := 52) rfl rfl rfl
  go_enter Tryz.func55, Tryz.ntmps55
  go_wp2
  go_loopg [9, 10] N (fun g iv jv wr => ∃ i j : Nat, iv = .int .i64 i ∧ jv = .int .i64 j ∧ i ≤ j ∧ j ≤ N ∧ j - i ≤ g ∧ SrI L t i j ∧ Below W0.heap.size W0 wr)
  case atStart => exact ⟨0, N, rfl, rfl, Nat.zero_le _, Nat.le_refl _, by omega, ⟨fun k x hk => absurd hk (Nat.not_lt_zero _), fun k x hk hx => by have := (List.getElem?_eq_some_iff.1 hx).1; rw [HN.out] at this; omega⟩, Below.refl _ _⟩
  case round =>
    obtain ⟨i, j, rfl, rfl, hij, hjN, hg, hI, hB⟩ := hrel
    obtain ⟨k0, k1, hrow⟩ := HK.out wr hB
    have hzr := hB.size
    by_cases hlt : i < j
    · have hm : (i + j) / 2 < L.length := by rw [HN.out]; omega
      obtain ⟨y, hy⟩ : ∃ y, L[(i + j) / 2]? = some y := ⟨_, List.getElem?_eq_getElem hm⟩
      obtain ⟨m, hme⟩ : ∃ m, (i + j) / 2 = m := ⟨_, rfl⟩
      have hmi : ((i : Int) + (j : Int)) / 2 = (m : Int) := by omega
      have x1 : (0 : Int) ≤ (m : Int) := by omega
      have x2 : (m : Int) < (N : Int) := by omega
      have hmb : i ≤ m ∧ m < j := by omega
      rw [hme] at hy hm
      clear hme
      obtain ⟨gr, ucap, hform, hc1, hc2⟩ := own_pos2 hrow (by omega)
      simp only [Value.slice.injEq, true_and] at hform
      obtain ⟨rfl, rfl⟩ := hform
      obtain ⟨y0, y1⟩ := namesC_at _ L (m) hy
      have c0 : wr.cell? ⟨gr, m * 2, none⟩ = some (.string y.1) := (hrow.cellAt _ (by omega)).trans y0
      have c1 : wr.cell? ⟨gr, m * 2 + 1, none⟩ = some (.int .i64 y.2) := (hrow.cellAt _ (by omega)).trans y1
      have hgl := (hrow.lt gr rfl).2
      obtain ⟨q, Hq⟩ : ∃ Q, Hid (cmpN y.1 y.2 t.1 t.2 = Q) := ⟨_, Lib.hid rfl⟩
      have HC := Lib.hid (show ∀ X : World, Calls Tryz.prog 52 #[.agg #[.string y.1, .int .i64 y.2], .agg #[.string t.1, .int .i64 t.2]] X (fun e w' => e = .returned (.int .i64 q) ∧ Below X.heap.size X w') from fun X => by
        have := tsCmpB y t X
        rwa [Hq.out] at this)
      have HS := Lib.hid (show ∀ X : World, Below wr.heap.size wr X → (X.cell? ⟨gr, m * 2, none⟩ = some (.string y.1) ∧ X.cell? ⟨gr, m * 2 + 1, none⟩ = some (.int .i64 y.2) ∧ X.cell? ⟨w.heap.size, 0, none⟩ = some (.string t.1) ∧ X.cell? ⟨w.heap.size, 1, none⟩ = some (.int .i64 t.2)) from fun X hX =>
        ⟨(hX.cell (p := ⟨gr, m * 2, none⟩) hgl).trans c0, (hX.cell (p := ⟨gr, m * 2 + 1, none⟩) hgl).trans c1, (hX.cell (p := ⟨w.heap.size, 0, none⟩) (Nat.lt_of_lt_of_le hz0 hzr)).trans k0, (hX.cell (p := ⟨w.heap.size, 1, none⟩) (Nat.lt_of_lt_of_le hz0 hzr)).trans k1⟩)
      have HS0 := Lib.hid (HS.out wr.drew (below_drew' (Below.refl _ _)))
      have HT := Lib.hid (And.intro hI (And.intro hB (And.intro hy hzr)))
      clear hI hB hy y0 y1 hrow hgl hzr hm c0 c1 k0 k1
      by_cases hqn : q < 0
      · have HQ := Lib.hid (show ltN y t from (cmpN_lt y t).1 (by rw [Hq.out]; exact hqn))
        go_wp2_with fail
        go_region_held3 (fun W => W.cell? ⟨gr, m * 2, none⟩ = some (.string y.1) ∧ W.cell? ⟨gr, m * 2 + 1, none⟩ = some (.int .i64 y.2) ∧ W.cell? ⟨w.heap.size, 0, none⟩ = some (.string t.1) ∧ W.cell? ⟨w.heap.size, 1, none⟩ = some (.int .i64 t.2))
          (first | exact HS0.out | exact HS1.out)
          (first | (go_at_call 52; refine (HC.out _).mono ?_; rintro e w2 ⟨rfl, hb2⟩; have HS1 := Lib.hid (HS.out w2 (below_drew' (Below.refl _ _) |>.trans hb2)); have HB2 := Lib.hid hb2; clear hb2))
        go_wp2
        go_roundg (j - (m + 1))
        case measure => omega
        case rel => exact ⟨m + 1, j, by go_num, rfl, by omega, hjN, Nat.le_refl _, HT.out.1.up HL.out.1 HT.out.2.2.1 HQ.out, (below_drew' HT.out.2.1).trans (HB2.out.mono HT.out.2.2.2)⟩
      · have HQ := Lib.hid (show ¬ ltN y t from fun hc => hqn (by rw [← Hq.out]; exact (cmpN_lt y t).2 hc))
        go_wp2_with fail
        go_region_held3 (fun W => W.cell? ⟨gr, m * 2, none⟩ = some (.string y.1) ∧ W.cell? ⟨gr, m * 2 + 1, none⟩ = some (.int .i64 y.2) ∧ W.cell? ⟨w.heap.size, 0, none⟩ = some (.string t.1) ∧ W.cell? ⟨w.heap.size, 1, none⟩ = some (.int .i64 t.2))
          (first | exact HS0.out | exact HS1.out)
          (first | (go_at_call 52; refine (HC.out _).mono ?_; rintro e w2 ⟨rfl, hb2⟩; have HS1 := Lib.hid (HS.out w2 (below_drew' (Below.refl _ _) |>.trans hb2)); have HB2 := Lib.hid hb2; clear hb2))
        go_wp2
        go_roundg (m - i)
        case measure => omega
        case rel => exact ⟨i, m, rfl, rfl, by omega, by omega, Nat.le_refl _, HT.out.1.down HL.out.1 HT.out.2.2.1 HQ.out, (below_drew' HT.out.2.1).trans (HB2.out.mono HT.out.2.2.2)⟩
    · obtain rfl : j = i := by omega
      have HB := Lib.hid (And.intro hB hzr)
      by_cases hin : j < N
      · have hm : j < L.length := by rw [HN.out]; exact hin
        obtain ⟨y, hy⟩ : ∃ y, L[j]? = some y := ⟨_, List.getElem?_eq_getElem hm⟩
        obtain ⟨gr, ucap, hform, hc1, hc2⟩ := own_pos2 hrow (by omega)
        simp only [Value.slice.injEq, true_and] at hform
        obtain ⟨rfl, rfl⟩ := hform
        obtain ⟨y0, y1⟩ := namesC_at _ L j hy
        have c0 : wr.cell? ⟨gr, j * 2, none⟩ = some (.string y.1) := (hrow.cellAt _ (by omega)).trans y0
        have c1 : wr.cell? ⟨gr, j * 2 + 1, none⟩ = some (.int .i64 y.2) := (hrow.cellAt _ (by omega)).trans y1
        have hgl := (hrow.lt gr rfl).2
        have x1 : (0 : Int) ≤ (j : Int) := by omega
        have x2 : (j : Int) < (N : Int) := by omega
        have hd : decide ((j : Int) < (N : Int)) = true := decide_eq_true x2
        have hd2 : decide (j < N) = true := decide_eq_true hin
        obtain ⟨q, Hq⟩ : ∃ Q, Hid (cmpN y.1 y.2 t.1 t.2 = Q) := ⟨_, Lib.hid rfl⟩
        have HC := Lib.hid (show ∀ X : World, Calls Tryz.prog 52 #[.agg #[.string y.1, .int .i64 y.2], .agg #[.string t.1, .int .i64 t.2]] X (fun e w' => e = .returned (.int .i64 q) ∧ Below X.heap.size X w') from fun X => by
          have := tsCmpB y t X
          rwa [Hq.out] at this)
        have HS := Lib.hid (show ∀ X : World, Below wr.heap.size wr X → (X.cell? ⟨gr, j * 2, none⟩ = some (.string y.1) ∧ X.cell? ⟨gr, j * 2 + 1, none⟩ = some (.int .i64 y.2) ∧ X.cell? ⟨w.heap.size, 0, none⟩ = some (.string t.1) ∧ X.cell? ⟨w.heap.size, 1, none⟩ = some (.int .i64 t.2)) from fun X hX =>
          ⟨(hX.cell (p := ⟨gr, j * 2, none⟩) hgl).trans c0, (hX.cell (p := ⟨gr, j * 2 + 1, none⟩) hgl).trans c1, (hX.cell (p := ⟨w.heap.size, 0, none⟩) (Nat.lt_of_lt_of_le hz0 hzr)).trans k0, (hX.cell (p := ⟨w.heap.size, 1, none⟩) (Nat.lt_of_lt_of_le hz0 hzr)).trans k1⟩)
        have HS0 := Lib.hid (HS.out wr.drew (below_drew' (Below.refl _ _)))
        have HO := Lib.hid (show Z = decide (q = 0) by
          rw [← HZ.out, ← Hq.out, hI.found HL.out.1 hy]
          exact decide_eq_decide.2 (cmpN_zero y t).symm)
        clear hI hB hy y0 y1 hrow hgl hzr hm c0 c1 k0 k1
        by_cases hq0 : q = 0
        · have hq1 : (q == 0) = true := by simpa using hq0
          have HO2 := Lib.hid (show Z = true by rw [HO.out]; exact decide_eq_true hq0)
          go_wp2_with fail
          go_region_held3 (fun W => W.cell? ⟨gr, j * 2, none⟩ = some (.string y.1) ∧ W.cell? ⟨gr, j * 2 + 1, none⟩ = some (.int .i64 y.2) ∧ W.cell? ⟨w.heap.size, 0, none⟩ = some (.string t.1) ∧ W.cell? ⟨w.heap.size, 1, none⟩ = some (.int .i64 t.2))
            (first | exact HS0.out | exact HS1.out)
            (first | (go_at_call 52; refine (HC.out _).mono ?_; rintro e w2 ⟨rfl, hb2⟩; have HS1 := Lib.hid (HS.out w2 (below_drew' (Below.refl _ _) |>.trans hb2)); have HB2 := Lib.hid hb2; clear hb2))
          go_wp2
          go_ret2
          exact ⟨⟨j, by rw [HO2.out]; rfl⟩, HL.out.2.2.trans (((below_drew' HB.out.1).trans (HB2.out.mono HB.out.2)).mono (Nat.le_of_lt hz0))⟩
        · have hq1 : (q == 0) = false := by simpa using hq0
          have HO2 := Lib.hid (show Z = false by rw [HO.out]; exact decide_eq_false hq0)
          go_wp2_with fail
          go_region_held3 (fun W => W.cell? ⟨gr, j * 2, none⟩ = some (.string y.1) ∧ W.cell? ⟨gr, j * 2 + 1, none⟩ = some (.int .i64 y.2) ∧ W.cell? ⟨w.heap.size, 0, none⟩ = some (.string t.1) ∧ W.cell? ⟨w.heap.size, 1, none⟩ = some (.int .i64 t.2))
            (first | exact HS0.out | exact HS1.out)
            (first | (go_at_call 52; refine (HC.out _).mono ?_; rintro e w2 ⟨rfl, hb2⟩; have HS1 := Lib.hid (HS.out w2 (below_drew' (Below.refl _ _) |>.trans hb2)); have HB2 := Lib.hid hb2; clear hb2))
          go_wp2
          go_ret2
          exact ⟨⟨j, by rw [HO2.out]; rfl⟩, HL.out.2.2.trans (((below_drew' HB.out.1).trans (HB2.out.mono HB.out.2)).mono (Nat.le_of_lt hz0))⟩
      · have HO := Lib.hid (show Z = false by rw [← HZ.out]; exact hI.none (by rw [HN.out]; omega))
        have hd : decide ((j : Int) < (N : Int)) = false := decide_eq_false (by omega)
        have hd2 : decide (j < N) = false := decide_eq_false hin
        clear hI hB hrow hzr k0 k1
        go_wp2
        go_quiet (fail)
        go_wp2
        go_ret2
        exact ⟨⟨j, by rw [HO.out]; rfl⟩, HL.out.2.2.trans ((below_drewN HB.out.1 _).mono (Nat.le_of_lt hz0))⟩
end Go.Proofs.YtdobpmbgngomlaaGreatDoor
/- testselect.Certify -/
namespace Go.Proofs.YtdobpmbgngomlaaGreatDoor
open Go.RowKit Go.Proofs Go.Shelf

/-- What a certificate is: an error, or the closure of a test. -/
def CertV (l : List Mo) (n : ByteArray × Int) (er : Int) (r : Option (List (ByteArray × Int))) : Prop :=
  (loadE l n ≠ 0 ∧ er = loadE l n ∧ r = none) ∨ (loadE l n = 0 ∧ Clo (grf l) n none ∧ er = 21 ∧ r = none) ∨
  (loadE l n = 0 ∧ ∃ L, Clo (grf l) n (some L) ∧ isT l n = false ∧ er = 9 ∧ r = none) ∨ (loadE l n = 0 ∧ ∃ L, Clo (grf l) n (some L) ∧ isT l n = true ∧ er = 0 ∧ r = some L)
theorem CertV.unique {l : List Mo} {n : ByteArray × Int} {er er' : Int} {r r' : Option (List (ByteArray × Int))} (h : CertV l n er r) (k : CertV l n er' r') : er = er' ∧ r = r' := by
  rcases h with ⟨h1, rfl, rfl⟩ | ⟨h1, h2, rfl, rfl⟩ | ⟨h1, L, h2, h3, rfl, rfl⟩ | ⟨h1, L, h2, h3, rfl, rfl⟩ <;> rcases k with ⟨k1, rfl, rfl⟩ | ⟨k1, k2, rfl, rfl⟩ | ⟨k1, L', k2, k3, rfl, rfl⟩ | ⟨k1, L', k2, k3, rfl, rfl⟩ <;>
    first
      | exact ⟨rfl, rfl⟩
      | exact absurd k1 h1
      | exact absurd h1 k1
      | (exfalso; have := h2.unique k2; cases this; done)
      | (exfalso; rw [h3] at k3; cases k3; done)
      | (have := h2.unique k2; cases this; exact ⟨rfl, rfl⟩)
def certT (l : List Mo) (n : ByteArray × Int) (L : List (ByteArray × Int)) : ByteArray := ⟨(keyL l n L).toArray⟩
def zeroC : Value := .agg #[.string ⟨#[]⟩, .int .i64 0, .slice none 0 0, .string ⟨#[]⟩]
/-- What Certify hands back. -/
def CertP (l : List Mo) (n : ByteArray × Int) (w : World) (e : Ending) (w' : World) : Prop :=
  Below w.heap.size w w' ∧ ((∃ er, er ≠ 0 ∧ CertV l n er none ∧ e = .returned (.tuple #[zeroC, .int .i64 er])) ∨
    ∃ L A c, CertV l n 0 (some L) ∧ e = .returned (.tuple #[.agg #[.string n.1, .int .i64 n.2, .slice A (List.length L) c, .string (certT l n L)], .int .i64 0]) ∧ w'.ownsRow w.heap.size 24 2 (.slice A L.length c) L.length (namesC L) ∧ L.length ≤ 400000)
theorem below_set4 {B b : Nat} {w W : World} (h : Below B w W) (hb : B ≤ b) {v0 v1 v2 v3 : Value} : Below B w ((((W.setCell ⟨b, 0, none⟩ v0).setCell ⟨b, 1, none⟩ v1).setCell ⟨b, 2, none⟩ v2).setCell ⟨b, 3, none⟩ v3) := (((h.setCell (p := ⟨b, 0, none⟩) hb v0).setCell (p := ⟨b, 1, none⟩) hb v1).setCell (p := ⟨b, 2, none⟩) hb v2).setCell (p := ⟨b, 3, none⟩) hb v3
theorem own_set4 {base b : Nat} {W : World} {v : Value} {n : Nat} {xs : List Value} (h : W.ownsRow base 24 2 v n xs) (hb : v.ownBlock ≠ some b) {v0 v1 v2 v3 : Value} : ((((W.setCell ⟨b, 0, none⟩ v0).setCell ⟨b, 1, none⟩ v1).setCell ⟨b, 2, none⟩ v2).setCell ⟨b, 3, none⟩ v3).ownsRow base 24 2 v n xs :=
  ownsRow_setCell_other (ownsRow_setCell_other (ownsRow_setCell_other (ownsRow_setCell_other h hb _) hb _) hb _) hb _
def zeroCO : Obj := .cells #[.string ⟨#[]⟩, .int .i64 0, .slice none 0 0, .string ⟨#[]⟩] 54
set_option maxRecDepth 100000 in
set_option maxHeartbeats 8000000 in
theorem tsCertify_any (l : List Mo) (n : ByteArray × Int) (A : Option Addr) (c : Nat) (w : World) (hl : SlM w w.heap.size A c l) (hn : NOk n) (hw : MoW l) (hg : greatL l = false) :
    Calls Tryz.prog 26 #[.slice A l.length c, .agg #[.string n.1, .int .i64 n.2]] w (CertP l n w) := by
  obtain ⟨W0, hW0⟩ : ∃ W0, (w.alloc (.cells #[.string n.1, .int .i64 n.2] 24)).alloc (.cells #[.string ⟨#[]⟩, .int .i64 0, .slice none 0 0, .string ⟨#[]⟩] 54) = W0 := ⟨_, rfl⟩
  have hb0 : Below w.heap.size w W0 := by subst hW0; exact ((Below.refl _ _).alloc (Nat.le_refl _) _).alloc (by simp) _
  have hz0 : w.heap.size + 1 < W0.heap.size := by subst hW0; simp
  have n0 : W0.cell? ⟨w.heap.size, 0, none⟩ = some (.string n.1) := by subst hW0; go_simp
  have n1 : W0.cell? ⟨w.heap.size, 1, none⟩ = some (.int .i64 n.2) := by subst hW0; go_simp
  have hrow : W0.heap[w.heap.size + 1]? = some (.cells #[.string ⟨#[]⟩, .int .i64 0, .slice none 0 0, .string ⟨#[]⟩] 54 (0, 0)) := by
    subst hW0
    have := heap_alloc_new (w.alloc (.cells #[.string n.1, .int .i64 n.2] 24)) (.cells #[.string ⟨#[]⟩, .int .i64 0, .slice none 0 0, .string ⟨#[]⟩] 54)
    simpa using this
  have HK := Lib.hid (show ∀ X : World, Below W0.heap.size W0 X → X.cell? ⟨w.heap.size, 0, none⟩ = some (.string n.1) ∧ X.cell? ⟨w.heap.size, 1, none⟩ = some (.int .i64 n.2) from fun X hX =>
    ⟨(hX.cell (p := ⟨w.heap.size, 0, none⟩) (Nat.lt_of_succ_lt hz0)).trans n0, (hX.cell (p := ⟨w.heap.size, 1, none⟩) (Nat.lt_of_succ_lt hz0)).trans n1⟩)
  have HR := Lib.hid (show ∀ X : World, Below W0.heap.size W0 X → X.heap[w.heap.size + 1]? = some (.cells #[.string ⟨#[]⟩, .int .i64 0, .slice none 0 0, .string ⟨#[]⟩] 54 (0, 0)) from fun X hX => (hX.block _ hz0).trans hrow)
  have HL := Lib.hid (show ∀ X : World, Below W0.heap.size W0 X → SlM X X.heap.size A c l ∧ Below w.heap.size w X from fun X hX => ⟨(hl.below (hb0.trans (hX.mono hb0.size))).keep (hb0.trans (hX.mono hb0.size)).size (fun _ _ => rfl), hb0.trans (hX.mono hb0.size)⟩)
  have ht := greatL_tot hg
  have hll := (greatL_le hg).1
  have HX := Lib.hid (And.intro hn (And.intro hw hg))
  have HKey := Lib.hid (dKey_any l n A c W0 (HL.out W0 (Below.refl _ _)).1 hn hw (by omega) (by omega) (fun h => ⟨_, uok_of hg h⟩))
  have HTs := Lib.hid (show ∀ X : World, Below W0.heap.size W0 X → Calls Tryz.prog 23 #[.slice A l.length c] X (TestsP l X) from fun X hX => tsTests_any l A c X (HL.out X hX).1 hw (by omega) (by omega))
  have HCl := Lib.hid (show ∀ X : World, Below W0.heap.size W0 X → Calls Tryz.prog 12 #[.slice A l.length c, .agg #[.string n.1, .int .i64 n.2]] X (CloRes l n X) from fun X hX => dClosureF_any l n A c X (HL.out X hX).1 hn hw (by omega) (by omega) (fun h => ⟨_, uok_of hg h⟩))
  obtain ⟨N, HN⟩ : ∃ Q, Hid (l.length = Q) := ⟨_, Lib.hid rfl⟩
  rw [HN.out] at HKey HTs HCl ⊢
  have HTL := Lib.hid (show (testsOf l).length ≤ 1000000 by have := testsOf_len l; omega)
  clear hl hn hw hg hb0 ht hll hrow
  go_enter Tryz.func26, Tryz.ntmps26
  go_wp2_with fail
  refine HKey.out.mono ?_
  rintro e w1 ⟨hb1, ⟨hE, rfl⟩ | ⟨hE, hcl, rfl⟩ | ⟨hE, L, hcl, rfl⟩⟩
  · have hE2 : (loadE l n != 0) = true := by simpa using hE
    have hrow := HR.out w1 hb1
    have b0 : w1.cell? ⟨w.heap.size + 1, 0, none⟩ = some (.string ⟨#[]⟩) := cell_of_row w1 _ 0 _ _ (0, 0) hrow
    have f0 : w1.frozen? ⟨w.heap.size + 1, 0, none⟩ = false := frozen_of_row w1 _ 0 _ _ hrow
    have b1 : w1.cell? ⟨w.heap.size + 1, 1, none⟩ = some (.int .i64 0) := cell_of_row w1 _ 1 _ _ (0, 0) hrow
    have f1 : w1.frozen? ⟨w.heap.size + 1, 1, none⟩ = false := frozen_of_row w1 _ 1 _ _ hrow
    have b2 : w1.cell? ⟨w.heap.size + 1, 2, none⟩ = some (.slice none 0 0) := cell_of_row w1 _ 2 _ _ (0, 0) hrow
    have f2 : w1.frozen? ⟨w.heap.size + 1, 2, none⟩ = false := frozen_of_row w1 _ 2 _ _ hrow
    have b3 : w1.cell? ⟨w.heap.size + 1, 3, none⟩ = some (.string ⟨#[]⟩) := cell_of_row w1 _ 3 _ _ (0, 0) hrow
    have f3 : w1.frozen? ⟨w.heap.size + 1, 3, none⟩ = false := frozen_of_row w1 _ 3 _ _ hrow
    have HB1 := Lib.hid (And.intro (HL.out w1 hb1).2 hE)
    obtain ⟨E, HE⟩ : ∃ Q, Hid (loadE l n = Q) := ⟨_, Lib.hid rfl⟩
    rw [HE.out] at hE2 ⊢
    clear hb1 hE n0 n1 hrow hW0
    go_wp2
    refine bodyPost_ret (v := .tuple #[zeroC, .int .i64 E]) (by simp [results, Tryz.results26, go_sem, zeroC, b0, b1, b2, b3]) rfl ?_
    exact ⟨below_set4 HB1.out.1 (Nat.le_succ _), .inl ⟨E, by rw [← HE.out]; exact HB1.out.2, .inl ⟨HB1.out.2, HE.out.symm, rfl⟩, rfl⟩⟩
  · have hrow := HR.out w1 hb1
    have b0 : w1.cell? ⟨w.heap.size + 1, 0, none⟩ = some (.string ⟨#[]⟩) := cell_of_row w1 _ 0 _ _ (0, 0) hrow
    have f0 : w1.frozen? ⟨w.heap.size + 1, 0, none⟩ = false := frozen_of_row w1 _ 0 _ _ hrow
    have b1 : w1.cell? ⟨w.heap.size + 1, 1, none⟩ = some (.int .i64 0) := cell_of_row w1 _ 1 _ _ (0, 0) hrow
    have f1 : w1.frozen? ⟨w.heap.size + 1, 1, none⟩ = false := frozen_of_row w1 _ 1 _ _ hrow
    have b2 : w1.cell? ⟨w.heap.size + 1, 2, none⟩ = some (.slice none 0 0) := cell_of_row w1 _ 2 _ _ (0, 0) hrow
    have f2 : w1.frozen? ⟨w.heap.size + 1, 2, none⟩ = false := frozen_of_row w1 _ 2 _ _ hrow
    have b3 : w1.cell? ⟨w.heap.size + 1, 3, none⟩ = some (.string ⟨#[]⟩) := cell_of_row w1 _ 3 _ _ (0, 0) hrow
    have f3 : w1.frozen? ⟨w.heap.size + 1, 3, none⟩ = false := frozen_of_row w1 _ 3 _ _ hrow
    have HB1 := Lib.hid (And.intro (HL.out w1 hb1).2 (And.intro hE hcl))
    clear hb1 hE hcl n0 n1 hrow hW0
    go_wp2
    refine bodyPost_ret (v := .tuple #[zeroC, .int .i64 21]) (by simp [results, Tryz.results26, go_sem, zeroC, b0, b1, b2, b3]) rfl ?_
    exact ⟨below_set4 HB1.out.1 (Nat.le_succ _), .inl ⟨21, by decide, .inr (.inl ⟨HB1.out.2.1, HB1.out.2.2, rfl, rfl⟩), rfl⟩⟩
  · obtain ⟨T, HTT⟩ : ∃ Q, Hid ((⟨(keyL l n L).toArray⟩ : ByteArray) = Q) := ⟨_, Lib.hid rfl⟩
    rw [HTT.out]
    have HB1 := Lib.hid (And.intro hb1 (And.intro hE hcl))
    have HK1 := Lib.hid (HK.out w1.drew (below_drew' hb1))
    have HT1 := Lib.hid (HTs.out w1.drew (below_drew' hb1))
    have hz1 : W0.heap.size ≤ w1.heap.size := hb1.size
    clear hb1 hE hcl n0 n1 hW0
    obtain ⟨TL, HTl⟩ : ∃ Q, Hid (testsOf l = Q) := ⟨_, Lib.hid rfl⟩
    unfold TestsP at HT1
    rw [HTl.out] at HT1 HTL
    have HTS := Lib.hid (show TL.Pairwise ltN ∧ memN TL n = isT l n by
      rw [← HTl.out]
      refine ⟨testsOf_sorted l, ?_⟩
      rw [Bool.eq_iff_iff, memN_iff, mem_testsOf])
    obtain ⟨q, Hq⟩ : ∃ Q, Hid (isT l n = Q) := ⟨_, Lib.hid rfl⟩
    go_wp2_with fail
    go_region_held3 (fun W => W.cell? ⟨w.heap.size, 0, none⟩ = some (.string n.1) ∧ W.cell? ⟨w.heap.size, 1, none⟩ = some (.int .i64 n.2))
      (first | exact HK1.out | exact HK2.out | exact HK3.out)
      (first
        | (go_at_call 23; refine HT1.out.mono ?_; rintro e w2 ⟨v2, rfl, hown2, hb2⟩; obtain ⟨vA2, vc2, rfl⟩ := own_formN hown2; have hbb2 : Below W0.heap.size W0 w2 := (below_drew' HB1.out.1).trans (Below.mono hb2 hz1); have HK2 := Lib.hid (HK.out w2 hbb2); have HB2 := Lib.hid hbb2; have HSr := Lib.hid (slcSearchN_any TL n vA2 vc2 _ w2 hown2 HTS.out.1 HTL.out); clear hown2 hb2 hbb2)
        | (go_at_call 55; refine HSr.out.mono ?_; rintro e w3 ⟨⟨i3, rfl⟩, hb3⟩; have hbb3 : Below W0.heap.size W0 w3 := HB2.out.trans (hb3.mono HB2.out.size); have HK3 := Lib.hid (HK.out w3 hbb3); have HB3 := Lib.hid hbb3; rw [HTS.out.2, Hq.out]; clear hb3 hbb3))
    have hbw3 := (HL.out w3 HB3.out).2
    obtain ⟨k0, k1⟩ := HK3.out
    cases hq : q with
    | false =>
      have hrow := HR.out w3 HB3.out
      have b0 : w3.cell? ⟨w.heap.size + 1, 0, none⟩ = some (.string ⟨#[]⟩) := cell_of_row w3 _ 0 _ _ (0, 0) hrow
      have f0 : w3.frozen? ⟨w.heap.size + 1, 0, none⟩ = false := frozen_of_row w3 _ 0 _ _ hrow
      have b1 : w3.cell? ⟨w.heap.size + 1, 1, none⟩ = some (.int .i64 0) := cell_of_row w3 _ 1 _ _ (0, 0) hrow
      have f1 : w3.frozen? ⟨w.heap.size + 1, 1, none⟩ = false := frozen_of_row w3 _ 1 _ _ hrow
      have b2 : w3.cell? ⟨w.heap.size + 1, 2, none⟩ = some (.slice none 0 0) := cell_of_row w3 _ 2 _ _ (0, 0) hrow
      have f2 : w3.frozen? ⟨w.heap.size + 1, 2, none⟩ = false := frozen_of_row w3 _ 2 _ _ hrow
      have b3 : w3.cell? ⟨w.heap.size + 1, 3, none⟩ = some (.string ⟨#[]⟩) := cell_of_row w3 _ 3 _ _ (0, 0) hrow
      have f3 : w3.frozen? ⟨w.heap.size + 1, 3, none⟩ = false := frozen_of_row w3 _ 3 _ _ hrow
      have HBw := Lib.hid hbw3
      have HQ := Lib.hid (show isT l n = false by rw [Hq.out, hq])
      clear hbw3 hrow hq
      go_wp2
      refine bodyPost_ret (v := .tuple #[zeroC, .int .i64 9]) (by simp [results, Tryz.results26, go_sem, zeroC, b0, b1, b2, b3]) rfl ?_
      exact ⟨below_set4 HBw.out (Nat.le_succ _), .inl ⟨9, by decide, .inr (.inr (.inl ⟨HB1.out.2.1, L, HB1.out.2.2, HQ.out, rfl, rfl⟩)), rfl⟩⟩
    | true =>
      have HQ := Lib.hid (show isT l n = true by rw [Hq.out, hq])
      have HC3 := Lib.hid (HCl.out w3 HB3.out)
      have HBw := Lib.hid hbw3
      clear hbw3 hq
      go_wp2_with fail
      refine HC3.out.mono ?_
      rintro e w4 ⟨hb4, ⟨hE4, rfl⟩ | ⟨hE4, hcl4, rfl⟩ | ⟨hE4, L4, v4, hcl4, rfl, hown4, hlen4⟩⟩
      · exact absurd HB1.out.2.1 hE4
      · have := HB1.out.2.2.unique hcl4; cases this
      · have := HB1.out.2.2.unique hcl4
        cases this
        obtain ⟨vA, vc, rfl⟩ := own_formN hown4
        have hbb4 : Below W0.heap.size W0 w4 := HB3.out.trans (hb4.mono HB3.out.size)
        obtain ⟨k0, k1⟩ := HK.out w4 hbb4
        have hrow := HR.out w4 hbb4
        have b0 : w4.cell? ⟨w.heap.size + 1, 0, none⟩ = some (.string ⟨#[]⟩) := cell_of_row w4 _ 0 _ _ (0, 0) hrow
        have f0 : w4.frozen? ⟨w.heap.size + 1, 0, none⟩ = false := frozen_of_row w4 _ 0 _ _ hrow
        have b1 : w4.cell? ⟨w.heap.size + 1, 1, none⟩ = some (.int .i64 0) := cell_of_row w4 _ 1 _ _ (0, 0) hrow
        have f1 : w4.frozen? ⟨w.heap.size + 1, 1, none⟩ = false := frozen_of_row w4 _ 1 _ _ hrow
        have b2 : w4.cell? ⟨w.heap.size + 1, 2, none⟩ = some (.slice none 0 0) := cell_of_row w4 _ 2 _ _ (0, 0) hrow
        have f2 : w4.frozen? ⟨w.heap.size + 1, 2, none⟩ = false := frozen_of_row w4 _ 2 _ _ hrow
        have b3 : w4.cell? ⟨w.heap.size + 1, 3, none⟩ = some (.string ⟨#[]⟩) := cell_of_row w4 _ 3 _ _ (0, 0) hrow
        have f3 : w4.frozen? ⟨w.heap.size + 1, 3, none⟩ = false := frozen_of_row w4 _ 3 _ _ hrow
        have hne : (Value.slice vA L.length vc).ownBlock ≠ some (w.heap.size + 1) := row_ne hown4 hrow (.inr ⟨_, _, rfl, by decide⟩)
        have HF := Lib.hid (And.intro (HL.out w4 hbb4).2 (And.intro hown4 (And.intro hlen4 hne)))
        obtain ⟨M, HM⟩ : ∃ Q, Hid (L.length = Q) := ⟨_, Lib.hid rfl⟩
        rw [HM.out]
        clear hb4 hE4 hcl4 hown4 hlen4 hbb4 hrow hne
        go_wp2
        refine bodyPost_ret (v := .tuple #[.agg #[.string n.1, .int .i64 n.2, .slice vA M vc, .string T], .int .i64 0]) (by simp [results, Tryz.results26, go_sem, b0, b1, b2, b3]) rfl ?_
        refine ⟨below_set4 HF.out.1 (Nat.le_succ _), .inr ⟨L, vA, vc, .inr (.inr (.inr ⟨HB1.out.2.1, L, HB1.out.2.2, HQ.out, rfl, rfl⟩)), by rw [HM.out]; unfold certT; rw [HTT.out], ?_, HF.out.2.2.1⟩⟩
        exact own_set4 (World.ownsRow.mono HF.out.2.1 HBw.out.size) HF.out.2.2.2
end Go.Proofs.YtdobpmbgngomlaaGreatDoor
/- slices.Equal at names, whatever they are; testselect.Verify -/
namespace Go.Proofs.YtdobpmbgngomlaaGreatDoor
open Go.RowKit Go.Proofs Go.Shelf

/-- A slice of names that can be read. -/
def SlN (w : World) (B : Nat) (A : Option Addr) (c : Nat) (l : List (ByteArray × Int)) : Prop :=
  l.length ≤ c ∧ c ≤ maxLen ∧ (l ≠ [] → ∃ b o, A = some ⟨b, o, none⟩ ∧ b < B ∧ ∀ j x, l[j]? = some x → w.cell? ⟨b, o + j * 2, none⟩ = some (.string x.1) ∧ w.cell? ⟨b, o + j * 2 + 1, none⟩ = some (.int .i64 x.2))
theorem SlN.keep {w w' : World} {B B' : Nat} {A : Option Addr} {c : Nat} {l : List (ByteArray × Int)} (h : SlN w B A c l) (hB : B ≤ B') (hk : ∀ p : Addr, p.block < B → w'.cell? p = w.cell? p) : SlN w' B' A c l :=
  ⟨h.1, h.2.1, fun hne => by
    obtain ⟨b, o, e, hb, hs⟩ := h.2.2 hne
    exact ⟨b, o, e, Nat.lt_of_lt_of_le hb hB, fun j x hj => ⟨(hk _ hb).trans (hs j x hj).1, (hk _ hb).trans (hs j x hj).2⟩⟩⟩
theorem SlN.below {w w' : World} {A : Option Addr} {c : Nat} {l : List (ByteArray × Int)} (h : SlN w w.heap.size A c l) (hb : Below w.heap.size w w') : SlN w' w'.heap.size A c l := h.keep hb.size fun _ hp => hb.cell hp
theorem SlN.of_own {w : World} {base : Nat} {A : Option Addr} {c : Nat} {l : List (ByteArray × Int)} (h : w.ownsRow base 24 2 (.slice A l.length c) l.length (namesC l)) : SlN w w.heap.size A c l := by
  rcases h.2 with ⟨h1, h2⟩ | ⟨g, cap, cur, h1, hb, hg, h3, h4, _⟩
  · simp only [Value.slice.injEq] at h1
    exact ⟨by omega, by rw [h1.2.2]; exact Nat.zero_le _, fun hne => absurd (List.length_eq_zero_iff.1 h2) hne⟩
  · simp only [Value.slice.injEq, true_and] at h1
    obtain ⟨rfl, rfl⟩ := h1
    refine ⟨h3, h4, fun _ => ⟨g, 0, rfl, (Array.getElem?_eq_some_iff.1 hg).1, fun j x hj => ?_⟩⟩
    have hlt := (List.getElem?_eq_some_iff.1 hj).1
    obtain ⟨n0, n1⟩ := namesC_at x l j hj
    rw [Nat.zero_add]
    exact ⟨(h.cellAt _ (by omega)).trans n0, (h.cellAt _ (by omega)).trans n1⟩
theorem eq_take {l l' : List (ByteArray × Int)} (h : l.length = l'.length) (hall : ∀ k < l.length, l[k]? = l'[k]?) : l = l' := by
  apply List.ext_getElem?
  intro k
  by_cases hk : k < l.length
  · exact hall k hk
  · rw [List.getElem?_eq_none (by omega), List.getElem?_eq_none (by omega)]

set_option maxRecDepth 100000 in
set_option maxHeartbeats 2000000 in
theorem slcEqualSl_any (l l' : List (ByteArray × Int)) (A : Option Addr) (c : Nat) (A' : Option Addr) (c' : Nat) (w : World) (hs : SlN w w.heap.size A c l) (hs' : SlN w w.heap.size A' c' l') :
    Calls Tryz.prog 18 #[.slice A l.length c, .slice A' l'.length c'] w fun e w' => e = .returned (.bool (decide (l = l'))) ∧ ∃ q, w' = w.drewN q := by
  have h1 := hs.1
  have h2 := hs.2.1
  have h1' := hs'.1
  have h2' := hs'.2.1
  unfold maxLen at h2 h2'
  obtain ⟨N, HN⟩ : ∃ Q, Hid (l.length = Q) := ⟨_, Lib.hid rfl⟩
  obtain ⟨N', HN'⟩ : ∃ Q, Hid (l'.length = Q) := ⟨_, Lib.hid rfl⟩
  have HO := Lib.hid (And.intro hs hs')
  obtain ⟨E, HE⟩ : ∃ Q, Hid (decide (l = l') = Q) := ⟨_, Lib.hid rfl⟩
  rw [HN.out] at h1 ⊢
  rw [HN'.out] at h1' ⊢
  rw [HE.out]
  clear hs hs'
  go_enter Tryz.func18, Tryz.ntmps18
  by_cases hne : N = N'
  · subst hne
    go_wp2
    go_loopg [5, 13] N (fun gg _ ct wr => ∃ j : Nat, gg = N - j ∧ j ≤ N ∧ ct = .int .i64 j ∧ (∀ k < j, l[k]? = l'[k]?) ∧ ∃ q, wr = w.drewN q)
    case atStart => exact ⟨0, rfl, by omega, rfl, fun k hk => absurd hk (Nat.not_lt_zero _), 0, rfl⟩
    case round =>
      obtain ⟨j, HG, hj, rfl, hall, q, rfl⟩ := hrel
      by_cases hlt : j < N
      · have hlt1 : j < l.length := by rw [HN.out]; exact hlt
        have hlt2 : j < l'.length := by rw [HN'.out]; exact hlt
        obtain ⟨y, hy⟩ : ∃ y, l[j]? = some y := ⟨_, List.getElem?_eq_getElem hlt1⟩
        obtain ⟨z, hz⟩ : ∃ y, l'[j]? = some y := ⟨_, List.getElem?_eq_getElem hlt2⟩
        obtain ⟨b, o, rfl, hb, hc⟩ := HO.out.1.2.2 (by intro e; rw [e] at hlt1; simp at hlt1)
        obtain ⟨b', o', rfl, hb', hc'⟩ := HO.out.2.2.2 (by intro e; rw [e] at hlt2; simp at hlt2)
        obtain ⟨c0, c1⟩ := hc j y hy
        obtain ⟨d0, d1⟩ := hc' j z hz
        have hE := run_neqN y.1 z.1 y.2 z.2
        have hj0 : (0 : Int) ≤ (j : Int) := by omega
        have hj1 : (j : Int) < (N : Int) := by omega
        have HM := Lib.hid (And.intro HG (And.intro hall (And.intro hy hz)))
        clear HG hall hy hz hc hc'
        cases he : eqN y z with
        | true =>
          have HEQ := Lib.hid (eqN_iff.1 he)
          have he2 : ((y.1.toList == z.1.toList) && (y.2 == z.2)) = true := he
          rw [he2] at hE
          clear he he2
          go_wp2_with fail
          go_quiet (fail)
          clear c0 c1 d0 d1 hE
          go_wp2
          go_roundg (N - (j + 1))
          case measure => rw [HM.out.1]; omega
          case rel =>
            refine ⟨j + 1, rfl, by omega, by go_num, fun k hk => ?_, q + nq, by simp [World.drewN]⟩
            by_cases e : k = j
            · rw [e, HM.out.2.2.1, HM.out.2.2.2, HEQ.out]
            · exact HM.out.2.1 k (by omega)
        | false =>
          have HEQ := Lib.hid (show E = false by
            rw [← HE.out, decide_eq_false_iff_not]
            intro e
            have h3 := HM.out.2.2.1
            rw [e, HM.out.2.2.2] at h3
            cases h3
            rw [eqN_iff.2 rfl] at he
            cases he)
          have he2 : ((y.1.toList == z.1.toList) && (y.2 == z.2)) = false := he
          rw [he2] at hE
          clear he he2
          go_wp2_with fail
          go_quiet (fail)
          clear c0 c1 d0 d1 hE
          go_wp2
          go_ret
          exact ⟨by rw [HEQ.out]; rfl, q + nq, by simp [World.drewN, Nat.add_assoc]⟩
      · obtain rfl : j = N := by omega
        have HEQ := Lib.hid (show E = true by
          rw [← HE.out, decide_eq_true_iff]
          exact eq_take (by rw [HN.out, HN'.out]) (by rw [HN.out]; exact hall))
        clear hall HG
        go_wp2
        go_ret
        exact ⟨by rw [HEQ.out]; rfl, _, rfl⟩
  · have HEQ := Lib.hid (show E = false by
      rw [← HE.out, decide_eq_false_iff_not]
      intro e
      exact hne (by rw [← HN.out, ← HN'.out, e]))
    have hn1 : ((N : Int) != (N' : Int)) = true := by simpa using (by omega : ¬ (N : Int) = (N' : Int))
    have hn2 : (N != N') = true := by simpa using hne
    go_wp2
    go_ret
    exact ⟨by rw [HEQ.out]; rfl, 0, rfl⟩

/-- What Verify says of a certificate. -/
def VerV (l : List Mo) (n : ByteArray × Int) (L' : List (ByteArray × Int)) (k : ByteArray) (b : Bool) : Prop := b = true ↔ (CertV l n 0 (some L') ∧ certT l n L' = k)
theorem toL_beq (a b : ByteArray) : (a.toList == b.toList) = decide (a = b) := by
  rw [Bool.eq_iff_iff, beq_iff_eq, decide_eq_true_iff]
  refine ⟨fun h => ?_, fun h => by rw [h]⟩
  rw [ByteArray.toList_eq, ByteArray.toList_eq] at h
  exact ByteArray.ext (Array.ext' h)
set_option maxRecDepth 100000 in
set_option maxHeartbeats 4000000 in
theorem tsVerify_any (l : List Mo) (n : ByteArray × Int) (L' : List (ByteArray × Int)) (k : ByteArray) (A : Option Addr) (c : Nat) (cA : Option Addr) (cc : Nat) (w : World) (hl : SlM w w.heap.size A c l) (hN : SlN w w.heap.size cA cc L') (hn : NOk n) (hw : MoW l) (hg : greatL l = false) :
    Calls Tryz.prog 29 #[.slice A l.length c, .agg #[.string n.1, .int .i64 n.2, .slice cA L'.length cc, .string k]] w fun e w' => ∃ b, e = .returned (.bool b) ∧ VerV l n L' k b ∧ Below w.heap.size w w' := by
  obtain ⟨W0, hW0⟩ : ∃ W0, w.alloc (.cells #[.string n.1, .int .i64 n.2, .slice cA L'.length cc, .string k] 54) = W0 := ⟨_, rfl⟩
  have hb0 : Below w.heap.size w W0 := by subst hW0; exact (Below.refl _ _).alloc (Nat.le_refl _) _
  have hz0 : w.heap.size < W0.heap.size := by subst hW0; simp
  have n0 : W0.cell? ⟨w.heap.size, 0, none⟩ = some (.string n.1) := by subst hW0; go_simp
  have n1 : W0.cell? ⟨w.heap.size, 1, none⟩ = some (.int .i64 n.2) := by subst hW0; go_simp
  have n2 : W0.cell? ⟨w.heap.size, 2, none⟩ = some (.slice cA L'.length cc) := by subst hW0; go_simp
  have n3 : W0.cell? ⟨w.heap.size, 3, none⟩ = some (.string k) := by subst hW0; go_simp
  have HC := Lib.hid (tsCertify_any l n A c W0 ((hl.below hb0).keep hb0.size (fun _ _ => rfl)) hn hw hg)
  have HN0 := Lib.hid (hN.below hb0)
  obtain ⟨N, HN⟩ : ∃ Q, Hid (l.length = Q) := ⟨_, Lib.hid rfl⟩
  obtain ⟨N', HN'⟩ : ∃ Q, Hid (L'.length = Q) := ⟨_, Lib.hid rfl⟩
  rw [HN.out] at HC ⊢
  rw [HN'.out] at n2 hW0 ⊢
  have HB := Lib.hid hb0
  clear hl hN hn hw hg hb0
  go_enter Tryz.func29, Tryz.ntmps29
  go_wp2_with fail
  refine HC.out.mono ?_
  rintro e w1 ⟨hb1, ⟨er, hne, hv, rfl⟩ | ⟨L, vA, vc, hv, rfl, hown, hlen⟩⟩
  · have hne2 : (er == 0) = false := by simpa using hne
    have HF := Lib.hid (show VerV l n L' k false from ⟨fun h => (by cases h), fun h => absurd (hv.unique h.1).1 hne⟩)
    have HB1 := Lib.hid (HB.out.trans (hb1.mono HB.out.size))
    clear hne hv hb1 n0 n1 n2 n3 hW0
    unfold zeroC
    go_wp2
    go_ret
    exact ⟨false, rfl, HF.out, HB1.out.alloc HB1.out.size _⟩
  · obtain ⟨W2, hW2⟩ : ∃ W2, w1.alloc (.cells #[.string n.1, .int .i64 n.2, .slice vA L.length vc, .string (certT l n L)] 54) = W2 := ⟨_, rfl⟩
    have hb2 : Below w1.heap.size w1 W2 := by subst hW2; exact (Below.refl _ _).alloc (Nat.le_refl _) _
    have hb02 : Below W0.heap.size W0 W2 := hb1.trans (hb2.mono hb1.size)
    have m2 : W2.cell? ⟨w1.heap.size, 1 + 1, none⟩ = some (.slice vA L.length vc) := by subst hW2; go_simp
    have m2' : W2.cell? ⟨w1.heap.size, 2, none⟩ = some (.slice vA L.length vc) := by subst hW2; go_simp
    have m3 : W2.cell? ⟨w1.heap.size, 3, none⟩ = some (.string (certT l n L)) := by subst hW2; go_simp
    have k2 : W2.cell? ⟨w.heap.size, 2, none⟩ = some (.slice cA N' cc) := (hb02.cell (p := ⟨w.heap.size, 2, none⟩) hz0).trans n2
    have k3 : W2.cell? ⟨w.heap.size, 3, none⟩ = some (.string k) := (hb02.cell (p := ⟨w.heap.size, 3, none⟩) hz0).trans n3
    have HSl := Lib.hid (And.intro (SlN.of_own (own_of_blocks' hown fun k hk => hb2.block k hk)) (HN0.out.below hb02))
    have HB1 := Lib.hid (HB.out.trans (hb02.mono HB.out.size))
    obtain ⟨T, HT⟩ : ∃ Q, Hid (certT l n L = Q) := ⟨_, Lib.hid rfl⟩
    rw [HT.out] at hW2 m3 ⊢
    have HV := Lib.hid hv
    obtain ⟨M, HM⟩ : ∃ Q, Hid (L.length = Q) := ⟨_, Lib.hid rfl⟩
    rw [HM.out] at hW2 m2 m2' ⊢
    have HEq := Lib.hid (slcEqualSl_any L L' vA vc cA cc W2 HSl.out.1 HSl.out.2)
    rw [HM.out, HN'.out] at HEq
    have hst := toL_beq T k
    by_cases hTk : T = k
    · have hst2 : (T.toList == k.toList) = true := by rw [hst]; exact decide_eq_true hTk
      have HF := Lib.hid (show VerV l n L' k (decide (L = L')) by
        unfold VerV
        rw [decide_eq_true_iff]
        constructor
        · rintro rfl
          exact ⟨HV.out, by rw [HT.out, hTk]⟩
        · intro h
          have := (HV.out.unique h.1).2
          cases this
          rfl)
      obtain ⟨q, Hq⟩ : ∃ Q, Hid (decide (L = L') = Q) := ⟨_, Lib.hid rfl⟩
      rw [Hq.out] at HEq HF
      clear hst hTk hv hb1 hb2 hb02 hown hlen n0 n1 n2 n3 hW0
      go_wp2_with fail
      refine HEq.out.mono ?_
      rintro e w3 ⟨rfl, q2, rfl⟩
      go_wp2
      go_ret
      exact ⟨q, rfl, HF.out, below_drewN HB1.out _⟩
    · have hst2 : (T.toList == k.toList) = false := by rw [hst]; exact decide_eq_false hTk
      have HF := Lib.hid (show VerV l n L' k false from ⟨fun h => (by cases h), fun h => by
        have := (HV.out.unique h.1).2
        cases this
        exact absurd (HT.out.symm.trans h.2) hTk⟩)
      clear hst hTk hv hb1 hb2 hb02 hown hlen n0 n1 n2 n3 hW0
      go_wp2
      go_ret
      exact ⟨false, rfl, HF.out, HB1.out⟩
end Go.Proofs.YtdobpmbgngomlaaGreatDoor
