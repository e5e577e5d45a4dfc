/- ref01.put, PutInt, PutText; ref28.number, word -/
import Derived.Test.YtdobpmbgngomlaaGreatDoorZmc
import Derived.Test.YtdobpmbgngomlaaGreatDoorProg
import Derived.WalkKit
import Derived.BigCall
import Derived.BigRegion
import Derived.IntWalk
import Derived.Below
import Derived.Lib.Hide
import Derived.Laws.IdiomStrings
import Derived.Laws.Concat
import Derived.Deep.RegionWith
import Derived.Deep.RegionHeld3
import Derived.Deep.DrawnRows
import Derived.Test.YtdobpmbgngomlaaGreatDoorZmd
import Derived.Deep.DeepCutAuto
import Derived.Test.YtdobpmbgngomlaaGreatDoorZmh
namespace Go.Proofs.YtdobpmbgngomlaaGreatDoor
open Go.RowKit Go.Proofs

theorem conv_one (c : UInt8) (v : Int) (hv : (c.toNat : Int) = v) (W : World) (g : Nat) (h : W.cell? ⟨g, 0, none⟩ = some (.int .u8 v)) :
    (convert 74 9 (.slice (some ⟨g, 0, none⟩) 1 1)).run Tryz.prog W = .ok (.string ⟨#[c]⟩) W :=
  run_convert_bytes_back W 74 9 5 ⟨g, 0, none⟩ 1 [c] Tryz.underlying74 Tryz.underlying5 Tryz.underlying9 (fun j hj => by
    obtain rfl : j = 0 := by simpa using hj
    simp [Addr.add, h, hv])

theorem cells_old {W w1 : World} (hb : Below W.heap.size W w1) : ∀ b o, b < W.heap.size → w1.cell? ⟨b, o, none⟩ = W.cell? ⟨b, o, none⟩ := fun b o h => hb.cell (p := ⟨b, o, none⟩) h

set_option maxRecDepth 100000 in
set_option maxHeartbeats 2000000 in
theorem put01_small (n : Nat) (w : World) (hn : n < 128) : Calls Tryz.prog 159 #[.int .i64 n] w fun e w' => e = .returned (.string ⟨(encL n).toArray⟩) ∧ Below w.heap.size w w' := by
  have hlt : decide ((n : Int) < 128) = true := by simp; omega
  have hn1 : (n : Int) < 128 := by simpa using hlt
  have hcv := conv_one (UInt8.ofNat n) n (u8_nat (by omega))
  have HE := Lib.hid (encL_small hn)
  clear hn
  go_enter Tryz.func159, Tryz.ntmps159
  go_wp2
  go_ret
  exact ⟨by rw [HE.out]; rfl, (Below.refl _ _).alloc (Nat.le_refl _) _⟩

set_option maxRecDepth 100000 in
set_option maxHeartbeats 2000000 in
theorem put01_any : ∀ (k n : Nat) (w : World), n < 128 ^ (k + 1) → n ≤ 1099511627776 → Calls Tryz.prog 159 #[.int .i64 n] w fun e w' => e = .returned (.string ⟨(encL n).toArray⟩) ∧ Below w.heap.size w w' := by
  intro k
  induction k with
  | zero => intro n w hk hn; exact put01_small n w (by simpa using hk)
  | succ k ih =>
    intro n w hk hn
    by_cases hlt : n < 128
    · exact put01_small n w hlt
    · have hd : decide ((n : Int) < 128) = false := by simp; omega
      obtain ⟨C, HC⟩ : ∃ C : ByteArray, Hid (⟨#[UInt8.ofNat (n % 128 + 128)]⟩ = C) := ⟨_, Lib.hid rfl⟩
      obtain ⟨R, HR⟩ : ∃ R : ByteArray, Hid (⟨(encL (n / 128)).toArray⟩ = R) := ⟨_, Lib.hid rfl⟩
      have hcv := conv_one (UInt8.ofNat (n % 128 + 128)) (128 + n % 128) (by rw [u8_nat (by omega)]; omega)
      rw [HC.out] at hcv
      have HE := Lib.hid (show (⟨(encL n).toArray⟩ : ByteArray) = C ++ R by rw [encL_big hlt, ← HC.out, ← HR.out]; simp [ByteArray.ext_iff])
      have hlen := encL_40 (n := n / 128) (by omega)
      have hno : ¬ (9223372036854775807 < C.size + R.size) := by
        rw [← HC.out, ← HR.out]
        show ¬ (_ < 1 + (encL (n / 128)).toArray.size)
        rw [List.size_toArray]
        omega
      have ih2 := fun W => ih (n / 128) W (by rw [Nat.pow_succ] at hk; omega) (by omega)
      rw [show ((n / 128 : Nat) : Int) = (n : Int) / 128 by omega, HR.out] at ih2
      have IH := Lib.hid ih2
      have b0 : (0 : Int) ≤ (n : Int) := by omega
      have b1 : (n : Int) ≤ 1099511627776 := by omega
      have t1 : (n : Int).tmod 128 = (n : Int) % 128 := Int.tmod_eq_emod_of_nonneg b0
      have t2 : IntKind.i64.wrap (128 + (n : Int) % 128) = 128 + (n : Int) % 128 := IntWalk.i64_in _ (by omega)
      have t3 : IntKind.u8.wrap (128 + (n : Int) % 128) = 128 + (n : Int) % 128 := IntWalk.u8_in _ (by omega)
      have t4 : IntKind.i64.wrap ((n : Int) / 128) = (n : Int) / 128 := IntWalk.i64_in _ (by omega)
      rw [HE.out]
      clear ih ih2 hk hlen hlt hn
      go_enter Tryz.func159, Tryz.ntmps159
      go_wp2_with fail
      go_region_with ((refine (IH.out _).mono ?_; rintro e w' ⟨rfl, hb⟩; have hcb := cells_old hb; have hbz := hb.size))
      all_goals (
        go_wp2
        go_ret
        refine ⟨rfl, ?_⟩
        first
          | exact (((Below.refl _ _).alloc (Nat.le_refl _) _).drew).trans (hb.mono (by simp))
          | exact ((Below.refl _ _).drew.trans (hb.mono (by simp))).alloc (by simpa using hbz) _)

set_option maxRecDepth 100000 in
set_option maxHeartbeats 2000000 in
theorem PutInt01_any (n : Int) (w : World) : Calls Tryz.prog 125 #[.int .i64 n] w fun e w' => (∃ c : Int, e = .returned (.tuple #[.string ⟨(numL n).toArray⟩, .int .i64 c])) ∧ Below w.heap.size w w' := by
  by_cases h : 0 ≤ n ∧ n ≤ 1099511627776
  · obtain ⟨k, rfl⟩ := Int.eq_ofNat_of_zero_le h.1
    have HP := Lib.hid (put01_any 5 k w (by omega) (by omega))
    have HE := Lib.hid (show numL k = encL k by rw [numL, if_pos h, Int.toNat_natCast])
    have h1 : decide ((k : Int) < 0) = false := decide_eq_false (by omega)
    have h2 : decide (1099511627776 < (k : Int)) = false := decide_eq_false (by omega)
    rw [HE.out]
    clear h
    go_enter Tryz.func125, Tryz.ntmps125
    go_wp2_with fail
    refine HP.out.mono ?_
    rintro e w' ⟨rfl, hb⟩
    go_wp2
    go_ret2
    exact ⟨⟨0, rfl⟩, hb⟩
  · have HE := Lib.hid (show numL n = [] by rw [numL, if_neg h])
    rw [HE.out]
    cases h1 : decide (n < 0) with
    | true =>
      clear h
      go_enter Tryz.func125, Tryz.ntmps125
      go_wp2
      go_ret2
      exact ⟨⟨2, rfl⟩, Below.refl _ _⟩
    | false =>
      have h2 : decide (1099511627776 < n) = true := decide_eq_true (by have := of_decide_eq_false h1; omega)
      clear h
      go_enter Tryz.func125, Tryz.ntmps125
      go_wp2
      go_ret2
      exact ⟨⟨2, rfl⟩, Below.refl _ _⟩

set_option maxRecDepth 100000 in
set_option maxHeartbeats 2000000 in
theorem PutText01_any (s : ByteArray) (w : World) : Calls Tryz.prog 124 #[.string s] w fun e w' => (∃ c : Int, e = .returned (.tuple #[.string ⟨(txtL s).toArray⟩, .int .i64 c])) ∧ Below w.heap.size w w' := by
  by_cases h : s.size ≤ 65536
  · obtain ⟨R, HR⟩ : ∃ R : ByteArray, Hid (⟨(encL s.size).toArray⟩ = R) := ⟨_, Lib.hid rfl⟩
    have hlen := encL_40 (n := s.size) (by omega)
    have hp := put01_any 5 s.size w (by omega) (by omega)
    rw [HR.out] at hp
    have HP := Lib.hid hp
    have hno : ¬ (9223372036854775807 < R.size + s.size) := by
      rw [← HR.out]
      show ¬ (_ < (encL s.size).toArray.size + _)
      rw [List.size_toArray]
      omega
    have HE := Lib.hid (show (⟨(txtL s).toArray⟩ : ByteArray) = R ++ s by rw [txtL, if_pos h, ← HR.out]; simp [ByteArray.ext_iff])
    have h1 : decide (65536 < (s.size : Int)) = false := by simp; omega
    rw [HE.out]
    clear h hp hlen
    go_enter Tryz.func124, Tryz.ntmps124
    go_wp2_with fail
    refine HP.out.mono ?_
    rintro e w' ⟨rfl, hb⟩
    go_wp2
    go_ret2
    exact ⟨⟨0, rfl⟩, hb⟩
  · have HE := Lib.hid (show txtL s = [] by rw [txtL, if_neg h])
    have h1 : decide (65536 < (s.size : Int)) = true := by simp; omega
    rw [HE.out]
    clear h
    go_enter Tryz.func124, Tryz.ntmps124
    go_wp2
    go_ret2
    exact ⟨⟨4, rfl⟩, Below.refl _ _⟩

/-- The bytes of a number, of a text, as a string. -/
def numS (n : Int) : ByteArray := ⟨(numL n).toArray⟩
def txtS (s : ByteArray) : ByteArray := ⟨(txtL s).toArray⟩
end Go.Proofs.YtdobpmbgngomlaaGreatDoor
/- ref40.number, word, expr -/
namespace Go.Proofs.YtdobpmbgngomlaaGreatDoor
open Go.RowKit Go.Proofs Go.Shelf

set_option maxRecDepth 100000 in
theorem number40_any (n : Int) (w : World) : Calls Tryz.prog 89 #[.int .i64 n] w fun e w' => e = .returned (.string (numS n)) ∧ Below w.heap.size w w' := by
  have HP := Lib.hid (PutInt01_any n w)
  go_enter Tryz.func89, Tryz.ntmps89
  go_wp2_with fail
  refine HP.out.mono ?_
  rintro e w' ⟨⟨c, rfl⟩, hb⟩
  go_wp2
  go_ret
  exact ⟨rfl, hb⟩
set_option maxRecDepth 100000 in
theorem word40_any (s : ByteArray) (w : World) : Calls Tryz.prog 88 #[.string s] w fun e w' => e = .returned (.string (txtS s)) ∧ Below w.heap.size w w' := by
  have HP := Lib.hid (PutText01_any s w)
  go_enter Tryz.func88, Tryz.ntmps88
  go_wp2_with fail
  refine HP.out.mono ?_
  rintro e w' ⟨⟨c, rfl⟩, hb⟩
  go_wp2
  go_ret
  exact ⟨rfl, hb⟩
theorem numS_sz (n : Int) : (numS n).size ≤ 6 := by
  show (numL n).toArray.size ≤ 6
  rw [List.size_toArray]
  exact numL_len n
theorem txtS_sz (s : ByteArray) : (txtS s).size ≤ 65542 := by
  show (txtL s).toArray.size ≤ 65542
  rw [List.size_toArray]
  exact txtL_big s
/-- A string holds these bytes. -/
def StrB (o : ByteArray) (l : List UInt8) : Prop := o.data.toList = l
theorem StrB.cat {o p : ByteArray} {l m : List UInt8} (h : StrB o l) (k : StrB p m) : StrB (o ++ p) (l ++ m) := by
  unfold StrB at h k ⊢
  rw [ByteArray.data_append, Array.toList_append, h, k]
theorem StrB.size {o : ByteArray} {l : List UInt8} (h : StrB o l) : o.size = l.length := by
  rw [← h, Array.length_toList]
  rfl
theorem StrB.eq {o : ByteArray} {l : List UInt8} (h : StrB o l) : o = ⟨l.toArray⟩ := by
  apply ByteArray.ext
  rw [← h]
theorem StrB.num (v : Int) : StrB (numS v) (numL v) := rfl
theorem StrB.txt (s : ByteArray) : StrB (txtS s) (txtL s) := rfl
def E40OK (s : Fo) : Prop := ∀ (pack : ByteArray) (k : Int) (n m : ByteArray) (i d : Int) (A : Option Addr) (c : Nat) (w : World), s.Sl w w.heap.size A c → (-999999999 ≤ i ∧ i ≤ 999999999) → s.Bnd → (nodeT pack k n m i d s.len (s.kt pack)).length ≤ 70368744177664 →
    Calls Tryz.prog 91 #[.string pack, .agg #[.int .i64 k, .string n, .string m, .int .i64 i, .int .i64 d, .slice A s.len c]] w
      fun e w' => e = .returned (.string ⟨(nodeT pack k n m i d s.len (s.kt pack)).toArray⟩) ∧ Below w.heap.size w w'
set_option maxRecDepth 100000 in
set_option maxHeartbeats 16000000 in
theorem e40_step (s : Fo) (ih : s.All E40OK) : E40OK s := by
  intro pack k n m i d A c w hs hi hB hl
  obtain ⟨n', hn'⟩ : ∃ n', packS pack k n = n' := ⟨_, rfl⟩
  obtain ⟨TT, hTT⟩ : ∃ TT, Hid (nodeT pack k n m i d s.len (s.kt pack) = TT) := ⟨_, Lib.hid rfl⟩
  have HT := Lib.hid (show numL k ++ txtL n' ++ txtL m ++ numL (sgnK i) ++ numL d ++ numL s.len ++ s.kt pack = TT by
    rw [← hTT.out, nodeT, hn']
    simp only [List.append_assoc])
  rw [hTT.out] at hl ⊢
  obtain ⟨SL, HSL⟩ : ∃ Q, Hid (s.len = Q) := ⟨_, Lib.hid rfl⟩
  have hcap1 := hs.1
  have hcap2 := hs.2.1
  unfold maxLen at hcap2
  rw [HSL.out] at hcap1 HT ⊢
  obtain ⟨W0, hW0⟩ : ∃ W0, w.alloc (.cells #[.int .i64 k, .string n', .string m, .int .i64 i, .int .i64 d, .slice A SL c] 27) = W0 := ⟨_, rfl⟩
  have hz0 : w.heap.size + 1 = W0.heap.size := by rw [← hW0]; simp
  have hb0 : Below w.heap.size w W0 := by rw [← hW0]; exact (Below.refl _ _).alloc (Nat.le_refl _) _
  have hx0 : W0.heap[w.heap.size]? = some (.cells #[.int .i64 k, .string n', .string m, .int .i64 i, .int .i64 d, .slice A SL c] 27 (0, 0)) := by rw [← hW0]; exact heap_alloc_new w _
  have HC : Hid (∀ X : World, Below W0.heap.size W0 X → X.cell? ⟨w.heap.size, 0, none⟩ = some (.int .i64 k) ∧ X.cell? ⟨w.heap.size, 1, none⟩ = some (.string n') ∧ X.cell? ⟨w.heap.size, 2, none⟩ = some (.string m) ∧ X.cell? ⟨w.heap.size, 3, none⟩ = some (.int .i64 i) ∧ X.cell? ⟨w.heap.size, 4, none⟩ = some (.int .i64 d) ∧ X.cell? ⟨w.heap.size, 5, none⟩ = some (.slice A SL c)) := Lib.hid fun X hX => by
    have h0 := (hX.block w.heap.size (by omega)).trans hx0
    exact ⟨cell_of_row X _ 0 _ _ (0, 0) h0, cell_of_row X _ 1 _ _ (0, 0) h0, cell_of_row X _ 2 _ _ (0, 0) h0, cell_of_row X _ 3 _ _ (0, 0) h0, cell_of_row X _ 4 _ _ (0, 0) h0, cell_of_row X _ 5 _ _ (0, 0) h0⟩
  obtain ⟨hi1, hi2⟩ := hi
  have HH := Lib.hid (And.intro hs (And.intro hB (And.intro hb0 (And.intro ih (And.intro hl hz0)))))
  have hk5 : (k == 5) = decide (k = 5) := by by_cases h : k = 5 <;> simp [h]
  have hne : (n.toList == []) = decide (n.size = 0) := by
    by_cases h : n.size = 0
    · have := toList_nil h; simp [this, h]
    · have := toList_ne h; simp [this, h]
  obtain ⟨b5, hb5⟩ : ∃ x, decide (k = 5) = x := ⟨_, rfl⟩
  obtain ⟨bn, hbn⟩ : ∃ x, decide (n.size = 0) = x := ⟨_, rfl⟩
  have hnn : n' = if b5 && bn then pack else n := by
    rw [← hn', packS, ← hb5, ← hbn]
    by_cases h1 : k = 5 <;> by_cases h2 : n.size = 0 <;> simp [h1, h2]
  rw [hb5] at hk5
  rw [hbn] at hne
  clear hs hB hl ih hz0 hb0 hx0 hb5 hbn hn'
  go_enter Tryz.func91, Tryz.ntmps91
  go_upto_region 1 with fail
  go_cut [15] (fun s15 wx => s15 = .bool (b5 && bn) ∧ wx = w.alloc (.cells #[.int .i64 k, .string n, .string m, .int .i64 i, .int .i64 d, .slice A SL c] 27))
  case first =>
    cases b5 <;> cases bn
    all_goals (
      go_wp2
      go_meet
      exact ⟨rfl, rfl⟩)
  case rest =>
  obtain ⟨h16, hwc⟩ := hcut
  subst h16 hwc
  go_upto_if 15 with (fail)
  go_cut [] (fun wx => wx = W0)
  case first =>
    cases b5 <;> cases bn
    all_goals (
      simp only [Bool.false_and, Bool.true_and, Bool.and_false, Bool.false_eq_true, if_true, if_false] at hnn
      clear hk5 hne
      go_wp2
      go_meet
      rw [← hW0, hnn])
  case rest =>
  subst hcut
  obtain ⟨WZ, hWZ⟩ : ∃ WZ, WZ = wc := ⟨_, rfl⟩
  subst hWZ
  clear hnn hk5 hne hW0
  obtain ⟨x0, x1, x2, x3, x4, x5⟩ := HC.out WZ (Below.refl _ _)
  have hw2 : IntKind.i64.wrap (2 * i) = 2 * i := IntWalk.i64_in _ (by omega)
  go_upto_if 23 with (fail)
  go_cut [5] (fun s5 wx => s5 = .int .i64 (sgnK i) ∧ wx = WZ)
  case first =>
    cases hneg : decide (i < 0) with
    | true =>
      have HE2 := Lib.hid (show sgnK i = -2 * i + 1 by rw [sgnK, if_pos (of_decide_eq_true hneg)]; omega)
      have hw3 : IntKind.i64.wrap (-2 * i) = -2 * i := IntWalk.i64_in _ (by omega)
      have hw4 : IntKind.i64.wrap (-2 * i + 1) = -2 * i + 1 := IntWalk.i64_in _ (by omega)
      go_wp2
      go_meet
      exact ⟨by rw [HE2.out], rfl⟩
    | false =>
      have HE2 := Lib.hid (show sgnK i = 2 * i by rw [sgnK, if_neg (of_decide_eq_false hneg)])
      go_wp2
      go_meet
      exact ⟨by rw [HE2.out], rfl⟩
  case rest =>
  obtain ⟨h5, hwc⟩ := hcut
  have hwc' := hwc.symm
  clear hwc
  subst h5 hwc'
  obtain ⟨sg, hsg⟩ : ∃ x, Hid (sgnK i = x) := ⟨_, Lib.hid rfl⟩
  rw [hsg.out] at HT ⊢
  have hs1 := numS_sz k
  have hs2 := txtS_sz n'
  have hs3 := txtS_sz m
  have hs4 := numS_sz sg
  have hs5 := numS_sz d
  have hs6 := numS_sz (SL : Int)
  have hno1 : ¬ (9223372036854775807 < (numS k).size + (txtS n').size) := by omega
  have hno2 : ¬ (9223372036854775807 < (numS k).size + (txtS n').size + (txtS m).size) := by omega
  have hno3 : ¬ (9223372036854775807 < (numS k).size + (txtS n').size + (txtS m).size + (numS sg).size) := by omega
  have hno4 : ¬ (9223372036854775807 < (numS k).size + (txtS n').size + (txtS m).size + (numS sg).size + (numS d).size) := by omega
  have hno5 : ¬ (9223372036854775807 < (numS k).size + (txtS n').size + (txtS m).size + (numS sg).size + (numS d).size + (numS (SL : Int)).size) := by omega
  clear hs1 hs2 hs3 hs4 hs5 hs6 hw2
  have hbY : Below WZ.heap.size WZ WZ := Below.refl _ _
  have HCN : Hid (∀ (v : Int) (X : World), Below WZ.heap.size WZ X → Calls Tryz.prog 89 #[.int .i64 v] X fun e Y => e = .returned (.string (numS v)) ∧ Below WZ.heap.size WZ Y) := Lib.hid fun v X hX => (number40_any v X).mono fun e Y ⟨h1, h2⟩ => ⟨h1, hX.trans (h2.mono hX.size)⟩
  have HCW : Hid (∀ (v : ByteArray) (X : World), Below WZ.heap.size WZ X → Calls Tryz.prog 88 #[.string v] X fun e Y => e = .returned (.string (txtS v)) ∧ Below WZ.heap.size WZ Y) := Lib.hid fun v X hX => (word40_any v X).mono fun e Y ⟨h1, h2⟩ => ⟨h1, hX.trans (h2.mono hX.size)⟩
  have HS : Hid (∀ X : World, Below WZ.heap.size WZ X → X.cell? ⟨w.heap.size, 0, none⟩ = some (.int .i64 k) ∧ X.cell? ⟨w.heap.size, 1, none⟩ = some (.string n') ∧ X.cell? ⟨w.heap.size, 2, none⟩ = some (.string m) ∧ X.cell? ⟨w.heap.size, 4, none⟩ = some (.int .i64 d) ∧ X.cell? ⟨w.heap.size, 5, none⟩ = some (.slice A SL c)) := Lib.hid fun X hX => by
    obtain ⟨a0, a1, a2, _, a4, a5⟩ := HC.out X hX
    exact ⟨a0, a1, a2, a4, a5⟩
  go_upto_region 6 with fail
  go_cut [6] (fun s6 wx => s6 = .string (numS k ++ txtS n' ++ txtS m ++ numS sg ++ numS d ++ numS (SL : Int)) ∧ Below WZ.heap.size WZ wx)
  case first =>
    clear x0 x1 x2 x3 x4 x5
    go_region_held3 (fun X => X.cell? ⟨w.heap.size, 0, none⟩ = some (.int .i64 k) ∧ X.cell? ⟨w.heap.size, 1, none⟩ = some (.string n') ∧ X.cell? ⟨w.heap.size, 2, none⟩ = some (.string m) ∧ X.cell? ⟨w.heap.size, 4, none⟩ = some (.int .i64 d) ∧ X.cell? ⟨w.heap.size, 5, none⟩ = some (.slice A SL c))
      (exact HS.out _ (by repeat (first | with_reducible exact hbY | with_reducible refine below_drew' ?_)))
      (first
        | (go_at_call 89; (with_reducible refine Calls.mono (HCN.out _ _ ?_) ?_); (focus (repeat (first | with_reducible exact hbY | with_reducible refine below_drew' ?_))); rintro e w6 ⟨rfl, hbY⟩)
        | (go_at_call 88; (with_reducible refine Calls.mono (HCW.out _ _ ?_) ?_); (focus (repeat (first | with_reducible exact hbY | with_reducible refine below_drew' ?_))); rintro e w6 ⟨rfl, hbY⟩))
    all_goals (
      go_wp2_with fail
      go_meet
      exact ⟨rfl, by repeat (first | with_reducible exact hbY | with_reducible refine below_drew' ?_)⟩)
  case rest =>
  obtain ⟨h6, hb6⟩ := hcut
  subst h6
  have HSB := Lib.hid (((((StrB.num k).cat (StrB.txt n')).cat (StrB.txt m)).cat (StrB.num sg)).cat (StrB.num d) |>.cat (StrB.num (SL : Int)))
  obtain ⟨ou0, hou0⟩ : ∃ ou, numS k ++ txtS n' ++ txtS m ++ numS sg ++ numS d ++ numS (SL : Int) = ou := ⟨_, rfl⟩
  obtain ⟨ac0, hac0⟩ : ∃ ac, numL k ++ txtL n' ++ txtL m ++ numL sg ++ numL d ++ numL (SL : Int) = ac := ⟨_, rfl⟩
  rw [hou0, hac0] at HSB
  rw [hou0]
  rw [hac0] at HT
  have HB6 := Lib.hid hb6
  clear hno1 hno2 hno3 hno4 hno5 hbY hb6 hou0 hac0 x0 x1 x2 x3 x4 x5
  obtain ⟨x0, x1, x2, x3, x4, x5⟩ := HC.out wc HB6.out
  go_wp2_with fail
  clear x0 x1 x2 x3 x4 x5
  go_loopg [6, 7] SL (fun g so ct wr => ∃ (j : Nat) (r' : Fo) (ou : ByteArray) (ac : List UInt8), g = r'.len ∧ j + r'.len = SL ∧ so = .string ou ∧ ct = .int .i64 j ∧ r'.All E40OK ∧ r'.Bnd ∧ (r' ≠ .nil → ∃ bb o, A = some ⟨bb, o, none⟩ ∧ bb < w.heap.size ∧ r'.At wr w.heap.size bb (o + j * 6)) ∧ Below WZ.heap.size WZ wr ∧ StrB ou ac ∧ ac ++ r'.kt pack = TT)
  case atStart =>
    refine ⟨0, s, ou0, ac0, HSL.out.symm, by rw [HSL.out, Nat.zero_add], rfl, rfl, HH.out.2.2.2.1, HH.out.2.1, fun hne => ?_, HB6.out, HSB.out, HT.out⟩
    obtain ⟨bb, o, e, hb, h⟩ := HH.out.1.2.2 hne
    exact ⟨bb, o, e, hb, by rw [Nat.zero_mul, Nat.add_zero]; exact h.keep (Nat.le_refl _) (fun p hp => (HH.out.2.2.1.trans (HB6.out.mono HH.out.2.2.1.size)).cell hp) hb⟩
  case round =>
    obtain ⟨j, r', ou, ac, HG, hjr, rfl, rfl, hA, hBn, hAt, hBr, hSt, hTj⟩ := hrel
    obtain ⟨x0, x1, x2, x3, x4, x5⟩ := HC.out wr hBr
    cases r' with
    | nil =>
      have hjr2 : SL ≤ j := by simp only [Fo.len] at hjr; omega
      have hjr1 : j ≤ SL := by simp only [Fo.len] at hjr; omega
      have HF := Lib.hid (And.intro hBr (And.intro hSt hTj))
      clear hBr hSt hTj hA hBn hAt HG hjr
      go_wp2
      go_ret
      have hac : ac = TT := by have := HF.out.2.2; simpa [Fo.kt] using this
      refine ⟨?_, HH.out.2.2.1.trans (HF.out.1.mono HH.out.2.2.1.size)⟩
      rw [← hac, ← HF.out.2.1.eq]
      rfl
    | cons rk rn rm ri rd A' c' rs rr =>
      have hjr2 : j < SL := by simp only [Fo.len] at hjr; omega
      obtain ⟨bb, o, rfl, hb, h0, h1, h2, h3, h4, ⟨h5, hc', hm', hs'⟩, hr'⟩ := hAt (by simp)
      have hwr : w.heap.size ≤ wr.heap.size := by have := HH.out.2.2.1.size; have := hBr.size; omega
      have hTl : ac.length + (nodeT pack rk rn rm ri rd rs.len (rs.kt pack)).length ≤ 70368744177664 := by
        have h6 := HH.out.2.2.2.2.1
        rw [← hTj] at h6
        simp only [Fo.kt, List.length_append] at h6
        omega
      have hK := hA.1 pack rk rn rm ri rd A' c' wr ⟨hc', hm', fun hne => by
        obtain ⟨b', o', e, hb', h'⟩ := hs' hne
        exact ⟨b', o', e, by omega, h'.keep hwr (fun _ _ => rfl) hb'⟩⟩ hBn.1 hBn.2.1 (by omega)
      obtain ⟨TN, hTN⟩ : ∃ TN, Hid (nodeT pack rk rn rm ri rd rs.len (rs.kt pack) = TN) := ⟨_, Lib.hid rfl⟩
      rw [hTN.out] at hK hTl
      have HT9 := Lib.hid (show (ac ++ TN) ++ rr.kt pack = TT by rw [← hTj, ← hTN.out]; simp only [Fo.kt, List.append_assoc])
      obtain ⟨TS, hTS⟩ : ∃ TS : ByteArray, (⟨TN.toArray⟩ : ByteArray) = TS := ⟨_, rfl⟩
      rw [hTS] at hK
      have hTSL : StrB TS TN := by rw [← hTS]; exact rfl
      have hsz1 := hTSL.size
      have hsz2 := hSt.size
      have hno : ¬ (9223372036854775807 < ou.size + TS.size) := by omega
      have HK := Lib.hid hK
      have HI := Lib.hid (And.intro HG (And.intro hjr (And.intro hA.2 (And.intro hBn.2.2 (And.intro hr' (And.intro hBr (hSt.cat hTSL)))))))
      generalize rs.len = SL' at h5 HK
      clear HG hjr hA hBn hAt hs' hr' hTj hBr hSt hK hTS hTSL hsz1 hsz2 hTl
      go_wp2_with fail
      refine HK.out.mono ?_
      rintro e wA ⟨rfl, hbA⟩
      have HWA := Lib.hid (And.intro (HI.out.2.2.2.2.2.1.trans (hbA.mono HI.out.2.2.2.2.2.1.size)) hbA)
      clear hbA h0 h1 h2 h3 h4 h5 x0 x1 x2 x3 x4 x5
      go_wp2
      go_roundg rr.len
      case measure => rw [HI.out.1]; simp [Fo.len]
      case rel =>
        have q1 : j + 1 + rr.len = SL := by have := HI.out.2.1; simp only [Fo.len] at this; omega
        have q2 : rr ≠ .nil → ∃ b' o', some (⟨bb, o, none⟩ : Addr) = some ⟨b', o', none⟩ ∧ b' < w.heap.size ∧ rr.At wA w.heap.size b' (o' + (j + 1) * 6) := fun hne => by
          refine ⟨bb, o, rfl, hb, ?_⟩
          rw [show o + (j + 1) * 6 = o + j * 6 + 6 by omega]
          exact HI.out.2.2.2.2.1.keep (Nat.le_refl _) (fun p hp => HWA.out.2.cell (by omega)) hb
        have q3 : ∃ (j' : Nat) (r' : Fo) (ou' : ByteArray) (ac' : List UInt8), rr.len = r'.len ∧ j' + r'.len = SL ∧ Value.string (ou ++ TS) = .string ou' ∧ Value.int .i64 ((j : Int) + 1) = .int .i64 j' ∧ r'.All E40OK ∧ r'.Bnd ∧ (r' ≠ .nil → ∃ b' o', some (⟨bb, o, none⟩ : Addr) = some ⟨b', o', none⟩ ∧ b' < w.heap.size ∧ r'.At wA w.heap.size b' (o' + j' * 6)) ∧ Below WZ.heap.size WZ wA ∧ StrB ou' ac' ∧ ac' ++ r'.kt pack = TT :=
          ⟨j + 1, rr, ou ++ TS, ac ++ TN, rfl, q1, rfl, rfl, HI.out.2.2.1, HI.out.2.2.2.1, q2, HWA.out.1, HI.out.2.2.2.2.2.2, HT9.out⟩
        exact q3
theorem e40_any (s : Fo) : E40OK s := Fo.by_parts e40_step s
end Go.Proofs.YtdobpmbgngomlaaGreatDoor
/- ref40.Key -/
namespace Go.Proofs.YtdobpmbgngomlaaGreatDoor
open Go.RowKit Go.Proofs Go.Shelf

set_option maxRecDepth 100000 in
set_option maxHeartbeats 16000000 in
theorem key40_any (l : List Mo) (n : ByteArray × Int) (A : Option Addr) (c : Nat) (w : World) (hl : SlM w w.heap.size A c l) (hms : ∀ m ∈ l, ModS m.label m.uses m.ds) (ht : totD l ≤ 1000) :
    Calls Tryz.prog 49 #[.slice A l.length c, .agg #[.string n.1, .int .i64 n.2]] w (KeyP l n w) := by
  obtain ⟨W0, hW0⟩ : ∃ W0, w.alloc (.cells #[.string n.1, .int .i64 n.2] 24) = W0 := ⟨_, rfl⟩
  have hb0 : Below w.heap.size w W0 := by subst hW0; exact (Below.refl _ _).alloc (Nat.le_refl _) _
  have hz0 : w.heap.size < W0.heap.size := by subst hW0; simp
  have n0 : W0.cell? ⟨w.heap.size, 0, none⟩ = some (.string n.1) := by subst hW0; go_simp
  have n1 : W0.cell? ⟨w.heap.size, 1, none⟩ = some (.int .i64 n.2) := by subst hW0; go_simp
  have HL := Lib.hid (show ∀ X : World, Below w.heap.size w X → SlM X X.heap.size A c l from fun X hX => (hl.below hX).keep hX.size (fun _ _ => rfl))
  obtain ⟨N, HN⟩ : ∃ Q, Hid (l.length = Q) := ⟨_, Lib.hid rfl⟩
  have hq := closure40_any l n A c W0 (HL.out W0 hb0) hms ht
  rw [HN.out] at hq ⊢
  have HQ := Lib.hid hq
  have HB := Lib.hid (And.intro hb0 (And.intro hz0 (And.intro hl ht)))
  clear hl hb0 hz0 hms hq ht
  go_enter Tryz.func49, Tryz.ntmps49
  go_wp2_with fail
  refine HQ.out.mono ?_
  rintro e w1 ⟨hb1, ⟨hE, rfl⟩ | ⟨hE, hcl, rfl⟩ | ⟨hE, L, vA, vc, hcl, rfl, hO⟩⟩
  · have hE2 : (loadE l n != 0) = true := by simpa using hE
    have HX := Lib.hid (And.intro hb1 hE)
    obtain ⟨E, HE⟩ : ∃ Q, Hid (loadE l n = Q) := ⟨_, Lib.hid rfl⟩
    rw [HE.out] at hE2 ⊢
    clear hb1 hE
    go_wp2
    go_ret2
    exact ⟨HB.out.1.trans (HX.out.1.mono (Nat.le_of_lt HB.out.2.1)), .inl ⟨HX.out.2, by rw [HE.out]; rfl⟩⟩
  · have HX := Lib.hid (And.intro hb1 (And.intro hE hcl))
    clear hb1 hE hcl
    go_wp2
    go_ret2
    exact ⟨HB.out.1.trans (HX.out.1.mono (Nat.le_of_lt HB.out.2.1)), .inr (.inl ⟨HX.out.2.1, HX.out.2.2, rfl⟩)⟩
  · have k0 := (hb1.cell (p := ⟨w.heap.size, 0, none⟩) HB.out.2.1).trans n0
    have k1 := (hb1.cell (p := ⟨w.heap.size, 1, none⟩) HB.out.2.1).trans n1
    have hzw1 : w.heap.size < w1.heap.size := Nat.lt_of_lt_of_le HB.out.2.1 hb1.size
    have hBw1 : Below w.heap.size w w1 := HB.out.1.trans (hb1.mono (Nat.le_of_lt HB.out.2.1))
    have hchk := (loadE_zero hE).1
    obtain ⟨T, HTT⟩ : ∃ T, Hid (keyL l n L = T) := ⟨_, Lib.hid rfl⟩
    have hLen : L.length ≤ 1000 := by
      have h3 := allN_len l
      have := nodup_len L (allN l) (ltN_nodup hcl.1) fun x hx => mem_allN (by
        have := hcl.2.2 x ((hcl.2.1 x).1 hx)
        unfold grf at this
        cases hb : bodyOf l x with
        | none => rw [hb] at this; exact absurd rfl this
        | some y => rfl)
      have := HB.out.2.2.2
      omega
    have HLT := Lib.hid (show T.length ≤ 70368744177664 by
      rw [← HTT.out]
      have h1 := txtL_big n.1
      have h2 := numL_len n.2
      have h3 := catE_len hchk L
      have h4 : 53000000 * L.length ≤ 53000000 * 1000 := Nat.mul_le_mul_left _ hLen
      simp only [keyL, List.length_append]
      omega)
    obtain ⟨M, HM⟩ : ∃ Q, Hid (L.length = Q) := ⟨_, Lib.hid rfl⟩
    have HX := Lib.hid (And.intro hE (And.intro hcl (And.intro hO (And.intro hBw1 (And.intro hzw1 hchk)))))
    have hs1 := txtS_sz n.1
    have hs2 := numS_sz n.2
    have hno1 : ¬ (9223372036854775807 < (txtS n.1).size + (numS n.2).size) := by omega
    have HK := Lib.hid (show ∀ X : World, Below w1.heap.size w1 X → X.cell? ⟨w.heap.size, 0, none⟩ = some (.string n.1) ∧ X.cell? ⟨w.heap.size, 1, none⟩ = some (.int .i64 n.2) from fun X hX => ⟨(hX.cell (p := ⟨w.heap.size, 0, none⟩) hzw1).trans k0, (hX.cell (p := ⟨w.heap.size, 1, none⟩) hzw1).trans k1⟩)
    rw [HM.out]
    clear hb1 hE hcl hO hBw1 hchk hLen n0 n1 hW0 hs1 hs2
    have hbY : Below w1.heap.size w1 w1 := Below.refl _ _
    have HCN : Hid (∀ (v : Int) (X : World), Below w1.heap.size w1 X → Calls Tryz.prog 89 #[.int .i64 v] X fun e Y => e = .returned (.string (numS v)) ∧ Below w1.heap.size w1 Y) := Lib.hid fun v X hX => (number40_any v X).mono fun e Y ⟨h1, h2⟩ => ⟨h1, hX.trans (h2.mono hX.size)⟩
    have HCW : Hid (∀ (v : ByteArray) (X : World), Below w1.heap.size w1 X → Calls Tryz.prog 88 #[.string v] X fun e Y => e = .returned (.string (txtS v)) ∧ Below w1.heap.size w1 Y) := Lib.hid fun v X hX => (word40_any v X).mono fun e Y ⟨h1, h2⟩ => ⟨h1, hX.trans (h2.mono hX.size)⟩
    go_upto_region 4 with fail
    go_cut [8] (fun s8 wx => s8 = .string (txtS n.1 ++ numS n.2) ∧ Below w1.heap.size w1 wx)
    case first =>
      clear k0 k1
      go_region_held3 (fun X => X.cell? ⟨w.heap.size, 0, none⟩ = some (.string n.1) ∧ X.cell? ⟨w.heap.size, 1, none⟩ = some (.int .i64 n.2))
        (exact HK.out _ (by repeat (first | with_reducible exact hbY | with_reducible refine below_drew' ?_)))
        (first
          | (go_at_call 89; (with_reducible refine Calls.mono (HCN.out _ _ ?_) ?_); (focus (repeat (first | with_reducible exact hbY | with_reducible refine below_drew' ?_))); rintro e w6 ⟨rfl, hbY⟩)
          | (go_at_call 88; (with_reducible refine Calls.mono (HCW.out _ _ ?_) ?_); (focus (repeat (first | with_reducible exact hbY | with_reducible refine below_drew' ?_))); rintro e w6 ⟨rfl, hbY⟩))
      all_goals (
        go_wp2_with fail
        go_meet
        exact ⟨rfl, by repeat (first | with_reducible exact hbY | with_reducible refine below_drew' ?_)⟩)
    case rest =>
    obtain ⟨h8, hb6⟩ := hcut
    subst h8
    have HSB := Lib.hid ((StrB.txt n.1).cat (StrB.num n.2))
    obtain ⟨ou0, hou0⟩ : ∃ ou, txtS n.1 ++ numS n.2 = ou := ⟨_, rfl⟩
    have HT0 := Lib.hid (show (txtL n.1 ++ numL n.2) ++ catE l (L.drop 0) = T by rw [← HTT.out, keyL, List.append_assoc]; rfl)
    obtain ⟨ac0, hac0⟩ : ∃ ac, txtL n.1 ++ numL n.2 = ac := ⟨_, rfl⟩
    rw [hou0, hac0] at HSB
    rw [hou0]
    rw [hac0] at HT0
    have HB6 := Lib.hid hb6
    clear hno1 hbY hb6 hou0 hac0 k0 k1 HCN HCW
    go_wp2
    go_loopg [8, 9, 10, 11] M (fun g so ct _ _ wr => ∃ (j : Nat) (ou : ByteArray) (ac : List UInt8), g = M - j ∧ j ≤ M ∧ so = .string ou ∧ ct = .int .i64 j ∧ Below w1.heap.size w1 wr ∧ StrB ou ac ∧ ac ++ catE l (L.drop j) = T)
    case atStart => exact ⟨0, ou0, ac0, rfl, by omega, rfl, rfl, HB6.out, HSB.out, HT0.out⟩
    case round =>
      obtain ⟨j, ou, ac, HG, hj, rfl, rfl, hB, hSt, hTj⟩ := hrel
      have hz := hB.size
      by_cases hlt : j < M
      · have hlt' : j < L.length := by rw [HM.out]; exact hlt
        obtain ⟨x, hx⟩ : ∃ x, L[j]? = some x := ⟨_, List.getElem?_eq_getElem hlt'⟩
        have hO := HX.out.2.2.1.below hB (Nat.le_refl _)
        rcases hO.cells with ⟨h0, _⟩ | ⟨g, rfl, hgl, hc1, hc2, hcell⟩
        · rw [h0] at hlt'; simp at hlt'
        obtain ⟨x0, x1⟩ := namesC_at x L j hx
        have c0 := hcell _ _ x0
        have c1 := hcell _ _ x1
        rw [HM.out] at hc1
        have hreach : Reach (grf l) n x := (HX.out.2.1.2.1 x).1 (List.mem_of_getElem? hx)
        obtain ⟨dd, hd⟩ : ∃ d, bodyOf l x = some d := by
          have := HX.out.2.1.2.2 x hreach
          unfold grf at this
          cases hb : bodyOf l x with
          | none => rw [hb] at this; exact absurd rfl this
          | some y => exact ⟨y, rfl⟩
        obtain ⟨hbd1, hbd2, _⟩ := body_bnd HX.out.2.2.2.2.2 hd
        have hBw : Below w.heap.size w wr := HX.out.2.2.2.1.trans (hB.mono (Nat.le_of_lt HX.out.2.2.2.2.1))
        have hF := find40_any l x A c wr (HL.out wr hBw)
        unfold FindP at hF
        rw [HN.out, hd] at hF
        simp only [Option.getD_some, Option.isSome_some, Dc.cells] at hF
        have HF := Lib.hid hF
        obtain ⟨TN, hTN⟩ : ∃ TN, Hid (nodeT x.1 dd.k dd.n dd.m dd.i dd.d dd.s.len (dd.s.kt x.1) = TN) := ⟨_, Lib.hid rfl⟩
        have hTx : (ac ++ txtL x.1 ++ numL x.2 ++ TN) ++ catE l (L.drop (j + 1)) = T := by
          rw [← hTj, catE_at l hx, entT, bodyT, hd, ← hTN.out]
          simp only [List.append_assoc]
        have hTl : ac.length + (txtL x.1).length + (numL x.2).length + TN.length ≤ 70368744177664 := by
          have h6 := HLT.out
          rw [← hTx] at h6
          simp only [List.length_append] at h6
          omega
        have i1 : (0 : Int) ≤ (j : Int) := by omega
        have i2 : (j : Int) < (M : Int) := by omega
        have HT := Lib.hid (And.intro HG (And.intro hTx (And.intro hB (And.intro hBw (And.intro hSt (HB.out.2.2.1.body hd))))))
        have hosz := hSt.size
        clear HG hTj hB hSt hF hO hcell x0 x1 hx hreach hBw hd hTx
        go_wp2_with fail
        refine HF.out.mono ?_
        rintro e w3 ⟨rfl, hb3⟩
        obtain ⟨W4, hW4⟩ : ∃ W4, w3.alloc (.cells #[.int .i64 dd.id, .int .i64 dd.kind, .bool dd.pub, .slice dd.nA dd.names.length dd.nc, .bool dd.doubt, .int .i64 dd.k, .string dd.n, .string dd.m, .int .i64 dd.i, .int .i64 dd.d, .slice dd.A dd.s.len dd.c] 44) = W4 := ⟨_, rfl⟩
        have hb4 : Below wr.heap.size wr W4 := by rw [← hW4]; exact hb3.alloc hb3.size _
        have hz3 := hb3.size
        have hz4 : w3.heap.size < W4.heap.size := by rw [← hW4]; simp
        have hx4 : W4.heap[w3.heap.size]? = some (.cells #[.int .i64 dd.id, .int .i64 dd.kind, .bool dd.pub, .slice dd.nA dd.names.length dd.nc, .bool dd.doubt, .int .i64 dd.k, .string dd.n, .string dd.m, .int .i64 dd.i, .int .i64 dd.d, .slice dd.A dd.s.len dd.c] 44 (0, 0)) := by rw [← hW4]; exact heap_alloc_new w3 _
        have HSX : Hid (∀ X : World, Below W4.heap.size W4 X → X.cell? ⟨g, j * 2, none⟩ = some (.string x.1) ∧ X.cell? ⟨g, j * 2 + 1, none⟩ = some (.int .i64 x.2) ∧ X.cell? ⟨w3.heap.size, 5, none⟩ = some (.int .i64 dd.k) ∧ X.cell? ⟨w3.heap.size, 6, none⟩ = some (.string dd.n) ∧ X.cell? ⟨w3.heap.size, 7, none⟩ = some (.string dd.m) ∧ X.cell? ⟨w3.heap.size, 8, none⟩ = some (.int .i64 dd.i) ∧ X.cell? ⟨w3.heap.size, 9, none⟩ = some (.int .i64 dd.d) ∧ X.cell? ⟨w3.heap.size, 10, none⟩ = some (.slice dd.A dd.s.len dd.c)) := Lib.hid fun X hX => by
          have h0 := (hX.block w3.heap.size hz4).trans hx4
          have hr := hb4.trans (hX.mono hb4.size)
          exact ⟨(hr.cell (p := ⟨g, j * 2, none⟩) hgl).trans c0, (hr.cell (p := ⟨g, j * 2 + 1, none⟩) hgl).trans c1, cell_of_row X _ 5 _ _ (0, 0) h0, cell_of_row X _ 6 _ _ (0, 0) h0, cell_of_row X _ 7 _ _ (0, 0) h0, cell_of_row X _ 8 _ _ (0, 0) h0, cell_of_row X _ 9 _ _ (0, 0) h0, cell_of_row X _ 10 _ _ (0, 0) h0⟩
        have HB4 := Lib.hid hb4
        obtain ⟨TS, hTS⟩ : ∃ TS : ByteArray, (⟨TN.toArray⟩ : ByteArray) = TS := ⟨_, rfl⟩
        have hTSL : StrB TS TN := by rw [← hTS]; exact rfl
        have hsz1 := hTSL.size
        have hst1 : (txtS x.1).size = (txtL x.1).length := StrB.size (StrB.txt x.1)
        have hsn1 : (numS x.2).size = (numL x.2).length := StrB.size (StrB.num x.2)
        have hno1 : ¬ (9223372036854775807 < ou.size + (txtS x.1).size) := by omega
        have hno2 : ¬ (9223372036854775807 < ou.size + (txtS x.1).size + (numS x.2).size) := by omega
        have hno3 : ¬ (9223372036854775807 < ou.size + (txtS x.1).size + (numS x.2).size + TS.size) := by omega
        have hTNl : TN.length ≤ 70368744177664 := by omega
        have HSt := Lib.hid (((HT.out.2.2.2.2.1.cat (StrB.txt x.1)).cat (StrB.num x.2)).cat hTSL)
        have HCE : Hid (∀ X : World, Below W4.heap.size W4 X → Calls Tryz.prog 91 #[.string x.1, .agg #[.int .i64 dd.k, .string dd.n, .string dd.m, .int .i64 dd.i, .int .i64 dd.d, .slice dd.A dd.s.len dd.c]] X fun e Y => e = .returned (.string TS) ∧ Below W4.heap.size W4 Y) := Lib.hid fun X hX => by
          have hwX : Below w.heap.size w X := HT.out.2.2.2.1.trans ((hb4.trans (hX.mono hb4.size)).mono HT.out.2.2.2.1.size)
          have h := e40_any dd.s x.1 dd.k dd.n dd.m dd.i dd.d dd.A dd.c X (HT.out.2.2.2.2.2.keep hwX.size (fun p hp => hwX.cell hp)) hbd1 hbd2 (by rw [hTN.out]; exact hTNl)
          rw [hTN.out, hTS] at h
          refine h.mono ?_
          rintro e Y ⟨rfl, hb⟩
          exact ⟨rfl, hX.trans (hb.mono hX.size)⟩
        clear hst1 hsn1 hsz1 hTSL hTS hTNl hTl hosz hb3 hb4 hx4 c0 c1
        have hbY : Below W4.heap.size W4 W4 := Below.refl _ _
        have HCN : Hid (∀ (v : Int) (X : World), Below W4.heap.size W4 X → Calls Tryz.prog 89 #[.int .i64 v] X fun e Y => e = .returned (.string (numS v)) ∧ Below W4.heap.size W4 Y) := Lib.hid fun v X hX => (number40_any v X).mono fun e Y ⟨h1, h2⟩ => ⟨h1, hX.trans (h2.mono hX.size)⟩
        have HCW : Hid (∀ (v : ByteArray) (X : World), Below W4.heap.size W4 X → Calls Tryz.prog 88 #[.string v] X fun e Y => e = .returned (.string (txtS v)) ∧ Below W4.heap.size W4 Y) := Lib.hid fun v X hX => (word40_any v X).mono fun e Y ⟨h1, h2⟩ => ⟨h1, hX.trans (h2.mono hX.size)⟩
        go_upto_region 9 with fail
        clear hW4
        go_region_held3 (fun X => X.cell? ⟨g, j * 2, none⟩ = some (.string x.1) ∧ X.cell? ⟨g, j * 2 + 1, none⟩ = some (.int .i64 x.2) ∧ X.cell? ⟨w3.heap.size, 5, none⟩ = some (.int .i64 dd.k) ∧ X.cell? ⟨w3.heap.size, 6, none⟩ = some (.string dd.n) ∧ X.cell? ⟨w3.heap.size, 7, none⟩ = some (.string dd.m) ∧ X.cell? ⟨w3.heap.size, 8, none⟩ = some (.int .i64 dd.i) ∧ X.cell? ⟨w3.heap.size, 9, none⟩ = some (.int .i64 dd.d) ∧ X.cell? ⟨w3.heap.size, 10, none⟩ = some (.slice dd.A dd.s.len dd.c))
          (exact HSX.out _ (by repeat (first | with_reducible exact hbY | with_reducible refine below_drew' ?_)))
          (first
            | (go_at_call 89; (with_reducible refine Calls.mono (HCN.out _ _ ?_) ?_); (focus (repeat (first | with_reducible exact hbY | with_reducible refine below_drew' ?_))); rintro e w6 ⟨rfl, hbY⟩)
            | (go_at_call 88; (with_reducible refine Calls.mono (HCW.out _ _ ?_) ?_); (focus (repeat (first | with_reducible exact hbY | with_reducible refine below_drew' ?_))); rintro e w6 ⟨rfl, hbY⟩)
            | (go_at_call 91; (with_reducible refine Calls.mono (HCE.out _ ?_) ?_); (focus (repeat (first | with_reducible exact hbY | with_reducible refine below_drew' ?_))); rintro e w6 ⟨rfl, hbY⟩))
        all_goals (
          have HB5 := Lib.hid (HT.out.2.2.1.trans ((HB4.out.trans (Below.mono (show Below W4.heap.size W4 _ by repeat (first | with_reducible exact hbY | with_reducible refine below_drew' ?_)) HB4.out.size)).mono hz))
          clear hno1 hno2 hno3 hbY
          go_wp2
          go_roundg (M - (j + 1))
          case measure => rw [HT.out.1]; omega
          case rel => exact ⟨j + 1, _, _, rfl, by omega, rfl, by go_num, HB5.out, HSt.out, HT.out.2.1⟩)
      · have hje : j = M := by omega
        have hac : ac = T := by
          rw [List.drop_of_length_le (by rw [HM.out]; omega)] at hTj
          simpa [catE] using hTj
        have HF := Lib.hid (And.intro hB (And.intro hSt hac))
        clear hB hSt hTj HG hac
        go_wp2
        go_ret2
        refine ⟨HX.out.2.2.2.1.trans (HF.out.1.mono (Nat.le_of_lt HX.out.2.2.2.2.1)), .inr (.inr ⟨HX.out.1, L, HX.out.2.1, ?_⟩)⟩
        rw [HTT.out, ← HF.out.2.2, ← HF.out.2.1.eq]
        rfl
end Go.Proofs.YtdobpmbgngomlaaGreatDoor
