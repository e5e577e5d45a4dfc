/- ref01.put, PutInt, PutText; ref28.number, word -/
import Derived.Test.YtpnfbfnffkbilaaGreatDoorZmc
import Derived.Test.YtpnfbfnffkbilaaGreatDoorProg
import Derived.WalkKit
import Derived.BigCall
import Derived.BigRegion
import Derived.IntWalk
import Derived.Below
import Derived.Lib.Hide
import Derived.Laws.IdiomStrings
import Derived.Laws.Concat
import Derived.Deep.RegionWith
import Derived.Deep.RegionHeld3
import Derived.Deep.DrawnRows
import Derived.Test.YtpnfbfnffkbilaaGreatDoorZmd
import Derived.Deep.DeepCutAuto
import Derived.Test.YtpnfbfnffkbilaaGreatDoorZmh
import Derived.Test.YtpnfbfnffkbilaaGreatDoorZma
import Derived.Test.YtpnfbfnffkbilaaGreatDoorZmb
namespace Go.Proofs.YtpnfbfnffkbilaaGreatDoor
open Go.RowKit Go.Proofs

theorem conv_one (c : UInt8) (v : Int) (hv : (c.toNat : Int) = v) (W : World) (g : Nat) (h : W.cell? ⟨g, 0, none⟩ = some (.int .u8 v)) :
    (convert 90 9 (.slice (some ⟨g, 0, none⟩) 1 1)).run Tryz.prog W = .ok (.string ⟨#[c]⟩) W :=
  run_convert_bytes_back W 90 9 5 ⟨g, 0, none⟩ 1 [c] Tryz.underlying90 Tryz.underlying5 Tryz.underlying9 (fun j hj => by
    obtain rfl : j = 0 := by simpa using hj
    simp [Addr.add, h, hv])

theorem cells_old {W w1 : World} (hb : Below W.heap.size W w1) : ∀ b o, b < W.heap.size → w1.cell? ⟨b, o, none⟩ = W.cell? ⟨b, o, none⟩ := fun b o h => hb.cell (p := ⟨b, o, none⟩) h

set_option maxRecDepth 100000 in
set_option maxHeartbeats 2000000 in
theorem put01_small (n : Nat) (w : World) (hn : n < 128) : Calls Tryz.prog 121 #[.int .i64 n] w fun e w' => e = .returned (.string ⟨(encL n).toArray⟩) ∧ Below w.heap.size w w' := by
  have hlt : decide ((n : Int) < 128) = true := by simp; omega
  have hn1 : (n : Int) < 128 := by simpa using hlt
  have hcv := conv_one (UInt8.ofNat n) n (u8_nat (by omega))
  have HE := Lib.hid (encL_small hn)
  clear hn
  go_enter Tryz.func121, Tryz.ntmps121
  go_wp2
  go_ret
  exact ⟨by rw [HE.out]; rfl, (Below.refl _ _).alloc (Nat.le_refl _) _⟩

set_option maxRecDepth 100000 in
set_option maxHeartbeats 2000000 in
theorem put01_any : ∀ (k n : Nat) (w : World), n < 128 ^ (k + 1) → n ≤ 1099511627776 → Calls Tryz.prog 121 #[.int .i64 n] w fun e w' => e = .returned (.string ⟨(encL n).toArray⟩) ∧ Below w.heap.size w w' := by
  intro k
  induction k with
  | zero => intro n w hk hn; exact put01_small n w (by simpa using hk)
  | succ k ih =>
    intro n w hk hn
    by_cases hlt : n < 128
    · exact put01_small n w hlt
    · have hd : decide ((n : Int) < 128) = false := by simp; omega
      obtain ⟨C, HC⟩ : ∃ C : ByteArray, Hid (⟨#[UInt8.ofNat (n % 128 + 128)]⟩ = C) := ⟨_, Lib.hid rfl⟩
      obtain ⟨R, HR⟩ : ∃ R : ByteArray, Hid (⟨(encL (n / 128)).toArray⟩ = R) := ⟨_, Lib.hid rfl⟩
      have hcv := conv_one (UInt8.ofNat (n % 128 + 128)) (128 + n % 128) (by rw [u8_nat (by omega)]; omega)
      rw [HC.out] at hcv
      have HE := Lib.hid (show (⟨(encL n).toArray⟩ : ByteArray) = C ++ R by rw [encL_big hlt, ← HC.out, ← HR.out]; simp [ByteArray.ext_iff])
      have hlen := encL_40 (n := n / 128) (by omega)
      have hno : ¬ (9223372036854775807 < C.size + R.size) := by
        rw [← HC.out, ← HR.out]
        show ¬ (_ < 1 + (encL (n / 128)).toArray.size)
        rw [List.size_toArray]
        omega
      have ih2 := fun W => ih (n / 128) W (by rw [Nat.pow_succ] at hk; omega) (by omega)
      rw [show ((n / 128 : Nat) : Int) = (n : Int) / 128 by omega, HR.out] at ih2
      have IH := Lib.hid ih2
      have b0 : (0 : Int) ≤ (n : Int) := by omega
      have b1 : (n : Int) ≤ 1099511627776 := by omega
      have t1 : (n : Int).tmod 128 = (n : Int) % 128 := Int.tmod_eq_emod_of_nonneg b0
      have t2 : IntKind.i64.wrap (128 + (n : Int) % 128) = 128 + (n : Int) % 128 := IntWalk.i64_in _ (by omega)
      have t3 : IntKind.u8.wrap (128 + (n : Int) % 128) = 128 + (n : Int) % 128 := IntWalk.u8_in _ (by omega)
      have t4 : IntKind.i64.wrap ((n : Int) / 128) = (n : Int) / 128 := IntWalk.i64_in _ (by omega)
      rw [HE.out]
      clear ih ih2 hk hlen hlt hn
      go_enter Tryz.func121, Tryz.ntmps121
      go_wp2_with fail
      go_region_with ((refine (IH.out _).mono ?_; rintro e w' ⟨rfl, hb⟩; have hcb := cells_old hb; have hbz := hb.size))
      all_goals (
        go_wp2
        go_ret
        refine ⟨rfl, ?_⟩
        first
          | exact (((Below.refl _ _).alloc (Nat.le_refl _) _).drew).trans (hb.mono (by simp))
          | exact ((Below.refl _ _).drew.trans (hb.mono (by simp))).alloc (by simpa using hbz) _)

set_option maxRecDepth 100000 in
set_option maxHeartbeats 2000000 in
theorem PutInt01_any (n : Int) (w : World) : Calls Tryz.prog 91 #[.int .i64 n] w fun e w' => (∃ c : Int, e = .returned (.tuple #[.string ⟨(numL n).toArray⟩, .int .i64 c])) ∧ Below w.heap.size w w' := by
  by_cases h : 0 ≤ n ∧ n ≤ 1099511627776
  · obtain ⟨k, rfl⟩ := Int.eq_ofNat_of_zero_le h.1
    have HP := Lib.hid (put01_any 5 k w (by omega) (by omega))
    have HE := Lib.hid (show numL k = encL k by rw [numL, if_pos h, Int.toNat_natCast])
    have h1 : decide ((k : Int) < 0) = false := decide_eq_false (by omega)
    have h2 : decide (1099511627776 < (k : Int)) = false := decide_eq_false (by omega)
    rw [HE.out]
    clear h
    go_enter Tryz.func91, Tryz.ntmps91
    go_wp2_with fail
    refine HP.out.mono ?_
    rintro e w' ⟨rfl, hb⟩
    go_wp2
    go_ret2
    exact ⟨⟨0, rfl⟩, hb⟩
  · have HE := Lib.hid (show numL n = [] by rw [numL, if_neg h])
    rw [HE.out]
    cases h1 : decide (n < 0) with
    | true =>
      clear h
      go_enter Tryz.func91, Tryz.ntmps91
      go_wp2
      go_ret2
      exact ⟨⟨2, rfl⟩, Below.refl _ _⟩
    | false =>
      have h2 : decide (1099511627776 < n) = true := decide_eq_true (by have := of_decide_eq_false h1; omega)
      clear h
      go_enter Tryz.func91, Tryz.ntmps91
      go_wp2
      go_ret2
      exact ⟨⟨2, rfl⟩, Below.refl _ _⟩

set_option maxRecDepth 100000 in
set_option maxHeartbeats 2000000 in
theorem PutText01_any (s : ByteArray) (w : World) : Calls Tryz.prog 90 #[.string s] w fun e w' => (∃ c : Int, e = .returned (.tuple #[.string ⟨(txtL s).toArray⟩, .int .i64 c])) ∧ Below w.heap.size w w' := by
  by_cases h : s.size ≤ 65536
  · obtain ⟨R, HR⟩ : ∃ R : ByteArray, Hid (⟨(encL s.size).toArray⟩ = R) := ⟨_, Lib.hid rfl⟩
    have hlen := encL_40 (n := s.size) (by omega)
    have hp := put01_any 5 s.size w (by omega) (by omega)
    rw [HR.out] at hp
    have HP := Lib.hid hp
    have hno : ¬ (9223372036854775807 < R.size + s.size) := by
      rw [← HR.out]
      show ¬ (_ < (encL s.size).toArray.size + _)
      rw [List.size_toArray]
      omega
    have HE := Lib.hid (show (⟨(txtL s).toArray⟩ : ByteArray) = R ++ s by rw [txtL, if_pos h, ← HR.out]; simp [ByteArray.ext_iff])
    have h1 : decide (65536 < (s.size : Int)) = false := by simp; omega
    rw [HE.out]
    clear h hp hlen
    go_enter Tryz.func90, Tryz.ntmps90
    go_wp2_with fail
    refine HP.out.mono ?_
    rintro e w' ⟨rfl, hb⟩
    go_wp2
    go_ret2
    exact ⟨⟨0, rfl⟩, hb⟩
  · have HE := Lib.hid (show txtL s = [] by rw [txtL, if_neg h])
    have h1 : decide (65536 < (s.size : Int)) = true := by simp; omega
    rw [HE.out]
    clear h
    go_enter Tryz.func90, Tryz.ntmps90
    go_wp2
    go_ret2
    exact ⟨⟨4, rfl⟩, Below.refl _ _⟩

/-- The bytes of a number, of a text, as a string. -/
def numS (n : Int) : ByteArray := ⟨(numL n).toArray⟩
def txtS (s : ByteArray) : ByteArray := ⟨(txtL s).toArray⟩
end Go.Proofs.YtpnfbfnffkbilaaGreatDoor
/- ref40.number, word, expr -/
namespace Go.Proofs.YtpnfbfnffkbilaaGreatDoor
open Go.RowKit Go.Proofs Go.Shelf

set_option maxRecDepth 100000 in
theorem number40_any (n : Int) (w : World) : Calls Tryz.prog 62 #[.int .i64 n] w fun e w' => e = .returned (.string (numS n)) ∧ Below w.heap.size w w' := by
  have HP := Lib.hid (PutInt01_any n w)
  go_enter Tryz.func62, Tryz.ntmps62
  go_wp2_with fail
  refine HP.out.mono ?_
  rintro e w' ⟨⟨c, rfl⟩, hb⟩
  go_wp2
  go_ret
  exact ⟨rfl, hb⟩
set_option maxRecDepth 100000 in
theorem word40_any (s : ByteArray) (w : World) : Calls Tryz.prog 61 #[.string s] w fun e w' => e = .returned (.string (txtS s)) ∧ Below w.heap.size w w' := by
  have HP := Lib.hid (PutText01_any s w)
  go_enter Tryz.func61, Tryz.ntmps61
  go_wp2_with fail
  refine HP.out.mono ?_
  rintro e w' ⟨⟨c, rfl⟩, hb⟩
  go_wp2
  go_ret
  exact ⟨rfl, hb⟩
theorem numS_sz (n : Int) : (numS n).size ≤ 6 := by
  show (numL n).toArray.size ≤ 6
  rw [List.size_toArray]
  exact numL_len n
theorem txtS_sz (s : ByteArray) : (txtS s).size ≤ 65542 := by
  show (txtL s).toArray.size ≤ 65542
  rw [List.size_toArray]
  exact txtL_big s
/-- A string holds these bytes. -/
def StrB (o : ByteArray) (l : List UInt8) : Prop := o.data.toList = l
theorem StrB.cat {o p : ByteArray} {l m : List UInt8} (h : StrB o l) (k : StrB p m) : StrB (o ++ p) (l ++ m) := by
  unfold StrB at h k ⊢
  rw [ByteArray.data_append, Array.toList_append, h, k]
theorem StrB.size {o : ByteArray} {l : List UInt8} (h : StrB o l) : o.size = l.length := by
  rw [← h, Array.length_toList]
  rfl
theorem StrB.eq {o : ByteArray} {l : List UInt8} (h : StrB o l) : o = ⟨l.toArray⟩ := by
  apply ByteArray.ext
  rw [← h]
theorem StrB.num (v : Int) : StrB (numS v) (numL v) := rfl
theorem StrB.txt (s : ByteArray) : StrB (txtS s) (txtL s) := rfl
def E40OK (s : Fo) : Prop := ∀ (pack : ByteArray) (k : Int) (n m : ByteArray) (i d : Int) (A : Option Addr) (c : Nat) (w : World), s.Sl w w.heap.size A c → (-999999999 ≤ i ∧ i ≤ 999999999) → s.Bnd → (nodeT pack k n m i d s.len (s.kt pack)).length ≤ 70368744177664 →
    Calls Tryz.prog 63 #[.string pack, .agg #[.int .i64 k, .string n, .string m, .int .i64 i, .int .i64 d, .slice A s.len c]] w
      fun e w' => e = .returned (.string ⟨(nodeT pack k n m i d s.len (s.kt pack)).toArray⟩) ∧ Below w.heap.size w w'
set_option maxRecDepth 100000 in
set_option maxHeartbeats 16000000 in
theorem e40_step (s : Fo) (ih : s.All E40OK) : E40OK s := by
  intro pack k n m i d A c w hs hi hB hl
  obtain ⟨n', hn'⟩ : ∃ n', packS pack k n = n' := ⟨_, rfl⟩
  obtain ⟨TT, hTT⟩ : ∃ TT, Hid (nodeT pack k n m i d s.len (s.kt pack) = TT) := ⟨_, Lib.hid rfl⟩
  have HT := Lib.hid (show numL k ++ txtL n' ++ txtL m ++ numL (sgnK i) ++ numL d ++ numL s.len ++ s.kt pack = TT by
    rw [← hTT.out, nodeT, hn']
    simp only [List.append_assoc])
  rw [hTT.out] at hl ⊢
  obtain ⟨SL, HSL⟩ : ∃ Q, Hid (s.len = Q) := ⟨_, Lib.hid rfl⟩
  have hcap1 := hs.1
  have hcap2 := hs.2.1
  unfold maxLen at hcap2
  rw [HSL.out] at hcap1 HT ⊢
  obtain ⟨W0, hW0⟩ : ∃ W0, w.alloc (.cells #[.int .i64 k, .string n', .string m, .int .i64 i, .int .i64 d, .slice A SL c] 43) = W0 := ⟨_, rfl⟩
  have hz0 : w.heap.size + 1 = W0.heap.size := by rw [← hW0]; simp
  have hb0 : Below w.heap.size w W0 := by rw [← hW0]; exact (Below.refl _ _).alloc (Nat.le_refl _) _
  have hx0 : W0.heap[w.heap.size]? = some (.cells #[.int .i64 k, .string n', .string m, .int .i64 i, .int .i64 d, .slice A SL c] 43 (0, 0)) := by rw [← hW0]; exact heap_alloc_new w _
  have HC : Hid (∀ X : World, Below W0.heap.size W0 X → X.cell? ⟨w.heap.size, 0, none⟩ = some (.int .i64 k) ∧ X.cell? ⟨w.heap.size, 1, none⟩ = some (.string n') ∧ X.cell? ⟨w.heap.size, 2, none⟩ = some (.string m) ∧ X.cell? ⟨w.heap.size, 3, none⟩ = some (.int .i64 i) ∧ X.cell? ⟨w.heap.size, 4, none⟩ = some (.int .i64 d) ∧ X.cell? ⟨w.heap.size, 5, none⟩ = some (.slice A SL c)) := Lib.hid fun X hX => by
    have h0 := (hX.block w.heap.size (by omega)).trans hx0
    exact ⟨cell_of_row X _ 0 _ _ (0, 0) h0, cell_of_row X _ 1 _ _ (0, 0) h0, cell_of_row X _ 2 _ _ (0, 0) h0, cell_of_row X _ 3 _ _ (0, 0) h0, cell_of_row X _ 4 _ _ (0, 0) h0, cell_of_row X _ 5 _ _ (0, 0) h0⟩
  obtain ⟨hi1, hi2⟩ := hi
  have HH := Lib.hid (And.intro hs (And.intro hB (And.intro hb0 (And.intro ih (And.intro hl hz0)))))
  have hk5 : (k == 5) = decide (k = 5) := by by_cases h : k = 5 <;> simp [h]
  have hne : (n.toList == []) = decide (n.size = 0) := by
    by_cases h : n.size = 0
    · have := toList_nil h; simp [this, h]
    · have := toList_ne h; simp [this, h]
  obtain ⟨b5, hb5⟩ : ∃ x, decide (k = 5) = x := ⟨_, rfl⟩
  obtain ⟨bn, hbn⟩ : ∃ x, decide (n.size = 0) = x := ⟨_, rfl⟩
  have hnn : n' = if b5 && bn then pack else n := by
    rw [← hn', packS, ← hb5, ← hbn]
    by_cases h1 : k = 5 <;> by_cases h2 : n.size = 0 <;> simp [h1, h2]
  rw [hb5] at hk5
  rw [hbn] at hne
  clear hs hB hl ih hz0 hb0 hx0 hb5 hbn hn'
  go_enter Tryz.func63, Tryz.ntmps63
  go_upto_region 1 with fail
  go_cut [15] (fun s15 wx => s15 = .bool (b5 && bn) ∧ wx = w.alloc (.cells #[.int .i64 k, .string n, .string m, .int .i64 i, .int .i64 d, .slice A SL c] 43))
  case first =>
    cases b5 <;> cases bn
    all_goals (
      go_wp2
      go_meet
      exact ⟨rfl, rfl⟩)
  case rest =>
  obtain ⟨h16, hwc⟩ := hcut
  subst h16 hwc
  go_upto_if 15 with (fail)
  go_cut [] (fun wx => wx = W0)
  case first =>
    cases b5 <;> cases bn
    all_goals (
      simp only [Bool.false_and, Bool.true_and, Bool.and_false, Bool.false_eq_true, if_true, if_false] at hnn
      clear hk5 hne
      go_wp2
      go_meet
      rw [← hW0, hnn])
  case rest =>
  subst hcut
  obtain ⟨WZ, hWZ⟩ : ∃ WZ, WZ = wc := ⟨_, rfl⟩
  subst hWZ
  clear hnn hk5 hne hW0
  obtain ⟨x0, x1, x2, x3, x4, x5⟩ := HC.out WZ (Below.refl _ _)
  have hw2 : IntKind.i64.wrap (2 * i) = 2 * i := IntWalk.i64_in _ (by omega)
  go_upto_if 23 with (fail)
  go_cut [5] (fun s5 wx => s5 = .int .i64 (sgnK i) ∧ wx = WZ)
  case first =>
    cases hneg : decide (i < 0) with
    | true =>
      have HE2 := Lib.hid (show sgnK i = -2 * i + 1 by rw [sgnK, if_pos (of_decide_eq_true hneg)]; omega)
      have hw3 : IntKind.i64.wrap (-2 * i) = -2 * i := IntWalk.i64_in _ (by omega)
      have hw4 : IntKind.i64.wrap (-2 * i + 1) = -2 * i + 1 := IntWalk.i64_in _ (by omega)
      go_wp2
      go_meet
      exact ⟨by rw [HE2.out], rfl⟩
    | false =>
      have HE2 := Lib.hid (show sgnK i = 2 * i by rw [sgnK, if_neg (of_decide_eq_false hneg)])
      go_wp2
      go_meet
      exact ⟨by rw [HE2.out], rfl⟩
  case rest =>
  obtain ⟨h5, hwc⟩ := hcut
  have hwc' := hwc.symm
  clear hwc
  subst h5 hwc'
  obtain ⟨sg, hsg⟩ : ∃ x, Hid (sgnK i = x) := ⟨_, Lib.hid rfl⟩
  rw [hsg.out] at HT ⊢
  have hs1 := numS_sz k
  have hs2 := txtS_sz n'
  have hs3 := txtS_sz m
  have hs4 := numS_sz sg
  have hs5 := numS_sz d
  have hs6 := numS_sz (SL : Int)
  have hno1 : ¬ (9223372036854775807 < (numS k).size + (txtS n').size) := by omega
  have hno2 : ¬ (9223372036854775807 < (numS k).size + (txtS n').size + (txtS m).size) := by omega
  have hno3 : ¬ (9223372036854775807 < (numS k).size + (txtS n').size + (txtS m).size + (numS sg).size) := by omega
  have hno4 : ¬ (9223372036854775807 < (numS k).size + (txtS n').size + (txtS m).size + (numS sg).size + (numS d).size) := by omega
  have hno5 : ¬ (9223372036854775807 < (numS k).size + (txtS n').size + (txtS m).size + (numS sg).size + (numS d).size + (numS (SL : Int)).size) := by omega
  clear hs1 hs2 hs3 hs4 hs5 hs6 hw2
  have hbY : Below WZ.heap.size WZ WZ := Below.refl _ _
  have HCN : Hid (∀ (v : Int) (X : World), Below WZ.heap.size WZ X → Calls Tryz.prog 62 #[.int .i64 v] X fun e Y => e = .returned (.string (numS v)) ∧ Below WZ.heap.size WZ Y) := Lib.hid fun v X hX => (number40_any v X).mono fun e Y ⟨h1, h2⟩ => ⟨h1, hX.trans (h2.mono hX.size)⟩
  have HCW : Hid (∀ (v : ByteArray) (X : World), Below WZ.heap.size WZ X → Calls Tryz.prog 61 #[.string v] X fun e Y => e = .returned (.string (txtS v)) ∧ Below WZ.heap.size WZ Y) := Lib.hid fun v X hX => (word40_any v X).mono fun e Y ⟨h1, h2⟩ => ⟨h1, hX.trans (h2.mono hX.size)⟩
  have HS : Hid (∀ X : World, Below WZ.heap.size WZ X → X.cell? ⟨w.heap.size, 0, none⟩ = some (.int .i64 k) ∧ X.cell? ⟨w.heap.size, 1, none⟩ = some (.string n') ∧ X.cell? ⟨w.heap.size, 2, none⟩ = some (.string m) ∧ X.cell? ⟨w.heap.size, 4, none⟩ = some (.int .i64 d) ∧ X.cell? ⟨w.heap.size, 5, none⟩ = some (.slice A SL c)) := Lib.hid fun X hX => by
    obtain ⟨a0, a1, a2, _, a4, a5⟩ := HC.out X hX
    exact ⟨a0, a1, a2, a4, a5⟩
  go_upto_region 6 with fail
  go_cut [6] (fun s6 wx => s6 = .string (numS k ++ txtS n' ++ txtS m ++ numS sg ++ numS d ++ numS (SL : Int)) ∧ Below WZ.heap.size WZ wx)
  case first =>
    clear x0 x1 x2 x3 x4 x5
    go_region_held3 (fun X => X.cell? ⟨w.heap.size, 0, none⟩ = some (.int .i64 k) ∧ X.cell? ⟨w.heap.size, 1, none⟩ = some (.string n') ∧ X.cell? ⟨w.heap.size, 2, none⟩ = some (.string m) ∧ X.cell? ⟨w.heap.size, 4, none⟩ = some (.int .i64 d) ∧ X.cell? ⟨w.heap.size, 5, none⟩ = some (.slice A SL c))
      (exact HS.out _ (by repeat (first | with_reducible exact hbY | with_reducible refine below_drew' ?_)))
      (first
        | (go_at_call 62; (with_reducible refine Calls.mono (HCN.out _ _ ?_) ?_); (focus (repeat (first | with_reducible exact hbY | with_reducible refine below_drew' ?_))); rintro e w6 ⟨rfl, hbY⟩)
        | (go_at_call 61; (with_reducible refine Calls.mono (HCW.out _ _ ?_) ?_); (focus (repeat (first | with_reducible exact hbY | with_reducible refine below_drew' ?_))); rintro e w6 ⟨rfl, hbY⟩))
    all_goals (
      go_wp2_with fail
      go_meet
      exact ⟨rfl, by repeat (first | with_reducible exact hbY | with_reducible refine below_drew' ?_)⟩)
  case rest =>
  obtain ⟨h6, hb6⟩ := hcut
  subst h6
  have HSB := Lib.hid (((((StrB.num k).cat (StrB.txt n')).cat (StrB.txt m)).cat (StrB.num sg)).cat (StrB.num d) |>.cat (StrB.num (SL : Int)))
  obtain ⟨ou0, hou0⟩ : ∃ ou, numS k ++ txtS n' ++ txtS m ++ numS sg ++ numS d ++ numS (SL : Int) = ou := ⟨_, rfl⟩
  obtain ⟨ac0, hac0⟩ : ∃ ac, numL k ++ txtL n' ++ txtL m ++ numL sg ++ numL d ++ numL (SL : Int) = ac := ⟨_, rfl⟩
  rw [hou0, hac0] at HSB
  rw [hou0]
  rw [hac0] at HT
  have HB6 := Lib.hid hb6
  clear hno1 hno2 hno3 hno4 hno5 hbY hb6 hou0 hac0 x0 x1 x2 x3 x4 x5
  obtain ⟨x0, x1, x2, x3, x4, x5⟩ := HC.out wc HB6.out
  go_wp2_with fail
  clear x0 x1 x2 x3 x4 x5
  go_loopg [6, 7] SL (fun g so ct wr => ∃ (j : Nat) (r' : Fo) (ou : ByteArray) (ac : List UInt8), g = r'.len ∧ j + r'.len = SL ∧ so = .string ou ∧ ct = .int .i64 j ∧ r'.All E40OK ∧ r'.Bnd ∧ (r' ≠ .nil → ∃ bb o, A = some ⟨bb, o, none⟩ ∧ bb < w.heap.size ∧ r'.At wr w.heap.size bb (o + j * 6)) ∧ Below WZ.heap.size WZ wr ∧ StrB ou ac ∧ ac ++ r'.kt pack = TT)
  case atStart =>
    refine ⟨0, s, ou0, ac0, HSL.out.symm, by rw [HSL.out, Nat.zero_add], rfl, rfl, HH.out.2.2.2.1, HH.out.2.1, fun hne => ?_, HB6.out, HSB.out, HT.out⟩
    obtain ⟨bb, o, e, hb, h⟩ := HH.out.1.2.2 hne
    exact ⟨bb, o, e, hb, by rw [Nat.zero_mul, Nat.add_zero]; exact h.keep (Nat.le_refl _) (fun p hp => (HH.out.2.2.1.trans (HB6.out.mono HH.out.2.2.1.size)).cell hp) hb⟩
  case round =>
    obtain ⟨j, r', ou, ac, HG, hjr, rfl, rfl, hA, hBn, hAt, hBr, hSt, hTj⟩ := hrel
    obtain ⟨x0, x1, x2, x3, x4, x5⟩ := HC.out wr hBr
    cases r' with
    | nil =>
      have hjr2 : SL ≤ j := by simp only [Fo.len] at hjr; omega
      have hjr1 : j ≤ SL := by simp only [Fo.len] at hjr; omega
      have HF := Lib.hid (And.intro hBr (And.intro hSt hTj))
      clear hBr hSt hTj hA hBn hAt HG hjr
      go_wp2
      go_ret
      have hac : ac = TT := by have := HF.out.2.2; simpa [Fo.kt] using this
      refine ⟨?_, HH.out.2.2.1.trans (HF.out.1.mono HH.out.2.2.1.size)⟩
      rw [← hac, ← HF.out.2.1.eq]
      rfl
    | cons rk rn rm ri rd A' c' rs rr =>
      have hjr2 : j < SL := by simp only [Fo.len] at hjr; omega
      obtain ⟨bb, o, rfl, hb, h0, h1, h2, h3, h4, ⟨h5, hc', hm', hs'⟩, hr'⟩ := hAt (by simp)
      have hwr : w.heap.size ≤ wr.heap.size := by have := HH.out.2.2.1.size; have := hBr.size; omega
      have hTl : ac.length + (nodeT pack rk rn rm ri rd rs.len (rs.kt pack)).length ≤ 70368744177664 := by
        have h6 := HH.out.2.2.2.2.1
        rw [← hTj] at h6
        simp only [Fo.kt, List.length_append] at h6
        omega
      have hK := hA.1 pack rk rn rm ri rd A' c' wr ⟨hc', hm', fun hne => by
        obtain ⟨b', o', e, hb', h'⟩ := hs' hne
        exact ⟨b', o', e, by omega, h'.keep hwr (fun _ _ => rfl) hb'⟩⟩ hBn.1 hBn.2.1 (by omega)
      obtain ⟨TN, hTN⟩ : ∃ TN, Hid (nodeT pack rk rn rm ri rd rs.len (rs.kt pack) = TN) := ⟨_, Lib.hid rfl⟩
      rw [hTN.out] at hK hTl
      have HT9 := Lib.hid (show (ac ++ TN) ++ rr.kt pack = TT by rw [← hTj, ← hTN.out]; simp only [Fo.kt, List.append_assoc])
      obtain ⟨TS, hTS⟩ : ∃ TS : ByteArray, (⟨TN.toArray⟩ : ByteArray) = TS := ⟨_, rfl⟩
      rw [hTS] at hK
      have hTSL : StrB TS TN := by rw [← hTS]; exact rfl
      have hsz1 := hTSL.size
      have hsz2 := hSt.size
      have hno : ¬ (9223372036854775807 < ou.size + TS.size) := by omega
      have HK := Lib.hid hK
      have HI := Lib.hid (And.intro HG (And.intro hjr (And.intro hA.2 (And.intro hBn.2.2 (And.intro hr' (And.intro hBr (hSt.cat hTSL)))))))
      generalize rs.len = SL' at h5 HK
      clear HG hjr hA hBn hAt hs' hr' hTj hBr hSt hK hTS hTSL hsz1 hsz2 hTl
      go_wp2_with fail
      refine HK.out.mono ?_
      rintro e wA ⟨rfl, hbA⟩
      have HWA := Lib.hid (And.intro (HI.out.2.2.2.2.2.1.trans (hbA.mono HI.out.2.2.2.2.2.1.size)) hbA)
      clear hbA h0 h1 h2 h3 h4 h5 x0 x1 x2 x3 x4 x5
      go_wp2
      go_roundg rr.len
      case measure => rw [HI.out.1]; simp [Fo.len]
      case rel =>
        have q1 : j + 1 + rr.len = SL := by have := HI.out.2.1; simp only [Fo.len] at this; omega
        have q2 : rr ≠ .nil → ∃ b' o', some (⟨bb, o, none⟩ : Addr) = some ⟨b', o', none⟩ ∧ b' < w.heap.size ∧ rr.At wA w.heap.size b' (o' + (j + 1) * 6) := fun hne => by
          refine ⟨bb, o, rfl, hb, ?_⟩
          rw [show o + (j + 1) * 6 = o + j * 6 + 6 by omega]
          exact HI.out.2.2.2.2.1.keep (Nat.le_refl _) (fun p hp => HWA.out.2.cell (by omega)) hb
        have q3 : ∃ (j' : Nat) (r' : Fo) (ou' : ByteArray) (ac' : List UInt8), rr.len = r'.len ∧ j' + r'.len = SL ∧ Value.string (ou ++ TS) = .string ou' ∧ Value.int .i64 ((j : Int) + 1) = .int .i64 j' ∧ r'.All E40OK ∧ r'.Bnd ∧ (r' ≠ .nil → ∃ b' o', some (⟨bb, o, none⟩ : Addr) = some ⟨b', o', none⟩ ∧ b' < w.heap.size ∧ r'.At wA w.heap.size b' (o' + j' * 6)) ∧ Below WZ.heap.size WZ wA ∧ StrB ou' ac' ∧ ac' ++ r'.kt pack = TT :=
          ⟨j + 1, rr, ou ++ TS, ac ++ TN, rfl, q1, rfl, rfl, HI.out.2.2.1, HI.out.2.2.2.1, q2, HWA.out.1, HI.out.2.2.2.2.2.2, HT9.out⟩
        exact q3
theorem e40_any (s : Fo) : E40OK s := Fo.by_parts e40_step s
end Go.Proofs.YtpnfbfnffkbilaaGreatDoor
/- ref40.Key -/
namespace Go.Proofs.YtpnfbfnffkbilaaGreatDoor
open Go.RowKit Go.Proofs Go.Shelf

set_option maxRecDepth 100000 in
set_option maxHeartbeats 16000000 in
theorem key40_any (l : List Mo) (n : ByteArray × Int) (A : Option Addr) (c : Nat) (w : World) (hl : SlM w w.heap.size A c l) (hms : ∀ m ∈ l, ModS m.label m.uses m.ds) (ht : totD l ≤ 1000) :
    Calls Tryz.prog 24 #[.slice A l.length c, .agg #[.string n.1, .int .i64 n.2]] w (KeyP l n w) := by
  obtain ⟨W0, hW0⟩ : ∃ W0, w.alloc (.cells #[.string n.1, .int .i64 n.2] 28) = W0 := ⟨_, rfl⟩
  have hb0 : Below w.heap.size w W0 := by subst hW0; exact (Below.refl _ _).alloc (Nat.le_refl _) _
  have hz0 : w.heap.size < W0.heap.size := by subst hW0; simp
  have n0 : W0.cell? ⟨w.heap.size, 0, none⟩ = some (.string n.1) := by subst hW0; go_simp
  have n1 : W0.cell? ⟨w.heap.size, 1, none⟩ = some (.int .i64 n.2) := by subst hW0; go_simp
  have HL := Lib.hid (show ∀ X : World, Below w.heap.size w X → SlM X X.heap.size A c l from fun X hX => (hl.below hX).keep hX.size (fun _ _ => rfl))
  obtain ⟨N, HN⟩ : ∃ Q, Hid (l.length = Q) := ⟨_, Lib.hid rfl⟩
  have hq := closure40_any l n A c W0 (HL.out W0 hb0) hms ht
  rw [HN.out] at hq ⊢
  have HQ := Lib.hid hq
  have HB := Lib.hid (And.intro hb0 (And.intro hz0 (And.intro hl ht)))
  clear hl hb0 hz0 hms hq ht
  go_enter Tryz.func24, Tryz.ntmps24
  go_wp2_with fail
  refine HQ.out.mono ?_
  rintro e w1 ⟨hb1, ⟨hE, rfl⟩ | ⟨hE, hcl, rfl⟩ | ⟨hE, L, vA, vc, hcl, rfl, hO⟩⟩
  · have hE2 : (loadE l n != 0) = true := by simpa using hE
    have HX := Lib.hid (And.intro hb1 hE)
    obtain ⟨E, HE⟩ : ∃ Q, Hid (loadE l n = Q) := ⟨_, Lib.hid rfl⟩
    rw [HE.out] at hE2 ⊢
    clear hb1 hE
    go_wp2
    go_ret2
    exact ⟨HB.out.1.trans (HX.out.1.mono (Nat.le_of_lt HB.out.2.1)), .inl ⟨HX.out.2, by rw [HE.out]; rfl⟩⟩
  · have HX := Lib.hid (And.intro hb1 (And.intro hE hcl))
    clear hb1 hE hcl
    go_wp2
    go_ret2
    exact ⟨HB.out.1.trans (HX.out.1.mono (Nat.le_of_lt HB.out.2.1)), .inr (.inl ⟨HX.out.2.1, HX.out.2.2, rfl⟩)⟩
  · have k0 := (hb1.cell (p := ⟨w.heap.size, 0, none⟩) HB.out.2.1).trans n0
    have k1 := (hb1.cell (p := ⟨w.heap.size, 1, none⟩) HB.out.2.1).trans n1
    have hzw1 : w.heap.size < w1.heap.size := Nat.lt_of_lt_of_le HB.out.2.1 hb1.size
    have hBw1 : Below w.heap.size w w1 := HB.out.1.trans (hb1.mono (Nat.le_of_lt HB.out.2.1))
    have hchk := (loadE_zero hE).1
    obtain ⟨T, HTT⟩ : ∃ T, Hid (keyL l n L = T) := ⟨_, Lib.hid rfl⟩
    have hLen : L.length ≤ 1000 := by
      have h3 := allN_len l
      have := nodup_len L (allN l) (ltN_nodup hcl.1) fun x hx => mem_allN (by
        have := hcl.2.2 x ((hcl.2.1 x).1 hx)
        unfold grf at this
        cases hb : bodyOf l x with
        | none => rw [hb] at this; exact absurd rfl this
        | some y => rfl)
      have := HB.out.2.2.2
      omega
    have HLT := Lib.hid (show T.length ≤ 70368744177664 by
      rw [← HTT.out]
      have h1 := txtL_big n.1
      have h2 := numL_len n.2
      have h3 := catE_len hchk L
      have h4 : 53000000 * L.length ≤ 53000000 * 1000 := Nat.mul_le_mul_left _ hLen
      simp only [keyL, List.length_append]
      omega)
    obtain ⟨M, HM⟩ : ∃ Q, Hid (L.length = Q) := ⟨_, Lib.hid rfl⟩
    have HX := Lib.hid (And.intro hE (And.intro hcl (And.intro hO (And.intro hBw1 (And.intro hzw1 hchk)))))
    have hs1 := txtS_sz n.1
    have hs2 := numS_sz n.2
    have hno1 : ¬ (9223372036854775807 < (txtS n.1).size + (numS n.2).size) := by omega
    have HK := Lib.hid (show ∀ X : World, Below w1.heap.size w1 X → X.cell? ⟨w.heap.size, 0, none⟩ = some (.string n.1) ∧ X.cell? ⟨w.heap.size, 1, none⟩ = some (.int .i64 n.2) from fun X hX => ⟨(hX.cell (p := ⟨w.heap.size, 0, none⟩) hzw1).trans k0, (hX.cell (p := ⟨w.heap.size, 1, none⟩) hzw1).trans k1⟩)
    rw [HM.out]
    clear hb1 hE hcl hO hBw1 hchk hLen n0 n1 hW0 hs1 hs2
    have hbY : Below w1.heap.size w1 w1 := Below.refl _ _
    have HCN : Hid (∀ (v : Int) (X : World), Below w1.heap.size w1 X → Calls Tryz.prog 62 #[.int .i64 v] X fun e Y => e = .returned (.string (numS v)) ∧ Below w1.heap.size w1 Y) := Lib.hid fun v X hX => (number40_any v X).mono fun e Y ⟨h1, h2⟩ => ⟨h1, hX.trans (h2.mono hX.size)⟩
    have HCW : Hid (∀ (v : ByteArray) (X : World), Below w1.heap.size w1 X → Calls Tryz.prog 61 #[.string v] X fun e Y => e = .returned (.string (txtS v)) ∧ Below w1.heap.size w1 Y) := Lib.hid fun v X hX => (word40_any v X).mono fun e Y ⟨h1, h2⟩ => ⟨h1, hX.trans (h2.mono hX.size)⟩
    go_upto_region 4 with fail
    go_cut [8] (fun s8 wx => s8 = .string (txtS n.1 ++ numS n.2) ∧ Below w1.heap.size w1 wx)
    case first =>
      clear k0 k1
      go_region_held3 (fun X => X.cell? ⟨w.heap.size, 0, none⟩ = some (.string n.1) ∧ X.cell? ⟨w.heap.size, 1, none⟩ = some (.int .i64 n.2))
        (exact HK.out _ (by repeat (first | with_reducible exact hbY | with_reducible refine below_drew' ?_)))
        (first
          | (go_at_call 62; (with_reducible refine Calls.mono (HCN.out _ _ ?_) ?_); (focus (repeat (first | with_reducible exact hbY | with_reducible refine below_drew' ?_))); rintro e w6 ⟨rfl, hbY⟩)
          | (go_at_call 61; (with_reducible refine Calls.mono (HCW.out _ _ ?_) ?_); (focus (repeat (first | with_reducible exact hbY | with_reducible refine below_drew' ?_))); rintro e w6 ⟨rfl, hbY⟩))
      all_goals (
        go_wp2_with fail
        go_meet
        exact ⟨rfl, by repeat (first | with_reducible exact hbY | with_reducible refine below_drew' ?_)⟩)
    case rest =>
    obtain ⟨h8, hb6⟩ := hcut
    subst h8
    have HSB := Lib.hid ((StrB.txt n.1).cat (StrB.num n.2))
    obtain ⟨ou0, hou0⟩ : ∃ ou, txtS n.1 ++ numS n.2 = ou := ⟨_, rfl⟩
    have HT0 := Lib.hid (show (txtL n.1 ++ numL n.2) ++ catE l (L.drop 0) = T by rw [← HTT.out, keyL, List.append_assoc]; rfl)
    obtain ⟨ac0, hac0⟩ : ∃ ac, txtL n.1 ++ numL n.2 = ac := ⟨_, rfl⟩
    rw [hou0, hac0] at HSB
    rw [hou0]
    rw [hac0] at HT0
    have HB6 := Lib.hid hb6
    clear hno1 hbY hb6 hou0 hac0 k0 k1 HCN HCW
    go_wp2
    go_loopg [8, 9, 10, 11] M (fun g so ct _ _ wr => ∃ (j : Nat) (ou : ByteArray) (ac : List UInt8), g = M - j ∧ j ≤ M ∧ so = .string ou ∧ ct = .int .i64 j ∧ Below w1.heap.size w1 wr ∧ StrB ou ac ∧ ac ++ catE l (L.drop j) = T)
    case atStart => exact ⟨0, ou0, ac0, rfl, by omega, rfl, rfl, HB6.out, HSB.out, HT0.out⟩
    case round =>
      obtain ⟨j, ou, ac, HG, hj, rfl, rfl, hB, hSt, hTj⟩ := hrel
      have hz := hB.size
      by_cases hlt : j < M
      · have hlt' : j < L.length := by rw [HM.out]; exact hlt
        obtain ⟨x, hx⟩ : ∃ x, L[j]? = some x := ⟨_, List.getElem?_eq_getElem hlt'⟩
        have hO := HX.out.2.2.1.below hB (Nat.le_refl _)
        rcases hO.cells with ⟨h0, _⟩ | ⟨g, rfl, hgl, hc1, hc2, hcell⟩
        · rw [h0] at hlt'; simp at hlt'
        obtain ⟨x0, x1⟩ := namesC_at x L j hx
        have c0 := hcell _ _ x0
        have c1 := hcell _ _ x1
        rw [HM.out] at hc1
        have hreach : Reach (grf l) n x := (HX.out.2.1.2.1 x).1 (List.mem_of_getElem? hx)
        obtain ⟨dd, hd⟩ : ∃ d, bodyOf l x = some d := by
          have := HX.out.2.1.2.2 x hreach
          unfold grf at this
          cases hb : bodyOf l x with
          | none => rw [hb] at this; exact absurd rfl this
          | some y => exact ⟨y, rfl⟩
        obtain ⟨hbd1, hbd2, _⟩ := body_bnd HX.out.2.2.2.2.2 hd
        have hBw : Below w.heap.size w wr := HX.out.2.2.2.1.trans (hB.mono (Nat.le_of_lt HX.out.2.2.2.2.1))
        have hF := find40_any l x A c wr (HL.out wr hBw)
        unfold FindP at hF
        rw [HN.out, hd] at hF
        simp only [Option.getD_some, Option.isSome_some, Dc.cells] at hF
        have HF := Lib.hid hF
        obtain ⟨TN, hTN⟩ : ∃ TN, Hid (nodeT x.1 dd.k dd.n dd.m dd.i dd.d dd.s.len (dd.s.kt x.1) = TN) := ⟨_, Lib.hid rfl⟩
        have hTx : (ac ++ txtL x.1 ++ numL x.2 ++ TN) ++ catE l (L.drop (j + 1)) = T := by
          rw [← hTj, catE_at l hx, entT, bodyT, hd, ← hTN.out]
          simp only [List.append_assoc]
        have hTl : ac.length + (txtL x.1).length + (numL x.2).length + TN.length ≤ 70368744177664 := by
          have h6 := HLT.out
          rw [← hTx] at h6
          simp only [List.length_append] at h6
          omega
        have i1 : (0 : Int) ≤ (j : Int) := by omega
        have i2 : (j : Int) < (M : Int) := by omega
        have HT := Lib.hid (And.intro HG (And.intro hTx (And.intro hB (And.intro hBw (And.intro hSt (HB.out.2.2.1.body hd))))))
        have hosz := hSt.size
        clear HG hTj hB hSt hF hO hcell x0 x1 hx hreach hBw hd hTx
        go_wp2_with fail
        refine HF.out.mono ?_
        rintro e w3 ⟨rfl, hb3⟩
        obtain ⟨W4, hW4⟩ : ∃ W4, w3.alloc (.cells #[.int .i64 dd.id, .int .i64 dd.kind, .bool dd.pub, .slice dd.nA dd.names.length dd.nc, .bool dd.doubt, .int .i64 dd.k, .string dd.n, .string dd.m, .int .i64 dd.i, .int .i64 dd.d, .slice dd.A dd.s.len dd.c] 51) = W4 := ⟨_, rfl⟩
        have hb4 : Below wr.heap.size wr W4 := by rw [← hW4]; exact hb3.alloc hb3.size _
        have hz3 := hb3.size
        have hz4 : w3.heap.size < W4.heap.size := by rw [← hW4]; simp
        have hx4 : W4.heap[w3.heap.size]? = some (.cells #[.int .i64 dd.id, .int .i64 dd.kind, .bool dd.pub, .slice dd.nA dd.names.length dd.nc, .bool dd.doubt, .int .i64 dd.k, .string dd.n, .string dd.m, .int .i64 dd.i, .int .i64 dd.d, .slice dd.A dd.s.len dd.c] 51 (0, 0)) := by rw [← hW4]; exact heap_alloc_new w3 _
        have HSX : Hid (∀ X : World, Below W4.heap.size W4 X → X.cell? ⟨g, j * 2, none⟩ = some (.string x.1) ∧ X.cell? ⟨g, j * 2 + 1, none⟩ = some (.int .i64 x.2) ∧ X.cell? ⟨w3.heap.size, 5, none⟩ = some (.int .i64 dd.k) ∧ X.cell? ⟨w3.heap.size, 6, none⟩ = some (.string dd.n) ∧ X.cell? ⟨w3.heap.size, 7, none⟩ = some (.string dd.m) ∧ X.cell? ⟨w3.heap.size, 8, none⟩ = some (.int .i64 dd.i) ∧ X.cell? ⟨w3.heap.size, 9, none⟩ = some (.int .i64 dd.d) ∧ X.cell? ⟨w3.heap.size, 10, none⟩ = some (.slice dd.A dd.s.len dd.c)) := Lib.hid fun X hX => by
          have h0 := (hX.block w3.heap.size hz4).trans hx4
          have hr := hb4.trans (hX.mono hb4.size)
          exact ⟨(hr.cell (p := ⟨g, j * 2, none⟩) hgl).trans c0, (hr.cell (p := ⟨g, j * 2 + 1, none⟩) hgl).trans c1, cell_of_row X _ 5 _ _ (0, 0) h0, cell_of_row X _ 6 _ _ (0, 0) h0, cell_of_row X _ 7 _ _ (0, 0) h0, cell_of_row X _ 8 _ _ (0, 0) h0, cell_of_row X _ 9 _ _ (0, 0) h0, cell_of_row X _ 10 _ _ (0, 0) h0⟩
        have HB4 := Lib.hid hb4
        obtain ⟨TS, hTS⟩ : ∃ TS : ByteArray, (⟨TN.toArray⟩ : ByteArray) = TS := ⟨_, rfl⟩
        have hTSL : StrB TS TN := by rw [← hTS]; exact rfl
        have hsz1 := hTSL.size
        have hst1 : (txtS x.1).size = (txtL x.1).length := StrB.size (StrB.txt x.1)
        have hsn1 : (numS x.2).size = (numL x.2).length := StrB.size (StrB.num x.2)
        have hno1 : ¬ (9223372036854775807 < ou.size + (txtS x.1).size) := by omega
        have hno2 : ¬ (9223372036854775807 < ou.size + (txtS x.1).size + (numS x.2).size) := by omega
        have hno3 : ¬ (9223372036854775807 < ou.size + (txtS x.1).size + (numS x.2).size + TS.size) := by omega
        have hTNl : TN.length ≤ 70368744177664 := by omega
        have HSt := Lib.hid (((HT.out.2.2.2.2.1.cat (StrB.txt x.1)).cat (StrB.num x.2)).cat hTSL)
        have HCE : Hid (∀ X : World, Below W4.heap.size W4 X → Calls Tryz.prog 63 #[.string x.1, .agg #[.int .i64 dd.k, .string dd.n, .string dd.m, .int .i64 dd.i, .int .i64 dd.d, .slice dd.A dd.s.len dd.c]] X fun e Y => e = .returned (.string TS) ∧ Below W4.heap.size W4 Y) := Lib.hid fun X hX => by
          have hwX : Below w.heap.size w X := HT.out.2.2.2.1.trans ((hb4.trans (hX.mono hb4.size)).mono HT.out.2.2.2.1.size)
          have h := e40_any dd.s x.1 dd.k dd.n dd.m dd.i dd.d dd.A dd.c X (HT.out.2.2.2.2.2.keep hwX.size (fun p hp => hwX.cell hp)) hbd1 hbd2 (by rw [hTN.out]; exact hTNl)
          rw [hTN.out, hTS] at h
          refine h.mono ?_
          rintro e Y ⟨rfl, hb⟩
          exact ⟨rfl, hX.trans (hb.mono hX.size)⟩
        clear hst1 hsn1 hsz1 hTSL hTS hTNl hTl hosz hb3 hb4 hx4 c0 c1
        have hbY : Below W4.heap.size W4 W4 := Below.refl _ _
        have HCN : Hid (∀ (v : Int) (X : World), Below W4.heap.size W4 X → Calls Tryz.prog 62 #[.int .i64 v] X fun e Y => e = .returned (.string (numS v)) ∧ Below W4.heap.size W4 Y) := Lib.hid fun v X hX => (number40_any v X).mono fun e Y ⟨h1, h2⟩ => ⟨h1, hX.trans (h2.mono hX.size)⟩
        have HCW : Hid (∀ (v : ByteArray) (X : World), Below W4.heap.size W4 X → Calls Tryz.prog 61 #[.string v] X fun e Y => e = .returned (.string (txtS v)) ∧ Below W4.heap.size W4 Y) := Lib.hid fun v X hX => (word40_any v X).mono fun e Y ⟨h1, h2⟩ => ⟨h1, hX.trans (h2.mono hX.size)⟩
        go_upto_region 9 with fail
        clear hW4
        go_region_held3 (fun X => X.cell? ⟨g, j * 2, none⟩ = some (.string x.1) ∧ X.cell? ⟨g, j * 2 + 1, none⟩ = some (.int .i64 x.2) ∧ X.cell? ⟨w3.heap.size, 5, none⟩ = some (.int .i64 dd.k) ∧ X.cell? ⟨w3.heap.size, 6, none⟩ = some (.string dd.n) ∧ X.cell? ⟨w3.heap.size, 7, none⟩ = some (.string dd.m) ∧ X.cell? ⟨w3.heap.size, 8, none⟩ = some (.int .i64 dd.i) ∧ X.cell? ⟨w3.heap.size, 9, none⟩ = some (.int .i64 dd.d) ∧ X.cell? ⟨w3.heap.size, 10, none⟩ = some (.slice dd.A dd.s.len dd.c))
          (exact HSX.out _ (by repeat (first | with_reducible exact hbY | with_reducible refine below_drew' ?_)))
          (first
            | (go_at_call 62; (with_reducible refine Calls.mono (HCN.out _ _ ?_) ?_); (focus (repeat (first | with_reducible exact hbY | with_reducible refine below_drew' ?_))); rintro e w6 ⟨rfl, hbY⟩)
            | (go_at_call 61; (with_reducible refine Calls.mono (HCW.out _ _ ?_) ?_); (focus (repeat (first | with_reducible exact hbY | with_reducible refine below_drew' ?_))); rintro e w6 ⟨rfl, hbY⟩)
            | (go_at_call 63; (with_reducible refine Calls.mono (HCE.out _ ?_) ?_); (focus (repeat (first | with_reducible exact hbY | with_reducible refine below_drew' ?_))); rintro e w6 ⟨rfl, hbY⟩))
        all_goals (
          have HB5 := Lib.hid (HT.out.2.2.1.trans ((HB4.out.trans (Below.mono (show Below W4.heap.size W4 _ by repeat (first | with_reducible exact hbY | with_reducible refine below_drew' ?_)) HB4.out.size)).mono hz))
          clear hno1 hno2 hno3 hbY
          go_wp2
          go_roundg (M - (j + 1))
          case measure => rw [HT.out.1]; omega
          case rel => exact ⟨j + 1, _, _, rfl, by omega, rfl, by go_num, HB5.out, HSt.out, HT.out.2.1⟩)
      · have hje : j = M := by omega
        have hac : ac = T := by
          rw [List.drop_of_length_le (by rw [HM.out]; omega)] at hTj
          simpa [catE] using hTj
        have HF := Lib.hid (And.intro hB (And.intro hSt hac))
        clear hB hSt hTj HG hac
        go_wp2
        go_ret2
        refine ⟨HX.out.2.2.2.1.trans (HF.out.1.mono (Nat.le_of_lt HX.out.2.2.2.2.1)), .inr (.inr ⟨HX.out.1, L, HX.out.2.1, ?_⟩)⟩
        rw [HTT.out, ← HF.out.2.2, ← HF.out.2.1.eq]
        rfl
end Go.Proofs.YtpnfbfnffkbilaaGreatDoor
/- law40.DependKey answers true -/
namespace Go.Proofs.YtpnfbfnffkbilaaGreatDoor
open Go.RowKit Go.Proofs Go.Shelf

/-- What a key is: a text and an error. -/
def KeyV (l : List Mo) (n : ByteArray × Int) (s : ByteArray) (er : Int) : Prop :=
  (loadE l n ≠ 0 ∧ s = ⟨#[]⟩ ∧ er = loadE l n) ∨ (loadE l n = 0 ∧ Clo (grf l) n none ∧ s = ⟨#[]⟩ ∧ er = 21) ∨ (loadE l n = 0 ∧ ∃ L, Clo (grf l) n (some L) ∧ s = ⟨(keyL l n L).toArray⟩ ∧ er = 0)
theorem KeyP.v {l : List Mo} {n : ByteArray × Int} {w w' : World} {e : Ending} (h : KeyP l n w e w') : Below w.heap.size w w' ∧ ∃ s er, e = .returned (.tuple #[.string s, .int .i64 er]) ∧ KeyV l n s er := by
  refine ⟨h.1, ?_⟩
  rcases h.2 with ⟨h1, h2⟩ | ⟨h1, h2, h3⟩ | ⟨h1, L, h2, h3⟩
  · exact ⟨_, _, h2, .inl ⟨h1, rfl, rfl⟩⟩
  · exact ⟨_, _, h3, .inr (.inl ⟨h1, h2, rfl, rfl⟩)⟩
  · exact ⟨_, _, h3, .inr (.inr ⟨h1, L, h2, rfl, rfl⟩)⟩
theorem KeyV.unique {l : List Mo} {n : ByteArray × Int} {s s' : ByteArray} {er er' : Int} (h : KeyV l n s er) (k : KeyV l n s' er') : s = s' ∧ er = er' := by
  rcases h with ⟨h1, rfl, rfl⟩ | ⟨h1, h2, rfl, rfl⟩ | ⟨h1, L, h2, rfl, rfl⟩ <;> rcases k with ⟨k1, rfl, rfl⟩ | ⟨k1, k2, rfl, rfl⟩ | ⟨k1, L', k2, rfl, rfl⟩
  · exact ⟨rfl, rfl⟩
  · exact absurd k1 h1
  · exact absurd k1 h1
  · exact absurd h1 k1
  · exact ⟨rfl, rfl⟩
  · have := h2.unique k2; cases this
  · exact absurd h1 k1
  · have := h2.unique k2; cases this
  · have := h2.unique k2
    cases this
    exact ⟨rfl, rfl⟩
set_option maxRecDepth 100000 in
set_option maxHeartbeats 4000000 in
theorem lawKey_any (l : List Mo) (n : ByteArray × Int) (A : Option Addr) (c : Nat) (w : World) (hl : SlM w w.heap.size A c l) (hn : NOk n) (hw : MoW l) (hcnt : CntL l) :
    Calls Tryz.prog 6 #[.slice A l.length c, .agg #[.string n.1, .int .i64 n.2]] w fun e w' => e = .returned (.bool true) ∧ Below w.heap.size w w' := by
  obtain ⟨W0, hW0⟩ : ∃ W0, w.alloc (.cells #[.string n.1, .int .i64 n.2] 28) = W0 := ⟨_, rfl⟩
  have hz0 : W0.heap.size = w.heap.size + 1 := by subst hW0; simp
  have hB0 : Below w.heap.size w W0 := by subst hW0; exact (Below.refl _ _).alloc (Nat.le_refl _) _
  have n0 : W0.cell? ⟨w.heap.size, 0, none⟩ = some (.string n.1) := by subst hW0; go_simp
  have n1 : W0.cell? ⟨w.heap.size, 1, none⟩ = some (.int .i64 n.2) := by subst hW0; go_simp
  have HL := Lib.hid (show ∀ X : World, Below w.heap.size w X → SlM X X.heap.size A c l from fun X hX => (hl.below hX).keep hX.size (fun _ _ => rfl))
  obtain ⟨N, HN⟩ : ∃ Q, Hid (l.length = Q) := ⟨_, Lib.hid rfl⟩
  have HX := Lib.hid (And.intro hn (And.intro hw (And.intro hB0 hcnt)))
  have HZ := Lib.hid (show w.heap.size < W0.heap.size by omega)
  have HG := Lib.hid (great40_any l A c W0 (HL.out W0 hB0))
  rw [HN.out] at HG ⊢
  clear hl hn hw hB0 hz0 hcnt
  go_enter Tryz.func6, Tryz.ntmps6
  cases hg : greatL l with
  | true =>
    rw [hg] at HG
    go_wp2_with fail
    refine HG.out.mono ?_
    rintro e w1 ⟨rfl, hb1⟩
    have HB1 := Lib.hid (HX.out.2.2.1.trans (hb1.mono (Nat.le_of_lt HZ.out)))
    clear hb1
    go_wp2_with fail
    refine (awake40_any _).mono ?_
    rintro e w2 ⟨rfl, hb2⟩
    have HB2 := Lib.hid hb2
    clear hb2
    go_wp2
    go_ret
    exact ⟨rfl, HB1.out.trans (HB2.out.mono HB1.out.size)⟩
  | false =>
    rw [hg] at HG
    have HG1 := Lib.hid (And.intro hg (And.intro (greatL_le hg) (And.intro (greatL_tot hg) (mods_of hg HX.out.2.2.2))))
    clear hg
    go_wp2_with fail
    refine HG.out.mono ?_
    rintro e w1 ⟨rfl, hb1⟩
    have k0 := (hb1.cell (p := ⟨w.heap.size, 0, none⟩) HZ.out).trans n0
    have k1 := (hb1.cell (p := ⟨w.heap.size, 1, none⟩) HZ.out).trans n1
    have hB1 := HX.out.2.2.1.trans (hb1.mono (Nat.le_of_lt HZ.out))
    have hz1 : w.heap.size < w1.heap.size := Nat.lt_of_lt_of_le HZ.out hb1.size
    have HC := Lib.hid (dKey_any l n A c w1 (HL.out w1 hB1) HX.out.1 HX.out.2.1 (Nat.le_trans HG1.out.2.2.1 (by omega)) (Nat.le_trans HG1.out.2.1.1 (by omega)) (fun h => ⟨_, uok_of HG1.out.1 h⟩))
    rw [HN.out] at HC
    have HB1 := Lib.hid (And.intro hB1 hz1)
    clear hb1 hB1 n0 n1 hz1 hW0
    go_wp2_with fail
    refine HC.out.mono ?_
    intro e w2 hp2
    obtain ⟨hb2, s, er, rfl, hv⟩ := hp2.v
    clear hp2
    have q0 := (hb2.cell (p := ⟨w.heap.size, 0, none⟩) HB1.out.2).trans k0
    have q1 := (hb2.cell (p := ⟨w.heap.size, 1, none⟩) HB1.out.2).trans k1
    have HB2 := Lib.hid (HB1.out.1.trans (hb2.mono (Nat.le_of_lt HB1.out.2)))
    have HV := Lib.hid hv
    have HD := Lib.hid (key40_any l n A c w2 (HL.out w2 HB2.out) (fun m hm => (HG1.out.2.2.2 m hm).1) (Nat.le_trans HG1.out.2.2.1 (by omega)))
    rw [HN.out] at HD
    clear hb2 hv k0 k1
    go_wp2_with fail
    refine HD.out.mono ?_
    intro e w3 hp3
    obtain ⟨hb3, s', er', rfl, hv3⟩ := hp3.v
    clear hp3
    obtain ⟨rfl, rfl⟩ := HV.out.unique hv3
    have HB3 := Lib.hid (HB2.out.trans (hb3.mono HB2.out.size))
    clear hb3 hv3 q0 q1
    go_wp2_with fail
    refine (awake40_any _).mono ?_
    rintro e w4 ⟨rfl, hb4⟩
    have HB4 := Lib.hid hb4
    clear hb4
    go_wp2
    go_ret
    exact ⟨rfl, HB3.out.trans (HB4.out.mono HB3.out.size)⟩
end Go.Proofs.YtpnfbfnffkbilaaGreatDoor
/- DependSelf in plain words -/
namespace Go.Proofs.YtpnfbfnffkbilaaGreatDoor
open Go.RowKit Go.Proofs Go.Shelf

theorem eqF_refl : ∀ s : Fo, s.eqF s = true
  | .nil => rfl
  | .cons _ _ _ _ _ _ _ s r => by simp [Fo.eqF, eqF_refl s, eqF_refl r]
theorem eqF_symm : ∀ s s' : Fo, s.eqF s' = s'.eqF s
  | .nil, .nil => rfl
  | .nil, .cons .. => rfl
  | .cons .., .nil => rfl
  | .cons k n m i d _ _ s r, .cons k' n' m' i' d' _ _ s' r' => by
    simp only [Fo.eqF, eqF_symm s s', eqF_symm r r', Bool.beq_comm (a := k), Bool.beq_comm (a := n.toList), Bool.beq_comm (a := m.toList), Bool.beq_comm (a := i), Bool.beq_comm (a := d)]
theorem eqD_refl (x : Dc) : eqD x x = true := by simp [eqD, eqNd, eqF_refl]
theorem eqD_symm (x y : Dc) : eqD x y = eqD y x := by
  simp only [eqD, eqNd, eqF_symm x.s y.s, Bool.beq_comm (a := x.k), Bool.beq_comm (a := x.n.toList), Bool.beq_comm (a := x.m.toList), Bool.beq_comm (a := x.i), Bool.beq_comm (a := x.d)]
theorem toL_inj {a b : ByteArray} (h : a.toList = b.toList) : a = b := by
  rw [ByteArray.toList_eq, ByteArray.toList_eq] at h
  exact ByteArray.ext (Array.ext' h)
theorem eqF_refs : ∀ {s s' : Fo}, s.eqF s' = true → refL s.vis = refL s'.vis
  | .nil, .nil, _ => rfl
  | .nil, .cons .., h => by cases h
  | .cons .., .nil, h => by cases h
  | .cons k n m i d A c s r, .cons k' n' m' i' d' A' c' s' r', h => by
    simp only [Fo.eqF, Bool.and_eq_true, beq_iff_eq] at h
    obtain ⟨⟨⟨⟨⟨⟨rfl, hn⟩, _⟩, rfl⟩, _⟩, h1⟩, h2⟩ := h
    obtain rfl := toL_inj hn
    have e1 := eqF_refs h1
    have e2 := eqF_refs h2
    simp only [refL] at e1 e2
    simp only [Fo.vis, refL, List.filterMap_append, List.filterMap_cons, e1, e2]
theorem eqD_uses {x y : Dc} (h : eqD x y = true) (pack : ByteArray) : usesOf pack x.body = usesOf pack y.body := by
  have hb : x.body.eqF y.body = true := by
    simp only [Dc.body, Fo.eqF, Bool.and_true]
    exact h
  unfold usesOf refsOf
  rw [eqF_refs hb]
theorem sameB_symm (old new : List Mo) (n : ByteArray × Int) : sameB old new n = sameB new old n := by
  unfold sameB
  cases bodyOf old n <;> cases bodyOf new n <;> first | rfl | exact eqD_symm _ _
theorem gC_symm (old new : List Mo) : gC old new = gC new old := by
  funext n
  unfold gC
  rw [sameB_symm new old]
  by_cases h : sameB old new n = true
  · rw [if_pos h, if_pos h]
    obtain ⟨x, y, hx, hy, he⟩ := sameB_some h
    unfold grf
    rw [hx, hy]
    simp only [Option.map_some, eqD_uses he]
  · rw [if_neg h, if_neg h]
theorem gC_self (l : List Mo) : gC l l = grf l := by
  funext n
  unfold gC
  cases hb : bodyOf l n with
  | none =>
    have : grf l n = none := by unfold grf; rw [hb]; rfl
    rw [this]
    split <;> rfl
  | some x =>
    have : sameB l l n = true := by unfold sameB; rw [hb]; exact eqD_refl x
    rw [if_pos this]
/-- What Changed hands back. -/
def CR (old new : List Mo) (R : List (ByteArray × Int)) : Prop :=
  R.Pairwise ltN ∧ (∀ n ∈ R, NOk n) ∧ ∀ n, NOk n → (n ∈ R ↔ exB old new n = true ∧ (chkL old = 0 → chkL new = 0 → Clo (gC old new) n none))
theorem exB_symm (old new : List Mo) (n : ByteArray × Int) : exB old new n = exB new old n := by unfold exB; rw [Bool.or_comm]
theorem CR.symm {old new : List Mo} {R R' : List (ByteArray × Int)} (h : CR old new R) (k : CR new old R') : R = R' := by
  refine ltN_ext h.1 k.1 fun x => ?_
  have key : NOk x → (x ∈ R ↔ x ∈ R') := fun hx => by
    rw [h.2.2 x hx, k.2.2 x hx, exB_symm, gC_symm]
    exact and_congr_right fun _ => ⟨fun h a b => h b a, fun h a b => h b a⟩
  exact ⟨fun hx => (key (h.2.1 x hx)).1 hx, fun hx => (key (k.2.1 x hx)).2 hx⟩
theorem nok_body {l : List Mo} (hw : MoW l) {n : ByteArray × Int} (h : (bodyOf l n).isSome = true) : NOk n := by
  obtain ⟨x, hx⟩ := Option.isSome_iff_exists.1 h
  obtain ⟨m, hm, hd, hl, hi⟩ := bodyOf_mem hx
  exact ⟨by rw [← hl]; exact (hw m hm).1, by rw [← hi]; exact (hw m hm).2 x hd⟩
theorem exB_self (l : List Mo) (n : ByteArray × Int) : exB l l n = (bodyOf l n).isSome := by unfold exB; simp
theorem self_bad {l : List Mo} {R : List (ByteArray × Int)} (h : CR l l R) {n : ByteArray × Int} (hn : NOk n) (hb : (bodyOf l n).isSome = true) (hx : chkL l ≠ 0 ∨ Clo (grf l) n none) : memN R n = true := by
  rw [memN_iff, h.2.2 n hn, exB_self, gC_self]
  refine ⟨hb, fun h0 _ => ?_⟩
  rcases hx with h1 | h1
  · exact absurd h0 h1
  · exact h1
theorem self_good {l : List Mo} {R : List (ByteArray × Int)} (h : CR l l R) {n : ByteArray × Int} (hn : NOk n) {L : List (ByteArray × Int)} (h0 : chkL l = 0) (hL : Clo (grf l) n (some L)) : memN R n = false := by
  cases hm : memN R n with
  | false => rfl
  | true =>
    rw [memN_iff, h.2.2 n hn, gC_self] at hm
    have := (hm.2 h0 h0).unique hL
    cases this
theorem self_len {l : List Mo} {R : List (ByteArray × Int)} (h : CR l l R) : R.length ≤ (namesOf l).length :=
  nodup_len R (namesOf l) (ltN_nodup h.1) fun x hx => (mem_namesOf l x).2 (by
    have := ((h.2.2 x (h.2.1 x hx)).1 hx).1
    rwa [exB_self] at this)
theorem ex_len {old new : List Mo} (ho : greatL old = false) (hn : greatL new = false) {L : List (ByteArray × Int)} (h : ∀ n ∈ L, NOk n ∧ exB old new n = true) (hd : L.Nodup) : L.length ≤ 64 := by
  have h1 := nodup_len L (allN old ++ allN new) hd fun x hx => by
    have := (h x hx).2
    unfold exB at this
    rcases Bool.or_eq_true_iff.1 this with h | h
    · exact List.mem_append_left _ (mem_allN h)
    · exact List.mem_append_right _ (mem_allN h)
  rw [List.length_append, allN_len, allN_len] at h1
  have := greatL_tot ho
  have := greatL_tot hn
  omega
def ChgQ (old new : List Mo) (w : World) (e : Ending) (w' : World) : Prop :=
  ∃ A c R, e = .returned (.slice A (List.length R) c) ∧ w'.ownsRow w.heap.size 28 2 (.slice A R.length c) R.length (namesC R) ∧ Below w.heap.size w w' ∧ CR old new R ∧ R.length ≤ 800000
theorem chg_any (old new : List Mo) (A : Option Addr) (c : Nat) (A' : Option Addr) (c' : Nat) (w : World) (ho : SlM w w.heap.size A c old) (hn : SlM w w.heap.size A' c' new) (hwo : MoW old) (hwn : MoW new) (go : greatL old = false) (gn : greatL new = false) :
    Calls Tryz.prog 13 #[.slice A old.length c, .slice A' new.length c'] w (ChgQ old new w) := by
  have h1 := greatL_le go
  have h2 := greatL_le gn
  have h3 := greatL_tot go
  have h4 := greatL_tot gn
  refine (dChanged_any old new A c A' c' w ho hn hwo hwn (by omega) (by omega) (by omega) (by omega) (fun L hL hd hc _ => ⟨_, uc_of (by have := ex_len go gn hL hd; omega) go hc⟩)).mono ?_
  rintro e w' ⟨v, R, rfl, hown, hb, h5, h6, h7, h8⟩
  obtain ⟨vA, vc, rfl⟩ := own_formN hown
  exact ⟨vA, vc, R, rfl, hown, hb, ⟨h5, h6, h8⟩, h7⟩
end Go.Proofs.YtpnfbfnffkbilaaGreatDoor
/- Texts of keys can be read back: equal keys have equal parts -/
namespace Go.Proofs.YtpnfbfnffkbilaaGreatDoor
open Go.RowKit Go.Proofs Go.Shelf

theorem u8_inj {a b : Nat} (ha : a < 256) (hb : b < 256) (h : UInt8.ofNat a = UInt8.ofNat b) : a = b := by
  have := congrArg UInt8.toNat h
  rw [UInt8.toNat_ofNat', UInt8.toNat_ofNat', Nat.mod_eq_of_lt (by simpa using ha), Nat.mod_eq_of_lt (by simpa using hb)] at this
  exact this
theorem encL_inj (n : Nat) : ∀ (m : Nat) (r s : List UInt8), encL n ++ r = encL m ++ s → n = m ∧ r = s := by
  induction n using Nat.strongRecOn with
  | _ n ih =>
    intro m r s h
    by_cases hn : n < 128 <;> by_cases hm : m < 128
    · rw [encL_small hn, encL_small hm] at h
      simp only [List.cons_append, List.nil_append, List.cons.injEq] at h
      exact ⟨u8_inj (by omega) (by omega) h.1, h.2⟩
    · rw [encL_small hn, encL_big hm] at h
      simp only [List.cons_append, List.nil_append, List.cons.injEq] at h
      have := u8_inj (by omega) (by omega) h.1
      omega
    · rw [encL_big hn, encL_small hm] at h
      simp only [List.cons_append, List.nil_append, List.cons.injEq] at h
      have := u8_inj (by omega) (by omega) h.1
      omega
    · rw [encL_big hn, encL_big hm] at h
      simp only [List.cons_append, List.cons.injEq] at h
      have h1 := u8_inj (by omega) (by omega) h.1
      obtain ⟨h2, h3⟩ := ih (n / 128) (by omega) (m / 128) r s h.2
      exact ⟨by omega, h3⟩
theorem numL_inj {a b : Int} (ha : 0 ≤ a ∧ a ≤ 1099511627776) (hb : 0 ≤ b ∧ b ≤ 1099511627776) {r s : List UInt8} (h : numL a ++ r = numL b ++ s) : a = b ∧ r = s := by
  unfold numL at h
  rw [if_pos ha, if_pos hb] at h
  obtain ⟨h1, h2⟩ := encL_inj _ _ _ _ h
  exact ⟨by omega, h2⟩
theorem txtL_inj {a b : ByteArray} (ha : a.size ≤ 65536) (hb : b.size ≤ 65536) {r s : List UInt8} (h : txtL a ++ r = txtL b ++ s) : a = b ∧ r = s := by
  unfold txtL at h
  rw [if_pos ha, if_pos hb, List.append_assoc, List.append_assoc] at h
  obtain ⟨h1, h2⟩ := encL_inj _ _ _ _ h
  have hl : a.data.toList.length = b.data.toList.length := by
    have e1 : a.data.toList.length = a.size := by simp
    have e2 : b.data.toList.length = b.size := by simp
    omega
  obtain ⟨h3, h4⟩ := List.append_inj h2 hl
  exact ⟨ByteArray.ext (Array.ext' h3), h4⟩
theorem size_of_empty {s : ByteArray} (h : s.toList.isEmpty = true) : s.size = 0 := by
  rw [List.isEmpty_iff, ByteArray.toList_eq] at h
  have h2 : s.data.toList.length = s.size := by simp
  rw [h] at h2
  simpa using h2.symm
theorem nameB_size {s : ByteArray} (h : nameB s = true) : s.size ≤ 65536 := by
  unfold nameB wordB at h
  simp at h
  omega
/-- What the words and numbers of a valid node are like. -/
theorem err_small {k : Int} {n m : ByteArray} {i d : Int} {len : Nat} (h : nodeE k n m i d len = 0) : (0 ≤ k ∧ k ≤ 15) ∧ n.size ≤ 65536 ∧ m.size ≤ 65536 ∧ (0 ≤ d ∧ d ≤ 999999) := by
  have hk : knownZ k := by
    by_cases hk : knownZ k
    · exact hk
    · unfold nodeE at h
      rw [shapeZ_no hk] at h
      simp at h
  have hkb : 0 ≤ k ∧ k ≤ 15 := by unfold knownZ at hk; omega
  refine ⟨hkb, ?_⟩
  unfold nodeE at h
  obtain ⟨⟨a, b, c, ok⟩, ht⟩ : ∃ t, shapeZ k = t := ⟨_, rfl⟩
  have ha2 : a ≤ 2 ∧ (2 ≤ b → k = 14) := by
    unfold knownZ at hk
    rcases hk with rfl | rfl | rfl | rfl | rfl | rfl | rfl | rfl | rfl | rfl | rfl | rfl | rfl | rfl | rfl <;> (simp [shapeZ] at ht; omega)
  rw [ht] at h
  cases ok
  · simp at h
  · simp only at h
    cases ha : argB a b c n m i d len
    · rw [ha] at h
      simp only [Bool.false_eq_true, if_false] at h
      by_cases hn : namesE k n m a = 0
      · rw [if_pos hn] at h
        unfold argB at ha
        simp only [Bool.or_eq_false_iff, Bool.and_eq_false_iff, decide_eq_false_iff_not, Bool.not_eq_false'] at ha
        obtain ⟨⟨⟨⟨a1, a2⟩, a3⟩, a4⟩, a5⟩ := ha
        unfold namesE at hn
        by_cases h6 : nmB k n a = false ∨ (a = 2 ∧ nameB m = false)
        · rw [if_pos h6] at hn; simp at hn
        · rw [not_or] at h6
          obtain ⟨h7, h8⟩ := h6
          have h7' : nmB k n a = true := by simpa using h7
          refine ⟨?_, ?_, ?_⟩
          · unfold nmB at h7'
            by_cases k5 : k = 5
            · rw [if_pos k5, Bool.or_eq_true] at h7'
              rcases h7' with h9 | h9
              · have := size_of_empty h9; omega
              · have := labelB_size h9; omega
            · rw [if_neg k5] at h7'
              by_cases k10 : k = 10
              · rw [if_pos k10] at h7'
                unfold opB at h7'
                simp at h7'
                omega
              · rw [if_neg k10] at h7'
                by_cases ha1 : 1 ≤ a
                · rw [if_pos ha1] at h7'; exact nameB_size h7'
                · rcases a1 with a1 | a1
                  · omega
                  · have := size_of_empty a1; omega
          · rcases a2 with a2 | a2
            · have : a = 2 := by omega
              have h9 : nameB m = true := by
                cases hm : nameB m
                · exact absurd ⟨this, hm⟩ h8
                · rfl
              exact nameB_size h9
            · have := size_of_empty a2; omega
          · rcases a4 with a4 | a4
            · have k14 := ha2.2 (by omega)
              subst k14
              unfold numE at h
              cases hb : numB 14 i d
              · rw [hb] at h; simp at h
              · simp [numB] at hb; omega
            · have : d = 0 := by simpa using a4
              omega
      · rw [if_neg hn] at h; exact absurd h hn
    · rw [ha] at h; simp at h
end Go.Proofs.YtpnfbfnffkbilaaGreatDoor
/- When keys differ, in plain words: as depend.Changed finds it -/
namespace Go.Proofs.YtpnfbfnffkbilaaGreatDoor
open Go.RowKit Go.Proofs Go.Shelf

theorem sgnK_inj {i j : Int} (h : sgnK i = sgnK j) : i = j := by
  unfold sgnK at h
  split at h <;> split at h <;> omega
theorem sgnK_in {i : Int} (h : -999999999 ≤ i ∧ i ≤ 999999999) : 0 ≤ sgnK i ∧ sgnK i ≤ 1099511627776 := by
  unfold sgnK
  split <;> omega
theorem packS_size {pack : ByteArray} (hp : pack.size ≤ 90) {k : Int} {n : ByteArray} (h : n.size ≤ 65536) : (packS pack k n).size ≤ 65536 := by
  unfold packS
  split <;> omega
theorem beq_self_list (a : ByteArray) : (a.toList == a.toList) = true := by simp
theorem packS_inj {pack : ByteArray} {k : Int} {n n' : ByteArray} (h1 : ((k == 5) && (n.toList == pack.toList)) = false) (h2 : ((k == 5) && (n'.toList == pack.toList)) = false) (h : packS pack k n = packS pack k n') : n = n' := by
  unfold packS at h
  by_cases hk : k = 5
  · subst hk
    by_cases e1 : n.size = 0 <;> by_cases e2 : n'.size = 0
    · have a1 := toList_nil e1
      have a2 := toList_nil e2
      exact toL_inj (a1.trans a2.symm)
    · rw [if_pos ⟨rfl, e1⟩, if_neg (fun h => e2 h.2)] at h
      subst h
      simp at h2
    · rw [if_neg (fun h => e1 h.2), if_pos ⟨rfl, e2⟩] at h
      subst h
      simp at h1
    · rwa [if_neg (fun h => e1 h.2), if_neg (fun h => e2 h.2)] at h
  · rwa [if_neg (fun h => hk h.1), if_neg (fun h => hk h.1)] at h
theorem len_in {k : Int} {n m : ByteArray} {i d : Int} {len : Nat} (h : nodeE k n m i d len = 0) : (0 : Int) ≤ (len : Int) ∧ (len : Int) ≤ 1099511627776 := by
  have h1 := err_len h
  have h2 : (shapeZ k).2.2.1 ≤ 3 := by
    by_cases hk : knownZ k
    · unfold knownZ at hk
      rcases hk with rfl | rfl | rfl | rfl | rfl | rfl | rfl | rfl | rfl | rfl | rfl | rfl | rfl | rfl | rfl | rfl <;> simp [shapeZ]
    · rw [shapeZ_no hk]
      decide
  omega
theorem kt_inj {pack : ByteArray} (hp : pack.size ≤ 90) : ∀ (f g : Fo) (r s : List UInt8), (∀ x ∈ f.vis, x.err = 0) → (∀ x ∈ g.vis, x.err = 0) → f.vis.any (isRefTo pack) = false → g.vis.any (isRefTo pack) = false → f.len = g.len →
    f.kt pack ++ r = g.kt pack ++ s → f.eqF g = true ∧ r = s
  | .nil, .nil, r, s, _, _, _, _, _, h => ⟨rfl, by simpa [Fo.kt] using h⟩
  | .nil, .cons .., _, _, _, _, _, _, hl, _ => by simp [Fo.len] at hl
  | .cons .., .nil, _, _, _, _, _, _, hl, _ => by simp [Fo.len] at hl
  | .cons k n m i d A c f1 f2, .cons k' n' m' i' d' A' c' g1 g2, r, s, hf, hg, nf, ng, hl, h => by
    simp only [Fo.vis, List.mem_append, List.mem_cons] at hf hg
    simp only [Fo.vis, List.any_append, List.any_cons, Bool.or_eq_false_iff] at nf ng
    have ef : nodeE k n m i d f1.len = 0 := hf ⟨0, k, n, m, i, d, A, f1.len, c⟩ (.inr (.inl rfl))
    have eg : nodeE k' n' m' i' d' g1.len = 0 := hg ⟨0, k', n', m', i', d', A', g1.len, c'⟩ (.inr (.inl rfl))
    obtain ⟨a1, a2, a3, a4⟩ := err_small ef
    obtain ⟨b1, b2, b3, b4⟩ := err_small eg
    simp only [Fo.kt, nodeT, List.append_assoc] at h
    obtain ⟨q1, t1⟩ := numL_inj ⟨by omega, by omega⟩ ⟨by omega, by omega⟩ h
    obtain ⟨q2, t2⟩ := txtL_inj (packS_size hp a2) (packS_size hp b2) t1
    obtain ⟨q3, t3⟩ := txtL_inj a3 b3 t2
    obtain ⟨q4, t4⟩ := numL_inj (sgnK_in (err_bnd ef)) (sgnK_in (err_bnd eg)) t3
    obtain ⟨q5, t5⟩ := numL_inj ⟨by omega, by omega⟩ ⟨by omega, by omega⟩ t4
    obtain ⟨q6, t6⟩ := numL_inj (len_in ef) (len_in eg) t5
    obtain ⟨h4, t7⟩ := kt_inj hp f1 g1 _ _ (fun x hx => hf x (.inr (.inr hx))) (fun x hx => hg x (.inr (.inr hx))) nf.2.2 ng.2.2 (by omega) t6
    obtain ⟨h5, t8⟩ := kt_inj hp f2 g2 _ _ (fun x hx => hf x (.inl hx)) (fun x hx => hg x (.inl hx)) nf.1 ng.1 (by simp only [Fo.len] at hl; omega) t7
    clear h t1 t2 t3 t4 t5 t6 t7 ef eg hf hg
    have nf' := nf.2.1
    have ng' := ng.2.1
    have q7 := sgnK_inj q4
    subst q1 q3 q5 q7
    have q8 : n = n' := packS_inj nf' ng' q2
    subst q8
    exact ⟨by simp [Fo.eqF, h4, h5], t8⟩
/-- A name that exists in valid modules. -/
theorem body_v {l : List Mo} (h : chkL l = 0) {x : ByteArray × Int} {d : Dc} (hd : bodyOf l x = some d) : x.1.size ≤ 90 ∧ (1 ≤ x.2 ∧ x.2 ≤ 999999) ∧ (∀ y ∈ d.body.vis, y.err = 0) ∧ d.body.vis.any (isRefTo x.1) = false := by
  obtain ⟨m, hm, hdm, hl, hi⟩ := bodyOf_mem hd
  obtain ⟨v1, _, v3⟩ := checkE_zero (chkL_zero h m hm)
  have hv := v3 d hdm
  rw [← hl, ← hi]
  exact ⟨labelB_size v1, hv.id, hv.err, hv.noref⟩
theorem bodyT_some {l : List Mo} {x : ByteArray × Int} {d : Dc} (hd : bodyOf l x = some d) : bodyT l x = d.body.kt x.1 := by
  unfold bodyT
  rw [hd]
  simp only [Dc.body, Fo.kt, List.append_nil]
theorem entT_pos (l : List Mo) {x : ByteArray × Int} (h : x.1.size ≤ 90) (r : List UInt8) : entT l x ++ r ≠ [] := by
  unfold entT txtL
  rw [if_pos (by omega)]
  intro e
  have h1 : encL x.1.size = [] := by
    have := List.append_eq_nil_iff.1 e
    have := List.append_eq_nil_iff.1 this.1
    exact (List.append_eq_nil_iff.1 this.1).1
  rw [encL_small (by omega)] at h1
  simp at h1
theorem catE_inj {old new : List Mo} (ho : chkL old = 0) (hn : chkL new = 0) : ∀ (L L' : List (ByteArray × Int)), (∀ x ∈ L, (bodyOf old x).isSome = true) → (∀ x ∈ L', (bodyOf new x).isSome = true) → catE old L = catE new L' → L = L' ∧ ∀ x ∈ L, sameB old new x = true
  | [], [], _, _, _ => ⟨rfl, by simp⟩
  | [], x :: L', _, h', h => by
    obtain ⟨d, hd⟩ := Option.isSome_iff_exists.1 (h' x (List.mem_cons_self ..))
    exact absurd h.symm (entT_pos new (body_v hn hd).1 _)
  | x :: L, [], h', _, h => by
    obtain ⟨d, hd⟩ := Option.isSome_iff_exists.1 (h' x (List.mem_cons_self ..))
    exact absurd h (entT_pos old (body_v ho hd).1 _)
  | x :: L, x' :: L', h1, h2, h => by
    obtain ⟨d, hd⟩ := Option.isSome_iff_exists.1 (h1 x (List.mem_cons_self ..))
    obtain ⟨d', hd'⟩ := Option.isSome_iff_exists.1 (h2 x' (List.mem_cons_self ..))
    obtain ⟨a1, a2, a3, a4⟩ := body_v ho hd
    obtain ⟨b1, b2, b3, b4⟩ := body_v hn hd'
    have e1 : catE old (x :: L) = entT old x ++ catE old L := rfl
    have e2 : catE new (x' :: L') = entT new x' ++ catE new L' := rfl
    rw [e1, e2, entT, entT, bodyT_some hd, bodyT_some hd'] at h
    simp only [List.append_assoc] at h
    obtain ⟨c1, t1⟩ := txtL_inj (by omega) (by omega) h
    obtain ⟨c2, t2⟩ := numL_inj ⟨by omega, by omega⟩ ⟨by omega, by omega⟩ t1
    have hx : x = x' := Prod.ext c1 c2
    clear h t1 c1 c2 e1 e2
    subst hx
    obtain ⟨h3, t3⟩ := kt_inj a1 d.body d'.body _ _ a3 b3 a4 b4 rfl t2
    obtain ⟨h5, h4⟩ := catE_inj ho hn L L' (fun y hy => h1 y (List.mem_cons_of_mem _ hy)) (fun y hy => h2 y (List.mem_cons_of_mem _ hy)) t3
    subst h5
    refine ⟨rfl, fun y hy => ?_⟩
    rcases List.mem_cons.1 hy with rfl | hy
    · unfold sameB
      rw [hd, hd']
      simp only [Dc.body, Fo.eqF, Bool.and_true] at h3
      exact h3
    · exact h4 y hy
end Go.Proofs.YtpnfbfnffkbilaaGreatDoor
/- Keys differ exactly at the names that depend.Changed gives -/
namespace Go.Proofs.YtpnfbfnffkbilaaGreatDoor
open Go.RowKit Go.Proofs Go.Shelf

theorem eqF_kt (pack : ByteArray) : ∀ {s s' : Fo}, s.eqF s' = true → s.kt pack = s'.kt pack
  | .nil, .nil, _ => rfl
  | .nil, .cons .., h => by cases h
  | .cons .., .nil, h => by cases h
  | .cons k n m i d A c s r, .cons k' n' m' i' d' A' c' s' r', h => by
    simp only [Fo.eqF, Bool.and_eq_true, beq_iff_eq] at h
    obtain ⟨⟨⟨⟨⟨⟨rfl, hn⟩, hm⟩, rfl⟩, rfl⟩, h1⟩, h2⟩ := h
    obtain rfl := toL_inj hn
    obtain rfl := toL_inj hm
    simp only [Fo.kt, eqF_len h1, eqF_kt pack h1, eqF_kt pack h2]
theorem sameB_bodyT {old new : List Mo} {x : ByteArray × Int} (h : sameB old new x = true) : bodyT old x = bodyT new x := by
  obtain ⟨a, b, h1, h2, he⟩ := sameB_some h
  rw [bodyT_some h1, bodyT_some h2]
  apply eqF_kt
  simp only [Dc.body, Fo.eqF, Bool.and_true]
  exact he
theorem catE_same {old new : List Mo} : ∀ (L : List (ByteArray × Int)), (∀ x ∈ L, sameB old new x = true) → catE old L = catE new L
  | [], _ => rfl
  | x :: L, h => by
    have e1 : catE old (x :: L) = entT old x ++ catE old L := rfl
    have e2 : catE new (x :: L) = entT new x ++ catE new L := rfl
    rw [e1, e2, entT, entT, sameB_bodyT (h x (List.mem_cons_self ..)), catE_same L fun y hy => h y (List.mem_cons_of_mem _ hy)]
theorem reach_gC {old new : List Mo} {n x : ByteArray × Int} (hs : ∀ y, Reach (gC old new) n y → sameB old new y = true) (h : Reach (grf old) n x) : Reach (gC old new) n x := by
  induction h with
  | refl => exact .refl
  | step _ h2 h3 ih =>
    refine ih.step ?_ h3
    unfold gC
    rw [if_pos (hs _ ih)]
    exact h2
theorem reach_of_gC {old new : List Mo} {n x : ByteArray × Int} (h : Reach (gC old new) n x) : Reach (grf old) n x := by
  induction h with
  | refl => exact .refl
  | step _ h2 h3 ih => exact ih.step (gC_some h2).2 h3
theorem keyL_cat {old new : List Mo} {n : ByteArray × Int} {L L' : List (ByteArray × Int)} (h : keyL old n L = keyL new n L') : catE old L = catE new L' := by
  unfold keyL at h
  exact List.append_cancel_left (List.append_cancel_left h)
theorem grf_some {l : List Mo} {x : ByteArray × Int} (h : grf l x ≠ none) : (bodyOf l x).isSome = true := by
  unfold grf at h
  cases hb : bodyOf l x with
  | none => rw [hb] at h; exact absurd rfl h
  | some d => rfl
theorem sameB_clo {old : List Mo} {f : ByteArray × Int → Option (List (ByteArray × Int))} {n : ByteArray × Int} {s : ByteArray} {e : Int} (hc : chkL old = 0) (hb : bodyOf old n ≠ none) (hr : ∀ x, Reach (grf old) n x ↔ Reach f n x) (hg : ∀ x, Reach f n x → grf old x ≠ none) (h : KeyV old n s e) :
    ∃ L, L.Pairwise ltN ∧ (∀ x, x ∈ L ↔ Reach f n x) ∧ s = ⟨(keyL old n L).toArray⟩ ∧ e = 0 := by
  have hl : loadE old n = 0 := by
    unfold loadE
    rw [if_neg (by simpa using hc), if_neg hb]
  rcases h with ⟨h1, _⟩ | ⟨_, ⟨x, h2, h3⟩, _⟩ | ⟨_, L, ⟨h2, h3, _⟩, h4, h5⟩
  · exact absurd hl h1
  · exact absurd h3 (hg x ((hr x).1 h2))
  · exact ⟨L, h2, fun x => (h3 x).trans (hr x), h4, h5⟩
/-- The keys differ, or one is refused: exactly where depend.Changed says so. -/
theorem key_diff {old new : List Mo} {n : ByteArray × Int} {s t : ByteArray} {e f : Int} (ho : KeyV old n s e) (hn : KeyV new n t f) :
    (e ≠ 0 ∨ f ≠ 0 ∨ s ≠ t) ↔ (chkL old = 0 → chkL new = 0 → Clo (gC old new) n none) := by
  constructor
  · intro h co cn
    refine Classical.byContradiction fun hc => ?_
    have hs : ∀ y, Reach (gC old new) n y → sameB old new y = true := fun y hy => by
      cases hb : sameB old new y with
      | true => rfl
      | false =>
        refine absurd ⟨y, hy, ?_⟩ hc
        unfold gC
        rw [hb]; rfl
    have hs' : ∀ y, Reach (gC new old) n y → sameB new old y = true := fun y hy => by
      rw [sameB_symm]
      exact hs y (gC_symm new old ▸ hy)
    have gs : ∀ y, Reach (gC old new) n y → grf old y ≠ none ∧ grf new y ≠ none := fun y hy => by
      obtain ⟨a, b, h1, h2, _⟩ := sameB_some (hs y hy)
      unfold grf
      rw [h1, h2]
      exact ⟨nofun, nofun⟩
    obtain ⟨a, b, h1, h2, _⟩ := sameB_some (hs n .refl)
    have r1 : ∀ x, Reach (grf old) n x ↔ Reach (gC old new) n x := fun x => ⟨reach_gC hs, reach_of_gC⟩
    have r2 : ∀ x, Reach (grf new) n x ↔ Reach (gC old new) n x := fun x => by
      rw [gC_symm old new]
      exact ⟨reach_gC hs', reach_of_gC⟩
    obtain ⟨L, l1, l2, l3, l4⟩ := sameB_clo co (by rw [h1]; nofun) r1 (fun x hx => (gs x hx).1) ho
    obtain ⟨L', k1, k2, k3, k4⟩ := sameB_clo cn (by rw [h2]; nofun) r2 (fun x hx => (gs x hx).2) hn
    obtain rfl : L = L' := ltN_ext l1 k1 fun x => (l2 x).trans (k2 x).symm
    rcases h with h | h | h
    · exact h l4
    · exact h k4
    · apply h
      rw [l3, k3]
      unfold keyL
      rw [catE_same L fun x hx => hs x ((l2 x).1 hx)]
  · intro h
    refine Classical.byContradiction fun hc => ?_
    have he : e = 0 := Classical.byContradiction fun q => hc (.inl q)
    have hf : f = 0 := Classical.byContradiction fun q => hc (.inr (.inl q))
    have hst : s = t := Classical.byContradiction fun q => hc (.inr (.inr q))
    rcases ho with ⟨h1, _, h2⟩ | ⟨_, _, _, h2⟩ | ⟨o1, L, ⟨_, o2, o3⟩, o4, _⟩
    · exact h1 (h2.symm.trans he)
    · omega
    rcases hn with ⟨h1, _, h2⟩ | ⟨_, _, _, h2⟩ | ⟨n1, L', ⟨_, n2, n3⟩, n4, _⟩
    · exact h1 (h2.symm.trans hf)
    · omega
    have co := (loadE_zero o1).1
    have cn := (loadE_zero n1).1
    have hk : keyL old n L = keyL new n L' := by
      have := hst
      rw [o4, n4] at this
      simpa using this
    obtain ⟨q1, q2⟩ := catE_inj co cn L L' (fun x hx => grf_some (o3 x ((o2 x).1 hx))) (fun x hx => grf_some (n3 x ((n2 x).1 hx))) (keyL_cat hk)
    obtain ⟨x, hx, hz⟩ := h co cn
    have hm : x ∈ L := (o2 x).2 (reach_of_gC hx)
    have := gC_none hz
    rw [q2 x hm] at this
    cases this
end Go.Proofs.YtpnfbfnffkbilaaGreatDoor
/- ref40.Changed -/
namespace Go.Proofs.YtpnfbfnffkbilaaGreatDoor
open Go.RowKit Go.Proofs Go.Shelf

/-- A name has changed: as depend.Changed finds it. -/
def DifP (old new : List Mo) (n : ByteArray × Int) : Prop := chkL old = 0 → chkL new = 0 → Clo (gC old new) n none
structure DifI (old new : List Mo) (L : List (ByteArray × Int)) (j : Nat) (K : List (ByteArray × Int)) : Prop where
  sub : K.Sublist (L.take j)
  mem : ∀ x, x ∈ K ↔ x ∈ L.take j ∧ DifP old new x
theorem DifI.start {old new : List Mo} {L : List (ByteArray × Int)} : DifI old new L 0 [] := ⟨by simp, fun x => by simp⟩
theorem DifI.skip {old new : List Mo} {L : List (ByteArray × Int)} {j : Nat} {K : List (ByteArray × Int)} (h : DifI old new L j K) {x : ByteArray × Int} (hx : L[j]? = some x) (hd : ¬ DifP old new x) : DifI old new L (j + 1) K := by
  refine ⟨?_, fun y => ?_⟩
  · rw [take_step hx]
    exact h.sub.trans (List.sublist_append_left _ _)
  · rw [take_step hx, h.mem, List.mem_append, List.mem_singleton]
    constructor
    · rintro ⟨h1, h2⟩
      exact ⟨.inl h1, h2⟩
    · rintro ⟨h1 | rfl, h2⟩
      · exact ⟨h1, h2⟩
      · exact absurd h2 hd
theorem DifI.push {old new : List Mo} {L : List (ByteArray × Int)} {j : Nat} {K : List (ByteArray × Int)} (h : DifI old new L j K) {x : ByteArray × Int} (hx : L[j]? = some x) (hd : DifP old new x) : DifI old new L (j + 1) (K ++ [x]) := by
  refine ⟨?_, fun y => ?_⟩
  · rw [take_step hx]
    exact h.sub.append (List.Sublist.refl _)
  · rw [take_step hx, List.mem_append, List.mem_append, List.mem_singleton, h.mem]
    constructor
    · rintro (⟨h1, h2⟩ | rfl)
      · exact ⟨.inl h1, h2⟩
      · exact ⟨.inr rfl, hd⟩
    · rintro ⟨h1 | rfl, h2⟩
      · exact .inl ⟨h1, h2⟩
      · exact .inr rfl
def namesB (old new : List Mo) : List (ByteArray × Int) := (namesOf new).foldl withN (namesOf old)
theorem namesB_sorted (old new : List Mo) : (namesB old new).Pairwise ltN := foldW_sorted _ _ (namesOf_sorted old)
theorem mem_namesB (old new : List Mo) (x : ByteArray × Int) : x ∈ namesB old new ↔ exB old new x = true := by
  unfold namesB exB
  rw [mem_foldW, mem_namesOf, mem_namesOf, Bool.or_eq_true]
theorem namesOf_len (l : List Mo) : (namesOf l).length ≤ totD l := by
  have h3 := allN_len l
  have := nodup_len (namesOf l) (allN l) (ltN_nodup (namesOf_sorted l)) fun x hx => mem_allN ((mem_namesOf l x).1 hx)
  omega
theorem DifI.end_ {old new : List Mo} {K : List (ByteArray × Int)} {j : Nat} (h : DifI old new (namesB old new) j K) (hj : (namesB old new).length ≤ j) (ho : MoW old) (hn : MoW new) : CR old new K := by
  have hs := h.sub
  have hm := h.mem
  rw [List.take_of_length_le hj] at hs hm
  refine ⟨(namesB_sorted old new).sublist hs, fun n hn' => ?_, fun n _ => ?_⟩
  · have := (mem_namesB old new n).1 ((hm n).1 hn').1
    unfold exB at this
    rcases (Bool.or_eq_true _ _).mp this with h | h
    · exact nok_body ho h
    · exact nok_body hn h
  · rw [hm, mem_namesB]
    rfl
set_option maxRecDepth 100000 in
set_option maxHeartbeats 16000000 in
theorem changed40_any (old new : List Mo) (A : Option Addr) (c : Nat) (A' : Option Addr) (c' : Nat) (w : World) (ho : SlM w w.heap.size A c old) (hn : SlM w w.heap.size A' c' new) (hwo : MoW old) (hwn : MoW new) (hmo : ∀ m ∈ old, ModS m.label m.uses m.ds) (hmn : ∀ m ∈ new, ModS m.label m.uses m.ds) (hto : totD old ≤ 1000) (htn : totD new ≤ 1000) :
    Calls Tryz.prog 14 #[.slice A old.length c, .slice A' new.length c'] w (ChgQ old new w) := by
  obtain ⟨i0, hi, hz0', hz1', hz2'⟩ := info_parts Tryz.infoName
  have HL := Lib.hid (show ∀ X : World, Below w.heap.size w X → SlM X X.heap.size A c old from fun X hX => (ho.below hX).keep hX.size (fun _ _ => rfl))
  have HM := Lib.hid (show ∀ X : World, Below w.heap.size w X → SlM X X.heap.size A' c' new from fun X hX => (hn.below hX).keep hX.size (fun _ _ => rfl))
  obtain ⟨N, HN⟩ : ∃ Q, Hid (old.length = Q) := ⟨_, Lib.hid rfl⟩
  obtain ⟨N', HN'⟩ : ∃ Q, Hid (new.length = Q) := ⟨_, Lib.hid rfl⟩
  have HW := Lib.hid (And.intro hwo hwn)
  have HK1 := Lib.hid (show ∀ (X : World) (x : ByteArray × Int), Below w.heap.size w X → Calls Tryz.prog 24 #[.slice A N c, .agg #[.string x.1, .int .i64 x.2]] X (fun e X' => Below X.heap.size X X' ∧ ∃ s er, e = .returned (.tuple #[.string s, .int .i64 er]) ∧ KeyV old x s er) from fun X x hX => by
    have := key40_any old x A c X (HL.out X hX) hmo hto
    rw [HN.out] at this
    exact this.mono fun e X' h => h.v)
  have HK2 := Lib.hid (show ∀ (X : World) (x : ByteArray × Int), Below w.heap.size w X → Calls Tryz.prog 24 #[.slice A' N' c', .agg #[.string x.1, .int .i64 x.2]] X (fun e X' => Below X.heap.size X X' ∧ ∃ s er, e = .returned (.tuple #[.string s, .int .i64 er]) ∧ KeyV new x s er) from fun X x hX => by
    have := key40_any new x A' c' X (HM.out X hX) hmn htn
    rw [HN'.out] at this
    exact this.mono fun e X' h => h.v)
  have HN1 := Lib.hid (names40_any old A c w ho (by omega))
  have HN2 := Lib.hid (show ∀ X : World, Below w.heap.size w X → Calls Tryz.prog 28 #[.slice A' N' c'] X (WithP24 (namesOf new) X) from fun X hX => by
    have := names40_any new A' c' X (HM.out X hX) (by omega)
    rwa [HN'.out] at this)
  obtain ⟨E1, HE1⟩ : ∃ Q, Hid (namesOf old = Q) := ⟨_, Lib.hid rfl⟩
  obtain ⟨E2, HE2⟩ : ∃ Q, Hid (namesOf new = Q) := ⟨_, Lib.hid rfl⟩
  obtain ⟨L, HLB⟩ : ∃ Q, Hid (namesB old new = Q) := ⟨_, Lib.hid rfl⟩
  have HEL := Lib.hid (show E2.foldl withN E1 = L by rw [← HE1.out, ← HE2.out, ← HLB.out]; rfl)
  have hE1l : E1.length ≤ 1000 := by rw [← HE1.out]; exact Nat.le_trans (namesOf_len old) hto
  have hE2l : E2.length ≤ 1000 := by rw [← HE2.out]; exact Nat.le_trans (namesOf_len new) htn
  rw [HE1.out] at HN1
  rw [HE2.out] at HN2
  rw [HN.out] at HN1 ⊢
  rw [HN'.out]
  obtain ⟨M, HMM⟩ : ∃ Q, Hid (E2.length = Q) := ⟨_, Lib.hid rfl⟩
  have HEE := Lib.hid (And.intro hE1l hE2l)
  rw [HMM.out] at hE2l
  clear ho hn hwo hwn hmo hmn hto htn
  go_enter Tryz.func14, Tryz.ntmps14
  go_wp2_with fail
  refine HN1.out.mono ?_
  rintro e w1 ⟨aA, ac, rfl, hO1, hb1⟩
  have H1 := Lib.hid (And.intro hO1 hb1)
  have HN2' := Lib.hid (HN2.out w1 hb1)
  obtain ⟨E1N, HE1N⟩ : ∃ Q, Hid (E1.length = Q) := ⟨_, Lib.hid rfl⟩
  rw [HE1N.out]
  clear hO1 hb1
  go_wp2_with fail
  refine HN2'.out.mono ?_
  rintro e w2 ⟨bA, bc, rfl, hO2, hb2⟩
  have H2 := Lib.hid (And.intro hO2 (And.intro (H1.out.1.below hb2 (Nat.le_refl _)) (H1.out.2.trans (hb2.mono H1.out.2.size))))
  rw [HMM.out]
  clear hO2 hb2
  go_wp2
  go_loopg [5, 7] M (fun g rv ct wr => ∃ (j : Nat) (R : List (ByteArray × Int)) (rA : Option Addr) (rc : Nat), g = M - j ∧ j ≤ M ∧ ct = .int .i64 j ∧ rv = .slice rA R.length rc ∧ (E2.drop j).foldl withN R = L ∧ R.length ≤ 1000 + j ∧ OwnN wr rA rc R ∧ Below w2.heap.size w2 wr)
  case atStart => exact ⟨0, E1, aA, ac, rfl, by omega, rfl, by rw [HE1N.out], HEL.out, HEE.out.1, H2.out.2.1, Below.refl _ _⟩
  case round =>
    obtain ⟨j, R, rA, rc, HG, hj, rfl, rfl, hE, hRl, hR, hB⟩ := hrel
    have hz := hB.size
    by_cases hlt : j < M
    · have hlt' : j < E2.length := by rw [HMM.out]; exact hlt
      obtain ⟨x, hx⟩ : ∃ y, E2[j]? = some y := ⟨_, List.getElem?_eq_getElem hlt'⟩
      have hdr : E2.drop j = x :: E2.drop (j + 1) := by
        obtain ⟨_, rfl⟩ := List.getElem?_eq_some_iff.1 hx
        exact List.drop_eq_getElem_cons _
      rw [hdr, List.foldl_cons] at hE
      have hOw := H2.out.1.below hB (Nat.le_refl _)
      rcases hOw.cells with ⟨h0, _⟩ | ⟨g, rfl, hgl, hc1, hc2, hcell⟩
      · rw [h0] at hlt'; simp at hlt'
      obtain ⟨x0, x1⟩ := namesC_at x E2 j hx
      have c0 := hcell _ _ x0
      have c1 := hcell _ _ x1
      rw [HMM.out] at hc1
      have i1 : (0 : Int) ≤ (j : Int) := by omega
      have i2 : (j : Int) < (M : Int) := by omega
      have HWT := Lib.hid (with24_any R x.1 x.2 rA rc wr hR (by omega))
      have HT := Lib.hid (And.intro HG (And.intro hE hB))
      clear HG hE hB hOw hcell x0 x1 hdr hx hR
      go_wp2_with fail
      refine HWT.out.mono ?_
      rintro e w3 ⟨A3, c3, rfl, hO3, hb3⟩
      obtain ⟨R3, HR3⟩ : ∃ R3, Hid (withN R (x.1, x.2) = R3) := ⟨_, Lib.hid rfl⟩
      have hR3l : R3.length ≤ R.length + 1 := by rw [← HR3.out]; exact withN_len _ _
      have HE3 := Lib.hid (show (E2.drop (j + 1)).foldl withN R3 = L by rw [← HR3.out]; exact HT.out.2.1)
      rw [HR3.out] at hO3 ⊢
      have H3 := Lib.hid (And.intro hO3 (HT.out.2.2.trans (hb3.mono hz)))
      clear hO3 hb3 c0 c1
      go_wp2
      go_roundg (M - (j + 1))
      case measure => rw [HT.out.1]; omega
      case rel => exact ⟨j + 1, R3, A3, c3, rfl, by omega, by go_num, rfl, HE3.out, by omega, H3.out.1, H3.out.2⟩
    · have hje : M = j := by omega
      subst hje
      have hRL : R = L := by
        rw [List.drop_of_length_le (by rw [HMM.out]; omega)] at hE
        exact hE
      subst hRL
      have H4 := Lib.hid (And.intro hR (H2.out.2.2.trans (hB.mono H2.out.2.2.size)))
      obtain ⟨LN, HLN⟩ : ∃ Q, Hid (R.length = Q) := ⟨_, Lib.hid rfl⟩
      have hLNl : LN ≤ 2000 := by rw [← HLN.out]; omega
      rw [HLN.out]
      obtain ⟨w4, rfl⟩ : ∃ w4 : World, w4 = wr := ⟨_, rfl⟩
      clear hE hR hB HG hz hRl hj
      go_wp2
      go_loopg [8, 9, 10, 11, 12, 13] LN (fun g kv ct _ _ _ _ wr => ∃ (j : Nat) (K : List (ByteArray × Int)) (kA : Option Addr) (kc : Nat), g = LN - j ∧ j ≤ LN ∧ ct = .int .i64 j ∧ kv = .slice kA K.length kc ∧ DifI old new R j K ∧ K.length ≤ j ∧ wr.ownsRow w4.heap.size 28 2 (.slice kA K.length kc) K.length (namesC K) ∧ Below w4.heap.size w4 wr)
      case atStart => exact ⟨0, [], none, 0, rfl, by omega, rfl, rfl, DifI.start, by simp, World.ownsRow_nil _ _ _ _, Below.refl _ _⟩
      case round =>
        obtain ⟨j, K, kA, kc, HG, hj, rfl, rfl, hD, hKl, hrow, hB⟩ := hrel
        have hz := hB.size
        obtain ⟨KN, HKN⟩ : ∃ Q, Hid (K.length = Q) := ⟨_, Lib.hid rfl⟩
        by_cases hlt : j < LN
        · have hlt' : j < R.length := by rw [HLN.out]; exact hlt
          obtain ⟨x, hx⟩ : ∃ y, R[j]? = some y := ⟨_, List.getElem?_eq_getElem hlt'⟩
          have hOw := H4.out.1.below hB (Nat.le_refl _)
          rcases hOw.cells with ⟨h0, _⟩ | ⟨g, rfl, hgl, hc1, hc2, hcell⟩
          · rw [h0] at hlt'; simp at hlt'
          obtain ⟨x0, x1⟩ := namesC_at x R j hx
          have c0 := hcell _ _ x0
          have c1 := hcell _ _ x1
          rw [HLN.out] at hc1
          have i1 : (0 : Int) ≤ (j : Int) := by omega
          have i2 : (j : Int) < (LN : Int) := by omega
          have hBw : Below w.heap.size w wr := H4.out.2.trans (hB.mono H4.out.2.size)
          have HKa := Lib.hid (HK1.out wr x hBw)
          have HBw := Lib.hid hBw
          have HT := Lib.hid (And.intro HG (And.intro hD (And.intro hrow (And.intro hB hx))))
          rw [HKN.out] at hKl ⊢
          clear HG hD hrow hB hOw hcell x0 x1 hx hBw
          go_wp2_with fail
          refine HKa.out.mono ?_
          rintro e w5 ⟨hb5, s1, q1, rfl, hv1⟩
          have d0 := (hb5.cell (p := ⟨g, j * 2, none⟩) hgl).trans c0
          have d1 := (hb5.cell (p := ⟨g, j * 2 + 1, none⟩) hgl).trans c1
          have hz5 := hb5.size
          have HB5 := Lib.hid (And.intro hb5 hv1)
          have HKb := Lib.hid (HK2.out w5 x (HBw.out.trans (hb5.mono HBw.out.size)))
          clear hb5 hv1 c0 c1
          go_wp2_with fail
          refine HKb.out.mono ?_
          rintro e w6 ⟨hb6, s2, q2, rfl, hv2⟩
          have f0 := (hb6.cell (p := ⟨g, j * 2, none⟩) (by show g < _; omega)).trans d0
          have f1 := (hb6.cell (p := ⟨g, j * 2 + 1, none⟩) (by show g < _; omega)).trans d1
          have hz6 := hb6.size
          have HD := Lib.hid (key_diff HB5.out.2 hv2)
          have HB6 := Lib.hid (HB5.out.1.trans (hb6.mono hz5))
          have HROW6 := Lib.hid (show w6.ownsRow w4.heap.size 28 2 (.slice kA KN kc) KN (namesC K) by
            have := own_of_blocks' HT.out.2.2.1 fun k hk => HB6.out.block k hk
            rwa [HKN.out] at this)
          clear hb6 hv2 d0 d1
          by_cases z1 : q1 = 0
          · subst z1
            by_cases z2 : q2 = 0
            · subst z2
              by_cases z3 : s1 = s2
              · subst z3
                have HND := Lib.hid (show ¬ DifP old new x from fun h => by
                  rcases HD.out.2 h with h | h | h <;> exact h rfl)
                have l3 : (s1.toList == s1.toList) = true := by simp
                go_wp2
                go_roundg (LN - (j + 1))
                case measure => rw [HT.out.1]; omega
                case rel => exact ⟨j + 1, K, kA, kc, rfl, by omega, by go_num, by rw [HKN.out], HT.out.2.1.skip HT.out.2.2.2.2 HND.out, by rw [HKN.out]; omega, by rw [HKN.out]; exact HROW6.out, HT.out.2.2.2.1.trans (HB6.out.mono hz)⟩
              · have HDP := Lib.hid (show DifP old new x from HD.out.1 (.inr (.inr z3)))
                have l3 : (s1.toList == s2.toList) = false := by
                  cases h : (s1.toList == s2.toList) with
                  | false => rfl
                  | true => exact absurd (toL_inj (by simpa using h)) z3
                clear z3
                go_wp2_with (at_builtin; refine wpList_append_own _ rfl _ _ 26 rfl w4.heap.size 28 i0 _ 2 24 Tryz.underlying26 hi hz0' hz1' hz2' rfl (by decide) _ _ _ rfl (HROW6.out.alloc _) ⟨w6.heap.size, 0, none⟩ 1 1 [.string x.1, .int .i64 x.2] rfl rfl (cell_pair_new _ _ _ _) (by simp [Value.oneCell']) (by unfold maxLen; omega) (by omega) (by simp; omega) ?_; intro v' w7 hown7 hg7 _; obtain ⟨g7, c7, rfl⟩ := ownsRow_succ hown7; have H7 := Lib.hid (And.intro hown7 (((HT.out.2.2.2.1.trans (HB6.out.mono hz)).alloc (by omega) (.cells #[.string x.1, .int .i64 x.2] 28)).grown hg7 (by simp; omega) (fun k hk => (HROW6.out.lt k hk).1))); clear hown7 hg7)
                go_wp2
                go_roundg (LN - (j + 1))
                case measure => rw [HT.out.1]; omega
                case rel =>
                  have hKU : (K ++ [x]).length = KN + 1 := by rw [List.length_append, HKN.out]; rfl
                  refine ⟨j + 1, K ++ [x], _, _, rfl, by omega, by go_num, by rw [hKU], HT.out.2.1.push HT.out.2.2.2.2 HDP.out, by rw [hKU]; omega, ?_, H7.out.2⟩
                  rw [hKU, namesC_append]
                  exact H7.out.1
            · have HDP := Lib.hid (show DifP old new x from HD.out.1 (.inr (.inl z2)))
              have l2 : (q2 != 0) = true := by simpa using z2
              clear z2
              go_wp2_with (at_builtin; refine wpList_append_own _ rfl _ _ 26 rfl w4.heap.size 28 i0 _ 2 24 Tryz.underlying26 hi hz0' hz1' hz2' rfl (by decide) _ _ _ rfl (HROW6.out.alloc _) ⟨w6.heap.size, 0, none⟩ 1 1 [.string x.1, .int .i64 x.2] rfl rfl (cell_pair_new _ _ _ _) (by simp [Value.oneCell']) (by unfold maxLen; omega) (by omega) (by simp; omega) ?_; intro v' w7 hown7 hg7 _; obtain ⟨g7, c7, rfl⟩ := ownsRow_succ hown7; have H7 := Lib.hid (And.intro hown7 (((HT.out.2.2.2.1.trans (HB6.out.mono hz)).alloc (by omega) (.cells #[.string x.1, .int .i64 x.2] 28)).grown hg7 (by simp; omega) (fun k hk => (HROW6.out.lt k hk).1))); clear hown7 hg7)
              go_wp2
              go_roundg (LN - (j + 1))
              case measure => rw [HT.out.1]; omega
              case rel =>
                have hKU : (K ++ [x]).length = KN + 1 := by rw [List.length_append, HKN.out]; rfl
                refine ⟨j + 1, K ++ [x], _, _, rfl, by omega, by go_num, by rw [hKU], HT.out.2.1.push HT.out.2.2.2.2 HDP.out, by rw [hKU]; omega, ?_, H7.out.2⟩
                rw [hKU, namesC_append]
                exact H7.out.1
          · have HDP := Lib.hid (show DifP old new x from HD.out.1 (.inl z1))
            have l1 : (q1 != 0) = true := by simpa using z1
            clear z1
            go_wp2_with (at_builtin; refine wpList_append_own _ rfl _ _ 26 rfl w4.heap.size 28 i0 _ 2 24 Tryz.underlying26 hi hz0' hz1' hz2' rfl (by decide) _ _ _ rfl (HROW6.out.alloc _) ⟨w6.heap.size, 0, none⟩ 1 1 [.string x.1, .int .i64 x.2] rfl rfl (cell_pair_new _ _ _ _) (by simp [Value.oneCell']) (by unfold maxLen; omega) (by omega) (by simp; omega) ?_; intro v' w7 hown7 hg7 _; obtain ⟨g7, c7, rfl⟩ := ownsRow_succ hown7; have H7 := Lib.hid (And.intro hown7 (((HT.out.2.2.2.1.trans (HB6.out.mono hz)).alloc (by omega) (.cells #[.string x.1, .int .i64 x.2] 28)).grown hg7 (by simp; omega) (fun k hk => (HROW6.out.lt k hk).1))); clear hown7 hg7)
            go_wp2
            go_roundg (LN - (j + 1))
            case measure => rw [HT.out.1]; omega
            case rel =>
              have hKU : (K ++ [x]).length = KN + 1 := by rw [List.length_append, HKN.out]; rfl
              refine ⟨j + 1, K ++ [x], _, _, rfl, by omega, by go_num, by rw [hKU], HT.out.2.1.push HT.out.2.2.2.2 HDP.out, by rw [hKU]; omega, ?_, H7.out.2⟩
              rw [hKU, namesC_append]
              exact H7.out.1
        · have hje : j = LN := by omega
          have HCR := Lib.hid (show CR old new K from DifI.end_ (by rw [HLB.out]; exact hD) (by rw [HLB.out, HLN.out]; omega) HW.out.1 HW.out.2)
          have HF := Lib.hid (And.intro hrow (And.intro (H4.out.2.trans (hB.mono H4.out.2.size)) hKl))
          rw [HKN.out]
          clear hD hrow hB HG hKl
          go_wp2
          go_ret
          exact ⟨kA, kc, K, by rw [HKN.out]; rfl, World.ownsRow.mono HF.out.1 H4.out.2.size, HF.out.2.1, HCR.out, by have := HF.out.2.2; omega⟩
end Go.Proofs.YtpnfbfnffkbilaaGreatDoor
/- law40.DependChanged answers true -/
namespace Go.Proofs.YtpnfbfnffkbilaaGreatDoor
open Go.RowKit Go.Proofs Go.Shelf

theorem CR.same {old new : List Mo} {R R' : List (ByteArray × Int)} (h : CR old new R) (k : CR old new R') : R = R' := by
  refine ltN_ext h.1 k.1 fun x => ?_
  have key : NOk x → (x ∈ R ↔ x ∈ R') := fun hx => by rw [h.2.2 x hx, k.2.2 x hx]
  exact ⟨fun hx => (key (h.2.1 x hx)).1 hx, fun hx => (key (k.2.1 x hx)).2 hx⟩
set_option maxRecDepth 100000 in
set_option maxHeartbeats 8000000 in
theorem lawChanged_any (old new : List Mo) (A : Option Addr) (c : Nat) (A' : Option Addr) (c' : Nat) (w : World) (ho : SlM w w.heap.size A c old) (hn : SlM w w.heap.size A' c' new) (hwo : MoW old) (hwn : MoW new) (hco : CntL old) (hcn : CntL new) :
    Calls Tryz.prog 3 #[.slice A old.length c, .slice A' new.length c'] w fun e w' => e = .returned (.bool true) ∧ Below w.heap.size w w' := by
  have HL := Lib.hid (show ∀ X : World, Below w.heap.size w X → SlM X X.heap.size A c old from fun X hX => (ho.below hX).keep hX.size (fun _ _ => rfl))
  have HM := Lib.hid (show ∀ X : World, Below w.heap.size w X → SlM X X.heap.size A' c' new from fun X hX => (hn.below hX).keep hX.size (fun _ _ => rfl))
  obtain ⟨N, HN⟩ : ∃ Q, Hid (old.length = Q) := ⟨_, Lib.hid rfl⟩
  obtain ⟨N', HN'⟩ : ∃ Q, Hid (new.length = Q) := ⟨_, Lib.hid rfl⟩
  have HG := Lib.hid (great40_any old A c w ho)
  have HG' := Lib.hid (show ∀ X : World, Below w.heap.size w X → Calls Tryz.prog 10 #[.slice A' new.length c'] X (fun e w' => e = .returned (.bool (greatL new)) ∧ Below X.heap.size X w') from fun X hX => great40_any new A' c' X (HM.out X hX))
  have HW := Lib.hid (And.intro hwo (And.intro hwn (And.intro hco hcn)))
  rw [HN.out] at HG ⊢
  rw [HN'.out] at HG' ⊢
  clear ho hn hwo hwn hco hcn
  go_enter Tryz.func3, Tryz.ntmps3
  cases hg : greatL old with
  | true =>
    rw [hg] at HG
    go_wp2_with fail
    refine HG.out.mono ?_
    rintro e w1 ⟨rfl, hb1⟩
    have HB1 := Lib.hid hb1
    clear hb1
    go_wp2_with fail
    refine (awake40_any _).mono ?_
    rintro e w2 ⟨rfl, hb2⟩
    have HB2 := Lib.hid hb2
    clear hb2
    go_wp2
    go_ret
    exact ⟨rfl, HB1.out.trans (HB2.out.mono HB1.out.size)⟩
  | false =>
  rw [hg] at HG
  cases hg' : greatL new with
  | true =>
    rw [hg'] at HG'
    go_wp2_with fail
    refine HG.out.mono ?_
    rintro e w1 ⟨rfl, hb1⟩
    have HB1 := Lib.hid hb1
    clear hb1
    go_wp2_with fail
    refine (HG'.out w1 HB1.out).mono ?_
    rintro e w2 ⟨rfl, hb2⟩
    have HB2 := Lib.hid (HB1.out.trans (hb2.mono HB1.out.size))
    clear hb2
    go_wp2_with fail
    refine (awake40_any _).mono ?_
    rintro e w3 ⟨rfl, hb3⟩
    have HB3 := Lib.hid hb3
    clear hb3
    go_wp2
    go_ret
    exact ⟨rfl, HB2.out.trans (HB3.out.mono HB2.out.size)⟩
  | false =>
  rw [hg'] at HG'
  have HGG := Lib.hid (And.intro hg hg')
  clear hg hg'
  go_wp2_with fail
  refine HG.out.mono ?_
  rintro e w1 ⟨rfl, hb1⟩
  have HB1 := Lib.hid hb1
  clear hb1
  go_wp2_with fail
  refine (HG'.out w1 HB1.out).mono ?_
  rintro e w2 ⟨rfl, hb2⟩
  have HB2 := Lib.hid (HB1.out.trans (hb2.mono HB1.out.size))
  have HC := Lib.hid (chg_any old new A c A' c' w2 (HL.out w2 HB2.out) (HM.out w2 HB2.out) HW.out.1 HW.out.2.1 HGG.out.1 HGG.out.2)
  rw [HN.out, HN'.out] at HC
  clear hb2
  go_wp2_with fail
  refine HC.out.mono ?_
  rintro e w3 ⟨sA, sc, R, rfl, hown3, hb3, hcr, hRl⟩
  have H3 := Lib.hid (And.intro hown3 (And.intro (HB2.out.trans (hb3.mono HB2.out.size)) (And.intro hcr hRl)))
  obtain ⟨RN, HRN⟩ : ∃ Q, Hid (R.length = Q) := ⟨_, Lib.hid rfl⟩
  have HD := Lib.hid (changed40_any old new A c A' c' w3 (HL.out w3 H3.out.2.1) (HM.out w3 H3.out.2.1) HW.out.1 HW.out.2.1 (fun m hm => (mods_of HGG.out.1 HW.out.2.2.1 m hm).1) (fun m hm => (mods_of HGG.out.2 HW.out.2.2.2 m hm).1) (by have := greatL_tot HGG.out.1; omega) (by have := greatL_tot HGG.out.2; omega))
  rw [HN.out, HN'.out] at HD
  rw [HRN.out]
  clear hown3 hb3 hcr hRl
  go_wp2_with fail
  refine HD.out.mono ?_
  rintro e w4 ⟨tA, tc, R2, rfl, hown4, hb4, hcr4, _⟩
  have hRR : R = R2 := H3.out.2.2.1.same hcr4
  subst hRR
  have HEq := Lib.hid (slcEqualN_same R sA sc w2.heap.size tA tc w3.heap.size w4 (own_of_blocks' H3.out.1 fun k hk => hb4.block k hk) hown4 (by have := H3.out.2.2.2; omega))
  have HB4 := Lib.hid (H3.out.2.1.trans (hb4.mono H3.out.2.1.size))
  rw [HRN.out] at HEq ⊢
  clear hown4 hb4 hcr4
  go_wp2_with fail
  refine HEq.out.mono ?_
  rintro e w5 ⟨rfl, q, rfl⟩
  go_wp2_with fail
  refine (awake40_any _).mono ?_
  rintro e w6 ⟨rfl, hb6⟩
  have HB6 := Lib.hid ((below_drewN HB4.out q).trans (hb6.mono HB4.out.size))
  clear hb6
  go_wp2
  go_ret
  exact ⟨rfl, HB6.out⟩
end Go.Proofs.YtpnfbfnffkbilaaGreatDoor
