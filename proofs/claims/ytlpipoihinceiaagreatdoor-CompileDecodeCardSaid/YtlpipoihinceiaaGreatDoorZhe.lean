/- Numbers and texts, read from bytes, in plain words -/
import Derived.Test.YtlpipoihinceiaaGreatDoorZhb
import Derived.Test.YtlpipoihinceiaaGreatDoorProg
import Derived.WalkKit
import Derived.WalkLawsBesides
import Derived.BigCall
import Derived.IntWalk
import Derived.Below
import Derived.Deep.LoopGhost
import Derived.Lib.Hide
import Derived.Shelf.Abstract
import Derived.ProofKit
import Derived.OwnWalk
import Derived.Lib.Builder
import Derived.Test.YtlpipoihinceiaaGreatDoorGkb
import Derived.Test.YtlpipoihinceiaaGreatDoorZhc
namespace Go.Proofs.YtlpipoihinceiaaGreatDoor
open Go

/-- A number's digits, at most f of them, i of which have been read. -/
def getL : Nat → Nat → List UInt8 → Option (Nat × List UInt8)
  | 0, _, _ => none
  | _ + 1, _, [] => none
  | f + 1, i, d :: r => if 128 ≤ d.toNat then (getL f (i + 1) r).map (fun p => (d.toNat - 128 + 128 * p.1, p.2)) else if d.toNat = 0 ∧ 0 < i then none else some (d.toNat, r)
/-- A number, and what is behind it. -/
def getN (s : List UInt8) : Option (Nat × List UInt8) := match getL 6 0 s with
  | some p => if p.1 ≤ 1099511627776 then some p else none
  | none => none
/-- A text, and what is behind it. -/
def getT (s : List UInt8) : Option (List UInt8 × List UInt8) := match getN s with
  | some p => if p.1 ≤ 65536 ∧ p.1 ≤ p.2.length then some (p.2.take p.1, p.2.drop p.1) else none
  | none => none

theorem getL_suffix : ∀ (f i : Nat) (s : List UInt8) (n : Nat) (r : List UInt8), getL f i s = some (n, r) → ∃ k, k ≤ f ∧ 1 ≤ k ∧ k ≤ s.length ∧ r = s.drop k
  | 0, _, _, _, _, h => by simp [getL] at h
  | f + 1, i, [], _, _, h => by simp [getL] at h
  | f + 1, i, d :: t, n, r, h => by
    rw [getL] at h
    split at h
    · cases hg : getL f (i + 1) t with
      | none => rw [hg] at h; simp at h
      | some p =>
        rw [hg] at h
        obtain ⟨m, r'⟩ := p
        simp only [Option.map_some, Option.some.injEq, Prod.mk.injEq] at h
        obtain ⟨k, h1, h2, h3, h4⟩ := getL_suffix f (i + 1) t m r' hg
        exact ⟨k + 1, by omega, by omega, by simp; omega, by rw [← h.2, h4]; rfl⟩
    · split at h
      · simp at h
      · simp only [Option.some.injEq, Prod.mk.injEq] at h
        exact ⟨1, by omega, by omega, by simp, by rw [← h.2]; rfl⟩
theorem getN_suffix {s : List UInt8} {n : Nat} {r : List UInt8} (h : getN s = some (n, r)) : ∃ k, k ≤ 6 ∧ 1 ≤ k ∧ k ≤ s.length ∧ r = s.drop k := by
  unfold getN at h
  split at h
  · rename_i p hp
    split at h
    · simp only [Option.some.injEq] at h
      subst h
      exact getL_suffix _ _ _ _ _ hp
    · simp at h
  · simp at h
theorem u8_lo {n : Nat} (h : n < 256) : (UInt8.ofNat n).toNat = n := by
  rw [UInt8.toNat_ofNat', Nat.mod_eq_of_lt (by simpa using h)]
/-- What was written is read. -/
theorem getL_enc : ∀ (f i n : Nat) (r : List UInt8), n < 128 ^ (f + 1) → (0 < i → 0 < n) → getL (f + 1) i (encL n ++ r) = some (n, r)
  | f, i, n, r, h, hi => by
    by_cases hn : n < 128
    · rw [encL_small hn, List.singleton_append, getL, u8_lo (by omega), if_neg (by omega)]
      by_cases h0 : n = 0 ∧ 0 < i
      · exact absurd (hi h0.2) (by omega)
      · rw [if_neg h0]
    · match f with
      | 0 => simp at h; omega
      | f + 1 =>
        have hq := getL_enc f (i + 1) (n / 128) r (by rw [Nat.pow_succ] at h; omega) (by omega)
        rw [encL_big hn, List.cons_append, getL, u8_lo (by omega), if_pos (by omega), hq]
        simp only [Option.map_some, Option.some.injEq, Prod.mk.injEq, and_true]
        omega
theorem getN_enc (n : Nat) (r : List UInt8) (h : n ≤ 1099511627776) : getN (encL n ++ r) = some (n, r) := by
  rw [getN, getL_enc 5 0 n r (by omega) (by omega)]
  simp only [if_pos h]
/-- What is read was written. -/
theorem getL_of : ∀ (f i : Nat) (s : List UInt8) (n : Nat) (r : List UInt8), getL f i s = some (n, r) → s = encL n ++ r ∧ (0 < i → 0 < n)
  | 0, _, _, _, _, h => by simp [getL] at h
  | f + 1, i, [], _, _, h => by simp [getL] at h
  | f + 1, i, d :: t, n, r, h => by
    have hd : d.toNat < 256 := UInt8.toNat_lt d
    rw [getL] at h
    split at h
    · rename_i h128
      cases hg : getL f (i + 1) t with
      | none => rw [hg] at h; simp at h
      | some p =>
        rw [hg] at h
        obtain ⟨m, r'⟩ := p
        simp only [Option.map_some, Option.some.injEq, Prod.mk.injEq] at h
        obtain ⟨h1, h2⟩ := getL_of f (i + 1) t m r' hg
        obtain ⟨rfl, rfl⟩ := h
        have hm := h2 (by omega)
        refine ⟨?_, by omega⟩
        rw [encL_big (by omega), show (d.toNat - 128 + 128 * m) / 128 = m by omega, show (d.toNat - 128 + 128 * m) % 128 + 128 = d.toNat by omega, UInt8.ofNat_toNat, List.cons_append, ← h1]
    · split at h
      · simp at h
      · rename_i h1 h2
        simp only [Option.some.injEq, Prod.mk.injEq] at h
        obtain ⟨rfl, rfl⟩ := h
        refine ⟨?_, by omega⟩
        rw [encL_small (by omega), UInt8.ofNat_toNat]
        rfl
theorem getN_of {s : List UInt8} {n : Nat} {r : List UInt8} (h : getN s = some (n, r)) : s = encL n ++ r ∧ n ≤ 1099511627776 := by
  unfold getN at h
  split at h
  · rename_i p hp
    split at h
    · rename_i hle
      simp only [Option.some.injEq] at h
      subst h
      exact ⟨(getL_of _ _ _ _ _ hp).1, hle⟩
    · simp at h
  · simp at h
theorem getT_of {s t r : List UInt8} (h : getT s = some (t, r)) : s = encL t.length ++ (t ++ r) ∧ t.length ≤ 65536 := by
  unfold getT at h
  split at h
  · rename_i p hp
    obtain ⟨n, q⟩ := p
    split at h
    · rename_i hle
      simp only [Option.some.injEq, Prod.mk.injEq] at h hle
      obtain ⟨rfl, rfl⟩ := h
      have hl : (q.take n).length = n := by rw [List.length_take]; omega
      rw [hl, List.take_append_drop]
      exact ⟨(getN_of hp).1, hle.1⟩
    · simp at h
  · simp at h
theorem getT_enc (t r : List UInt8) (h : t.length ≤ 65536) : getT (encL t.length ++ (t ++ r)) = some (t, r) := by
  rw [getT, getN_enc _ _ (by omega)]
  simp [h]
end Go.Proofs.YtlpipoihinceiaaGreatDoor
/- codec.GetInt, GetText -/

namespace Go.Proofs.YtlpipoihinceiaaGreatDoor
open Go.RowKit Go.Proofs

theorem results_tri {fn : Func} {t u v : Tmp} (h : fn.results = #[.tmp t, .tmp u, .tmp v]) (tmps : Array Value) (P : Program) (w : World) :
    (results fn tmps).run P w = .ok (.tuple #[tmps.getD t undef, tmps.getD u undef, tmps.getD v undef]) w := by simp [results, h]
/-- What a getter of a number answers. -/
def GotN (s : ByteArray) (e : Ending) : Prop := match getN s.data.toList with
  | some p => ∃ k : Nat, k ≤ s.size ∧ p.2 = s.data.toList.drop k ∧ e = .returned (.tuple #[.int .i64 (p.1 : Int), .int .i64 (k : Int), .int .i64 0])
  | none => ∃ c : Int, (c != 0) = true ∧ e = .returned (.tuple #[.int .i64 0, .int .i64 0, .int .i64 c])
theorem GotN.no {s : ByteArray} {c : Int} (h : getN s.data.toList = none) (hc : (c != 0) = true) : GotN s (.returned (.tuple #[.int .i64 0, .int .i64 0, .int .i64 c])) := by
  unfold GotN
  rw [h]
  exact ⟨c, hc, rfl⟩
theorem GotN.yes {s : ByteArray} {n k : Nat} (h : getN s.data.toList = some (n, s.data.toList.drop k)) (hk : k ≤ s.size) : GotN s (.returned (.tuple #[.int .i64 (n : Int), .int .i64 (k : Int), .int .i64 0])) := by
  unfold GotN
  rw [h]
  exact ⟨k, hk, rfl, rfl⟩
theorem getL_step {s : List UInt8} {i n u f : Nat} {d : UInt8} (hd : s[i]? = some d) (h128 : 128 ≤ d.toNat) (h : getL 6 0 s = (getL (f + 1) i (s.drop i)).map fun p => (n + u * p.1, p.2)) :
    getL 6 0 s = (getL f (i + 1) (s.drop (i + 1))).map fun p => (n + (d.toNat - 128) * u + u * 128 * p.1, p.2) := by
  have hj := (List.getElem?_eq_some_iff.1 hd).1
  have he : s[i] = d := (List.getElem?_eq_some_iff.1 hd).2
  rw [h, List.drop_eq_getElem_cons hj, he, getL, if_pos h128]
  cases getL f (i + 1) (s.drop (i + 1)) with
  | none => rfl
  | some p =>
    simp only [Option.map_some, Option.some.injEq, Prod.mk.injEq, and_true]
    rw [Nat.mul_add, Nat.mul_comm u (d.toNat - 128), ← Nat.mul_assoc, Nat.add_assoc]
theorem getL_last {s : List UInt8} {i n u f : Nat} {d : UInt8} (hd : s[i]? = some d) (h128 : ¬ 128 ≤ d.toNat) (h0 : ¬ (d.toNat = 0 ∧ 0 < i)) (h : getL 6 0 s = (getL (f + 1) i (s.drop i)).map fun p => (n + u * p.1, p.2)) :
    getL 6 0 s = some (n + d.toNat * u, s.drop (i + 1)) := by
  have hj := (List.getElem?_eq_some_iff.1 hd).1
  have he : s[i] = d := (List.getElem?_eq_some_iff.1 hd).2
  rw [h, List.drop_eq_getElem_cons hj, he, getL, if_neg h128, if_neg h0]
  simp [Nat.mul_comm]
theorem getL_zero {s : List UInt8} {i n u f : Nat} {d : UInt8} (hd : s[i]? = some d) (h0 : d.toNat = 0 ∧ 0 < i) (h : getL 6 0 s = (getL (f + 1) i (s.drop i)).map fun p => (n + u * p.1, p.2)) :
    getN s = none := by
  have hj := (List.getElem?_eq_some_iff.1 hd).1
  have he : s[i] = d := (List.getElem?_eq_some_iff.1 hd).2
  rw [getN, h, List.drop_eq_getElem_cons hj, he, getL, if_neg (by omega), if_pos h0]
  rfl
theorem getL_short {s : List UInt8} {i n u f : Nat} (hd : s.length ≤ i) (h : getL 6 0 s = (getL f i (s.drop i)).map fun p => (n + u * p.1, p.2)) : getN s = none := by
  rw [getN, h, List.drop_eq_nil_of_le hd]
  cases f <;> rfl
theorem getL_six {s : List UInt8} {i n u : Nat} (h : getL 6 0 s = (getL 0 i (s.drop i)).map fun p => (n + u * p.1, p.2)) : getN s = none := by
  rw [getN, h]
  rfl

set_option maxRecDepth 100000 in
set_option maxHeartbeats 4000000 in
theorem GetInt_any (s : ByteArray) (w : World) : Calls Tryz.prog 192 #[.string s] w fun e w' => GotN s e ∧ w = w' := by
  go_enter Tryz.func192, Tryz.ntmps192
  go_wp2_with fail
  have HZ := Lib.hid (show s.data.toList.length = s.size by simp)
  go_loopg [5, 6, 7, 8, 9] 6 (fun g sn su _ _ ct wr => ∃ (i n u : Nat), g = 6 - i ∧ i ≤ 6 ∧ ct = .int .i64 i ∧ sn = .int .i64 n ∧ su = .int .i64 u ∧ u ≤ 4398046511104 ∧ n < u + 1 ∧ Hid (u = 128 ^ i) ∧ Hid (getL 6 0 s.data.toList = (getL (6 - i) i (s.data.toList.drop i)).map fun p => (n + u * p.1, p.2)) ∧ w = wr)
  case atStart => exact ⟨0, 0, 1, rfl, by omega, rfl, rfl, rfl, by omega, by omega, Lib.hid rfl, Lib.hid (by rw [List.drop_zero]; show getL 6 0 s.data.toList = (getL 6 0 s.data.toList).map _; cases getL 6 0 s.data.toList <;> simp), rfl⟩
  case round =>
    obtain ⟨i, n, u, HG, hi, rfl, rfl, rfl, hu, hn, HU, HI, rfl⟩ := hrel
    have HG' := Lib.hid HG
    clear HG
    by_cases h6 : i = 6
    · subst h6
      have HR := Lib.hid (GotN.no (c := 13) (getL_six HI.out) (by decide))
      go_wp2
      refine bodyPost_ret (results_tri rfl _ _ _) rfl ?_
      exact ⟨HR.out, rfl⟩
    have i6 : i < 6 := by omega
    have i6' : (i : Int) < 6 := by omega
    clear h6
    by_cases hlt : i < s.size
    rotate_left
    · have HR := Lib.hid (GotN.no (c := 12) (getL_short (by rw [HZ.out]; omega) HI.out) (by decide))
      go_wp2
      refine bodyPost_ret (results_tri rfl _ _ _) rfl ?_
      exact ⟨HR.out, rfl⟩
    obtain ⟨d, HD⟩ : ∃ d, Hid (s.data.toList[i]? = some d ∧ s[i]'hlt = d) := ⟨s[i]'hlt, Lib.hid ⟨by
      rw [List.getElem?_eq_getElem (by rw [HZ.out]; exact hlt)]
      rfl, rfl⟩⟩
    obtain ⟨dn, HDN⟩ : ∃ dn, Hid (d.toNat = dn) := ⟨_, Lib.hid rfl⟩
    have hdn : (s[i]'hlt).toNat = dn := by rw [HD.out.2, HDN.out]
    have hd256 : dn < 256 := by rw [← HDN.out]; exact UInt8.toNat_lt d
    have HUS := Lib.hid (show u * 128 ≤ 4398046511104 by
      rw [HU.out]
      have : 128 ^ i ≤ 128 ^ 5 := Nat.pow_le_pow_right (by omega) (by omega)
      omega)
    by_cases h128 : 128 ≤ dn
    · obtain ⟨P, hP⟩ : ∃ P : Nat, ((dn : Int) - 128) * (u : Int) = (P : Int) := ⟨(dn - 128) * u, by rw [Int.natCast_mul]; congr 1; omega⟩
      have HPN := Lib.hid (show P = (dn - 128) * u by
        have h2 : (((dn - 128) * u : Nat) : Int) = (P : Int) := by rw [← hP, Int.natCast_mul]; congr 1; omega
        omega)
      have hPb : P ≤ 127 * u := by rw [HPN.out]; exact Nat.mul_le_mul_right _ (by omega)
      have HN2 := Lib.hid (getL_step (f := 6 - (i + 1)) HD.out.1 (by rw [HDN.out]; exact h128) (by rw [show 6 - (i + 1) + 1 = 6 - i by omega]; exact HI.out))
      go_wp2
      go_roundg (6 - (i + 1))
      case measure => rw [HG'.out]; omega
      case rel =>
        refine ⟨i + 1, n + P, u * 128, rfl, by omega, by go_num, by go_num, by go_num, HUS.out, by omega, Lib.hid (by rw [HU.out, Nat.pow_succ]), Lib.hid ?_, rfl⟩
        rw [HN2.out, HDN.out, HPN.out]
    · obtain ⟨P, hP⟩ : ∃ P : Nat, (dn : Int) * (u : Int) = (P : Int) := ⟨dn * u, by rw [Int.natCast_mul]⟩
      have HPN := Lib.hid (show P = dn * u by
        have h2 : ((dn * u : Nat) : Int) = (P : Int) := by rw [← hP, Int.natCast_mul]
        omega)
      have hPb : P ≤ 127 * u := by rw [HPN.out]; exact Nat.mul_le_mul_right _ (by omega)
      have HIF := Lib.hid (show getL 6 0 s.data.toList = (getL (6 - (i + 1) + 1) i (s.data.toList.drop i)).map fun p => (n + u * p.1, p.2) by rw [show 6 - (i + 1) + 1 = 6 - i by omega]; exact HI.out)
      by_cases hz : dn = 0 ∧ 0 < i
      · obtain ⟨hz0, hi0⟩ := hz
        have HR := Lib.hid (GotN.no (c := 13) (getL_zero HD.out.1 (by rw [HDN.out]; exact ⟨hz0, hi0⟩) HIF.out) (by decide))
        subst hz0
        have hi0' : (0 : Int) < (i : Int) := by omega
        have t1 : decide ((0 : Int) < (i : Int)) = true := decide_eq_true hi0'
        go_wp2
        refine bodyPost_ret (results_tri rfl _ _ _) rfl ?_
        exact ⟨HR.out, rfl⟩
      have HLS := Lib.hid (getL_last HD.out.1 (by rw [HDN.out]; exact h128) (by rw [HDN.out]; exact hz) HIF.out)
      by_cases hbig : n + P ≤ 1099511627776
      · have HR := Lib.hid (GotN.yes (s := s) (n := n + P) (k := i + 1) (by rw [getN, HLS.out, HDN.out, HPN.out]; simp only; rw [if_pos (by rw [← HPN.out]; exact hbig)]) (by omega))
        have hb1 : decide ((1099511627776 : Int) < (n : Int) + (P : Int)) = false := decide_eq_false (by omega)
        by_cases hz0 : dn = 0
        · have hi0 : i = 0 := by
            have := hz
            omega
          have hp0 : P = 0 := by
            have := HPN.out
            rw [hz0, Nat.zero_mul] at this
            exact this
          rw [hp0, Nat.add_zero] at HR
          have hb2 : decide ((1099511627776 : Int) < (n : Int)) = false := decide_eq_false (by omega)
          clear hb1 hbig
          subst hz0
          have t3 : decide ((0 : Int) < (i : Int)) = false := decide_eq_false (by omega)
          have t4 : decide (0 < i) = false := decide_eq_false (by omega)
          clear hz hi0
          go_wp2
          refine bodyPost_ret (results_tri rfl _ _ _) rfl ?_
          exact ⟨HR.out, rfl⟩
        · have t2 : ((dn : Int) == 0) = false := by simp; omega
          clear hz
          go_wp2
          refine bodyPost_ret (results_tri rfl _ _ _) rfl ?_
          exact ⟨HR.out, rfl⟩
      · have HR := Lib.hid (GotN.no (s := s) (c := 13) (by rw [getN, HLS.out, HDN.out]; simp only; rw [if_neg (by rw [← HPN.out]; exact hbig)]) (by decide))
        have hb1 : decide ((1099511627776 : Int) < (n : Int) + (P : Int)) = true := decide_eq_true (by omega)
        by_cases hz0 : dn = 0
        · exfalso
          rw [hz0, Nat.zero_mul] at HPN
          have := HPN.out
          have h0 : i = 0 := by
            have := hz
            omega
          have hu1 := HU.out
          rw [h0] at hu1
          omega
        · have t2 : ((dn : Int) == 0) = false := by simp; omega
          clear hz
          go_wp2
          refine bodyPost_ret (results_tri rfl _ _ _) rfl ?_
          exact ⟨HR.out, rfl⟩

/-- What a getter of a text answers. -/
def GotT (s : ByteArray) (e : Ending) : Prop := match getT s.data.toList with
  | some p => ∃ k : Nat, k ≤ s.size ∧ p.2 = s.data.toList.drop k ∧ e = .returned (.tuple #[.string ⟨p.1.toArray⟩, .int .i64 (k : Int), .int .i64 0])
  | none => ∃ c : Int, (c != 0) = true ∧ e = .returned (.tuple #[.string ⟨#[]⟩, .int .i64 0, .int .i64 c])
theorem GotT.no {s : ByteArray} {c : Int} (h : getT s.data.toList = none) (hc : (c != 0) = true) : GotT s (.returned (.tuple #[.string ⟨#[]⟩, .int .i64 0, .int .i64 c])) := by
  unfold GotT
  rw [h]
  exact ⟨c, hc, rfl⟩
theorem extract_list (s : ByteArray) (a b : Nat) : s.extract a b = ⟨((s.data.toList.drop a).take (b - a)).toArray⟩ := by
  apply Go.WideShapes.bytes_inj
  simp [ByteArray.data_extract]
theorem GotT.yes {s : ByteArray} {n k : Nat} (h : getN s.data.toList = some (n, s.data.toList.drop k)) (hn : n ≤ 65536) (hk : k + n ≤ s.size) : GotT s (.returned (.tuple #[.string (s.extract k (k + n)), .int .i64 ((k + n : Nat) : Int), .int .i64 0])) := by
  have hz : s.data.toList.length = s.size := by simp
  have ht : getT s.data.toList = some ((s.data.toList.drop k).take n, (s.data.toList.drop k).drop n) := by
    rw [getT, h]
    simp only
    rw [if_pos ⟨hn, by rw [List.length_drop, hz]; omega⟩]
  unfold GotT
  rw [ht]
  exact ⟨k + n, hk, by rw [List.drop_drop], by rw [extract_list, Nat.add_sub_cancel_left]⟩

set_option maxRecDepth 100000 in
set_option maxHeartbeats 4000000 in
theorem GetText_any (s : ByteArray) (w : World) (hs : s.size ≤ 4611686018427387904) : Calls Tryz.prog 191 #[.string s] w fun e w' => GotT s e ∧ w = w' := by
  have hgi := GetInt_any s w
  have HZ := Lib.hid (show s.data.toList.length = s.size by simp)
  cases hg : getN s.data.toList with
  | none =>
    have HT := Lib.hid (show getT s.data.toList = none by rw [getT, hg])
    have HGI := Lib.hid (show Calls Tryz.prog 192 #[.string s] w fun e w' => (∃ c : Int, (c != 0) = true ∧ e = .returned (.tuple #[.int .i64 0, .int .i64 0, .int .i64 c])) ∧ w = w' from hgi.mono fun e w' ⟨h1, h2⟩ => ⟨by unfold GotN at h1; rw [hg] at h1; exact h1, h2⟩)
    clear hgi hg
    go_enter Tryz.func191, Tryz.ntmps191
    go_wp2_with fail
    refine HGI.out.mono ?_
    rintro e w' ⟨⟨c, hc, rfl⟩, rfl⟩
    have HR := Lib.hid (GotT.no HT.out hc)
    go_wp2
    refine bodyPost_ret (results_tri rfl _ _ _) rfl ?_
    exact ⟨HR.out, rfl⟩
  | some p =>
    obtain ⟨n, r⟩ := p
    obtain ⟨k, hk6, hk1, hk2, hr⟩ := getN_suffix hg
    have HGI := Lib.hid (show Calls Tryz.prog 192 #[.string s] w fun e w' => (∃ k : Nat, k ≤ s.size ∧ r = s.data.toList.drop k ∧ e = .returned (.tuple #[.int .i64 (n : Int), .int .i64 (k : Int), .int .i64 0])) ∧ w = w' from hgi.mono fun e w' ⟨h1, h2⟩ => ⟨by unfold GotN at h1; rw [hg] at h1; exact h1, h2⟩)
    have hnb := (getN_of hg).2
    have HG := Lib.hid hg
    clear hgi hg hk6 hk1 hk2 hr
    go_enter Tryz.func191, Tryz.ntmps191
    go_wp2_with fail
    refine HGI.out.mono ?_
    rintro e w' ⟨⟨k, hk, hr, rfl⟩, rfl⟩
    have HK := Lib.hid hr
    clear hr
    by_cases hn : n ≤ 65536
    rotate_left
    · have HT := Lib.hid (show getT s.data.toList = none by rw [getT, HG.out]; simp only; rw [if_neg (fun h => hn h.1)])
      have HR := Lib.hid (GotT.no (c := 13) HT.out (by decide))
      have t1 : decide ((65536 : Int) < (n : Int)) = true := decide_eq_true (by omega)
      clear hn
      go_wp2
      refine bodyPost_ret (results_tri rfl _ _ _) rfl ?_
      exact ⟨HR.out, rfl⟩
    have t1 : decide ((65536 : Int) < (n : Int)) = false := decide_eq_false (by omega)
    have hw1 : IntKind.i64.wrap ((s.size : Int) - (k : Int)) = (s.size : Int) - (k : Int) := IntWalk.i64_in _ (by omega)
    by_cases hkn : k + n ≤ s.size
    · have HR := Lib.hid (GotT.yes (by rw [HG.out, HK.out]) hn hkn)
      have t2 : decide ((s.size : Int) - (k : Int) < (n : Int)) = false := decide_eq_false (by omega)
      have j0 : (0 : Int) ≤ (k : Int) := by omega
      have j1 : (0 : Int) ≤ (k : Int) + (n : Int) := by omega
      have j2 : (k : Int) ≤ (k : Int) + (n : Int) := by omega
      have j3 : (k : Int) + (n : Int) ≤ (s.size : Int) := by omega
      have j4 : ((k : Int) + (n : Int)).toNat = k + n := by omega
      go_wp2
      refine bodyPost_ret (results_tri rfl _ _ _) rfl ?_
      exact ⟨HR.out, rfl⟩
    · have HT := Lib.hid (show getT s.data.toList = none by
        rw [getT, HG.out, HK.out]
        simp only
        rw [if_neg (fun h => hkn (by have := h.2; rw [List.length_drop, HZ.out] at this; omega))])
      have HR := Lib.hid (GotT.no (c := 12) HT.out (by decide))
      have t2 : decide ((s.size : Int) - (k : Int) < (n : Int)) = true := decide_eq_true (by omega)
      clear hkn
      go_wp2
      refine bodyPost_ret (results_tri rfl _ _ _) rfl ?_
      exact ⟨HR.out, rfl⟩
end Go.Proofs.YtlpipoihinceiaaGreatDoor
/- compile.reader: number, signed, text -/
namespace Go.Proofs.YtlpipoihinceiaaGreatDoor
open Go.RowKit Go.Proofs Go.Shelf

/-- A reader with this rest, in block rb. -/
def RdAt (rb : Nat) (l : List UInt8) (w : World) : Prop := w.heap[rb]? = some (.cells #[.string ⟨l.toArray⟩] 138 (0, 0)) ∧ l.length ≤ 4611686018427387904
theorem RdAt.cell {rb : Nat} {l : List UInt8} {w : World} (h : RdAt rb l w) : w.cell? ⟨rb, 0, none⟩ = some (.string ⟨l.toArray⟩) := cell_of_row w rb 0 _ _ (0, 0) h.1
theorem RdAt.frozen {rb : Nat} {l : List UInt8} {w : World} (h : RdAt rb l w) : w.frozen? ⟨rb, 0, none⟩ = false := Lib.frozen_of_heap h.1 0
theorem RdAt.set {rb : Nat} {l : List UInt8} {w : World} (h : RdAt rb l w) (k : Nat) : RdAt rb (l.drop k) (w.setCell ⟨rb, 0, none⟩ (.string ⟨(l.drop k).toArray⟩)) :=
  ⟨by simp [World.setCell, Array.getElem?_modify, h.1], by have := h.2; rw [List.length_drop]; omega⟩
/-- The panic of a reader that gives up. -/
def gaveUp : List PanicEntry := [{ v := .iface 238 (.agg #[]), recovered := false }]

set_option maxRecDepth 100000 in
set_option maxHeartbeats 1000000 in
theorem rNumber_ok (rb : Nat) (l : List UInt8) (n : Nat) (r : List UInt8) (w : World) (h : RdAt rb l w) (hg : getN l = some (n, r)) :
    Calls Tryz.prog 145 #[.pointer (some ⟨rb, 0, none⟩)] w fun e w' => e = .returned (.int .i64 (n : Int)) ∧ w.setCell ⟨rb, 0, none⟩ (.string ⟨r.toArray⟩) = w' := by
  have hc := h.cell
  have hf := h.frozen
  obtain ⟨s, HS⟩ : ∃ s : ByteArray, Hid (⟨l.toArray⟩ = s) := ⟨_, Lib.hid rfl⟩
  have hl : s.data.toList = l := by rw [← HS.out]
  have hgi := GetInt_any s w
  have HGI := Lib.hid (show Calls Tryz.prog 192 #[.string s] w fun e w' => (∃ k : Nat, k ≤ s.size ∧ r = l.drop k ∧ e = .returned (.tuple #[.int .i64 (n : Int), .int .i64 (k : Int), .int .i64 0])) ∧ w = w' from hgi.mono fun e w' ⟨h1, h2⟩ => ⟨by unfold GotN at h1; rw [hl, hg] at h1; exact h1, h2⟩)
  have HL := Lib.hid hl
  rw [HS.out] at hc
  clear hgi hg h hl
  go_enter Tryz.func145, Tryz.ntmps145
  go_wp2_with fail
  refine HGI.out.mono ?_
  rintro e w' ⟨⟨k, hk, hr, rfl⟩, rfl⟩
  have HE := Lib.hid (show (⟨r.toArray⟩ : ByteArray) = s.extract k s.size by
    rw [hr, extract_list, HL.out, List.take_of_length_le (by rw [List.length_drop, ← HL.out]; simp)])
  have j0 : (0 : Int) ≤ (k : Int) := by omega
  have j3 : (k : Int) ≤ (s.size : Int) := by omega
  clear hr
  go_wp2
  go_ret
  exact ⟨rfl, by rw [HE.out]⟩

set_option maxRecDepth 100000 in
set_option maxHeartbeats 1000000 in
theorem rNumber_no (rb : Nat) (l : List UInt8) (w : World) (h : RdAt rb l w) (hg : getN l = none) :
    Calls Tryz.prog 145 #[.pointer (some ⟨rb, 0, none⟩)] w fun e w' => e = .panicked gaveUp ∧ w = w' := by
  have hc := h.cell
  have hf := h.frozen
  obtain ⟨s, HS⟩ : ∃ s : ByteArray, Hid (⟨l.toArray⟩ = s) := ⟨_, Lib.hid rfl⟩
  have hl : s.data.toList = l := by rw [← HS.out]
  have hgi := GetInt_any s w
  have HGI := Lib.hid (show Calls Tryz.prog 192 #[.string s] w fun e w' => (∃ c : Int, (c != 0) = true ∧ e = .returned (.tuple #[.int .i64 0, .int .i64 0, .int .i64 c])) ∧ w = w' from hgi.mono fun e w' ⟨h1, h2⟩ => ⟨by unfold GotN at h1; rw [hl, hg] at h1; exact h1, h2⟩)
  rw [HS.out] at hc
  clear hgi hg h hl
  go_enter Tryz.func145, Tryz.ntmps145
  go_wp2_with fail
  refine HGI.out.mono ?_
  rintro e w' ⟨⟨c, hc, rfl⟩, rfl⟩
  go_wp2
  exact ⟨rfl, rfl, rfl⟩

/-- A number with a sign. -/
def sgnV (n : Nat) : Int := if n % 2 = 1 then -((n / 2 : Nat) : Int) else ((n / 2 : Nat) : Int)
def getS (l : List UInt8) : Option (Int × List UInt8) := match getN l with
  | some p => if p.1 = 1 then none else some (sgnV p.1, p.2)
  | none => none

set_option maxRecDepth 100000 in
set_option maxHeartbeats 1000000 in
theorem rSigned_ok (rb : Nat) (l : List UInt8) (v : Int) (r : List UInt8) (w : World) (h : RdAt rb l w) (hg : getS l = some (v, r)) :
    Calls Tryz.prog 193 #[.pointer (some ⟨rb, 0, none⟩)] w fun e w' => e = .returned (.int .i64 v) ∧ w.setCell ⟨rb, 0, none⟩ (.string ⟨r.toArray⟩) = w' := by
  unfold getS at hg
  split at hg
  rotate_left
  · simp at hg
  rename_i p hp
  obtain ⟨n, q⟩ := p
  simp only at hg
  split at hg
  · simp at hg
  rename_i hn1
  simp only [Option.some.injEq, Prod.mk.injEq] at hg
  obtain ⟨hv, rfl⟩ := hg
  have hnb := (getN_of hp).2
  have HN := Lib.hid (rNumber_ok rb l n q w h hp)
  have HV := Lib.hid hv
  clear hp h hv
  have t1 : ((n : Int) == 1) = false := by simp; omega
  have t1' : (n == 1) = false := by simp; omega
  have b0 : (0 : Int) ≤ (n : Int) := by omega
  have b1 : (n : Int) ≤ 1099511627776 := by omega
  cases h2 : ((n : Int) % 2 == 1) with
  | true =>
    have HE := Lib.hid (show v = -((n : Int) / 2) by
      have : (n : Int) % 2 = 1 := by simpa using h2
      rw [← HV.out, sgnV, if_pos (by omega)]
      omega)
    clear hn1
    go_enter Tryz.func193, Tryz.ntmps193
    go_wp2_with fail
    refine HN.out.mono ?_
    rintro e w' ⟨rfl, rfl⟩
    go_wp2
    go_ret
    exact ⟨by rw [HE.out]; rfl, rfl⟩
  | false =>
    have HE := Lib.hid (show v = (n : Int) / 2 by
      have : ¬ (n : Int) % 2 = 1 := by simpa using h2
      rw [← HV.out, sgnV, if_neg (by omega)]
      omega)
    clear hn1
    go_enter Tryz.func193, Tryz.ntmps193
    go_wp2_with fail
    refine HN.out.mono ?_
    rintro e w' ⟨rfl, rfl⟩
    go_wp2
    go_ret
    exact ⟨by rw [HE.out]; rfl, rfl⟩

/-- A reader that has given up: nothing but its own rest may have turned. -/
def GaveUp (rb : Nat) (w : World) (e : Ending) (w' : World) : Prop := e = .panicked gaveUp ∧ Keeps (fun k => k ≠ rb) w w'
set_option maxRecDepth 100000 in
set_option maxHeartbeats 1000000 in
theorem rSigned_no (rb : Nat) (l : List UInt8) (w : World) (h : RdAt rb l w) (hg : getS l = none) :
    Calls Tryz.prog 193 #[.pointer (some ⟨rb, 0, none⟩)] w (GaveUp rb w) := by
  cases hp : getN l with
  | none =>
    have HN := Lib.hid (rNumber_no rb l w h hp)
    clear hp h hg
    go_enter Tryz.func193, Tryz.ntmps193
    go_wp2_with fail
    refine HN.out.mono ?_
    rintro e w' ⟨rfl, rfl⟩
    go_wp2
    exact ⟨rfl, rfl, Keeps.refl _ _⟩
  | some p =>
    obtain ⟨n, q⟩ := p
    have HN := Lib.hid (rNumber_ok rb l n q w h hp)
    have hn1 : n = 1 := by
      unfold getS at hg
      rw [hp] at hg
      simp only at hg
      split at hg
      · assumption
      · simp at hg
    subst hn1
    clear hp h hg
    go_enter Tryz.func193, Tryz.ntmps193
    go_wp2_with fail
    refine HN.out.mono ?_
    rintro e w' ⟨rfl, rfl⟩
    go_wp2
    exact ⟨rfl, rfl, (Keeps.refl _ _).setCell (by simp) _⟩

set_option maxRecDepth 100000 in
set_option maxHeartbeats 1000000 in
theorem rText_ok (rb : Nat) (l : List UInt8) (t : List UInt8) (r : List UInt8) (w : World) (h : RdAt rb l w) (hg : getT l = some (t, r)) :
    Calls Tryz.prog 144 #[.pointer (some ⟨rb, 0, none⟩)] w fun e w' => e = .returned (.string ⟨t.toArray⟩) ∧ w.setCell ⟨rb, 0, none⟩ (.string ⟨r.toArray⟩) = w' := by
  have hc := h.cell
  have hf := h.frozen
  obtain ⟨s, HS⟩ : ∃ s : ByteArray, Hid (⟨l.toArray⟩ = s) := ⟨_, Lib.hid rfl⟩
  have hl : s.data.toList = l := by rw [← HS.out]
  have hgi := GetText_any s w (by have h2 := h.2; rw [← hl] at h2; simpa using h2)
  have HGI := Lib.hid (show Calls Tryz.prog 191 #[.string s] w fun e w' => (∃ k : Nat, k ≤ s.size ∧ r = l.drop k ∧ e = .returned (.tuple #[.string ⟨t.toArray⟩, .int .i64 (k : Int), .int .i64 0])) ∧ w = w' from hgi.mono fun e w' ⟨h1, h2⟩ => ⟨by unfold GotT at h1; rw [hl, hg] at h1; exact h1, h2⟩)
  have HL := Lib.hid hl
  rw [HS.out] at hc
  obtain ⟨tb, HTB⟩ : ∃ tb : ByteArray, Hid (⟨t.toArray⟩ = tb) := ⟨_, Lib.hid rfl⟩
  rw [HTB.out] at HGI ⊢
  clear hgi hg h hl
  go_enter Tryz.func144, Tryz.ntmps144
  go_wp2_with fail
  refine HGI.out.mono ?_
  rintro e w' ⟨⟨k, hk, hr, rfl⟩, rfl⟩
  have HE := Lib.hid (show (⟨r.toArray⟩ : ByteArray) = s.extract k s.size by
    rw [hr, extract_list, HL.out, List.take_of_length_le (by rw [List.length_drop, ← HL.out]; simp)])
  have j0 : (0 : Int) ≤ (k : Int) := by omega
  have j3 : (k : Int) ≤ (s.size : Int) := by omega
  clear hr
  go_wp2
  go_ret
  exact ⟨rfl, by rw [HE.out]⟩

set_option maxRecDepth 100000 in
set_option maxHeartbeats 1000000 in
theorem rText_no (rb : Nat) (l : List UInt8) (w : World) (h : RdAt rb l w) (hg : getT l = none) :
    Calls Tryz.prog 144 #[.pointer (some ⟨rb, 0, none⟩)] w fun e w' => e = .panicked gaveUp ∧ w = w' := by
  have hc := h.cell
  have hf := h.frozen
  obtain ⟨s, HS⟩ : ∃ s : ByteArray, Hid (⟨l.toArray⟩ = s) := ⟨_, Lib.hid rfl⟩
  have hl : s.data.toList = l := by rw [← HS.out]
  have hgi := GetText_any s w (by have h2 := h.2; rw [← hl] at h2; simpa using h2)
  have HGI := Lib.hid (show Calls Tryz.prog 191 #[.string s] w fun e w' => (∃ c : Int, (c != 0) = true ∧ e = .returned (.tuple #[.string ⟨#[]⟩, .int .i64 0, .int .i64 c])) ∧ w = w' from hgi.mono fun e w' ⟨h1, h2⟩ => ⟨by unfold GotT at h1; rw [hl, hg] at h1; exact h1, h2⟩)
  rw [HS.out] at hc
  clear hgi hg h hl
  go_enter Tryz.func144, Tryz.ntmps144
  go_wp2_with fail
  refine HGI.out.mono ?_
  rintro e w' ⟨⟨c, hc, rfl⟩, rfl⟩
  go_wp2
  exact ⟨rfl, rfl, rfl⟩
end Go.Proofs.YtlpipoihinceiaaGreatDoor
/- Code, read from bytes, in plain words -/
namespace Go.Proofs.YtlpipoihinceiaaGreatDoor
open Go

/-- Reading many. -/
def rep {α : Type} (g : List UInt8 → Option (α × List UInt8)) : Nat → List UInt8 → Option (List α × List UInt8)
  | 0, l => some ([], l)
  | k + 1, l => match g l with
    | some p => match rep g k p.2 with
      | some q => some (p.1 :: q.1, q.2)
      | none => none
    | none => none
theorem rep_no {α : Type} {g : List UInt8 → Option (α × List UInt8)} {k : Nat} {l : List UInt8} (h : g l = none) : rep g (k + 1) l = none := by rw [rep, h]
theorem rep_step {α : Type} {g : List UInt8 → Option (α × List UInt8)} {k : Nat} {l : List UInt8} {x : α} {r : List UInt8} (h : g l = some (x, r)) : rep g (k + 1) l = (rep g k r).map fun q => (x :: q.1, q.2) := by
  rw [rep, h]
  simp only
  cases rep g k r <;> rfl
/-- In the midst of reading many: acc have been read, rest is left. -/
def Mid {α : Type} (g : List UInt8 → Option (α × List UInt8)) (N : Nat) (l : List UInt8) (j : Nat) (acc : List α) (rest : List UInt8) : Prop :=
  rep g N l = (rep g (N - j) rest).map fun q => (acc ++ q.1, q.2)
theorem Mid.start {α : Type} (g : List UInt8 → Option (α × List UInt8)) (N : Nat) (l : List UInt8) : Mid g N l 0 [] l := by
  unfold Mid
  rw [Nat.sub_zero]
  cases rep g N l <;> rfl
theorem Mid.no {α : Type} {g : List UInt8 → Option (α × List UInt8)} {N : Nat} {l : List UInt8} {j : Nat} {acc : List α} {rest : List UInt8} (h : Mid g N l j acc rest) (hj : j < N) (hg : g rest = none) : rep g N l = none := by
  rw [h, show N - j = (N - (j + 1)) + 1 by omega, rep_no hg]
  rfl
theorem Mid.step {α : Type} {g : List UInt8 → Option (α × List UInt8)} {N : Nat} {l : List UInt8} {j : Nat} {acc : List α} {rest : List UInt8} (h : Mid g N l j acc rest) (hj : j < N) {x : α} {r : List UInt8} (hg : g rest = some (x, r)) : Mid g N l (j + 1) (acc ++ [x]) r := by
  unfold Mid at h ⊢
  rw [h, show N - j = (N - (j + 1)) + 1 by omega, rep_step hg]
  cases rep g (N - (j + 1)) r with
  | none => rfl
  | some q => simp
theorem Mid.done {α : Type} {g : List UInt8 → Option (α × List UInt8)} {N : Nat} {l : List UInt8} {acc : List α} {rest : List UInt8} (h : Mid g N l N acc rest) : rep g N l = some (acc, rest) := by
  rw [h, Nat.sub_self]
  simp [rep]

def getI (l : List UInt8) : Option (Ins × List UInt8) := match getN l with
  | some p => match getS p.2 with
    | some q => match getN q.2 with
      | some r => match getT r.2 with
        | some t => some (⟨(p.1 : Int), q.1, (r.1 : Int), ⟨t.1.toArray⟩⟩, t.2)
        | none => none
      | none => none
    | none => none
  | none => none
def getB (l : List UInt8) : Option (Blk × List UInt8) := match getN l with
  | some c => match getN c.2 with
    | some p => if 1 < p.1 then none else match getN p.2 with
      | some k => match rep getI k.1 k.2 with
        | some i => some (⟨(c.1 : Int), p.1 == 1, i.1⟩, i.2)
        | none => none
      | none => none
    | none => none
  | none => none
def getD (l : List UInt8) : Option ((Int × Int × Int) × List UInt8) := match getN l with
  | some p => match getN p.2 with
    | some q => match getN q.2 with
      | some r => some (((p.1 : Int), (q.1 : Int), (r.1 : Int)), r.2)
      | none => none
    | none => none
  | none => none
/-- Code, and what is behind it. -/
def getC (l : List UInt8) : Option ((List UInt8 × List Blk × List (Int × Int × Int)) × List UInt8) := match getT l with
  | some t => match getN t.2 with
    | some n => match rep getB n.1 n.2 with
      | some b => match getN b.2 with
        | some m => match rep getD m.1 m.2 with
          | some d => some ((t.1, b.1, d.1), d.2)
          | none => none
        | none => none
      | none => none
    | none => none
  | none => none

theorem getN_len {l : List UInt8} {n : Nat} {r : List UInt8} (h : getN l = some (n, r)) : r.length + 1 ≤ l.length := by
  obtain ⟨k, _, h1, h2, rfl⟩ := getN_suffix h
  rw [List.length_drop]
  omega
theorem getT_len {l t r : List UInt8} (h : getT l = some (t, r)) : t.length + r.length + 1 ≤ l.length := by
  have := (getT_of h).1
  have hl := congrArg List.length this
  have hne : 1 ≤ (encL t.length).length := by
    by_cases hn : t.length < 128
    · rw [encL_small hn]; simp
    · rw [encL_big hn]; simp
  simp only [List.length_append] at hl
  omega
theorem getS_N {l : List UInt8} {v : Int} {r : List UInt8} (h : getS l = some (v, r)) : ∃ n, getN l = some (n, r) ∧ n ≠ 1 ∧ v = sgnV n := by
  unfold getS at h
  split at h
  · rename_i p hp
    split at h
    · simp at h
    · rename_i h1
      simp only [Option.some.injEq, Prod.mk.injEq] at h
      exact ⟨p.1, by rw [hp, ← h.2], h1, h.1.symm⟩
  · simp at h
theorem getS_len {l : List UInt8} {v : Int} {r : List UInt8} (h : getS l = some (v, r)) : r.length + 1 ≤ l.length := by
  obtain ⟨n, hn, _⟩ := getS_N h
  exact getN_len hn
end Go.Proofs.YtlpipoihinceiaaGreatDoor
