/- compile.hasSum -/
import Derived.Test.YtlcfoiapkblheaaGreatDoorGka
import Derived.Test.YtlcfoiapkblheaaGreatDoorGkf
namespace Go.Proofs.YtlcfoiapkblheaaGreatDoor
open Go.RowKit Go.Proofs Go.Shelf

def Fo.sum : Fo → Bool
  | .nil => false
  | .cons k _ _ _ _ _ _ s r => (k == 15 || s.sum) || r.sum

def SumOK (s : Fo) : Prop := ∀ (k : Int) (n m : ByteArray) (i d : Int) (A : Option Addr) (c : Nat) (w : World), s.Sl w w.heap.size A c →
    Calls Tryz.prog 126 #[.agg #[.int .i64 k, .string n, .string m, .int .i64 i, .int .i64 d, .slice A s.len c]] w fun e w' => e = .returned (.bool (k == 15 || s.sum)) ∧ Below w.heap.size w w'

def IdxP (b : Bool) (w : World) (e : Ending) (w' : World) : Prop := ∃ j : Int, e = .returned (.int .i64 j) ∧ decide (0 ≤ j) = b ∧ Below w.heap.size w w'

set_option maxHeartbeats 1000000 in
theorem indexFnE_any (s : Fo) (ih : s.All SumOK) (A : Option Addr) (c : Nat) (w : World) (hs : s.Sl w w.heap.size A c) :
    Calls Tryz.prog 225 #[.slice A s.len c, .func (.func 126) #[] #[]] w (IdxP s.sum w) := by
  have HS := Lib.hid hs
  clear hs
  have IH := Lib.hid ih
  clear ih
  have hcap : s.len ≤ 9223372036854775807 := by have := HS.out.1; have := HS.out.2.1; unfold maxLen at this; omega
  obtain ⟨E, HE⟩ : ∃ E, Hid (s.sum = E) := ⟨_, rfl⟩
  rw [HE.out]
  go_enter Tryz.func225, Tryz.ntmps225
  go_wp2
  go_loopg [5, 8] s.len (fun g _ ct wr => ∃ (j : Nat) (r : Fo), g = r.len ∧ j + r.len = s.len ∧ ct = .int .i64 j ∧ E = r.sum ∧ r.All SumOK ∧
    (r ≠ .nil → ∃ b o, A = some ⟨b, o, none⟩ ∧ b < w.heap.size ∧ r.At wr w.heap.size b (o + j * 6)) ∧ Below w.heap.size w wr)
  case atStart =>
    refine ⟨0, s, rfl, by omega, rfl, HE.out.symm, IH.out, ?_, Below.refl _ _⟩
    intro hne
    obtain ⟨b, o, e, hb, h⟩ := HS.out.2.2 hne
    exact ⟨b, o, e, hb, by rw [Nat.zero_mul, Nat.add_zero]; exact h⟩
  case round =>
    obtain ⟨j, r, HG, hjr, rfl, hE, HA, HAt, HB⟩ := hrel
    cases r with
    | nil =>
      have hjr2 : s.len ≤ j := by simp only [Fo.len] at hjr; omega
      have hjr1 : j ≤ s.len := by simp only [Fo.len] at hjr; omega
      have HR := Lib.hid hE
      clear hjr HG hE
      go_wp2
      go_ret
      exact ⟨-1, rfl, by rw [HR.out]; rfl, HB⟩
    | cons rk rn rm ri rd A' c' rs rr =>
      have hjr2 : j < s.len := by simp only [Fo.len] at hjr; omega
      obtain ⟨b, o, rfl, hb, h0, h1, h2, h3, h4, ⟨h5, hc', hm', hs'⟩, hr'⟩ := HAt (by simp)
      have HS' := Lib.hid (And.intro hs' (And.intro hr' (And.intro HB (And.intro HG hjr))))
      have hbz := HB.size
      have hok := (HA.1 rk rn rm ri rd A' c' wr ⟨hc', hm', fun hne => by
        obtain ⟨b', o', e, hb', h'⟩ := HS'.out.1 hne
        exact ⟨b', o', e, by omega, h'.keep (by omega) (fun _ _ => rfl) hb'⟩⟩)
      obtain ⟨q, Hq⟩ : ∃ q, Hid ((rk == 15 || rs.sum) = q) := ⟨_, rfl⟩
      rw [Hq.out] at hok
      have HE2 : Hid (E = (q || rr.sum)) := by show E = _; rw [hE, ← Hq.out]; rfl
      have HO := Lib.hid (And.intro hok HA.2)
      clear hs' hr' HB HG hjr hok HA HAt hE
      go_wp2_with fail
      refine HO.out.1.mono ?_
      rintro e w1 ⟨rfl, hb1⟩
      have HB1 := Lib.hid (And.intro (HS'.out.2.2.1.trans (hb1.mono (by omega))) hb1)
      clear hb1
      cases q
      · go_wp2
        go_roundg rr.len
        case measure => rw [HS'.out.2.2.2.1]; simp [Fo.len]
        case rel =>
          refine ⟨j + 1, rr, rfl, by have := HS'.out.2.2.2.2; simp only [Fo.len] at this; omega, by go_num, by rw [HE2.out]; rfl, HO.out.2, ?_, HB1.out.1⟩
          intro hne
          refine ⟨b, o, rfl, hb, ?_⟩
          rw [show o + (j + 1) * 6 = o + j * 6 + 6 by omega]
          exact HS'.out.2.1.keep (Nat.le_refl _) (fun p hp => HB1.out.2.cell (by omega)) hb
      · have HR := Lib.hid (show E = true by rw [HE2.out]; rfl)
        go_wp2
        go_ret
        exact ⟨j, rfl, by rw [HR.out]; simp, HB1.out.1⟩

set_option maxHeartbeats 1000000 in
theorem containsFnE_any (s : Fo) (ih : s.All SumOK) (A : Option Addr) (c : Nat) (w : World) (hs : s.Sl w w.heap.size A c) :
    Calls Tryz.prog 182 #[.slice A s.len c, .func (.func 126) #[] #[]] w fun e w' => e = .returned (.bool s.sum) ∧ Below w.heap.size w w' := by
  have HC := Lib.hid (indexFnE_any s ih A c w hs)
  clear ih hs
  obtain ⟨E, HE⟩ : ∃ E, Hid (s.sum = E) := ⟨_, rfl⟩
  rw [HE.out] at HC ⊢
  go_enter Tryz.func182, Tryz.ntmps182
  go_wp2_with fail
  refine HC.out.mono ?_
  rintro e w1 ⟨j, rfl, hj, hb⟩
  go_wp2
  go_ret
  exact ⟨by simp, hb⟩

set_option maxHeartbeats 1000000 in
theorem hasSum_step (s : Fo) (ih : s.All SumOK) : SumOK s := by
  intro k n m i d A c w hs
  obtain ⟨E, HE⟩ : ∃ E, Hid (s.sum = E) := ⟨_, rfl⟩
  rw [HE.out]
  obtain ⟨W0, hW0⟩ : ∃ W0, w.alloc (.cells #[.int .i64 k, .string n, .string m, .int .i64 i, .int .i64 d, .slice A s.len c] 41) = W0 := ⟨_, rfl⟩
  have hzw : w.heap.size < W0.heap.size := by subst hW0; simp
  have hB0 : Below w.heap.size w W0 := by subst hW0; exact (Below.refl _ _).alloc (Nat.le_refl _) _
  have h0 : W0.cell? ⟨w.heap.size, 0, none⟩ = some (.int .i64 k) := by subst hW0; go_simp
  have h5 : W0.cell? ⟨w.heap.size, 5, none⟩ = some (.slice A s.len c) := by subst hW0; go_simp
  have hs0 := hs.keep (w' := W0) (B' := W0.heap.size) (Nat.le_of_lt hzw) fun p hp => hB0.cell hp
  have hc := containsFnE_any s ih A c W0 hs0
  rw [HE.out] at hc
  have HC := Lib.hid (And.intro hc hB0)
  clear hc hB0 hs0 hs ih
  by_cases hk : k = 15
  · have hk' : (k == 15) = true := by simpa using hk
    rw [hk', Bool.true_or]
    clear hk
    go_enter Tryz.func126, Tryz.ntmps126
    go_wp2
    go_ret
    exact ⟨rfl, HC.out.2⟩
  · have hk' : (k == 15) = false := by simpa using hk
    rw [hk', Bool.false_or]
    clear hk
    go_enter Tryz.func126, Tryz.ntmps126
    go_wp2_with fail
    refine HC.out.1.mono ?_
    rintro e w1 ⟨rfl, hb1⟩
    have HB1 := Lib.hid (HC.out.2.trans (hb1.mono (by omega)))
    clear hb1
    go_wp2
    go_ret
    exact ⟨rfl, HB1.out⟩

theorem hasSum_any (s : Fo) : SumOK s := Fo.by_parts hasSum_step s
end Go.Proofs.YtlcfoiapkblheaaGreatDoor
/- law28.nodes -/
namespace Go.Proofs.YtlcfoiapkblheaaGreatDoor
open Go.RowKit Go.Proofs

/-- A slice of numbers. -/
def SlI (w : World) (B : Nat) (A : Option Addr) (c : Nat) (l : List Int) : Prop :=
  l.length ≤ c ∧ c ≤ maxLen ∧ (l ≠ [] → ∃ b o, A = some ⟨b, o, none⟩ ∧ b < B ∧ ∀ j x, l[j]? = some x → w.cell? ⟨b, o + j, none⟩ = some (.int .i64 x))
theorem SlI.keep {w w' : World} {B B' : Nat} {A : Option Addr} {c : Nat} {l : List Int} (h : SlI w B A c l) (hB : B ≤ B') (hk : ∀ p : Addr, p.block < B → w'.cell? p = w.cell? p) : SlI w' B' A c l :=
  ⟨h.1, h.2.1, fun hne => by
    obtain ⟨b, o, e, hb, hs⟩ := h.2.2 hne
    exact ⟨b, o, e, Nat.lt_of_lt_of_le hb hB, fun j s hj => (hk _ hb).trans (hs j s hj)⟩⟩
def kindN (k : Int) : List Int → Nat
  | [] => 0
  | x :: r => (if k = x then 1 else 0) + kindN k r
def Fo.kn (K : List Int) : Fo → Nat
  | .nil => 0
  | .cons k _ _ _ _ _ _ s r => kindN k K + s.kn K + r.kn K
theorem kindN_append (k : Int) (a b : List Int) : kindN k (a ++ b) = kindN k a + kindN k b := by
  induction a with
  | nil => simp [kindN]
  | cons x a ih => simp [kindN, ih, Nat.add_assoc]
def LnOK (K : List Int) (s : Fo) : Prop := ∀ (k : Int) (n m : ByteArray) (i d : Int) (A : Option Addr) (c : Nat) (KA : Option Addr) (Kc : Nat) (w : World), s.Sl w w.heap.size A c → SlI w w.heap.size KA Kc K →
    Calls Tryz.prog 21 #[.agg #[.int .i64 k, .string n, .string m, .int .i64 i, .int .i64 d, .slice A s.len c], .slice KA K.length Kc] w fun e w' => e = .returned (.int .i64 (wrap64 (kindN k K + s.kn K))) ∧ Below w.heap.size w w'

set_option maxRecDepth 100000 in
set_option maxHeartbeats 1000000 in
theorem ln_step (K : List Int) (s : Fo) (ih : s.All (LnOK K)) : LnOK K s := by
  intro k n m i d A c KA Kc w hs hK
  have HS := Lib.hid hs
  have HK := Lib.hid hK
  have IH := Lib.hid ih
  clear ih hs hK
  have hcap : s.len ≤ 9223372036854775807 := by have := HS.out.1; have := HS.out.2.1; unfold maxLen at this; omega
  have hkc : K.length ≤ 9223372036854775807 := by have := HK.out.1; have := HK.out.2.1; unfold maxLen at this; omega
  obtain ⟨KL, HKL⟩ : ∃ Q, Hid (K.length = Q) := ⟨_, Lib.hid rfl⟩
  rw [HKL.out] at hkc ⊢
  obtain ⟨W0, hW0⟩ : ∃ W0, w.alloc (.cells #[.int .i64 k, .string n, .string m, .int .i64 i, .int .i64 d, .slice A s.len c] 41) = W0 := ⟨_, rfl⟩
  have hB0 : Below w.heap.size w W0 := by rw [← hW0]; exact (Below.refl _ _).alloc (Nat.le_refl _) _
  have hz0 : w.heap.size + 1 = W0.heap.size := by rw [← hW0]; simp
  have hx0 : W0.heap[w.heap.size]? = some (.cells #[.int .i64 k, .string n, .string m, .int .i64 i, .int .i64 d, .slice A s.len c] 41 (0, 0)) := by rw [← hW0]; exact heap_alloc_new w _
  have c0 := cell_of_row W0 w.heap.size 0 _ _ (0, 0) hx0
  have c5 := cell_of_row W0 w.heap.size 5 _ _ (0, 0) hx0
  simp at c0 c5
  have HB0 := Lib.hid (And.intro hB0 (And.intro hz0 hx0))
  clear hB0 hz0 hx0
  go_enter Tryz.func21, Tryz.ntmps21
  go_wp2
  go_loopg [5, 7, 12] KL (fun g t _ ct wr => ∃ j : Nat, g = KL - j ∧ j ≤ KL ∧ ct = .int .i64 j ∧ t = .int .i64 (wrap64 (kindN k (K.take j))) ∧ wr = W0)
  case atStart => exact ⟨0, rfl, by omega, rfl, by rw [show ((kindN k (K.take 0) : Nat) : Int) = 0 by simp [kindN], wrap64_small (by omega) (by omega)], rfl⟩
  case round =>
    obtain ⟨j, HG, hj, rfl, rfl, hwr⟩ := hrel
    have hwr' := hwr.symm
    subst hwr'
    have HG' := Lib.hid HG
    clear HG
    by_cases hlt : j < KL
    · have hlt' : j < K.length := by rw [HKL.out]; exact hlt
      obtain ⟨b, o, rfl, hb, hcs⟩ := HK.out.2.2 (by intro e; subst e; simp at hlt')
      have hx : K[j]? = some K[j] := List.getElem?_eq_getElem hlt'
      have hcx := (HB0.out.1.cell (p := ⟨b, o + j, none⟩) hb).trans (hcs j _ hx)
      have htk : kindN k (K.take (j + 1)) = kindN k (K.take j) + (if k = K[j] then 1 else 0) := by
        rw [List.take_succ_eq_append_getElem hlt', kindN_append]
        simp [kindN]
      have HTK := Lib.hid htk
      clear htk hcs hx
      generalize K[j] = x at hcx HTK
      have i1 : (j : Int) < (KL : Int) := by omega
      have hc1 := HK.out.1
      have hc2 := HK.out.2.1
      unfold maxLen at hc2
      rw [HKL.out] at hc1
      obtain ⟨T, HT⟩ : ∃ Q, Hid (kindN k (K.take j) = Q) := ⟨_, Lib.hid rfl⟩
      rw [HT.out] at HTK
      rw [HT.out]
      by_cases hk : k = x
      · subst hk
        go_wp2_with fail
        all_goals (
          go_roundg (KL - (j + 1))
          case measure => rw [HG'.out]; omega
          case rel =>
            refine ⟨j + 1, rfl, by omega, by go_num, val_int ?_, rfl⟩
            rw [show (1 : Int) = wrap64 1 from (wrap64_small (by omega) (by omega)).symm, wrap64_add, HTK.out, if_pos trivial]
            rfl)
      · have hk' : decide (k = x) = false := by simpa using hk
        go_wp2_with fail
        all_goals (
          go_roundg (KL - (j + 1))
          case measure => rw [HG'.out]; omega
          case rel => exact ⟨j + 1, rfl, by omega, by go_num, val_int (by rw [HTK.out, if_neg hk]; rfl), rfl⟩)
    · obtain rfl : j = KL := by omega
      rw [List.take_of_length_le (by rw [HKL.out]; exact Nat.le_refl _)]
      obtain ⟨T, HT⟩ : ∃ Q, Hid (kindN k K = Q) := ⟨_, Lib.hid rfl⟩
      rw [HT.out]
      have k1 : decide ((j : Int) < (j : Int)) = false := by simp
      clear hj hlt
      go_wp2
      go_loopg [5, 9, 26] s.len (fun g t _ ct wr => ∃ (q : Nat) (r : Fo), g = r.len ∧ q + r.len = s.len ∧ ct = .int .i64 q ∧ t = .int .i64 (wrap64 (T + s.kn K - r.kn K)) ∧ r.All (LnOK K) ∧
        (r ≠ .nil → ∃ b o, A = some ⟨b, o, none⟩ ∧ b < w.heap.size ∧ r.At wr w.heap.size b (o + q * 6)) ∧ Below W0.heap.size W0 wr)
      case atStart =>
        refine ⟨0, s, rfl, by omega, rfl, ?_, IH.out, ?_, Below.refl _ _⟩
        · rw [show ((T : Int) + s.kn K - s.kn K) = T by omega]
        · intro hne
          obtain ⟨b, o, e, hb, h⟩ := HS.out.2.2 hne
          exact ⟨b, o, e, hb, by rw [Nat.zero_mul, Nat.add_zero]; exact h.keep (Nat.le_refl _) (fun p hp => HB0.out.1.cell hp) hb⟩
      case round =>
        obtain ⟨q, r, HG, hjr, rfl, rfl, HA, HAt, HB⟩ := hrel
        cases r with
        | nil =>
          have hjr2 : s.len ≤ q := by simp only [Fo.len] at hjr; omega
          have hjr1 : q ≤ s.len := by simp only [Fo.len] at hjr; omega
          clear hjr HG
          go_wp2
          go_ret
          refine ⟨ret_int (congrArg _ ?_), ?_⟩
          · rw [← HT.out]; simp [Fo.kn]
          · exact HB0.out.1.trans (HB.mono (by have := HB0.out.2.1; omega))
        | cons rk rn rm ri rd A' c' rs rr =>
          have hjr2 : q < s.len := by simp only [Fo.len] at hjr; omega
          obtain ⟨b, o, rfl, hb, h0, h1, h2, h3, h4, ⟨h5, hc', hm', hs'⟩, hr'⟩ := HAt (by simp)
          obtain ⟨cnt, HC⟩ : ∃ cnt, Hid ((Fo.cons rk rn rm ri rd A' c' rs rr).kn K = cnt) := ⟨_, rfl⟩
          rw [HC.out]
          have h1 := HB.size
          have h2 := HB0.out.2.1
          obtain ⟨W2, hW2⟩ : ∃ W2, wr.alloc (.cells #[.int .i64 rk, .string rn, .string rm, .int .i64 ri, .int .i64 rd, .slice A' rs.len c'] 41) = W2 := ⟨_, rfl⟩
          have hB2 : Below wr.heap.size wr W2 := by rw [← hW2]; exact (Below.refl _ _).alloc (Nat.le_refl _) _
          have hx2 : W2.heap[wr.heap.size]? = some (.cells #[.int .i64 rk, .string rn, .string rm, .int .i64 ri, .int .i64 rd, .slice A' rs.len c'] 41 (0, 0)) := by rw [← hW2]; exact heap_alloc_new wr _
          have e0 := cell_of_row W2 wr.heap.size 0 _ _ (0, 0) hx2
          have e1 := cell_of_row W2 wr.heap.size 1 _ _ (0, 0) hx2
          have e2 := cell_of_row W2 wr.heap.size 2 _ _ (0, 0) hx2
          have e3 := cell_of_row W2 wr.heap.size 3 _ _ (0, 0) hx2
          have e4 := cell_of_row W2 wr.heap.size 4 _ _ (0, 0) hx2
          have e5 := cell_of_row W2 wr.heap.size 5 _ _ (0, 0) hx2
          simp at e0 e1 e2 e3 e4 e5
          have hsl : rs.Sl wr w.heap.size A' c' := ⟨hc', hm', hs'⟩
          have hcall := HA.1 rk rn rm ri rd A' c' KA Kc W2 (hsl.keep (by have := hB2.size; omega) fun p hp => hB2.cell (by omega)) (HK.out.keep (by have := hB2.size; omega) fun p hp => (hB2.cell (by omega)).trans ((HB.cell (by omega)).trans (HB0.out.1.cell hp)))
          rw [HKL.out] at hcall
          have HCALL := Lib.hid hcall
          have HZ := Lib.hid HB.size
          have HBH := Lib.hid (And.intro HB hB2)
          clear hs' HB hB2 hx2 hsl hcall h1 h2
          go_wp2_with fail
          refine HCALL.out.mono ?_
          rintro e w1 ⟨rfl, hb1⟩
          have HB1 := Lib.hid hb1
          clear hb1
          go_wp2
          go_roundg rr.len
          case measure => rw [HG]; simp [Fo.len]
          case rel =>
            have h1 := HZ.out
            have h2 := HB0.out.2.1
            have hb1 := HBH.out.2.trans (HB1.out.mono HBH.out.2.size)
            refine ⟨q + 1, rr, rfl, by simp only [Fo.len] at hjr; omega, by go_num, ?_, HA.2, ?_, HBH.out.1.trans (hb1.mono h1)⟩
            · refine val_int ?_
              rw [wrap64_add]
              refine congrArg _ ?_
              have := HC.out
              simp only [Fo.kn] at this
              omega
            · intro hne
              refine ⟨b, o, rfl, hb, ?_⟩
              rw [show o + (q + 1) * 6 = o + q * 6 + 6 by omega]
              exact hr'.keep (Nat.le_refl _) (fun p hp => hb1.cell (by omega)) hb

theorem ln_any (K : List Int) (s : Fo) : LnOK K s := Fo.by_parts (ln_step K) s
end Go.Proofs.YtlcfoiapkblheaaGreatDoor
