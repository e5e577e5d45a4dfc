/- compile.hasSum -/
import Derived.Test.YtlpipoihinceiaaGreatDoorGka
import Derived.Test.YtlpipoihinceiaaGreatDoorGkf
namespace Go.Proofs.YtlpipoihinceiaaGreatDoor
open Go.RowKit Go.Proofs Go.Shelf

def Fo.sum : Fo → Bool
  | .nil => false
  | .cons k _ _ _ _ _ _ s r => (k == 15 || s.sum) || r.sum

def SumOK (s : Fo) : Prop := ∀ (k : Int) (n m : ByteArray) (i d : Int) (A : Option Addr) (c : Nat) (w : World), s.Sl w w.heap.size A c →
    Calls Tryz.prog 185 #[.agg #[.int .i64 k, .string n, .string m, .int .i64 i, .int .i64 d, .slice A s.len c]] w fun e w' => e = .returned (.bool (k == 15 || s.sum)) ∧ Below w.heap.size w w'

def IdxP (b : Bool) (w : World) (e : Ending) (w' : World) : Prop := ∃ j : Int, e = .returned (.int .i64 j) ∧ decide (0 ≤ j) = b ∧ Below w.heap.size w w'

set_option maxHeartbeats 1000000 in
theorem indexFnE_any (s : Fo) (ih : s.All SumOK) (A : Option Addr) (c : Nat) (w : World) (hs : s.Sl w w.heap.size A c) :
    Calls Tryz.prog 240 #[.slice A s.len c, .func (.func 185) #[] #[]] w (IdxP s.sum w) := by
  have HS := Lib.hid hs
  clear hs
  have IH := Lib.hid ih
  clear ih
  have hcap : s.len ≤ 9223372036854775807 := by have := HS.out.1; have := HS.out.2.1; unfold maxLen at this; omega
  obtain ⟨E, HE⟩ : ∃ E, Hid (s.sum = E) := ⟨_, rfl⟩
  rw [HE.out]
  go_enter Tryz.func240, Tryz.ntmps240
  go_wp2
  go_loopg [5, 8] s.len (fun g _ ct wr => ∃ (j : Nat) (r : Fo), g = r.len ∧ j + r.len = s.len ∧ ct = .int .i64 j ∧ E = r.sum ∧ r.All SumOK ∧
    (r ≠ .nil → ∃ b o, A = some ⟨b, o, none⟩ ∧ b < w.heap.size ∧ r.At wr w.heap.size b (o + j * 6)) ∧ Below w.heap.size w wr)
  case atStart =>
    refine ⟨0, s, rfl, by omega, rfl, HE.out.symm, IH.out, ?_, Below.refl _ _⟩
    intro hne
    obtain ⟨b, o, e, hb, h⟩ := HS.out.2.2 hne
    exact ⟨b, o, e, hb, by rw [Nat.zero_mul, Nat.add_zero]; exact h⟩
  case round =>
    obtain ⟨j, r, HG, hjr, rfl, hE, HA, HAt, HB⟩ := hrel
    cases r with
    | nil =>
      have hjr2 : s.len ≤ j := by simp only [Fo.len] at hjr; omega
      have hjr1 : j ≤ s.len := by simp only [Fo.len] at hjr; omega
      have HR := Lib.hid hE
      clear hjr HG hE
      go_wp2
      go_ret
      exact ⟨-1, rfl, by rw [HR.out]; rfl, HB⟩
    | cons rk rn rm ri rd A' c' rs rr =>
      have hjr2 : j < s.len := by simp only [Fo.len] at hjr; omega
      obtain ⟨b, o, rfl, hb, h0, h1, h2, h3, h4, ⟨h5, hc', hm', hs'⟩, hr'⟩ := HAt (by simp)
      have HS' := Lib.hid (And.intro hs' (And.intro hr' (And.intro HB (And.intro HG hjr))))
      have hbz := HB.size
      have hok := (HA.1 rk rn rm ri rd A' c' wr ⟨hc', hm', fun hne => by
        obtain ⟨b', o', e, hb', h'⟩ := HS'.out.1 hne
        exact ⟨b', o', e, by omega, h'.keep (by omega) (fun _ _ => rfl) hb'⟩⟩)
      obtain ⟨q, Hq⟩ : ∃ q, Hid ((rk == 15 || rs.sum) = q) := ⟨_, rfl⟩
      rw [Hq.out] at hok
      have HE2 : Hid (E = (q || rr.sum)) := by show E = _; rw [hE, ← Hq.out]; rfl
      have HO := Lib.hid (And.intro hok HA.2)
      clear hs' hr' HB HG hjr hok HA HAt hE
      go_wp2_with fail
      refine HO.out.1.mono ?_
      rintro e w1 ⟨rfl, hb1⟩
      have HB1 := Lib.hid (And.intro (HS'.out.2.2.1.trans (hb1.mono (by omega))) hb1)
      clear hb1
      cases q
      · go_wp2
        go_roundg rr.len
        case measure => rw [HS'.out.2.2.2.1]; simp [Fo.len]
        case rel =>
          refine ⟨j + 1, rr, rfl, by have := HS'.out.2.2.2.2; simp only [Fo.len] at this; omega, by go_num, by rw [HE2.out]; rfl, HO.out.2, ?_, HB1.out.1⟩
          intro hne
          refine ⟨b, o, rfl, hb, ?_⟩
          rw [show o + (j + 1) * 6 = o + j * 6 + 6 by omega]
          exact HS'.out.2.1.keep (Nat.le_refl _) (fun p hp => HB1.out.2.cell (by omega)) hb
      · have HR := Lib.hid (show E = true by rw [HE2.out]; rfl)
        go_wp2
        go_ret
        exact ⟨j, rfl, by rw [HR.out]; simp, HB1.out.1⟩

set_option maxHeartbeats 1000000 in
theorem containsFnE_any (s : Fo) (ih : s.All SumOK) (A : Option Addr) (c : Nat) (w : World) (hs : s.Sl w w.heap.size A c) :
    Calls Tryz.prog 221 #[.slice A s.len c, .func (.func 185) #[] #[]] w fun e w' => e = .returned (.bool s.sum) ∧ Below w.heap.size w w' := by
  have HC := Lib.hid (indexFnE_any s ih A c w hs)
  clear ih hs
  obtain ⟨E, HE⟩ : ∃ E, Hid (s.sum = E) := ⟨_, rfl⟩
  rw [HE.out] at HC ⊢
  go_enter Tryz.func221, Tryz.ntmps221
  go_wp2_with fail
  refine HC.out.mono ?_
  rintro e w1 ⟨j, rfl, hj, hb⟩
  go_wp2
  go_ret
  exact ⟨by simp, hb⟩

set_option maxHeartbeats 1000000 in
theorem hasSum_step (s : Fo) (ih : s.All SumOK) : SumOK s := by
  intro k n m i d A c w hs
  obtain ⟨E, HE⟩ : ∃ E, Hid (s.sum = E) := ⟨_, rfl⟩
  rw [HE.out]
  obtain ⟨W0, hW0⟩ : ∃ W0, w.alloc (.cells #[.int .i64 k, .string n, .string m, .int .i64 i, .int .i64 d, .slice A s.len c] 28) = W0 := ⟨_, rfl⟩
  have hzw : w.heap.size < W0.heap.size := by subst hW0; simp
  have hB0 : Below w.heap.size w W0 := by subst hW0; exact (Below.refl _ _).alloc (Nat.le_refl _) _
  have h0 : W0.cell? ⟨w.heap.size, 0, none⟩ = some (.int .i64 k) := by subst hW0; go_simp
  have h5 : W0.cell? ⟨w.heap.size, 5, none⟩ = some (.slice A s.len c) := by subst hW0; go_simp
  have hs0 := hs.keep (w' := W0) (B' := W0.heap.size) (Nat.le_of_lt hzw) fun p hp => hB0.cell hp
  have hc := containsFnE_any s ih A c W0 hs0
  rw [HE.out] at hc
  have HC := Lib.hid (And.intro hc hB0)
  clear hc hB0 hs0 hs ih
  by_cases hk : k = 15
  · have hk' : (k == 15) = true := by simpa using hk
    rw [hk', Bool.true_or]
    clear hk
    go_enter Tryz.func185, Tryz.ntmps185
    go_wp2
    go_ret
    exact ⟨rfl, HC.out.2⟩
  · have hk' : (k == 15) = false := by simpa using hk
    rw [hk', Bool.false_or]
    clear hk
    go_enter Tryz.func185, Tryz.ntmps185
    go_wp2_with fail
    refine HC.out.1.mono ?_
    rintro e w1 ⟨rfl, hb1⟩
    have HB1 := Lib.hid (HC.out.2.trans (hb1.mono (by omega)))
    clear hb1
    go_wp2
    go_ret
    exact ⟨rfl, HB1.out⟩

theorem hasSum_any (s : Fo) : SumOK s := Fo.by_parts hasSum_step s
end Go.Proofs.YtlpipoihinceiaaGreatDoor
/- Counting nodes of some kinds, plainly -/
namespace Go.Proofs.YtlpipoihinceiaaGreatDoor
open Go.RowKit Go.Proofs

def kindN (k : Int) : List Int → Nat
  | [] => 0
  | x :: r => (if k = x then 1 else 0) + kindN k r
def Fo.kn (K : List Int) : Fo → Nat
  | .nil => 0
  | .cons k _ _ _ _ _ _ s r => kindN k K + s.kn K + r.kn K
theorem kindN_append (k : Int) (a b : List Int) : kindN k (a ++ b) = kindN k a + kindN k b := by
  induction a with
  | nil => simp [kindN]
  | cons x a ih => simp [kindN, ih, Nat.add_assoc]
end Go.Proofs.YtlpipoihinceiaaGreatDoor
