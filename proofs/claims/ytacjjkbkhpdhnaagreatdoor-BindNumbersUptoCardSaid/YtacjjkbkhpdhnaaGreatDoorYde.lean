/- ref21.Depth -/
import Derived.Test.YtacjjkbkhpdhnaaGreatDoorZla
namespace Go.Proofs.YtacjjkbkhpdhnaaGreatDoor
open Go.RowKit Go.Proofs

def Fo.depth : Fo → Nat
  | .nil => 0
  | .cons _ _ _ _ _ _ _ s r => max (s.depth + 1) r.depth
theorem Fo.depth_le : ∀ s : Fo, s.depth ≤ s.count
  | .nil => Nat.le_refl _
  | .cons _ _ _ _ _ _ _ s r => by
    have h1 := depth_le s
    have h2 := depth_le r
    simp only [Fo.depth, Fo.count]
    omega
def DepthOK (s : Fo) : Prop := ∀ (k : Int) (n m : ByteArray) (i d : Int) (A : Option Addr) (c : Nat) (w : World), s.count ≤ 1000000 → s.Sl w w.heap.size A c →
    Calls Tryz.prog 158 #[.agg #[.int .i64 k, .string n, .string m, .int .i64 i, .int .i64 d, .slice A s.len c]] w fun e w' => e = .returned (.int .i64 (s.depth + 1 : Nat)) ∧ Below w.heap.size w w'

set_option maxHeartbeats 1000000 in
theorem depth_step (s : Fo) (ih : s.All DepthOK) : DepthOK s := by
  intro k n m i d A c w hcnt hs
  have HS := Lib.hid hs
  clear hs
  have IH := Lib.hid ih
  clear ih
  have hcap : s.len ≤ 9223372036854775807 := by have := HS.out.1; have := HS.out.2.1; unfold maxLen at this; omega
  obtain ⟨D, HD⟩ : ∃ D, Hid (s.depth = D) := ⟨_, Lib.hid rfl⟩
  have hDle : D ≤ 1000000 := by have := s.depth_le; rw [HD.out] at this; omega
  rw [HD.out]
  go_enter Tryz.func158, Tryz.ntmps158
  go_wp2
  go_loopg [3, 4] s.len (fun g t ct wr => ∃ (j : Nat) (q : Nat) (r : Fo), g = r.len ∧ j + r.len = s.len ∧ ct = .int .i64 j ∧ t = .int .i64 q ∧ (max q r.depth = D ∧ r.count ≤ s.count) ∧ r.All DepthOK ∧
    (r ≠ .nil → ∃ b o, A = some ⟨b, o, none⟩ ∧ b < w.heap.size ∧ r.At wr w.heap.size b (o + j * 6)) ∧
    Below (w.heap.size + 1) (w.alloc (.cells #[.int .i64 k, .string n, .string m, .int .i64 i, .int .i64 d, .slice A s.len c] 28)) wr)
  case atStart =>
    refine ⟨0, 0, s, rfl, by omega, rfl, rfl, ⟨by rw [HD.out]; omega, Nat.le_refl _⟩, IH.out, ?_, Below.refl _ _⟩
    intro hne
    obtain ⟨b, o, e, hb, h⟩ := HS.out.2.2 hne
    exact ⟨b, o, e, hb, by rw [Nat.zero_mul, Nat.add_zero]; exact h.keep (Nat.le_refl _) (fun p hp => World.cell?_alloc_lt w _ p hp) hb⟩
  case round =>
    obtain ⟨j, q, r, HG, hjr, rfl, rfl, ⟨hq, hrc⟩, HA, HAt, HB⟩ := hrel
    have hbox : wr.cell? ⟨w.heap.size, 5, none⟩ = some (.slice A s.len c) := (HB.cell (p := ⟨w.heap.size, 5, none⟩) (by simp)).trans (by go_simp)
    cases r with
    | nil =>
      have hjr2 : s.len ≤ j := by simp only [Fo.len] at hjr; omega
      have hjr1 : j ≤ s.len := by simp only [Fo.len] at hjr; omega
      have hqD : q = D := by simp only [Fo.depth] at hq; omega
      subst hqD
      clear hjr HG hq hrc
      go_wp2
      go_ret
      refine ⟨ret_int ?_, ?_⟩
      · go_num
      · exact ((Below.refl _ _).alloc (Nat.le_refl _) _).trans (HB.mono (by omega))
    | cons rk rn rm ri rd A' c' rs rr =>
      have hjr2 : j < s.len := by simp only [Fo.len] at hjr; omega
      obtain ⟨b, o, rfl, hb, h0, h1, h2, h3, h4, ⟨h5, hc', hm', hs'⟩, hr'⟩ := HAt (by simp)
      have hq2 : q ≤ 1000000 := by omega
      have hrs : rs.depth + 1 ≤ 1000000 := by simp only [Fo.depth] at hq; omega
      have HQ := Lib.hid (And.intro hq hrc)
      clear hq hrc
      have HS' := Lib.hid hs'
      clear hs'
      go_wp2_with fail
      refine (HA.1 _ _ _ _ _ _ _ _ ?_ ?_).mono ?_
      · have := HQ.out.2
        simp only [Fo.count] at this
        omega
      · exact ⟨hc', hm', fun hne => by
          obtain ⟨b', o', e, hb', h'⟩ := HS'.out hne
          have := HB.size
          simp at this
          exact ⟨b', o', e, by omega, h'.keep (by omega) (fun _ _ => rfl) hb'⟩⟩
      rintro e w1 ⟨rfl, hb1⟩
      have HD2 : Hid (∃ Q, Q = rs.depth + 1) := ⟨_, rfl⟩
      obtain ⟨Q, hQ⟩ := HD2.out
      rw [← hQ] at hrs ⊢
      have HQQ := Lib.hid hQ
      clear hQ HD2
      go_wp2
      all_goals (
        go_roundg rr.len
        case measure => simp only [Fo.len]; omega
        case rel =>
          have hsz := HB.size
          simp at hsz
          refine ⟨j + 1, _, rr, rfl, by simp only [Fo.len] at hjr; omega, by go_num, rfl, ⟨?_, ?_⟩, HA.2, ?_, HB.trans (hb1.mono (by omega))⟩
          · have := HQ.out.1
            have e := HQQ.out
            simp only [Fo.depth] at this
            omega
          · have := HQ.out.2
            simp only [Fo.count] at this
            omega
          · intro hne
            refine ⟨b, o, rfl, hb, ?_⟩
            rw [show o + (j + 1) * 6 = o + j * 6 + 6 by omega]
            exact hr'.keep (Nat.le_refl _) (fun p hp => hb1.cell (by omega)) hb)
theorem depth_any (s : Fo) : DepthOK s := Fo.by_parts depth_step s
end Go.Proofs.YtacjjkbkhpdhnaaGreatDoor
