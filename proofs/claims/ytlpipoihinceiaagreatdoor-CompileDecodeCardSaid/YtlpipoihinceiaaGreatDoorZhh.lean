/- ref28.Reader in plain words -/
import Derived.Test.YtlpipoihinceiaaGreatDoorZhg
import Derived.Test.YtlpipoihinceiaaGreatDoorZhe
import Derived.Test.YtlpipoihinceiaaGreatDoorZhf
import Derived.Lib.SlicesS
namespace Go.Proofs.YtlpipoihinceiaaGreatDoor
open Go

/-- What a reader still has: none, if something was wrong. -/
abbrev Rd := Option (List UInt8)
def rsz : Rd → Nat
  | none => 0
  | some l => l.length + 1
def rdN : Rd → Nat × Rd
  | none => (0, none)
  | some l => match getN l with
    | some p => (p.1, some p.2)
    | none => (0, none)
def rdT : Rd → List UInt8 × Rd
  | none => ([], none)
  | some l => match getT l with
    | some p => (p.1, some p.2)
    | none => ([], none)
def rdI (r : Rd) : Ins × Rd :=
  (⟨((rdN r).1 : Int), sgnV (rdN (rdN r).2).1, ((rdN (rdN (rdN r).2).2).1 : Int), ⟨(rdT (rdN (rdN (rdN r).2).2).2).1.toArray⟩⟩, (rdT (rdN (rdN (rdN r).2).2).2).2)
/-- Reading many, till something is wrong. -/
def rdRep {α : Type} (g : Rd → α × Rd) : Nat → Rd → List α × Rd
  | 0, r => ([], r)
  | _ + 1, none => ([], none)
  | k + 1, some l => ((g (some l)).1 :: (rdRep g k (g (some l)).2).1, (rdRep g k (g (some l)).2).2)
def rdB (r : Rd) : Blk × Rd :=
  (⟨((rdN r).1 : Int), (rdN (rdN r).2).1 == 1, (rdRep rdI (rdN (rdN (rdN r).2).2).1 (rdN (rdN (rdN r).2).2).2).1⟩, (rdRep rdI (rdN (rdN (rdN r).2).2).1 (rdN (rdN (rdN r).2).2).2).2)
def rdBs (r : Rd) : List Blk × Rd := rdRep rdB (rdN r).1 (rdN r).2
def rdD (r : Rd) : (Int × Int × Int) × Rd :=
  ((((rdN r).1 : Int), ((rdN (rdN r).2).1 : Int), ((rdN (rdN (rdN r).2).2).1 : Int)), (rdN (rdN (rdN r).2).2).2)
def rdDs (r : Rd) : List (Int × Int × Int) × Rd := rdRep rdD (rdN r).1 (rdN r).2
/-- Code, as the reference reads it. -/
def rdC (r : Rd) : (List UInt8 × List Blk × List (Int × Int × Int)) × Rd :=
  (((rdT r).1, (rdBs (rdT r).2).1, (rdDs (rdBs (rdT r).2).2).1), (rdDs (rdBs (rdT r).2).2).2)

/-- In the midst of reading many: acc have been read, r is left. -/
def RMid {α : Type} (g : Rd → α × Rd) (N : Nat) (r0 : Rd) (j : Nat) (acc : List α) (r : Rd) : Prop :=
  rdRep g N r0 = (acc ++ (rdRep g (N - j) r).1, (rdRep g (N - j) r).2)
theorem RMid.start {α : Type} (g : Rd → α × Rd) (N : Nat) (r : Rd) : RMid g N r 0 [] r := by
  unfold RMid
  rw [Nat.sub_zero]
  rfl
theorem RMid.step {α : Type} {g : Rd → α × Rd} {N : Nat} {r0 : Rd} {j : Nat} {acc : List α} {l : List UInt8} (h : RMid g N r0 j acc (some l)) (hj : j < N) : RMid g N r0 (j + 1) (acc ++ [(g (some l)).1]) (g (some l)).2 := by
  unfold RMid at h ⊢
  rw [h, show N - j = (N - (j + 1)) + 1 by omega, rdRep]
  simp
theorem RMid.bad {α : Type} {g : Rd → α × Rd} {N : Nat} {r0 : Rd} {j : Nat} {acc : List α} (h : RMid g N r0 j acc none) : rdRep g N r0 = (acc, none) := by
  rw [h]
  cases N - j <;> simp [rdRep]
theorem RMid.done {α : Type} {g : Rd → α × Rd} {N : Nat} {r0 : Rd} {acc : List α} {r : Rd} (h : RMid g N r0 N acc r) : rdRep g N r0 = (acc, r) := by
  rw [h, Nat.sub_self]
  simp [rdRep]

theorem rdN_le (r : Rd) : rsz (rdN r).2 ≤ rsz r := by
  cases r with
  | none => exact Nat.le_refl _
  | some l =>
    rw [rdN]
    cases h : getN l with
    | none => simp [rsz]
    | some p =>
      have := getN_len (r := p.2) (n := p.1) h
      simp only [rsz]
      omega
theorem rdN_lt (l : List UInt8) : rsz (rdN (some l)).2 < rsz (some l) := by
  rw [rdN]
  cases h : getN l with
  | none => simp [rsz]
  | some p =>
    have := getN_len (r := p.2) (n := p.1) h
    simp only [rsz]
    omega
theorem rdN_max (r : Rd) : (rdN r).1 ≤ 1099511627776 := by
  cases r with
  | none => exact Nat.zero_le _
  | some l =>
    rw [rdN]
    cases h : getN l with
    | none => exact Nat.zero_le _
    | some p => exact (getN_of (r := p.2) (n := p.1) h).2
theorem rdT_le (r : Rd) : (rdT r).1.length + rsz (rdT r).2 ≤ rsz r := by
  cases r with
  | none => exact Nat.le_refl _
  | some l =>
    rw [rdT]
    cases h : getT l with
    | none => simp [rsz]
    | some p =>
      have := getT_len (r := p.2) (t := p.1) h
      simp only [rsz]
      omega
theorem rdT_lt (l : List UInt8) : (rdT (some l)).1.length + rsz (rdT (some l)).2 < rsz (some l) := by
  rw [rdT]
  cases h : getT l with
  | none => simp [rsz]
  | some p =>
    have := getT_len (r := p.2) (t := p.1) h
    simp only [rsz]
    omega
theorem rdT_len {r : Rd} (h : rsz r ≤ 1001) : (rdT r).1.length ≤ 1000 := by
  cases r with
  | none => exact Nat.zero_le _
  | some l =>
    have := rdT_lt l
    omega
theorem rdRep_cnt {α : Type} {g : Rd → α × Rd} (hg : ∀ l, rsz (g (some l)).2 < rsz (some l)) : ∀ (k : Nat) (r : Rd), (rdRep g k r).1.length + rsz (rdRep g k r).2 ≤ rsz r
  | 0, r => by simp [rdRep]
  | _ + 1, none => by simp [rdRep]
  | k + 1, some l => by
    have h1 := rdRep_cnt hg k (g (some l)).2
    have h2 := hg l
    rw [rdRep]
    simp only [List.length_cons]
    omega
theorem rdRep_mem {α : Type} {g : Rd → α × Rd} (hg : ∀ l, rsz (g (some l)).2 < rsz (some l)) : ∀ (k : Nat) (r : Rd), ∀ x ∈ (rdRep g k r).1, ∃ l, x = (g (some l)).1 ∧ rsz (some l) ≤ rsz r
  | 0, r, x, hx => by simp [rdRep] at hx
  | _ + 1, none, x, hx => by simp [rdRep] at hx
  | k + 1, some l, x, hx => by
    rw [rdRep] at hx
    rcases List.mem_cons.1 hx with rfl | hx
    · exact ⟨l, rfl, Nat.le_refl _⟩
    · obtain ⟨l', h1, h2⟩ := rdRep_mem hg k _ x hx
      have := hg l
      exact ⟨l', h1, by omega⟩
theorem rdI_lt (l : List UInt8) : rsz (rdI (some l)).2 < rsz (some l) := by
  have h1 := rdN_lt l
  have h2 := rdN_le (rdN (some l)).2
  have h3 := rdN_le (rdN (rdN (some l)).2).2
  have h4 := rdT_le (rdN (rdN (rdN (some l)).2).2).2
  simp only [rdI]
  omega
theorem rdI_nm {r : Rd} (h : rsz r ≤ 1001) : (rdI r).1.nm.size ≤ 1000 := by
  have h1 := rdN_le r
  have h2 := rdN_le (rdN r).2
  have h3 := rdN_le (rdN (rdN r).2).2
  have h4 := rdT_len (r := (rdN (rdN (rdN r).2).2).2) (by omega)
  simp only [rdI]
  show (rdT (rdN (rdN (rdN r).2).2).2).1.toArray.size ≤ 1000
  rw [List.size_toArray]
  exact h4
theorem rdB_lt (l : List UInt8) : rsz (rdB (some l)).2 < rsz (some l) := by
  have h1 := rdN_lt l
  have h2 := rdN_le (rdN (some l)).2
  have h3 := rdN_le (rdN (rdN (some l)).2).2
  have h4 := rdRep_cnt rdI_lt (rdN (rdN (rdN (some l)).2).2).1 (rdN (rdN (rdN (some l)).2).2).2
  simp only [rdB]
  omega
theorem rdB_in (l : List UInt8) : (rdB (some l)).1.l.length < rsz (some l) ∧ ∀ x ∈ (rdB (some l)).1.l, ∃ l', x = (rdI (some l')).1 ∧ rsz (some l') ≤ rsz (some l) := by
  have h1 := rdN_lt l
  have h2 := rdN_le (rdN (some l)).2
  have h3 := rdN_le (rdN (rdN (some l)).2).2
  have h4 := rdRep_cnt rdI_lt (rdN (rdN (rdN (some l)).2).2).1 (rdN (rdN (rdN (some l)).2).2).2
  simp only [rdB]
  refine ⟨by omega, fun x hx => ?_⟩
  obtain ⟨l', e, h⟩ := rdRep_mem rdI_lt _ _ x hx
  exact ⟨l', e, by omega⟩
theorem rdD_lt (l : List UInt8) : rsz (rdD (some l)).2 < rsz (some l) := by
  have h1 := rdN_lt l
  have h2 := rdN_le (rdN (some l)).2
  have h3 := rdN_le (rdN (rdN (some l)).2).2
  simp only [rdD]
  omega
theorem rdBs_le (r : Rd) : (rdBs r).1.length + rsz (rdBs r).2 ≤ rsz r := by
  have h1 := rdN_le r
  have h2 := rdRep_cnt rdB_lt (rdN r).1 (rdN r).2
  simp only [rdBs]
  omega
theorem rdDs_le (r : Rd) : (rdDs r).1.length + rsz (rdDs r).2 ≤ rsz r := by
  have h1 := rdN_le r
  have h2 := rdRep_cnt rdD_lt (rdN r).1 (rdN r).2
  simp only [rdDs]
  omega
theorem rdBs_mem (r : Rd) : ∀ b ∈ (rdBs r).1, ∃ l, b = (rdB (some l)).1 ∧ rsz (some l) ≤ rsz r := fun b hb => by
  have h1 := rdN_le r
  obtain ⟨l, e, h⟩ := rdRep_mem rdB_lt _ _ b hb
  exact ⟨l, e, by omega⟩
theorem rdBs_in {r : Rd} (h : rsz r ≤ 1001) : ∀ b ∈ (rdBs r).1, b.l.length ≤ 1000 ∧ ∀ x ∈ b.l, x.nm.size ≤ 1000 := fun b hb => by
  obtain ⟨l, rfl, hl⟩ := rdBs_mem r b hb
  obtain ⟨h1, h2⟩ := rdB_in l
  refine ⟨by omega, fun x hx => ?_⟩
  obtain ⟨l', rfl, hl'⟩ := h2 x hx
  exact rdI_nm (by omega)
theorem rdC_sml {l : List UInt8} (h : l.length ≤ 1000) : Sml ⟨(rdC (some l)).1.1.toArray⟩ (rdC (some l)).1.2.1 (rdC (some l)).1.2.2 := by
  have h1 := rdT_lt l
  have hz : rsz (some l) ≤ 1001 := by simp only [rsz]; omega
  have h2 := rdBs_le (rdT (some l)).2
  have h3 := rdDs_le (rdBs (rdT (some l)).2).2
  have h4 := rdBs_in (r := (rdT (some l)).2) (by omega)
  simp only [rdC]
  refine ⟨?_, by omega, by omega, fun b hb => (h4 b hb).1, fun b hb => (h4 b hb).2⟩
  show (rdT (some l)).1.toArray.size ≤ 1000
  rw [List.size_toArray]
  omega

theorem rdN_get {l : List UInt8} {n : Nat} {r : List UInt8} (h : getN l = some (n, r)) : rdN (some l) = (n, some r) := by rw [rdN, h]
theorem rdT_get {l t r : List UInt8} (h : getT l = some (t, r)) : rdT (some l) = (t, some r) := by rw [rdT, h]
theorem rdI_get {l : List UInt8} {x : Ins} {r : List UInt8} (h : getI l = some (x, r)) : rdI (some l) = (x, some r) := by
  unfold getI at h
  split at h
  · rename_i p hp
    split at h
    · rename_i q hq
      split at h
      · rename_i s hs
        split at h
        · rename_i t ht
          simp only [Option.some.injEq, Prod.mk.injEq] at h
          obtain ⟨n, hn, hn1, hv⟩ := getS_N (r := q.2) (v := q.1) hq
          rw [rdI, rdN_get (n := p.1) (r := p.2) hp]
          simp only
          rw [rdN_get hn]
          simp only
          rw [rdN_get (n := s.1) (r := s.2) hs]
          simp only
          rw [rdT_get (t := t.1) (r := t.2) ht, ← h.1, ← h.2, hv]
        · simp at h
      · simp at h
    · simp at h
  · simp at h
theorem rdRep_get {α : Type} {g : List UInt8 → Option (α × List UInt8)} {g' : Rd → α × Rd} (hg : ∀ l x r, g l = some (x, r) → g' (some l) = (x, some r)) : ∀ (k : Nat) (l : List UInt8) (xs : List α) (r : List UInt8), rep g k l = some (xs, r) → rdRep g' k (some l) = (xs, some r)
  | 0, l, xs, r, h => by
    simp only [rep, Option.some.injEq, Prod.mk.injEq] at h
    rw [← h.1, ← h.2]
    rfl
  | k + 1, l, xs, r, h => by
    cases hc : g l with
    | none => rw [rep_no hc] at h; simp at h
    | some p =>
      obtain ⟨x, q⟩ := p
      rw [rep_step hc] at h
      cases hr : rep g k q with
      | none => rw [hr] at h; simp at h
      | some s =>
        rw [hr] at h
        obtain ⟨ys, r'⟩ := s
        simp only [Option.map_some, Option.some.injEq, Prod.mk.injEq] at h
        rw [rdRep, hg l x q hc]
        simp only
        rw [rdRep_get hg k q ys r' hr, ← h.1, ← h.2]
theorem rdB_get {l : List UInt8} {x : Blk} {r : List UInt8} (h : getB l = some (x, r)) : rdB (some l) = (x, some r) := by
  unfold getB at h
  split at h
  · rename_i p hp
    split at h
    · rename_i q hq
      split at h
      · simp at h
      split at h
      · rename_i s hs
        split at h
        · rename_i t ht
          simp only [Option.some.injEq, Prod.mk.injEq] at h
          rw [rdB, rdN_get (n := p.1) (r := p.2) hp]
          simp only
          rw [rdN_get (n := q.1) (r := q.2) hq]
          simp only
          rw [rdN_get (n := s.1) (r := s.2) hs]
          simp only
          rw [rdRep_get (fun _ _ _ => rdI_get) s.1 s.2 t.1 t.2 ht, ← h.1, ← h.2]
        · simp at h
      · simp at h
    · simp at h
  · simp at h
theorem rdD_get {l : List UInt8} {x : Int × Int × Int} {r : List UInt8} (h : getD l = some (x, r)) : rdD (some l) = (x, some r) := by
  unfold getD at h
  split at h
  · rename_i p hp
    split at h
    · rename_i q hq
      split at h
      · rename_i s hs
        simp only [Option.some.injEq, Prod.mk.injEq] at h
        rw [rdD, rdN_get (n := p.1) (r := p.2) hp]
        simp only
        rw [rdN_get (n := q.1) (r := q.2) hq]
        simp only
        rw [rdN_get (n := s.1) (r := s.2) hs, ← h.1, ← h.2]
      · simp at h
    · simp at h
  · simp at h
theorem rdC_get {l t r : List UInt8} {bl : List Blk} {ds : List (Int × Int × Int)} (h : getC l = some ((t, bl, ds), r)) : rdC (some l) = ((t, bl, ds), some r) := by
  unfold getC at h
  split at h
  · rename_i p hp
    split at h
    · rename_i q hq
      split at h
      · rename_i s hs
        split at h
        · rename_i u hu
          split at h
          · rename_i v hv
            simp only [Option.some.injEq, Prod.mk.injEq] at h
            obtain ⟨⟨e1, e2, e3⟩, e4⟩ := h
            rw [rdC, rdT_get (t := p.1) (r := p.2) hp]
            simp only
            rw [rdBs, rdN_get (n := q.1) (r := q.2) hq]
            simp only
            rw [rdRep_get (fun _ _ _ => rdB_get) q.1 q.2 s.1 s.2 hs]
            simp only
            rw [rdDs, rdN_get (n := u.1) (r := u.2) hu]
            simp only
            rw [rdRep_get (fun _ _ _ => rdD_get) u.1 u.2 v.1 v.2 hv, ← e1, ← e2, ← e3, ← e4]
          · simp at h
        · simp at h
      · simp at h
    · simp at h
  · simp at h

/-- Nothing was wrong, and the code's encoding is what was read. -/
def rdOk (l : List UInt8) : Prop := (rdC (some l)).2.isSome = true ∧ codeE ⟨(rdC (some l)).1.1.toArray⟩ (rdC (some l)).1.2.1 (rdC (some l)).1.2.2 = 0 ∧ codeL ⟨(rdC (some l)).1.1.toArray⟩ (rdC (some l)).1.2.1 (rdC (some l)).1.2.2 = l
theorem decO_rd {l : List UInt8} (hl : l.length ≤ 1000) (h : rdOk l) : decO l = some (⟨(rdC (some l)).1.1.toArray⟩, (rdC (some l)).1.2.1, (rdC (some l)).1.2.2) := by
  obtain ⟨_, h2, h3⟩ := h
  have := decO_rt h2 (rdC_sml hl)
  rwa [h3] at this
theorem decO_no {l : List UInt8} (h : ¬ rdOk l) : decO l = none := by
  cases hd : decO l with
  | none => rfl
  | some p =>
    exfalso
    obtain ⟨lb, bl, ds⟩ := p
    obtain ⟨h1, h2⟩ := decO_of hd
    unfold decO at hd
    split at hd
    · rename_i q hq
      obtain ⟨⟨t, b, d⟩, r⟩ := q
      simp only at hd
      split at hd
      · simp only [Option.some.injEq, Prod.mk.injEq] at hd
        obtain ⟨rfl, rfl, rfl⟩ := hd
        refine h ?_
        rw [rdOk, rdC_get hq]
        exact ⟨rfl, h2, h1⟩
      · simp at hd
    · simp at hd
end Go.Proofs.YtlpipoihinceiaaGreatDoor
/- ref01.GetInt, GetText -/
namespace Go.Proofs.YtlpipoihinceiaaGreatDoor
open Go.RowKit Go.Proofs

set_option maxRecDepth 100000 in
set_option maxHeartbeats 4000000 in
theorem GetInt01_any (s : ByteArray) (w : World) : Calls Tryz.prog 149 #[.string s] w fun e w' => GotN s e ∧ w = w' := by
  go_enter Tryz.func149, Tryz.ntmps149
  go_wp2_with fail
  have HZ := Lib.hid (show s.data.toList.length = s.size by simp)
  go_loopg [5, 6, 7] 6 (fun g sn su ct wr => ∃ (i n u : Nat), g = 6 - i ∧ i ≤ 6 ∧ i ≤ s.size ∧ ct = .int .i64 i ∧ sn = .int .i64 n ∧ su = .int .i64 u ∧ u ≤ 4398046511104 ∧ n < u + 1 ∧ Hid (u = 128 ^ i) ∧ Hid (getL 6 0 s.data.toList = (getL (6 - i) i (s.data.toList.drop i)).map fun p => (n + u * p.1, p.2)) ∧ w = wr)
  case atStart => exact ⟨0, 0, 1, rfl, by omega, by omega, rfl, rfl, rfl, by omega, by omega, Lib.hid rfl, Lib.hid (by rw [List.drop_zero]; show getL 6 0 s.data.toList = (getL 6 0 s.data.toList).map _; cases getL 6 0 s.data.toList <;> simp), rfl⟩
  case round =>
    obtain ⟨i, n, u, HG, hi, his, rfl, rfl, rfl, hu, hn, HU, HI, rfl⟩ := hrel
    have HG' := Lib.hid HG
    clear HG
    by_cases h6 : i = 6
    · subst h6
      have HR := Lib.hid (GotN.no (c := 13) (getL_six HI.out) (by decide))
      go_wp2
      all_goals (
        refine bodyPost_ret (results_tri rfl _ _ _) rfl ?_
        exact ⟨HR.out, rfl⟩)
    have i6 : i < 6 := by omega
    have i6' : (i : Int) < 6 := by omega
    clear h6
    by_cases hlt : i < s.size
    rotate_left
    · have HR := Lib.hid (GotN.no (c := 12) (getL_short (by rw [HZ.out]; omega) HI.out) (by decide))
      have t0 : ((i : Int) == (s.size : Int)) = true := by simp; omega
      go_wp2
      all_goals (
        refine bodyPost_ret (results_tri rfl _ _ _) rfl ?_
        exact ⟨HR.out, rfl⟩)
    have t0 : ((i : Int) == (s.size : Int)) = false := by simp; omega
    obtain ⟨d, HD⟩ : ∃ d, Hid (s.data.toList[i]? = some d ∧ s[i]'hlt = d) := ⟨s[i]'hlt, Lib.hid ⟨by
      rw [List.getElem?_eq_getElem (by rw [HZ.out]; exact hlt)]
      rfl, rfl⟩⟩
    obtain ⟨dn, HDN⟩ : ∃ dn, Hid (d.toNat = dn) := ⟨_, Lib.hid rfl⟩
    have hdn : (s[i]'hlt).toNat = dn := by rw [HD.out.2, HDN.out]
    have hd256 : dn < 256 := by rw [← HDN.out]; exact UInt8.toNat_lt d
    have HUS := Lib.hid (show u * 128 ≤ 4398046511104 by
      rw [HU.out]
      have : 128 ^ i ≤ 128 ^ 5 := Nat.pow_le_pow_right (by omega) (by omega)
      omega)
    by_cases h128 : 128 ≤ dn
    · have hm : (dn : Int) % 128 = (dn : Int) - 128 := by omega
      obtain ⟨P, hP⟩ : ∃ P : Nat, (u : Int) * ((dn : Int) - 128) = (P : Int) := ⟨(dn - 128) * u, by rw [Int.natCast_mul, Int.mul_comm]; congr 1; omega⟩
      have HPN := Lib.hid (show P = (dn - 128) * u by
        have h2 : (((dn - 128) * u : Nat) : Int) = (P : Int) := by rw [← hP, Int.natCast_mul, Int.mul_comm]; congr 1; omega
        omega)
      have hPb : P ≤ 127 * u := by rw [HPN.out]; exact Nat.mul_le_mul_right _ (by omega)
      have HN2 := Lib.hid (getL_step (f := 6 - (i + 1)) HD.out.1 (by rw [HDN.out]; exact h128) (by rw [show 6 - (i + 1) + 1 = 6 - i by omega]; exact HI.out))
      go_wp2
      go_roundg (6 - (i + 1))
      case measure => rw [HG'.out]; omega
      case rel =>
        refine ⟨i + 1, n + P, u * 128, rfl, by omega, by omega, by go_num, by go_num, by go_num, HUS.out, by omega, Lib.hid (by rw [HU.out, Nat.pow_succ]), Lib.hid ?_, rfl⟩
        rw [HN2.out, HDN.out, HPN.out]
    · have hm : (dn : Int) % 128 = (dn : Int) := by omega
      obtain ⟨P, hP⟩ : ∃ P : Nat, (u : Int) * (dn : Int) = (P : Int) := ⟨dn * u, by rw [Int.natCast_mul, Int.mul_comm]⟩
      have HPN := Lib.hid (show P = dn * u by
        have h2 : ((dn * u : Nat) : Int) = (P : Int) := by rw [← hP, Int.natCast_mul, Int.mul_comm]
        omega)
      have hPb : P ≤ 127 * u := by rw [HPN.out]; exact Nat.mul_le_mul_right _ (by omega)
      have HIF := Lib.hid (show getL 6 0 s.data.toList = (getL (6 - (i + 1) + 1) i (s.data.toList.drop i)).map fun p => (n + u * p.1, p.2) by rw [show 6 - (i + 1) + 1 = 6 - i by omega]; exact HI.out)
      by_cases hz : dn = 0 ∧ 0 < i
      · obtain ⟨hz0, hi0⟩ := hz
        have HR := Lib.hid (GotN.no (c := 13) (getL_zero HD.out.1 (by rw [HDN.out]; exact ⟨hz0, hi0⟩) HIF.out) (by decide))
        subst hz0
        have hi0' : (0 : Int) < (i : Int) := by omega
        have t1 : decide ((0 : Int) < (i : Int)) = true := decide_eq_true hi0'
        go_wp2
        all_goals (
          refine bodyPost_ret (results_tri rfl _ _ _) rfl ?_
          exact ⟨HR.out, rfl⟩)
      have HLS := Lib.hid (getL_last HD.out.1 (by rw [HDN.out]; exact h128) (by rw [HDN.out]; exact hz) HIF.out)
      by_cases hbig : n + P ≤ 1099511627776
      · have HR := Lib.hid (GotN.yes (s := s) (n := n + P) (k := i + 1) (by rw [getN, HLS.out, HDN.out, HPN.out]; simp only; rw [if_pos (by rw [← HPN.out]; exact hbig)]) (by omega))
        have hb1 : decide ((1099511627776 : Int) < (n : Int) + (P : Int)) = false := decide_eq_false (by omega)
        by_cases hz0 : dn = 0
        · have hi0 : i = 0 := by
            have := hz
            omega
          have hp0 : P = 0 := by
            have := HPN.out
            rw [hz0, Nat.zero_mul] at this
            exact this
          rw [hp0, Nat.add_zero] at HR
          have hb2 : decide ((1099511627776 : Int) < (n : Int)) = false := decide_eq_false (by omega)
          clear hb1 hbig
          subst hz0
          have t3 : decide ((0 : Int) < (i : Int)) = false := decide_eq_false (by omega)
          have t4 : decide (0 < i) = false := decide_eq_false (by omega)
          clear hz hi0
          go_wp2
          all_goals (
            refine bodyPost_ret (results_tri rfl _ _ _) rfl ?_
            exact ⟨HR.out, rfl⟩)
        · have t2 : ((dn : Int) == 0) = false := by simp; omega
          clear hz
          go_wp2
          all_goals (
            refine bodyPost_ret (results_tri rfl _ _ _) rfl ?_
            exact ⟨HR.out, rfl⟩)
      · have HR := Lib.hid (GotN.no (s := s) (c := 13) (by rw [getN, HLS.out, HDN.out]; simp only; rw [if_neg (by rw [← HPN.out]; exact hbig)]) (by decide))
        have hb1 : decide ((1099511627776 : Int) < (n : Int) + (P : Int)) = true := decide_eq_true (by omega)
        by_cases hz0 : dn = 0
        · exfalso
          rw [hz0, Nat.zero_mul] at HPN
          have := HPN.out
          have h0 : i = 0 := by
            have := hz
            omega
          have hu1 := HU.out
          rw [h0] at hu1
          omega
        · have t2 : ((dn : Int) == 0) = false := by simp; omega
          clear hz
          go_wp2
          all_goals (
            refine bodyPost_ret (results_tri rfl _ _ _) rfl ?_
            exact ⟨HR.out, rfl⟩)

set_option maxRecDepth 100000 in
set_option maxHeartbeats 4000000 in
theorem GetText01_any (s : ByteArray) (w : World) (hs : s.size ≤ 4611686018427387904) : Calls Tryz.prog 147 #[.string s] w fun e w' => GotT s e ∧ w = w' := by
  have hgi := GetInt01_any s w
  have HZ := Lib.hid (show s.data.toList.length = s.size by simp)
  cases hg : getN s.data.toList with
  | none =>
    have HT := Lib.hid (show getT s.data.toList = none by rw [getT, hg])
    have HGI := Lib.hid (show Calls Tryz.prog 149 #[.string s] w fun e w' => (∃ c : Int, (c != 0) = true ∧ e = .returned (.tuple #[.int .i64 0, .int .i64 0, .int .i64 c])) ∧ w = w' from hgi.mono fun e w' ⟨h1, h2⟩ => ⟨by unfold GotN at h1; rw [hg] at h1; exact h1, h2⟩)
    clear hgi hg
    go_enter Tryz.func147, Tryz.ntmps147
    go_wp2_with fail
    refine HGI.out.mono ?_
    rintro e w' ⟨⟨c, hc, rfl⟩, rfl⟩
    have HR := Lib.hid (GotT.no HT.out hc)
    go_wp2
    all_goals (
      refine bodyPost_ret (results_tri rfl _ _ _) rfl ?_
      exact ⟨HR.out, rfl⟩)
  | some p =>
    obtain ⟨n, r⟩ := p
    obtain ⟨k, hk6, hk1, hk2, hr⟩ := getN_suffix hg
    have HGI := Lib.hid (show Calls Tryz.prog 149 #[.string s] w fun e w' => (∃ k : Nat, k ≤ s.size ∧ r = s.data.toList.drop k ∧ e = .returned (.tuple #[.int .i64 (n : Int), .int .i64 (k : Int), .int .i64 0])) ∧ w = w' from hgi.mono fun e w' ⟨h1, h2⟩ => ⟨by unfold GotN at h1; rw [hg] at h1; exact h1, h2⟩)
    have hnb := (getN_of hg).2
    have HG := Lib.hid hg
    clear hgi hg hk6 hk1 hk2 hr
    go_enter Tryz.func147, Tryz.ntmps147
    go_wp2_with fail
    refine HGI.out.mono ?_
    rintro e w' ⟨⟨k, hk, hr, rfl⟩, rfl⟩
    have HK := Lib.hid hr
    clear hr
    by_cases hn : n ≤ 65536
    rotate_left
    · have HT := Lib.hid (show getT s.data.toList = none by rw [getT, HG.out]; simp only; rw [if_neg (fun h => hn h.1)])
      have HR := Lib.hid (GotT.no (c := 13) HT.out (by decide))
      have t1 : decide ((65536 : Int) < (n : Int)) = true := decide_eq_true (by omega)
      clear hn
      go_wp2
      all_goals (
        refine bodyPost_ret (results_tri rfl _ _ _) rfl ?_
        exact ⟨HR.out, rfl⟩)
    have t1 : decide ((65536 : Int) < (n : Int)) = false := decide_eq_false (by omega)
    have hw1 : IntKind.i64.wrap ((s.size : Int) - (k : Int)) = (s.size : Int) - (k : Int) := IntWalk.i64_in _ (by omega)
    by_cases hkn : k + n ≤ s.size
    · have HR := Lib.hid (GotT.yes (by rw [HG.out, HK.out]) hn hkn)
      have t2 : decide ((s.size : Int) - (k : Int) < (n : Int)) = false := decide_eq_false (by omega)
      have j0 : (0 : Int) ≤ (k : Int) := by omega
      have j1 : (0 : Int) ≤ (k : Int) + (n : Int) := by omega
      have j2 : (k : Int) ≤ (k : Int) + (n : Int) := by omega
      have j3 : (k : Int) + (n : Int) ≤ (s.size : Int) := by omega
      have j4 : ((k : Int) + (n : Int)).toNat = k + n := by omega
      go_wp2
      all_goals (
        refine bodyPost_ret (results_tri rfl _ _ _) rfl ?_
        exact ⟨HR.out, rfl⟩)
    · have HT := Lib.hid (show getT s.data.toList = none by
        rw [getT, HG.out, HK.out]
        simp only
        rw [if_neg (fun h => hkn (by have := h.2; rw [List.length_drop, HZ.out] at this; omega))])
      have HR := Lib.hid (GotT.no (c := 12) HT.out (by decide))
      have t2 : decide ((s.size : Int) - (k : Int) < (n : Int)) = true := decide_eq_true (by omega)
      clear hkn
      go_wp2
      all_goals (
        refine bodyPost_ret (results_tri rfl _ _ _) rfl ?_
        exact ⟨HR.out, rfl⟩)
end Go.Proofs.YtlpipoihinceiaaGreatDoor
/- ref28.Reader: Number, Text -/
namespace Go.Proofs.YtlpipoihinceiaaGreatDoor
open Go.RowKit Go.Proofs Go.Shelf

/-- A reader's fields. -/
def rdS : Rd → ByteArray
  | none => ⟨#[]⟩
  | some l => ⟨l.toArray⟩
def rdF : Rd → Bool
  | none => true
  | some _ => false
theorem extract_rest {s : ByteArray} {k : Nat} {r : List UInt8} (h : r = s.data.toList.drop k) : (⟨r.toArray⟩ : ByteArray) = s.extract k s.size := by
  rw [h, extract_list, List.take_of_length_le (by rw [List.length_drop]; simp)]
theorem duo_set {W : World} {b : Nat} {t : TypeId} {c0 c1 : Value} (h : W.heap[b]? = some (.cells #[c0, c1] t (0, 0))) (u0 u1 : Value) :
    ((W.setCell ⟨b, 0, none⟩ u0).setCell ⟨b, 1, none⟩ u1).heap[b]? = some (.cells #[u0, u1] t (0, 0)) := by
  simp [World.setCell, Array.getElem?_modify, h]
theorem getN_nil : getN [] = none := rfl
theorem getT_nil : getT [] = none := rfl

set_option maxRecDepth 100000 in
set_option maxHeartbeats 2000000 in
theorem rdNumber_no (s : ByteArray) (b : Bool) (w : World) (hg : getN s.data.toList = none) :
    Calls Tryz.prog 95 #[.agg #[.string s, .bool b]] w fun e w' => e = .returned (.tuple #[.int .i64 0, .agg #[.string (rdS none), .bool (rdF none)]]) ∧ Below w.heap.size w w' := by
  obtain ⟨W1, hW1⟩ : ∃ W1, (w.alloc (.cells #[.string s, .bool b] 141)).alloc (.cells #[.string ⟨#[]⟩, .bool false] 141) = W1 := ⟨_, rfl⟩
  have hB1 : Below w.heap.size w W1 := by rw [← hW1]; exact ((Below.refl _ _).alloc (Nat.le_refl _) _).alloc (by simp) _
  have hx0 : W1.heap[w.heap.size]? = some (.cells #[.string s, .bool b] 141 (0, 0)) := by rw [← hW1]; exact (Below.heap_alloc _ _ _ (by simp)).trans (heap_alloc_new w _)
  have hy0 : W1.heap[w.heap.size + 1]? = some (.cells #[.string ⟨#[]⟩, .bool false] 141 (0, 0)) := by
    have h := heap_alloc_new (w.alloc (.cells #[.string s, .bool b] 141)) (.cells #[.string ⟨#[]⟩, .bool false] 141)
    rw [hW1] at h
    simpa using h
  have x0 := cell_of_row W1 w.heap.size 0 _ _ (0, 0) hx0
  have x1 := cell_of_row W1 w.heap.size 1 _ _ (0, 0) hx0
  have y0 := cell_of_row W1 (w.heap.size + 1) 0 _ _ (0, 0) hy0
  have y1 := cell_of_row W1 (w.heap.size + 1) 1 _ _ (0, 0) hy0
  have z0 := frozen_of_row W1 (w.heap.size + 1) 0 _ _ hy0
  have z1 := frozen_of_row W1 (w.heap.size + 1) 1 _ _ hy0
  simp at x0 x1 y0 y1
  have hgi := GetInt01_any s W1
  have HGI := Lib.hid (show Calls Tryz.prog 149 #[.string s] W1 fun e w' => (∃ c : Int, (c != 0) = true ∧ e = .returned (.tuple #[.int .i64 0, .int .i64 0, .int .i64 c])) ∧ W1 = w' from hgi.mono fun e w' ⟨h1, h2⟩ => ⟨by unfold GotN at h1; rw [hg] at h1; exact h1, h2⟩)
  have HB1 := Lib.hid hB1
  have HY := Lib.hid hy0
  clear hgi hg hx0 hy0 hB1
  go_enter Tryz.func95, Tryz.ntmps95
  go_wp2_with fail
  refine HGI.out.mono ?_
  rintro e w1 ⟨⟨c, hc, rfl⟩, rfl⟩
  clear HGI
  cases b
  all_goals (
    go_wp2
    have hs := duo_set HY.out (.string ⟨#[]⟩) (.bool true)
    have hB := (HB1.out.setCell (p := ⟨w.heap.size + 1, 0, none⟩) (by simp) (.string ⟨#[]⟩)).setCell (p := ⟨w.heap.size + 1, 1, none⟩) (by simp) (.bool true)
    have s0 := cell_of_row _ (w.heap.size + 1) 0 _ _ (0, 0) hs
    have s1 := cell_of_row _ (w.heap.size + 1) 1 _ _ (0, 0) hs
    generalize (W1.setCell ⟨w.heap.size + 1, 0, none⟩ (.string ⟨#[]⟩)).setCell ⟨w.heap.size + 1, 1, none⟩ (.bool true) = W9 at s0 s1 hB ⊢
    simp at s0 s1
    refine bodyPost_ret (v := .tuple #[.int .i64 0, .agg #[.string ⟨#[]⟩, .bool true]]) (by simp [results, Tryz.results95, go_sem, s0, s1]) rfl ⟨rfl, hB⟩)
set_option maxRecDepth 100000 in
set_option maxHeartbeats 2000000 in
theorem rdNumber_ok (s : ByteArray) (n : Nat) (r : List UInt8) (w : World) (hg : getN s.data.toList = some (n, r)) :
    Calls Tryz.prog 95 #[.agg #[.string s, .bool false]] w fun e w' => e = .returned (.tuple #[.int .i64 (n : Int), .agg #[.string (rdS (some r)), .bool (rdF (some r))]]) ∧ Below w.heap.size w w' := by
  obtain ⟨b, hb⟩ : ∃ b, false = b := ⟨_, rfl⟩
  rw [hb]
  obtain ⟨W1, hW1⟩ : ∃ W1, (w.alloc (.cells #[.string s, .bool b] 141)).alloc (.cells #[.string ⟨#[]⟩, .bool false] 141) = W1 := ⟨_, rfl⟩
  have hB1 : Below w.heap.size w W1 := by rw [← hW1]; exact ((Below.refl _ _).alloc (Nat.le_refl _) _).alloc (by simp) _
  have hx0 : W1.heap[w.heap.size]? = some (.cells #[.string s, .bool b] 141 (0, 0)) := by rw [← hW1]; exact (Below.heap_alloc _ _ _ (by simp)).trans (heap_alloc_new w _)
  have hy0 : W1.heap[w.heap.size + 1]? = some (.cells #[.string ⟨#[]⟩, .bool false] 141 (0, 0)) := by
    have h := heap_alloc_new (w.alloc (.cells #[.string s, .bool b] 141)) (.cells #[.string ⟨#[]⟩, .bool false] 141)
    rw [hW1] at h
    simpa using h
  have x0 := cell_of_row W1 w.heap.size 0 _ _ (0, 0) hx0
  have x1 := cell_of_row W1 w.heap.size 1 _ _ (0, 0) hx0
  have y0 := cell_of_row W1 (w.heap.size + 1) 0 _ _ (0, 0) hy0
  have y1 := cell_of_row W1 (w.heap.size + 1) 1 _ _ (0, 0) hy0
  have z0 := frozen_of_row W1 (w.heap.size + 1) 0 _ _ hy0
  have z1 := frozen_of_row W1 (w.heap.size + 1) 1 _ _ hy0
  simp at x0 x1 y0 y1
  subst hb
  have hgi := GetInt01_any s W1
  have HGI := Lib.hid (show Calls Tryz.prog 149 #[.string s] W1 fun e w' => (∃ k : Nat, k ≤ s.size ∧ r = s.data.toList.drop k ∧ e = .returned (.tuple #[.int .i64 (n : Int), .int .i64 (k : Int), .int .i64 0])) ∧ W1 = w' from hgi.mono fun e w' ⟨h1, h2⟩ => ⟨by unfold GotN at h1; rw [hg] at h1; exact h1, h2⟩)
  have HB1 := Lib.hid hB1
  have HY := Lib.hid hy0
  clear hgi hg hx0 hy0 hB1
  go_enter Tryz.func95, Tryz.ntmps95
  go_wp2_with fail
  refine HGI.out.mono ?_
  rintro e w1 ⟨⟨k, hk, hr, rfl⟩, rfl⟩
  have HE := Lib.hid (extract_rest hr)
  have j0 : (0 : Int) ≤ (k : Int) := by omega
  have j3 : (k : Int) ≤ (s.size : Int) := by omega
  clear HGI hr
  go_wp2
  go_region
  all_goals (
    go_wp2
    have hs := duo_set HY.out (.string (s.extract k s.size)) (.bool false)
    have hB := below_drew ((HB1.out.setCell (p := ⟨w.heap.size + 1, 0, none⟩) (by simp) (.string (s.extract k s.size))).setCell (p := ⟨w.heap.size + 1, 1, none⟩) (by simp) (.bool false))
    have s0 := cell_of_row _ (w.heap.size + 1) 0 _ _ (0, 0) hs
    have s1 := cell_of_row _ (w.heap.size + 1) 1 _ _ (0, 0) hs
    generalize (W1.setCell ⟨w.heap.size + 1, 0, none⟩ (.string (s.extract k s.size))).setCell ⟨w.heap.size + 1, 1, none⟩ (.bool false) = W9 at s0 s1 hB ⊢
    simp at s0 s1
    refine bodyPost_ret (v := .tuple #[.int .i64 (n : Int), .agg #[.string (s.extract k s.size), .bool false]]) (by simp [results, Tryz.results95, go_sem, s0, s1]) rfl ⟨by rw [rdS, HE.out]; rfl, hB⟩)
set_option maxRecDepth 100000 in
set_option maxHeartbeats 2000000 in
theorem rdText_no (s : ByteArray) (b : Bool) (w : World) (hs : s.size ≤ 4611686018427387904) (hg : getT s.data.toList = none) :
    Calls Tryz.prog 93 #[.agg #[.string s, .bool b]] w fun e w' => e = .returned (.tuple #[.string ⟨#[]⟩, .agg #[.string (rdS none), .bool (rdF none)]]) ∧ Below w.heap.size w w' := by
  obtain ⟨W1, hW1⟩ : ∃ W1, (w.alloc (.cells #[.string s, .bool b] 141)).alloc (.cells #[.string ⟨#[]⟩, .bool false] 141) = W1 := ⟨_, rfl⟩
  have hB1 : Below w.heap.size w W1 := by rw [← hW1]; exact ((Below.refl _ _).alloc (Nat.le_refl _) _).alloc (by simp) _
  have hx0 : W1.heap[w.heap.size]? = some (.cells #[.string s, .bool b] 141 (0, 0)) := by rw [← hW1]; exact (Below.heap_alloc _ _ _ (by simp)).trans (heap_alloc_new w _)
  have hy0 : W1.heap[w.heap.size + 1]? = some (.cells #[.string ⟨#[]⟩, .bool false] 141 (0, 0)) := by
    have h := heap_alloc_new (w.alloc (.cells #[.string s, .bool b] 141)) (.cells #[.string ⟨#[]⟩, .bool false] 141)
    rw [hW1] at h
    simpa using h
  have x0 := cell_of_row W1 w.heap.size 0 _ _ (0, 0) hx0
  have x1 := cell_of_row W1 w.heap.size 1 _ _ (0, 0) hx0
  have y0 := cell_of_row W1 (w.heap.size + 1) 0 _ _ (0, 0) hy0
  have y1 := cell_of_row W1 (w.heap.size + 1) 1 _ _ (0, 0) hy0
  have z0 := frozen_of_row W1 (w.heap.size + 1) 0 _ _ hy0
  have z1 := frozen_of_row W1 (w.heap.size + 1) 1 _ _ hy0
  simp at x0 x1 y0 y1
  have hgi := GetText01_any s W1 hs
  have HGI := Lib.hid (show Calls Tryz.prog 147 #[.string s] W1 fun e w' => (∃ c : Int, (c != 0) = true ∧ e = .returned (.tuple #[.string ⟨#[]⟩, .int .i64 0, .int .i64 c])) ∧ W1 = w' from hgi.mono fun e w' ⟨h1, h2⟩ => ⟨by unfold GotT at h1; rw [hg] at h1; exact h1, h2⟩)
  have HB1 := Lib.hid hB1
  have HY := Lib.hid hy0
  clear hgi hg hx0 hy0 hB1
  go_enter Tryz.func93, Tryz.ntmps93
  go_wp2_with fail
  refine HGI.out.mono ?_
  rintro e w1 ⟨⟨c, hc, rfl⟩, rfl⟩
  clear HGI
  cases b
  all_goals (
    go_wp2
    have hs := duo_set HY.out (.string ⟨#[]⟩) (.bool true)
    have hB := (HB1.out.setCell (p := ⟨w.heap.size + 1, 0, none⟩) (by simp) (.string ⟨#[]⟩)).setCell (p := ⟨w.heap.size + 1, 1, none⟩) (by simp) (.bool true)
    have s0 := cell_of_row _ (w.heap.size + 1) 0 _ _ (0, 0) hs
    have s1 := cell_of_row _ (w.heap.size + 1) 1 _ _ (0, 0) hs
    generalize (W1.setCell ⟨w.heap.size + 1, 0, none⟩ (.string ⟨#[]⟩)).setCell ⟨w.heap.size + 1, 1, none⟩ (.bool true) = W9 at s0 s1 hB ⊢
    simp at s0 s1
    refine bodyPost_ret (v := .tuple #[.string ⟨#[]⟩, .agg #[.string ⟨#[]⟩, .bool true]]) (by simp [results, Tryz.results93, go_sem, s0, s1]) rfl ⟨rfl, hB⟩)
set_option maxRecDepth 100000 in
set_option maxHeartbeats 2000000 in
theorem rdText_ok (s : ByteArray) (n : List UInt8) (r : List UInt8) (w : World) (hs : s.size ≤ 4611686018427387904) (hg : getT s.data.toList = some (n, r)) :
    Calls Tryz.prog 93 #[.agg #[.string s, .bool false]] w fun e w' => e = .returned (.tuple #[.string ⟨n.toArray⟩, .agg #[.string (rdS (some r)), .bool (rdF (some r))]]) ∧ Below w.heap.size w w' := by
  obtain ⟨b, hb⟩ : ∃ b, false = b := ⟨_, rfl⟩
  rw [hb]
  obtain ⟨W1, hW1⟩ : ∃ W1, (w.alloc (.cells #[.string s, .bool b] 141)).alloc (.cells #[.string ⟨#[]⟩, .bool false] 141) = W1 := ⟨_, rfl⟩
  have hB1 : Below w.heap.size w W1 := by rw [← hW1]; exact ((Below.refl _ _).alloc (Nat.le_refl _) _).alloc (by simp) _
  have hx0 : W1.heap[w.heap.size]? = some (.cells #[.string s, .bool b] 141 (0, 0)) := by rw [← hW1]; exact (Below.heap_alloc _ _ _ (by simp)).trans (heap_alloc_new w _)
  have hy0 : W1.heap[w.heap.size + 1]? = some (.cells #[.string ⟨#[]⟩, .bool false] 141 (0, 0)) := by
    have h := heap_alloc_new (w.alloc (.cells #[.string s, .bool b] 141)) (.cells #[.string ⟨#[]⟩, .bool false] 141)
    rw [hW1] at h
    simpa using h
  have x0 := cell_of_row W1 w.heap.size 0 _ _ (0, 0) hx0
  have x1 := cell_of_row W1 w.heap.size 1 _ _ (0, 0) hx0
  have y0 := cell_of_row W1 (w.heap.size + 1) 0 _ _ (0, 0) hy0
  have y1 := cell_of_row W1 (w.heap.size + 1) 1 _ _ (0, 0) hy0
  have z0 := frozen_of_row W1 (w.heap.size + 1) 0 _ _ hy0
  have z1 := frozen_of_row W1 (w.heap.size + 1) 1 _ _ hy0
  simp at x0 x1 y0 y1
  subst hb
  have hgi := GetText01_any s W1 hs
  have HGI := Lib.hid (show Calls Tryz.prog 147 #[.string s] W1 fun e w' => (∃ k : Nat, k ≤ s.size ∧ r = s.data.toList.drop k ∧ e = .returned (.tuple #[.string ⟨n.toArray⟩, .int .i64 (k : Int), .int .i64 0])) ∧ W1 = w' from hgi.mono fun e w' ⟨h1, h2⟩ => ⟨by unfold GotT at h1; rw [hg] at h1; exact h1, h2⟩)
  have HB1 := Lib.hid hB1
  have HY := Lib.hid hy0
  clear hgi hg hx0 hy0 hB1
  go_enter Tryz.func93, Tryz.ntmps93
  go_wp2_with fail
  refine HGI.out.mono ?_
  rintro e w1 ⟨⟨k, hk, hr, rfl⟩, rfl⟩
  have HE := Lib.hid (extract_rest hr)
  have j0 : (0 : Int) ≤ (k : Int) := by omega
  have j3 : (k : Int) ≤ (s.size : Int) := by omega
  clear HGI hr
  go_wp2
  go_region
  all_goals (
    go_wp2
    have hs := duo_set HY.out (.string (s.extract k s.size)) (.bool false)
    have hB := below_drew ((HB1.out.setCell (p := ⟨w.heap.size + 1, 0, none⟩) (by simp) (.string (s.extract k s.size))).setCell (p := ⟨w.heap.size + 1, 1, none⟩) (by simp) (.bool false))
    have s0 := cell_of_row _ (w.heap.size + 1) 0 _ _ (0, 0) hs
    have s1 := cell_of_row _ (w.heap.size + 1) 1 _ _ (0, 0) hs
    generalize (W1.setCell ⟨w.heap.size + 1, 0, none⟩ (.string (s.extract k s.size))).setCell ⟨w.heap.size + 1, 1, none⟩ (.bool false) = W9 at s0 s1 hB ⊢
    simp at s0 s1
    refine bodyPost_ret (v := .tuple #[.string ⟨n.toArray⟩, .agg #[.string (s.extract k s.size), .bool false]]) (by simp [results, Tryz.results93, go_sem, s0, s1]) rfl ⟨by rw [rdS, HE.out]; rfl, hB⟩)

theorem rdNumber_any (r : Rd) (w : World) :
    Calls Tryz.prog 95 #[.agg #[.string (rdS r), .bool (rdF r)]] w fun e w' => e = .returned (.tuple #[.int .i64 ((rdN r).1 : Int), .agg #[.string (rdS (rdN r).2), .bool (rdF (rdN r).2)]]) ∧ Below w.heap.size w w' := by
  cases r with
  | none => exact rdNumber_no ⟨#[]⟩ true w getN_nil
  | some l =>
    cases hg : getN l with
    | none =>
      have := rdNumber_no ⟨l.toArray⟩ false w hg
      rw [rdN, hg]
      exact this
    | some p =>
      have := rdNumber_ok ⟨l.toArray⟩ p.1 p.2 w hg
      rw [rdN, hg]
      exact this
theorem rdText_any (r : Rd) (w : World) (hz : rsz r ≤ 1001) :
    Calls Tryz.prog 93 #[.agg #[.string (rdS r), .bool (rdF r)]] w fun e w' => e = .returned (.tuple #[.string ⟨(rdT r).1.toArray⟩, .agg #[.string (rdS (rdT r).2), .bool (rdF (rdT r).2)]]) ∧ Below w.heap.size w w' := by
  cases r with
  | none => exact rdText_no ⟨#[]⟩ true w (by decide) getT_nil
  | some l =>
    have hs : (⟨l.toArray⟩ : ByteArray).size ≤ 4611686018427387904 := by
      show l.toArray.size ≤ _
      rw [List.size_toArray]
      simp only [rsz] at hz
      omega
    cases hg : getT l with
    | none =>
      have := rdText_no ⟨l.toArray⟩ false w hs hg
      rw [rdT, hg]
      exact this
    | some p =>
      have := rdText_ok ⟨l.toArray⟩ p.1 p.2 w hs hg
      rw [rdT, hg]
      exact this
end Go.Proofs.YtlpipoihinceiaaGreatDoor
/- ref28.Reader: instr -/
namespace Go.Proofs.YtlpipoihinceiaaGreatDoor
open Go.RowKit Go.Proofs Go.Shelf

/-- In the midst of reading an instruction. -/
structure RIn (w0 : World) (R : Rd) (op a b : Int) (nm : ByteArray) (X : World) : Prop where
  rd : X.heap[w0.heap.size]? = some (.cells #[.string (rdS R), .bool (rdF R)] 141 (0, 0))
  rs : X.heap[w0.heap.size + 1]? = some (.cells #[.int .i64 0, .int .i64 0, .int .i64 0, .string ⟨#[]⟩] 130 (0, 0))
  rr : X.heap[w0.heap.size + 1 + 1]? = some (.cells #[.string ⟨#[]⟩, .bool false] 141 (0, 0))
  it : X.heap[w0.heap.size + 1 + 1 + 1]? = some (.cells #[.int .i64 op, .int .i64 a, .int .i64 b, .string nm] 130 (0, 0))
  bl : Below w0.heap.size w0 X
section
variable {w0 : World} {R : Rd} {op a b : Int} {nm : ByteArray} {X : World}
theorem RIn.keep (h : RIn w0 R op a b nm X) {Y : World} (hb : Below X.heap.size X Y) : RIn w0 R op a b nm Y :=
  ⟨(hb.block _ (lt_of_block h.rd)).trans h.rd, (hb.block _ (lt_of_block h.rs)).trans h.rs, (hb.block _ (lt_of_block h.rr)).trans h.rr, (hb.block _ (lt_of_block h.it)).trans h.it, h.bl.trans (hb.mono h.bl.size)⟩
theorem RIn.setR (h : RIn w0 R op a b nm X) (R' : Rd) : RIn w0 R' op a b nm ((X.setCell ⟨w0.heap.size, 0, none⟩ (.string (rdS R'))).setCell ⟨w0.heap.size, 1, none⟩ (.bool (rdF R'))) := by
  refine ⟨duo_set h.rd _ _, ?_, ?_, ?_, (h.bl.setCell (by simp <;> omega) _).setCell (by simp <;> omega) _⟩
  · exact (Below.heap_setCell _ _ _ _ (by simp <;> omega)).trans ((Below.heap_setCell _ _ _ _ (by simp <;> omega)).trans h.rs)
  · exact (Below.heap_setCell _ _ _ _ (by simp <;> omega)).trans ((Below.heap_setCell _ _ _ _ (by simp <;> omega)).trans h.rr)
  · exact (Below.heap_setCell _ _ _ _ (by simp <;> omega)).trans ((Below.heap_setCell _ _ _ _ (by simp <;> omega)).trans h.it)
theorem RIn.setOp (h : RIn w0 R op a b nm X) (v : Int) : RIn w0 R v a b nm (X.setCell ⟨w0.heap.size + 1 + 1 + 1, 0, none⟩ (.int .i64 v)) :=
  ⟨(Below.heap_setCell _ _ _ _ (by simp <;> omega)).trans h.rd, (Below.heap_setCell _ _ _ _ (by simp <;> omega)).trans h.rs, (Below.heap_setCell _ _ _ _ (by simp <;> omega)).trans h.rr, by simp [World.setCell, Array.getElem?_modify, h.it], h.bl.setCell (by simp <;> omega) _⟩
theorem RIn.setA (h : RIn w0 R op a b nm X) (v : Int) : RIn w0 R op v b nm (X.setCell ⟨w0.heap.size + 1 + 1 + 1, 1, none⟩ (.int .i64 v)) :=
  ⟨(Below.heap_setCell _ _ _ _ (by simp <;> omega)).trans h.rd, (Below.heap_setCell _ _ _ _ (by simp <;> omega)).trans h.rs, (Below.heap_setCell _ _ _ _ (by simp <;> omega)).trans h.rr, by simp [World.setCell, Array.getElem?_modify, h.it], h.bl.setCell (by simp <;> omega) _⟩
theorem RIn.setB (h : RIn w0 R op a b nm X) (v : Int) : RIn w0 R op a v nm (X.setCell ⟨w0.heap.size + 1 + 1 + 1, 2, none⟩ (.int .i64 v)) :=
  ⟨(Below.heap_setCell _ _ _ _ (by simp <;> omega)).trans h.rd, (Below.heap_setCell _ _ _ _ (by simp <;> omega)).trans h.rs, (Below.heap_setCell _ _ _ _ (by simp <;> omega)).trans h.rr, by simp [World.setCell, Array.getElem?_modify, h.it], h.bl.setCell (by simp <;> omega) _⟩
theorem RIn.setN (h : RIn w0 R op a b nm X) (v : ByteArray) : RIn w0 R op a b v (X.setCell ⟨w0.heap.size + 1 + 1 + 1, 3, none⟩ (.string v)) :=
  ⟨(Below.heap_setCell _ _ _ _ (by simp <;> omega)).trans h.rd, (Below.heap_setCell _ _ _ _ (by simp <;> omega)).trans h.rs, (Below.heap_setCell _ _ _ _ (by simp <;> omega)).trans h.rr, by simp [World.setCell, Array.getElem?_modify, h.it], h.bl.setCell (by simp <;> omega) _⟩
theorem RIn.cells (h : RIn w0 R op a b nm X) : X.cell? ⟨w0.heap.size, 0, none⟩ = some (.string (rdS R)) ∧ X.cell? ⟨w0.heap.size, 1, none⟩ = some (.bool (rdF R)) ∧ X.frozen? ⟨w0.heap.size, 0, none⟩ = false ∧ X.frozen? ⟨w0.heap.size, 1, none⟩ = false :=
  ⟨cell_of_row X _ 0 _ _ (0, 0) h.rd, cell_of_row X _ 1 _ _ (0, 0) h.rd, frozen_of_row X _ 0 _ _ h.rd, frozen_of_row X _ 1 _ _ h.rd⟩
theorem RIn.cellsI (h : RIn w0 R op a b nm X) : X.cell? ⟨w0.heap.size + 1 + 1 + 1, 0, none⟩ = some (.int .i64 op) ∧ X.cell? ⟨w0.heap.size + 1 + 1 + 1, 1, none⟩ = some (.int .i64 a) ∧ X.cell? ⟨w0.heap.size + 1 + 1 + 1, 2, none⟩ = some (.int .i64 b) ∧ X.cell? ⟨w0.heap.size + 1 + 1 + 1, 3, none⟩ = some (.string nm) ∧ X.frozen? ⟨w0.heap.size + 1 + 1 + 1, 0, none⟩ = false ∧ X.frozen? ⟨w0.heap.size + 1 + 1 + 1, 1, none⟩ = false ∧ X.frozen? ⟨w0.heap.size + 1 + 1 + 1, 2, none⟩ = false ∧ X.frozen? ⟨w0.heap.size + 1 + 1 + 1, 3, none⟩ = false :=
  ⟨cell_of_row X _ 0 _ _ (0, 0) h.it, cell_of_row X _ 1 _ _ (0, 0) h.it, cell_of_row X _ 2 _ _ (0, 0) h.it, cell_of_row X _ 3 _ _ (0, 0) h.it, frozen_of_row X _ 0 _ _ h.it, frozen_of_row X _ 1 _ _ h.it, frozen_of_row X _ 2 _ _ h.it, frozen_of_row X _ 3 _ _ h.it⟩
theorem RIn.cellsO (h : RIn w0 R op a b nm X) : (X.cell? ⟨w0.heap.size + 1, 0, none⟩ = some (.int .i64 0) ∧ X.cell? ⟨w0.heap.size + 1, 1, none⟩ = some (.int .i64 0) ∧ X.cell? ⟨w0.heap.size + 1, 2, none⟩ = some (.int .i64 0) ∧ X.cell? ⟨w0.heap.size + 1, 3, none⟩ = some (.string ⟨#[]⟩)) ∧ (X.frozen? ⟨w0.heap.size + 1, 0, none⟩ = false ∧ X.frozen? ⟨w0.heap.size + 1, 1, none⟩ = false ∧ X.frozen? ⟨w0.heap.size + 1, 2, none⟩ = false ∧ X.frozen? ⟨w0.heap.size + 1, 3, none⟩ = false) ∧ X.cell? ⟨w0.heap.size + 1 + 1, 0, none⟩ = some (.string ⟨#[]⟩) ∧ X.cell? ⟨w0.heap.size + 1 + 1, 1, none⟩ = some (.bool false) ∧ X.frozen? ⟨w0.heap.size + 1 + 1, 0, none⟩ = false ∧ X.frozen? ⟨w0.heap.size + 1 + 1, 1, none⟩ = false :=
  ⟨⟨cell_of_row X _ 0 _ _ (0, 0) h.rs, cell_of_row X _ 1 _ _ (0, 0) h.rs, cell_of_row X _ 2 _ _ (0, 0) h.rs, cell_of_row X _ 3 _ _ (0, 0) h.rs⟩, ⟨frozen_of_row X _ 0 _ _ h.rs, frozen_of_row X _ 1 _ _ h.rs, frozen_of_row X _ 2 _ _ h.rs, frozen_of_row X _ 3 _ _ h.rs⟩, cell_of_row X _ 0 _ _ (0, 0) h.rr, cell_of_row X _ 1 _ _ (0, 0) h.rr, frozen_of_row X _ 0 _ _ h.rr, frozen_of_row X _ 1 _ _ h.rr⟩
/-- The world when the results have been stored. -/
def ends (w0 X : World) (op a b : Int) (nm s : ByteArray) (f : Bool) : World :=
  (((((X.setCell ⟨w0.heap.size + 1, 0, none⟩ (.int .i64 op)).setCell ⟨w0.heap.size + 1, 1, none⟩ (.int .i64 a)).setCell ⟨w0.heap.size + 1, 2, none⟩ (.int .i64 b)).setCell ⟨w0.heap.size + 1, 3, none⟩ (.string nm)).setCell ⟨w0.heap.size + 1 + 1, 0, none⟩ (.string s)).setCell ⟨w0.heap.size + 1 + 1, 1, none⟩ (.bool f)
theorem RIn.ends (h : RIn w0 R op a b nm X) (s : ByteArray) (f : Bool) :
    (ends w0 X op a b nm s f).heap[w0.heap.size + 1]? = some (.cells #[.int .i64 op, .int .i64 a, .int .i64 b, .string nm] 130 (0, 0)) ∧
    (ends w0 X op a b nm s f).heap[w0.heap.size + 1 + 1]? = some (.cells #[.string s, .bool f] 141 (0, 0)) ∧ Below w0.heap.size w0 (ends w0 X op a b nm s f) := by
  refine ⟨?_, ?_, (((((h.bl.setCell (by simp <;> omega) _).setCell (by simp <;> omega) _).setCell (by simp <;> omega) _).setCell (by simp <;> omega) _).setCell (by simp <;> omega) _).setCell (by simp <;> omega) _⟩
  · exact (Below.heap_setCell _ _ _ _ (by simp <;> omega)).trans ((Below.heap_setCell _ _ _ _ (by simp <;> omega)).trans (by simp [World.setCell, Array.getElem?_modify, h.rs]))
  · refine duo_set (c0 := .string ⟨#[]⟩) (c1 := .bool false) ?_ _ _
    exact (Below.heap_setCell _ _ _ _ (by simp <;> omega)).trans ((Below.heap_setCell _ _ _ _ (by simp <;> omega)).trans ((Below.heap_setCell _ _ _ _ (by simp <;> omega)).trans ((Below.heap_setCell _ _ _ _ (by simp <;> omega)).trans h.rr)))
end

set_option maxRecDepth 100000 in
set_option maxHeartbeats 8000000 in
theorem rdInstr_any (r : Rd) (w : World) (hz : rsz r ≤ 1001) :
    Calls Tryz.prog 148 #[.agg #[.string (rdS r), .bool (rdF r)]] w fun e w' => e = .returned (.tuple #[.agg #[.int .i64 (rdI r).1.op, .int .i64 (rdI r).1.a, .int .i64 (rdI r).1.b, .string (rdI r).1.nm], .agg #[.string (rdS (rdI r).2), .bool (rdF (rdI r).2)]]) ∧ Below w.heap.size w w' := by
  obtain ⟨W1, hW1⟩ : ∃ W1, (((w.alloc (.cells #[.string (rdS r), .bool (rdF r)] 141)).alloc (.cells #[.int .i64 0, .int .i64 0, .int .i64 0, .string ⟨#[]⟩] 130)).alloc (.cells #[.string ⟨#[]⟩, .bool false] 141)).alloc (.cells #[.int .i64 0, .int .i64 0, .int .i64 0, .string ⟨#[]⟩] 130) = W1 := ⟨_, rfl⟩
  have h1 : RIn w r 0 0 0 ⟨#[]⟩ W1 := by
    rw [← hW1]
    refine ⟨?_, ?_, ?_, ?_, (((((Below.refl _ _).alloc (Nat.le_refl _) _).alloc (by simp) _).alloc (by simp; omega) _).alloc (by simp; omega) _)⟩
    · rw [Below.heap_alloc _ _ _ (by simp; omega), Below.heap_alloc _ _ _ (by simp; omega), Below.heap_alloc _ _ _ (by simp)]
      exact heap_alloc_new w _
    · rw [Below.heap_alloc _ _ _ (by simp), Below.heap_alloc _ _ _ (by simp)]
      have := heap_alloc_new (w.alloc (.cells #[.string (rdS r), .bool (rdF r)] 141)) (.cells #[.int .i64 0, .int .i64 0, .int .i64 0, .string ⟨#[]⟩] 130)
      simpa using this
    · rw [Below.heap_alloc _ _ _ (by simp)]
      have := heap_alloc_new ((w.alloc (.cells #[.string (rdS r), .bool (rdF r)] 141)).alloc (.cells #[.int .i64 0, .int .i64 0, .int .i64 0, .string ⟨#[]⟩] 130)) (.cells #[.string ⟨#[]⟩, .bool false] 141)
      simpa using this
    · have := heap_alloc_new (((w.alloc (.cells #[.string (rdS r), .bool (rdF r)] 141)).alloc (.cells #[.int .i64 0, .int .i64 0, .int .i64 0, .string ⟨#[]⟩] 130)).alloc (.cells #[.string ⟨#[]⟩, .bool false] 141)) (.cells #[.int .i64 0, .int .i64 0, .int .i64 0, .string ⟨#[]⟩] 130)
      simpa using this
  obtain ⟨N1, HN1⟩ : ∃ q, Hid ((rdN r).1 = q) := ⟨_, Lib.hid rfl⟩
  obtain ⟨R1, HR1⟩ : ∃ q, Hid ((rdN r).2 = q) := ⟨_, Lib.hid rfl⟩
  obtain ⟨N2, HN2⟩ : ∃ q, Hid ((rdN R1).1 = q) := ⟨_, Lib.hid rfl⟩
  obtain ⟨R2, HR2⟩ : ∃ q, Hid ((rdN R1).2 = q) := ⟨_, Lib.hid rfl⟩
  obtain ⟨N3, HN3⟩ : ∃ q, Hid ((rdN R2).1 = q) := ⟨_, Lib.hid rfl⟩
  obtain ⟨R3, HR3⟩ : ∃ q, Hid ((rdN R2).2 = q) := ⟨_, Lib.hid rfl⟩
  obtain ⟨T4, HT4⟩ : ∃ q : ByteArray, Hid (⟨(rdT R3).1.toArray⟩ = q) := ⟨_, Lib.hid rfl⟩
  obtain ⟨R4, HR4⟩ : ∃ q, Hid ((rdT R3).2 = q) := ⟨_, Lib.hid rfl⟩
  obtain ⟨A2, HA2⟩ : ∃ q, Hid (sgnV N2 = q) := ⟨_, Lib.hid rfl⟩
  have hI : rdI r = (⟨(N1 : Int), A2, (N3 : Int), T4⟩, R4) := by
    rw [rdI, HR1.out, HN1.out, HR2.out, HN2.out, HR3.out, HN3.out, HT4.out, HR4.out, HA2.out]
  rw [hI]
  have HZ3 := Lib.hid (show rsz R3 ≤ 1001 by
    have e1 := rdN_le r
    have e2 := rdN_le R1
    have e3 := rdN_le R2
    rw [HR1.out] at e1
    rw [HR2.out] at e2
    rw [HR3.out] at e3
    omega)
  have b1 : (N2 : Int) ≤ 1099511627776 := by
    have := rdN_max R1
    rw [HN2.out] at this
    omega
  have b0 : (0 : Int) ≤ (N2 : Int) := by omega
  have HC1 := Lib.hid (show ∀ X, Calls Tryz.prog 95 #[.agg #[.string (rdS r), .bool (rdF r)]] X fun e Y => e = .returned (.tuple #[.int .i64 (N1 : Int), .agg #[.string (rdS R1), .bool (rdF R1)]]) ∧ Below X.heap.size X Y from fun X => by
    have := rdNumber_any r X
    rwa [HN1.out, HR1.out] at this)
  have HC2 := Lib.hid (show ∀ X, Calls Tryz.prog 95 #[.agg #[.string (rdS R1), .bool (rdF R1)]] X fun e Y => e = .returned (.tuple #[.int .i64 (N2 : Int), .agg #[.string (rdS R2), .bool (rdF R2)]]) ∧ Below X.heap.size X Y from fun X => by
    have := rdNumber_any R1 X
    rwa [HN2.out, HR2.out] at this)
  have HC3 := Lib.hid (show ∀ X, Calls Tryz.prog 95 #[.agg #[.string (rdS R2), .bool (rdF R2)]] X fun e Y => e = .returned (.tuple #[.int .i64 (N3 : Int), .agg #[.string (rdS R3), .bool (rdF R3)]]) ∧ Below X.heap.size X Y from fun X => by
    have := rdNumber_any R2 X
    rwa [HN3.out, HR3.out] at this)
  have HC4 := Lib.hid (show ∀ X, Calls Tryz.prog 93 #[.agg #[.string (rdS R3), .bool (rdF R3)]] X fun e Y => e = .returned (.tuple #[.string T4, .agg #[.string (rdS R4), .bool (rdF R4)]]) ∧ Below X.heap.size X Y from fun X => by
    have := rdText_any R3 X HZ3.out
    rwa [HT4.out, HR4.out] at this)
  have HH1 := Lib.hid h1
  have HW1 := Lib.hid hW1
  clear h1 hW1 hI hz
  obtain ⟨x0, x1, x2, x3⟩ := HH1.out.cells
  go_enter Tryz.func148, Tryz.ntmps148
  go_wp2_with fail
  rw [HW1.out]
  refine (HC1.out _).mono ?_
  rintro e w1 ⟨rfl, hb1⟩
  have h2 := HH1.out.keep hb1
  clear hb1 x0 x1 x2 x3
  obtain ⟨x0, x1, x2, x3⟩ := h2.cells
  obtain ⟨y0, y1, y2, y3, y4, y5, y6, y7⟩ := h2.cellsI
  have HH2 := Lib.hid ((h2.setOp (N1 : Int)).setR R1)
  clear h2
  go_wp2_with fail
  refine (HC2.out _).mono ?_
  rintro e w2 ⟨rfl, hb2⟩
  have h3 := HH2.out.keep hb2
  clear hb2 x0 x1 x2 x3 y0 y1 y2 y3 y4 y5 y6 y7
  obtain ⟨x0, x1, x2, x3⟩ := h3.cells
  have HH3 := Lib.hid (h3.setR R2)
  clear h3
  go_wp2_with fail
  refine (HC3.out _).mono ?_
  rintro e w3 ⟨rfl, hb3⟩
  have h4 := HH3.out.keep hb3
  clear hb3 x0 x1 x2 x3
  obtain ⟨x0, x1, x2, x3⟩ := h4.cells
  obtain ⟨y0, y1, y2, y3, y4, y5, y6, y7⟩ := h4.cellsI
  have HH4 := Lib.hid ((h4.setB (N3 : Int)).setR R3)
  clear h4
  go_wp2_with fail
  refine (HC4.out _).mono ?_
  rintro e w4 ⟨rfl, hb4⟩
  have h5 := HH4.out.keep hb4
  clear hb4 x0 x1 x2 x3 y0 y1 y2 y3 y4 y5 y6 y7
  obtain ⟨x0, x1, x2, x3⟩ := h5.cells
  obtain ⟨y0, y1, y2, y3, y4, y5, y6, y7⟩ := h5.cellsI
  have HH5 := Lib.hid ((h5.setN T4).setR R4)
  clear h5
  cases h2 : ((N2 : Int) % 2 == 1) with
  | true =>
    have HE := Lib.hid (show -((N2 : Int) / 2) = A2 by
      have : (N2 : Int) % 2 = 1 := by simpa using h2
      rw [← HA2.out, sgnV, if_pos (by omega)]
      omega)
    go_wp2_with fail
    have h6 := (HH5.out.setA ((N2 : Int) / 2)).setA (-((N2 : Int) / 2))
    clear x0 x1 x2 x3 y0 y1 y2 y3 y4 y5 y6 y7
    obtain ⟨W6, hW6⟩ : ∃ q, ((((w4.setCell ⟨w.heap.size + 1 + 1 + 1, 3, none⟩ (.string T4)).setCell ⟨w.heap.size, 0, none⟩ (.string (rdS R4))).setCell ⟨w.heap.size, 1, none⟩ (.bool (rdF R4))).setCell ⟨w.heap.size + 1 + 1 + 1, 1, none⟩ (.int .i64 ((N2 : Int) / 2))).setCell ⟨w.heap.size + 1 + 1 + 1, 1, none⟩ (.int .i64 (-((N2 : Int) / 2))) = q := ⟨_, rfl⟩
    rw [hW6] at h6 ⊢
    have h6' : RIn w R4 (N1 : Int) A2 (N3 : Int) T4 W6 := by rw [← HE.out]; exact h6
    clear hW6 h6
    obtain ⟨x0, x1, x2, x3⟩ := h6'.cells
    obtain ⟨y0, y1, y2, y3, y4, y5, y6, y7⟩ := h6'.cellsI
    obtain ⟨⟨v0, v1, v2, v3⟩, ⟨f0, f1, f2, f3⟩, u0, u1, u2, u3⟩ := h6'.cellsO
    have HH6 := Lib.hid h6'
    clear h6'
    go_region
    all_goals (
      go_wp2
      obtain ⟨s1, s2, hB⟩ := HH6.out.ends (rdS R4) (rdF R4)
      have hB' := below_drew hB
      have c0 := cell_of_row _ (w.heap.size + 1) 0 _ _ (0, 0) s1
      have c1 := cell_of_row _ (w.heap.size + 1) 1 _ _ (0, 0) s1
      have c2 := cell_of_row _ (w.heap.size + 1) 2 _ _ (0, 0) s1
      have c3 := cell_of_row _ (w.heap.size + 1) 3 _ _ (0, 0) s1
      have c4 := cell_of_row _ (w.heap.size + 1 + 1) 0 _ _ (0, 0) s2
      have c5 := cell_of_row _ (w.heap.size + 1 + 1) 1 _ _ (0, 0) s2
      clear s1 s2 hB
      unfold ends at c0 c1 c2 c3 c4 c5 hB'
      generalize ((((((W6.setCell ⟨w.heap.size + 1, 0, none⟩ (.int .i64 (N1 : Int))).setCell ⟨w.heap.size + 1, 1, none⟩ (.int .i64 A2)).setCell ⟨w.heap.size + 1, 2, none⟩ (.int .i64 (N3 : Int))).setCell ⟨w.heap.size + 1, 3, none⟩ (.string T4)).setCell ⟨w.heap.size + 1 + 1, 0, none⟩ (.string (rdS R4))).setCell ⟨w.heap.size + 1 + 1, 1, none⟩ (.bool (rdF R4))) = W9 at c0 c1 c2 c3 c4 c5 hB' ⊢
      simp at c0 c1 c2 c3 c4 c5
      exact bodyPost_ret (v := .tuple #[.agg #[.int .i64 (N1 : Int), .int .i64 A2, .int .i64 (N3 : Int), .string T4], .agg #[.string (rdS R4), .bool (rdF R4)]]) (by simp [results, Tryz.results148, go_sem, c0, c1, c2, c3, c4, c5]) rfl ⟨rfl, hB'⟩)
  | false =>
    have HE := Lib.hid (show (N2 : Int) / 2 = A2 by
      have : ¬ (N2 : Int) % 2 = 1 := by simpa using h2
      rw [← HA2.out, sgnV, if_neg (by omega)]
      omega)
    go_wp2_with fail
    have h6 := HH5.out.setA ((N2 : Int) / 2)
    clear x0 x1 x2 x3 y0 y1 y2 y3 y4 y5 y6 y7
    obtain ⟨W6, hW6⟩ : ∃ q, (((w4.setCell ⟨w.heap.size + 1 + 1 + 1, 3, none⟩ (.string T4)).setCell ⟨w.heap.size, 0, none⟩ (.string (rdS R4))).setCell ⟨w.heap.size, 1, none⟩ (.bool (rdF R4))).setCell ⟨w.heap.size + 1 + 1 + 1, 1, none⟩ (.int .i64 ((N2 : Int) / 2)) = q := ⟨_, rfl⟩
    rw [hW6] at h6 ⊢
    have h6' : RIn w R4 (N1 : Int) A2 (N3 : Int) T4 W6 := by rw [← HE.out]; exact h6
    clear hW6 h6
    obtain ⟨x0, x1, x2, x3⟩ := h6'.cells
    obtain ⟨y0, y1, y2, y3, y4, y5, y6, y7⟩ := h6'.cellsI
    obtain ⟨⟨v0, v1, v2, v3⟩, ⟨f0, f1, f2, f3⟩, u0, u1, u2, u3⟩ := h6'.cellsO
    have HH6 := Lib.hid h6'
    clear h6'
    go_region
    all_goals (
      go_wp2
      obtain ⟨s1, s2, hB⟩ := HH6.out.ends (rdS R4) (rdF R4)
      have hB' := below_drew hB
      have c0 := cell_of_row _ (w.heap.size + 1) 0 _ _ (0, 0) s1
      have c1 := cell_of_row _ (w.heap.size + 1) 1 _ _ (0, 0) s1
      have c2 := cell_of_row _ (w.heap.size + 1) 2 _ _ (0, 0) s1
      have c3 := cell_of_row _ (w.heap.size + 1) 3 _ _ (0, 0) s1
      have c4 := cell_of_row _ (w.heap.size + 1 + 1) 0 _ _ (0, 0) s2
      have c5 := cell_of_row _ (w.heap.size + 1 + 1) 1 _ _ (0, 0) s2
      clear s1 s2 hB
      unfold ends at c0 c1 c2 c3 c4 c5 hB'
      generalize ((((((W6.setCell ⟨w.heap.size + 1, 0, none⟩ (.int .i64 (N1 : Int))).setCell ⟨w.heap.size + 1, 1, none⟩ (.int .i64 A2)).setCell ⟨w.heap.size + 1, 2, none⟩ (.int .i64 (N3 : Int))).setCell ⟨w.heap.size + 1, 3, none⟩ (.string T4)).setCell ⟨w.heap.size + 1 + 1, 0, none⟩ (.string (rdS R4))).setCell ⟨w.heap.size + 1 + 1, 1, none⟩ (.bool (rdF R4))) = W9 at c0 c1 c2 c3 c4 c5 hB' ⊢
      simp at c0 c1 c2 c3 c4 c5
      exact bodyPost_ret (v := .tuple #[.agg #[.int .i64 (N1 : Int), .int .i64 A2, .int .i64 (N3 : Int), .string T4], .agg #[.string (rdS R4), .bool (rdF R4)]]) (by simp [results, Tryz.results148, go_sem, c0, c1, c2, c3, c4, c5]) rfl ⟨rfl, hB'⟩)
end Go.Proofs.YtlpipoihinceiaaGreatDoor
/- ref28.Reader: Blocks -/
namespace Go.Proofs.YtlpipoihinceiaaGreatDoor
open Go.RowKit Go.Proofs Go.Shelf

/-- In the midst of reading a block; w0 is the world ahead of it. -/
structure RBi (rb : Nat) (w0 : World) (R : Rd) (cap : Int) (par : Bool) (v : Value) (ins : List Ins) (X : World) : Prop where
  rd : X.heap[rb]? = some (.cells #[.string (rdS R), .bool (rdF R)] 141 (0, 0))
  bk : X.heap[w0.heap.size]? = some (.cells #[.int .i64 cap, .bool par, v] 133 (0, 0))
  own : InsAt (w0.heap.size + 1) X v ins
  kp : Keeps (fun k => k ≠ rb) w0 X
  lt : rb < w0.heap.size
section
variable {rb : Nat} {w0 : World} {R : Rd} {cap : Int} {par : Bool} {v : Value} {ins : List Ins} {X : World}
theorem RBi.keep (h : RBi rb w0 R cap par v ins X) {Y : World} (hb : Below X.heap.size X Y) : RBi rb w0 R cap par v ins Y :=
  ⟨(hb.block _ (lt_of_block h.rd)).trans h.rd, (hb.block _ (lt_of_block h.bk)).trans h.bk, h.own.keep fun k _ _ _ hc => hb.block k (lt_of_block hc), h.kp.trans (Keeps.whole hb _), h.lt⟩
theorem RBi.alloc (h : RBi rb w0 R cap par v ins X) (o : Obj) : RBi rb w0 R cap par v ins (X.alloc o) := h.keep ((Below.refl _ _).alloc (Nat.le_refl _) o)
theorem RBi.setR (h : RBi rb w0 R cap par v ins X) (R' : Rd) : RBi rb w0 R' cap par v ins ((X.setCell ⟨rb, 0, none⟩ (.string (rdS R'))).setCell ⟨rb, 1, none⟩ (.bool (rdF R'))) := by
  have hlt := h.lt
  refine ⟨duo_set h.rd _ _, ?_, h.own.keep fun k _ _ hk _ => ?_, (h.kp.setCell (by simp) _).setCell (by simp) _, hlt⟩
  · exact (Below.heap_setCell _ _ _ _ (by simp <;> omega)).trans ((Below.heap_setCell _ _ _ _ (by simp <;> omega)).trans h.bk)
  · exact (Below.heap_setCell _ _ _ _ (by simp <;> omega)).trans (Below.heap_setCell _ _ _ _ (by simp <;> omega))
theorem RBi.setC (h : RBi rb w0 R cap par v ins X) (i : Nat) (u : Value) {cap' : Int} {par' : Bool} (hb : (X.setCell ⟨w0.heap.size, i, none⟩ u).heap[w0.heap.size]? = some (.cells #[.int .i64 cap', .bool par', v] 133 (0, 0))) : RBi rb w0 R cap' par' v ins (X.setCell ⟨w0.heap.size, i, none⟩ u) := by
  have hlt := h.lt
  refine ⟨(Below.heap_setCell _ _ _ _ (by simp <;> omega)).trans h.rd, hb, h.own.keep fun k _ _ hk _ => Below.heap_setCell _ _ _ _ (by simp <;> omega), ⟨h.kp.os, h.kp.tape, h.kp.output, by have := h.kp.size; simpa [World.setCell] using this, fun k hk hs => (Below.heap_setCell _ _ _ _ (by simp <;> omega)).trans (h.kp.block k hk hs)⟩, hlt⟩
theorem RBi.setCap (h : RBi rb w0 R cap par v ins X) (n : Int) : RBi rb w0 R n par v ins (X.setCell ⟨w0.heap.size, 0, none⟩ (.int .i64 n)) := h.setC 0 _ (by simp [World.setCell, Array.getElem?_modify, h.bk])
theorem RBi.setPar (h : RBi rb w0 R cap par v ins X) (p : Bool) : RBi rb w0 R cap p v ins (X.setCell ⟨w0.heap.size, 1, none⟩ (.bool p)) := h.setC 1 _ (by simp [World.setCell, Array.getElem?_modify, h.bk])
theorem RBi.cells (h : RBi rb w0 R cap par v ins X) : X.cell? ⟨rb, 0, none⟩ = some (.string (rdS R)) ∧ X.cell? ⟨rb, 1, none⟩ = some (.bool (rdF R)) ∧ X.frozen? ⟨rb, 0, none⟩ = false ∧ X.frozen? ⟨rb, 1, none⟩ = false :=
  ⟨cell_of_row X _ 0 _ _ (0, 0) h.rd, cell_of_row X _ 1 _ _ (0, 0) h.rd, frozen_of_row X _ 0 _ _ h.rd, frozen_of_row X _ 1 _ _ h.rd⟩
theorem RBi.cellsB (h : RBi rb w0 R cap par v ins X) : X.cell? ⟨w0.heap.size, 0, none⟩ = some (.int .i64 cap) ∧ X.cell? ⟨w0.heap.size, 1, none⟩ = some (.bool par) ∧ X.cell? ⟨w0.heap.size, 2, none⟩ = some v ∧ X.frozen? ⟨w0.heap.size, 0, none⟩ = false ∧ X.frozen? ⟨w0.heap.size, 1, none⟩ = false ∧ X.frozen? ⟨w0.heap.size, 2, none⟩ = false :=
  ⟨cell_of_row X _ 0 _ _ (0, 0) h.bk, cell_of_row X _ 1 _ _ (0, 0) h.bk, cell_of_row X _ 2 _ _ (0, 0) h.bk, frozen_of_row X _ 0 _ _ h.bk, frozen_of_row X _ 1 _ _ h.bk, frozen_of_row X _ 2 _ _ h.bk⟩
/-- A block of another kind stands when the row grows. -/
theorem RBi.far (h : RBi rb w0 R cap par v ins X) {w7 : World} (hg : X.grownBy w7 v.ownBlock) {k : Nat} {cs : Array Value} {t : TypeId} {fz : Nat × Nat} (hc : X.heap[k]? = some (.cells cs t fz)) (ht : 130 ≠ t) : w7.heap[k]? = some (.cells cs t fz) :=
  (hg.block k (lt_of_block hc) (fun e => own_ne h.own hc ht e.symm)).trans hc
theorem RBi.push (h : RBi rb w0 R cap par v ins X) {w7 : World} (hg : X.grownBy w7 v.ownBlock) {v' : Value} {x : Ins} (hown : w7.ownsRow (w0.heap.size + 1) 130 4 v' (ins.length + 1) (insC ins ++ x.cells)) :
    RBi rb w0 R cap par v' (ins ++ [x]) (w7.setCell ⟨w0.heap.size, 2, none⟩ v') := by
  have hlt := h.lt
  have hb7 := h.far hg h.bk (by decide)
  have hr7 := h.far hg h.rd (by decide)
  refine ⟨(Below.heap_setCell _ _ _ _ (by simp <;> omega)).trans hr7, by simp [World.setCell, Array.getElem?_modify, hb7], ?_, ⟨hg.os.trans h.kp.os, hg.tape.trans h.kp.tape, hg.output.trans h.kp.output, ?_, fun k hk hs => ?_⟩, hlt⟩
  · unfold InsAt
    rw [List.length_append, insC_append]
    refine ownsRow_setCell_other (by simpa [insC] using hown) ?_ _
    exact own_ne hown hb7 (by decide)
  · have h1 := hg.size
    have h2 := h.kp.size
    simp [World.setCell] at h1 ⊢
    omega
  · have h2 := h.kp.size
    refine (Below.heap_setCell _ _ _ _ (by simp <;> omega)).trans ((hg.block k (by omega) (fun e => ?_)).trans (h.kp.block k hk hs))
    have := (World.ownsRow.lt h.own k e.symm).1
    omega
end

/-- In the midst of reading blocks. -/
structure RBs (w0 : World) (R : Rd) (bv : Value) (BS : List Bg) (bl : List Blk) (X : World) : Prop where
  rd : X.heap[w0.heap.size]? = some (.cells #[.string (rdS R), .bool (rdF R)] 141 (0, 0))
  rs : X.heap[w0.heap.size + 1]? = some (.cells #[.string ⟨#[]⟩, .bool false] 141 (0, 0))
  bown : X.ownsRow (w0.heap.size + 1) 133 3 bv BS.length (bgC BS)
  blks : BlksAt (w0.heap.size + 1) X BS bl
  bw : Below w0.heap.size w0 X
section
variable {w0 : World} {R : Rd} {bv : Value} {BS : List Bg} {bl : List Blk} {X : World}
theorem RBs.turn (h : RBs w0 R bv BS bl X) {Y : World} {R' : Rd} (hr : Y.heap[w0.heap.size]? = some (.cells #[.string (rdS R'), .bool (rdF R')] 141 (0, 0))) (hk : Keeps (fun k => k ≠ w0.heap.size) X Y) : RBs w0 R' bv BS bl Y := by
  have hb : ∀ k o, w0.heap.size + 1 ≤ k → X.heap[k]? = some o → Y.heap[k]? = X.heap[k]? := fun k o hB ho => hk.block k (Array.getElem?_eq_some_iff.1 ho).1 (by omega)
  exact ⟨hr, (hb _ _ (Nat.le_refl _) h.rs).trans h.rs, row_keep h.bown fun k _ _ hB hc => hb k _ hB hc, BlksAt.keep (fun k _ _ hB hc => hb k _ hB hc) h.blks, h.bw.trans (hk.to_below h.bw.size (fun k hk => by omega))⟩
theorem RBs.keep (h : RBs w0 R bv BS bl X) {Y : World} (hb : Below X.heap.size X Y) : RBs w0 R bv BS bl Y := h.turn ((hb.block _ (lt_of_block h.rd)).trans h.rd) (Keeps.whole hb _)
theorem RBs.setR (h : RBs w0 R bv BS bl X) (R' : Rd) : RBs w0 R' bv BS bl ((X.setCell ⟨w0.heap.size, 0, none⟩ (.string (rdS R'))).setCell ⟨w0.heap.size, 1, none⟩ (.bool (rdF R'))) :=
  h.turn (duo_set h.rd _ _) (((Keeps.refl _ _).setCell (by simp) _).setCell (by simp) _)
theorem RBs.cells (h : RBs w0 R bv BS bl X) : X.cell? ⟨w0.heap.size, 0, none⟩ = some (.string (rdS R)) ∧ X.cell? ⟨w0.heap.size, 1, none⟩ = some (.bool (rdF R)) ∧ X.frozen? ⟨w0.heap.size, 0, none⟩ = false ∧ X.frozen? ⟨w0.heap.size, 1, none⟩ = false :=
  ⟨cell_of_row X _ 0 _ _ (0, 0) h.rd, cell_of_row X _ 1 _ _ (0, 0) h.rd, frozen_of_row X _ 0 _ _ h.rd, frozen_of_row X _ 1 _ _ h.rd⟩
theorem RBs.start (h : RBs w0 R bv BS bl X) : RBi w0.heap.size X R 0 false (.slice none 0 0) [] (X.alloc (.cells #[.int .i64 0, .bool false, .slice none 0 0] 133)) :=
  ⟨(Below.heap_alloc _ _ _ (lt_of_block h.rd)).trans h.rd, heap_alloc_new X _, World.ownsRow_nil _ _ _ _, (Keeps.refl _ _).alloc _, lt_of_block h.rd⟩
theorem RBs.pushB (h : RBs w0 R bv BS bl X) {w7 : World} (hg : X.grownBy w7 bv.ownBlock) {bv' : Value} {cap : Int} {par : Bool} {v : Value} {ins : List Ins} (hi : InsAt (w0.heap.size + 1) X v ins)
    (hown : w7.ownsRow (w0.heap.size + 1) 133 3 bv' (BS.length + 1) (bgC BS ++ [.int .i64 cap, .bool par, v])) : RBs w0 R bv' (BS ++ [⟨cap, par, v⟩]) (bl ++ [⟨cap, par, ins⟩]) w7 := by
  have hk : ∀ (k : Nat) (cur : Array Value) (t : TypeId) (fz : Nat × Nat), X.heap[k]? = some (.cells cur t fz) → 133 ≠ t → w7.heap[k]? = X.heap[k]? := fun k cur t fz hc ht => hg.block k (lt_of_block hc) (fun e => own_ne h.bown hc ht e.symm)
  refine ⟨(hk _ _ _ _ h.rd (by decide)).trans h.rd, (hk _ _ _ _ h.rs (by decide)).trans h.rs, by rw [List.length_append, bgC_append]; exact hown, ?_, ?_⟩
  · have h1 : InsAt (w0.heap.size + 1) w7 v ins := hi.keep fun k cur fz _ hc => hk k cur _ fz hc (by decide)
    exact BlksAt.append (l' := [⟨cap, par, v⟩]) (m' := [⟨cap, par, ins⟩]) ⟨rfl, rfl, h1, trivial⟩ (BlksAt.keep (fun k cur fz _ hc => hk k cur _ fz hc (by decide)) h.blks)
  · refine ⟨hg.os.trans h.bw.os, hg.tape.trans h.bw.tape, hg.output.trans h.bw.output, Nat.le_trans h.bw.size hg.size, fun k hlt => (hg.block k (Nat.lt_of_lt_of_le hlt h.bw.size) (fun e => ?_)).trans (h.bw.block k hlt)⟩
    have := (World.ownsRow.lt h.bown k e.symm).1
    omega
end
end Go.Proofs.YtlpipoihinceiaaGreatDoor
/- ref28.Reader: Blocks, the walk -/
namespace Go.Proofs.YtlpipoihinceiaaGreatDoor
open Go.RowKit Go.Proofs Go.Shelf

attribute [local go_sem ↓] Go.wp_at_zero Go.wp_at_succ

theorem number_c (R : Rd) {n : Nat} {R' : Rd} (h1 : (rdN R).1 = n) (h2 : (rdN R).2 = R') (X : World) :
    Calls Tryz.prog 95 #[.agg #[.string (rdS R), .bool (rdF R)]] X fun e Y => e = .returned (.tuple #[.int .i64 (n : Int), .agg #[.string (rdS R'), .bool (rdF R')]]) ∧ Below X.heap.size X Y := by
  have := rdNumber_any R X
  rwa [h1, h2] at this
theorem instr_c (l : List UInt8) {x : Ins} {R' : Rd} (h1 : (rdI (some l)).1 = x) (h2 : (rdI (some l)).2 = R') (hz : rsz (some l) ≤ 1001) (X : World) :
    Calls Tryz.prog 148 #[.agg #[.string ⟨l.toArray⟩, .bool false]] X fun e Y => e = .returned (.tuple #[.agg #[.int .i64 x.op, .int .i64 x.a, .int .i64 x.b, .string x.nm], .agg #[.string (rdS R'), .bool (rdF R')]]) ∧ Below X.heap.size X Y := by
  have := rdInstr_any (some l) X hz
  rwa [h1, h2] at this

/-- What Blocks answers. -/
def BsR (w : World) (bl : List Blk) (R : Rd) (e : Ending) (w' : World) : Prop :=
  ∃ A c BS, e = .returned (.tuple #[.slice A bl.length c, .agg #[.string (rdS R), .bool (rdF R)]]) ∧ w'.ownsRow w.heap.size 133 3 (.slice A bl.length c) BS.length (bgC BS) ∧ BlksAt w.heap.size w' BS bl ∧ Below w.heap.size w w'

theorem RBs.fin {w0 X : World} {R : Rd} {A : Option Addr} {c : Nat} {BS : List Bg} {bl : List Blk} (h : RBs w0 R (.slice A BS.length c) BS bl X) :
    BsR w0 bl R (.returned (.tuple #[.slice A BS.length c, .agg #[.string (rdS R), .bool (rdF R)]])) ((X.setCell ⟨w0.heap.size + 1, 0, none⟩ (.string (rdS R))).setCell ⟨w0.heap.size + 1, 1, none⟩ (.bool (rdF R))).drew := by
  have hk : ∀ (k : Nat) (cur : Array Value) (t : TypeId) (fz : Nat × Nat), X.heap[k]? = some (.cells cur t fz) → 141 ≠ t → ((X.setCell ⟨w0.heap.size + 1, 0, none⟩ (.string (rdS R))).setCell ⟨w0.heap.size + 1, 1, none⟩ (.bool (rdF R))).drew.heap[k]? = X.heap[k]? := fun k cur t fz hc ht => by
    have hne : k ≠ w0.heap.size + 1 := tag_ne hc h.rs ht.symm
    exact (Below.heap_setCell _ _ _ _ hne).trans (Below.heap_setCell _ _ _ _ hne)
  have hl := h.blks.length
  refine ⟨A, c, BS, by rw [hl], ?_, ?_, below_drew ((h.bw.setCell (by simp) _).setCell (by simp) _)⟩
  · rw [← hl]
    exact World.ownsRow.mono (row_keep h.bown fun k cur fz _ hc => hk k cur _ fz hc (by decide)) (by omega)
  · exact BlksAt.mono (by omega) (BlksAt.keep (fun k cur fz _ hc => hk k cur _ fz hc (by decide)) h.blks)

set_option maxRecDepth 100000 in
set_option maxHeartbeats 16000000 in
theorem rdBlocks_any (r : Rd) (w : World) (hz : rsz r ≤ 1001) :
    Calls Tryz.prog 94 #[.agg #[.string (rdS r), .bool (rdF r)]] w (BsR w (rdBs r).1 (rdBs r).2) := by
  obtain ⟨W1, hW1⟩ : ∃ W1, (w.alloc (.cells #[.string (rdS r), .bool (rdF r)] 141)).alloc (.cells #[.string ⟨#[]⟩, .bool false] 141) = W1 := ⟨_, rfl⟩
  have h1 : RBs w r (.slice none 0 0) [] [] W1 := by
    rw [← hW1]
    refine ⟨?_, ?_, World.ownsRow_nil _ _ _ _, trivial, ((Below.refl _ _).alloc (Nat.le_refl _) _).alloc (by simp) _⟩
    · rw [Below.heap_alloc _ _ _ (by simp)]
      exact heap_alloc_new w _
    · have := heap_alloc_new (w.alloc (.cells #[.string (rdS r), .bool (rdF r)] 141)) (.cells #[.string ⟨#[]⟩, .bool false] 141)
      simpa using this
  obtain ⟨N, HN⟩ : ∃ q, Hid ((rdN r).1 = q) := ⟨_, Lib.hid rfl⟩
  obtain ⟨R1, HR1⟩ : ∃ q, Hid ((rdN r).2 = q) := ⟨_, Lib.hid rfl⟩
  have hNb : (N : Int) ≤ 1099511627776 := by
    have := rdN_max r
    rw [HN.out] at this
    omega
  have HBS := Lib.hid (show rdBs r = rdRep rdB N R1 by rw [rdBs, HN.out, HR1.out])
  have HZ1 := Lib.hid (show rsz R1 ≤ 1001 by
    have := rdN_le r
    rw [HR1.out] at this
    omega)
  have HC1 := Lib.hid (number_c r HN.out HR1.out W1)
  have HH1 := Lib.hid h1
  have HW1 := Lib.hid hW1
  clear h1 hW1 hz
  obtain ⟨x0, x1, x2, x3⟩ := HH1.out.cells
  go_enter Tryz.func94, Tryz.ntmps94
  go_wp2_with fail
  rw [HW1.out]
  refine HC1.out.mono ?_
  rintro e w1 ⟨rfl, hb1⟩
  have h2 := HH1.out.keep hb1
  clear hb1 x0 x1 x2 x3
  obtain ⟨x0, x1, x2, x3⟩ := h2.cells
  have HH2 := Lib.hid (h2.setR R1)
  clear h2
  go_wp2_with fail
  go_loopg [5, 6] N (fun g bv ct wr => ∃ (j : Nat) (R : Rd) (BS : List Bg) (bl : List Blk), g = N - j ∧ j ≤ N ∧ ct = .int .i64 j ∧ RBs w R bv BS bl wr ∧ Hid (RMid rdB N R1 j bl R) ∧ bl.length + rsz R ≤ 1001)
  case atStart => exact ⟨0, R1, [], [], rfl, by omega, rfl, HH2.out, Lib.hid (RMid.start _ _ _), by have := HZ1.out; simpa using this⟩
  case round =>
    obtain ⟨j, R, BS, bl, HG, hj, rfl, hRB, HM, hcnt⟩ := hrel
    obtain ⟨wo, rfl⟩ : ∃ q, q = wr := ⟨_, rfl⟩
    have HG' := Lib.hid HG
    have HCN := Lib.hid hcnt
    clear HG hcnt
    obtain ⟨x0, x1, x2, x3⟩ := hRB.cells
    have hcase : (∃ l, j < N ∧ R = some l) ∨ (j < N ∧ R = none) ∨ j = N := by
      by_cases h : j < N
      · cases R with
        | none => exact .inr (.inl ⟨h, rfl⟩)
        | some l => exact .inl ⟨l, h, rfl⟩
      · exact .inr (.inr (by omega))
    rcases hcase with ⟨l, hlt, rfl⟩ | ⟨hlt, hRn⟩ | hjN
    · have i1 : decide ((j : Int) < (N : Int)) = true := decide_eq_true (by omega)
      have x0' : wo.cell? ⟨w.heap.size, 0, none⟩ = some (.string ⟨l.toArray⟩) := x0
      have x1' : wo.cell? ⟨w.heap.size, 1, none⟩ = some (.bool false) := x1
      have HRB := Lib.hid hRB
      obtain ⟨c1, H1⟩ : ∃ q, Hid ((rdN (some l)).1 = q) := ⟨_, Lib.hid rfl⟩
      obtain ⟨S1, HS1⟩ : ∃ q, Hid ((rdN (some l)).2 = q) := ⟨_, Lib.hid rfl⟩
      obtain ⟨c2, H2⟩ : ∃ q, Hid ((rdN S1).1 = q) := ⟨_, Lib.hid rfl⟩
      obtain ⟨S2, HS2⟩ : ∃ q, Hid ((rdN S1).2 = q) := ⟨_, Lib.hid rfl⟩
      obtain ⟨K, H3⟩ : ∃ q, Hid ((rdN S2).1 = q) := ⟨_, Lib.hid rfl⟩
      obtain ⟨S3, HS3⟩ : ∃ q, Hid ((rdN S2).2 = q) := ⟨_, Lib.hid rfl⟩
      have hKb : (K : Int) ≤ 1099511627776 := by
        have := rdN_max S2
        rw [H3.out] at this
        omega
      have HZ3 := Lib.hid (show rsz S3 ≤ 1001 by
        have e1 := rdN_le (some l)
        have e2 := rdN_le S1
        have e3 := rdN_le S2
        have e4 := HCN.out
        rw [HS1.out] at e1
        rw [HS2.out] at e2
        rw [HS3.out] at e3
        omega)
      obtain ⟨par, HPA⟩ : ∃ q, Hid ((c2 == 1) = q) := ⟨_, Lib.hid rfl⟩
      have hpa : ((c2 : Int) == 1) = par := by
        rw [← HPA.out]
        cases hc : c2 == 1 with
        | true => simp at hc; simp [hc]
        | false => simp at hc; simp; omega
      have HBD := Lib.hid (show rdB (some l) = (⟨(c1 : Int), par, (rdRep rdI K S3).1⟩, (rdRep rdI K S3).2) by rw [rdB, HS1.out, H1.out, HS2.out, H2.out, HS3.out, H3.out, HPA.out])
      have HK1 := Lib.hid (number_c (some l) H1.out HS1.out (wo.alloc (.cells #[.int .i64 0, .bool false, .slice none 0 0] 133)))
      have HK2 := Lib.hid (number_c S1 H2.out HS2.out)
      have HK3 := Lib.hid (number_c S2 H3.out HS3.out)
      have HI1 := Lib.hid hRB.start
      have hrz := HI1.out.lt
      clear x0 x1 hRB
      go_wp2_with fail
      refine HK1.out.mono ?_
      rintro e w4 ⟨rfl, hb4⟩
      have h4 := HI1.out.keep hb4
      clear hb4 x0' x1' x2 x3
      obtain ⟨x0, x1, x2, x3⟩ := h4.cells
      obtain ⟨y0, y1, y2, y3, y4, y5⟩ := h4.cellsB
      have HH4 := Lib.hid ((h4.setCap (c1 : Int)).setR S1)
      clear h4
      go_wp2_with fail
      refine (HK2.out _).mono ?_
      rintro e w5 ⟨rfl, hb5⟩
      have h5 := HH4.out.keep hb5
      clear hb5 x0 x1 x2 x3 y0 y1 y2 y3 y4 y5
      obtain ⟨x0, x1, x2, x3⟩ := h5.cells
      obtain ⟨y0, y1, y2, y3, y4, y5⟩ := h5.cellsB
      have HH5 := Lib.hid ((h5.setR S2).setPar par)
      clear h5
      go_wp2_with fail
      refine (HK3.out _).mono ?_
      rintro e w6 ⟨rfl, hb6⟩
      have h6 := HH5.out.keep hb6
      clear hb6 x0 x1 x2 x3 y0 y1 y2 y3 y4 y5
      obtain ⟨x0, x1, x2, x3⟩ := h6.cells
      have HH6 := Lib.hid (h6.setR S3)
      clear h6
      go_wp2_with fail
      go_loopg [10] K (fun g kt wr => ∃ (i : Nat) (R : Rd) (v : Value) (ins : List Ins), g = K - i ∧ i ≤ K ∧ kt = .int .i64 i ∧ RBi w.heap.size wo R (c1 : Int) par v ins wr ∧ Hid (RMid rdI K S3 i ins R) ∧ ins.length + rsz R ≤ 1001)
      case atStart => exact ⟨0, S3, .slice none 0 0, [], rfl, by omega, rfl, HH6.out, Lib.hid (RMid.start _ _ _), by have := HZ3.out; simpa using this⟩
      case round =>
        obtain ⟨i, R, v, ins, HGi, hi, rfl, hRI, HMi, hcni⟩ := hrel
        have HGi' := Lib.hid HGi
        have HCNi := Lib.hid hcni
        clear HGi hcni x0 x1 x2 x3
        obtain ⟨x0, x1, x2, x3⟩ := hRI.cells
        have hcase : (∃ l2, i < K ∧ R = some l2) ∨ (i < K ∧ R = none) ∨ i = K := by
          by_cases h : i < K
          · cases R with
            | none => exact .inr (.inl ⟨h, rfl⟩)
            | some l2 => exact .inl ⟨l2, h, rfl⟩
          · exact .inr (.inr (by omega))
        have HRI := Lib.hid hRI
        clear hRI
        rcases hcase with ⟨l2, hlti, rfl⟩ | ⟨hlti, hRn⟩ | hik
        · have i2 : decide ((i : Int) < (K : Int)) = true := decide_eq_true (by omega)
          have x0' : wr.cell? ⟨w.heap.size, 0, none⟩ = some (.string ⟨l2.toArray⟩) := x0
          have x1' : wr.cell? ⟨w.heap.size, 1, none⟩ = some (.bool false) := x1
          obtain ⟨x, HX⟩ : ∃ q, Hid ((rdI (some l2)).1 = q) := ⟨_, Lib.hid rfl⟩
          obtain ⟨R', HR'⟩ : ∃ q, Hid ((rdI (some l2)).2 = q) := ⟨_, Lib.hid rfl⟩
          have HKI := Lib.hid (instr_c l2 HX.out HR'.out (by have := HCNi.out; omega))
          clear x0 x1
          go_wp2_with fail
          refine (HKI.out _).mono ?_
          rintro e w8 ⟨rfl, hb8⟩
          have h8 := HRI.out.keep hb8
          clear hb8 x0' x1' x2 x3
          have hw8 := lt_of_block h8.bk
          obtain ⟨W9, hW9⟩ : ∃ q, (w8.alloc (.cells #[.int .i64 x.op, .int .i64 x.a, .int .i64 x.b, .string x.nm] 130)).alloc (.cells #[.string (rdS R'), .bool (rdF R')] 141) = q := ⟨_, rfl⟩
          have h9 : RBi w.heap.size wo (some l2) (c1 : Int) par v ins W9 := by rw [← hW9]; exact (h8.alloc _).alloc _
          have hz9 : w8.heap.size + 1 + 1 = W9.heap.size := by rw [← hW9]; simp
          have hi9 : W9.heap[w8.heap.size]? = some (.cells #[.int .i64 x.op, .int .i64 x.a, .int .i64 x.b, .string x.nm] 130 (0, 0)) := by
            rw [← hW9, Below.heap_alloc _ _ _ (by simp)]
            exact heap_alloc_new w8 _
          have hr9 : W9.heap[w8.heap.size + 1]? = some (.cells #[.string (rdS R'), .bool (rdF R')] 141 (0, 0)) := by
            have := heap_alloc_new (w8.alloc (.cells #[.int .i64 x.op, .int .i64 x.a, .int .i64 x.b, .string x.nm] 130)) (.cells #[.string (rdS R'), .bool (rdF R')] 141)
            rw [hW9] at this
            simpa using this
          obtain ⟨y0, y1, y2, y3, y4, y5⟩ := h9.cellsB
          have z0 := cell_of_row W9 w8.heap.size 0 _ _ (0, 0) hi9
          have z1 := cell_of_row W9 w8.heap.size 1 _ _ (0, 0) hi9
          have z2 := cell_of_row W9 w8.heap.size 2 _ _ (0, 0) hi9
          have z3 := cell_of_row W9 w8.heap.size 3 _ _ (0, 0) hi9
          simp at z0 z1 z2 z3
          have h10 := h9.alloc (.cells #[.int .i64 x.op, .int .i64 x.a, .int .i64 x.b, .string x.nm] 130)
          have hr10 : (W9.alloc (.cells #[.int .i64 x.op, .int .i64 x.a, .int .i64 x.b, .string x.nm] 130)).heap[w8.heap.size + 1]? = some (.cells #[.string (rdS R'), .bool (rdF R')] 141 (0, 0)) := (Below.heap_alloc _ _ _ (lt_of_block hr9)).trans hr9
          have hnews : ∀ ad, (some ⟨W9.heap.size, 0, none⟩ : Option Addr) = some ad → ∀ q u, x.cells[q]? = some u → (W9.alloc (.cells #[.int .i64 x.op, .int .i64 x.a, .int .i64 x.b, .string x.nm] 130)).cell? (ad.add q) = some u := by
            intro ad e
            cases e
            exact World.news_of_block (cs := #[.int .i64 x.op, .int .i64 x.a, .int .i64 x.b, .string x.nm]) (t := 130) (fr := (0, 0)) (heap_alloc_new _ _)
          have HNW := Lib.hid hnews
          have HH10 := Lib.hid (And.intro h10 hr10)
          have hil : ins.length ≤ 1000 := by
            have := HCNi.out
            simp only [rsz] at this
            omega
          have hsz10 : wo.heap.size + 1 ≤ (W9.alloc (.cells #[.int .i64 x.op, .int .i64 x.a, .int .i64 x.b, .string x.nm] 130)).heap.size := by simp; omega
          have HSZ := Lib.hid hsz10
          obtain ⟨i0, hi, hz0, hz1, hz2⟩ := info_parts Tryz.infoInstr
          clear h8 h9 hi9 hr9 h10 hr10 hnews hsz10
          go_wp2_with (at_builtin; refine wpList_append_own_any _ rfl _ _ 131 rfl (wo.heap.size + 1) 130 i0 _ 4 40 Tryz.underlying131 hi hz0 hz1 hz2 rfl (by decide) v ins.length (insC ins) rfl HH10.out.1.own (some ⟨W9.heap.size, 0, none⟩) 1 1 x.cells rfl rfl (by simp) HNW.out (by simp [Ins.cells, Value.oneCell']) (by unfold maxLen; omega) (by omega) HSZ.out ?_; intro v' w7 hown7 hg7; obtain ⟨A7, c7, rfl⟩ := own_form hown7; have hp7 := HH10.out.1.push (x := x) hg7 hown7; have hb7 := HH10.out.1.far hg7 HH10.out.1.bk (by decide); have hq7 := HH10.out.1.far hg7 HH10.out.1.rd (by decide); have hr7 := HH10.out.1.far hg7 HH10.out.2 (by decide); have k0 := cell_of_row w7 wo.heap.size 2 _ _ (0, 0) hb7; have k1 := frozen_of_row w7 wo.heap.size 2 _ _ hb7; have k2 := cell_of_row w7 w.heap.size 0 _ _ (0, 0) hq7; have k3 := cell_of_row w7 w.heap.size 1 _ _ (0, 0) hq7; have k4 := frozen_of_row w7 w.heap.size 0 _ _ hq7; have k5 := frozen_of_row w7 w.heap.size 1 _ _ hq7; have k6 := cell_of_row w7 (w8.heap.size + 1) 0 _ _ (0, 0) hr7; have k7 := cell_of_row w7 (w8.heap.size + 1) 1 _ _ (0, 0) hr7; simp at k0 k2 k3 k6 k7; have HP7 := Lib.hid (hp7.setR R'); clear hp7 hb7 hq7 hr7)
          go_roundg (K - (i + 1))
          case measure => rw [HGi'.out]; omega
          case rel =>
            refine ⟨i + 1, R', _, ins ++ [x], rfl, by omega, by go_num, HP7.out, Lib.hid ?_, ?_⟩
            · have := HMi.out.step hlti
              rwa [HX.out, HR'.out] at this
            · have h1 := rdI_lt l2
              have h2 := HCNi.out
              rw [HR'.out] at h1
              rw [List.length_append, List.length_singleton]
              omega
        case' inr.inl =>
          have HXX := Lib.hid (show rdRep rdI K S3 = (ins, R) by rw [hRn]; rw [hRn] at HMi; exact HMi.out.bad)
          have i2 : decide ((i : Int) < (K : Int)) = true := decide_eq_true (by omega)
          have i3 : decide (i < K) = true := decide_eq_true hlti
          have hf : rdF R = true := by rw [hRn]; rfl
          rw [hf] at x1
          clear hlti hRn hf
        case' inr.inr =>
          have HXX := Lib.hid (show rdRep rdI K S3 = (ins, R) by rw [hik] at HMi; exact HMi.out.done)
          have i2 : decide ((i : Int) < (K : Int)) = false := decide_eq_false (by omega)
          have i3 : decide (i < K) = false := decide_eq_false (by omega)
          clear hik
        all_goals (
          have hT := HRB.out.turn HRI.out.rd HRI.out.kp
          have hA := hT.keep ((Below.refl _ _).alloc (Nat.le_refl _) (.cells #[.int .i64 (c1 : Int), .bool par, v] 133))
          have hiA : InsAt (w.heap.size + 1) (wr.alloc (.cells #[.int .i64 (c1 : Int), .bool par, v] 133)) v ins := World.ownsRow.mono ((HRI.out.alloc _).own) (by omega)
          obtain ⟨y0, y1, y2, y3, y4, y5⟩ := HRI.out.cellsB
          have HNW := Lib.hid (show ∀ ad, (some ⟨wr.heap.size, 0, none⟩ : Option Addr) = some ad → ∀ q u, ([.int .i64 (c1 : Int), .bool par, v] : List Value)[q]? = some u → (wr.alloc (.cells #[.int .i64 (c1 : Int), .bool par, v] 133)).cell? (ad.add q) = some u by
            intro ad e
            cases e
            exact World.news_of_block (cs := #[.int .i64 (c1 : Int), .bool par, v]) (t := 133) (fr := (0, 0)) (heap_alloc_new _ _))
          have hv1 : v.oneCell' = true := by
            obtain ⟨A, c, rfl⟩ := own_form HRI.out.own
            rfl
          have hbl : BS.length ≤ 1000 := by
            have h1 := HCN.out
            have h2 := hT.blks.length
            simp only [rsz] at h1
            omega
          have HHA := Lib.hid (And.intro hA hiA)
          have HSZ := Lib.hid (show w.heap.size + 1 ≤ (wr.alloc (.cells #[.int .i64 (c1 : Int), .bool par, v] 133)).heap.size by
            have := lt_of_block hA.rd
            omega)
          have HBL := Lib.hid hT.blks.length
          obtain ⟨i0, hi, hz0, hz1, hz2⟩ := info_parts Tryz.infoBlock
          clear hT hA hiA
          go_wp2_with (at_builtin; refine wpList_append_own_any _ rfl _ _ 59 rfl (w.heap.size + 1) 133 i0 _ 3 40 Tryz.underlying59 hi hz0 hz1 hz2 rfl (by decide) _ BS.length (bgC BS) rfl HHA.out.1.bown (some ⟨wr.heap.size, 0, none⟩) 1 1 [.int .i64 (c1 : Int), .bool par, v] rfl rfl (by simp) HNW.out (by intro u hu; simp at hu; rcases hu with rfl | rfl | rfl <;> first | rfl | exact hv1) (by unfold maxLen; omega) (by omega) HSZ.out ?_; intro bv' w7 hown7 hg7; have HP7 := Lib.hid (HHA.out.1.pushB hg7 HHA.out.2 hown7))
          go_roundg (N - (j + 1))
          case measure => rw [HG'.out]; omega
          case rel =>
            refine ⟨j + 1, R, _, _, rfl, by omega, by go_num, HP7.out, Lib.hid ?_, ?_⟩
            · have := HM.out.step hlt
              rw [HBD.out, HXX.out] at this
              exact this
            · have h1 := rdB_lt l
              have h2 := HCN.out
              rw [HBD.out, HXX.out] at h1
              rw [List.length_append, List.length_singleton]
              simp only at h1
              omega)
    · have HXX := Lib.hid (show rdRep rdB N R1 = (bl, R) by rw [hRn]; rw [hRn] at HM; exact HM.out.bad)
      have i2 : decide ((j : Int) < (N : Int)) = true := decide_eq_true (by omega)
      have i3 : decide (j < N) = true := decide_eq_true hlt
      have hf : rdF R = true := by rw [hRn]; rfl
      rw [hf] at x1
      clear hlt hRn
      obtain ⟨A, c, rfl⟩ := own_form hRB.bown
      have HB := Lib.hid (show rdBs r = (bl, R) by rw [HBS.out, HXX.out])
      have hF := hRB.fin
      rw [hf] at hF
      clear hf
      have HF := Lib.hid hF
      have y0 := cell_of_row wo (w.heap.size + 1) 0 _ _ (0, 0) hRB.rs
      have y1 := cell_of_row wo (w.heap.size + 1) 1 _ _ (0, 0) hRB.rs
      have y2 := frozen_of_row wo (w.heap.size + 1) 0 _ _ hRB.rs
      have y3 := frozen_of_row wo (w.heap.size + 1) 1 _ _ hRB.rs
      have HS := Lib.hid (duo_set hRB.rs (.string (rdS R)) (.bool true))
      simp at y0 y1
      clear hRB hF
      go_wp2_with fail
      go_region
      all_goals (
        go_wp2
        have hF := HF.out
        have s0 := cell_of_row _ (w.heap.size + 1) 0 _ _ (0, 0) HS.out
        have s1 := cell_of_row _ (w.heap.size + 1) 1 _ _ (0, 0) HS.out
        generalize (wo.setCell ⟨w.heap.size + 1, 0, none⟩ (.string (rdS R))).setCell ⟨w.heap.size + 1, 1, none⟩ (.bool true) = W9 at s0 s1 hF ⊢
        simp at s0 s1
        exact bodyPost_ret (v := .tuple #[.slice A BS.length c, .agg #[.string (rdS R), .bool true]]) (by simp [results, Tryz.results94, go_sem, s0, s1]) rfl (by rw [HB.out]; exact hF))
    · have HXX := Lib.hid (show rdRep rdB N R1 = (bl, R) by rw [hjN] at HM; exact HM.out.done)
      have i2 : decide ((j : Int) < (N : Int)) = false := decide_eq_false (by omega)
      have i3 : decide (j < N) = false := decide_eq_false (by omega)
      clear hjN
      obtain ⟨A, c, rfl⟩ := own_form hRB.bown
      have HB := Lib.hid (show rdBs r = (bl, R) by rw [HBS.out, HXX.out])
      have hF := hRB.fin
      have HF := Lib.hid hF
      have y0 := cell_of_row wo (w.heap.size + 1) 0 _ _ (0, 0) hRB.rs
      have y1 := cell_of_row wo (w.heap.size + 1) 1 _ _ (0, 0) hRB.rs
      have y2 := frozen_of_row wo (w.heap.size + 1) 0 _ _ hRB.rs
      have y3 := frozen_of_row wo (w.heap.size + 1) 1 _ _ hRB.rs
      have HS := Lib.hid (duo_set hRB.rs (.string (rdS R)) (.bool (rdF R)))
      simp at y0 y1
      clear hRB hF
      go_wp2_with fail
      go_region
      all_goals (
        go_wp2
        have hF := HF.out
        have s0 := cell_of_row _ (w.heap.size + 1) 0 _ _ (0, 0) HS.out
        have s1 := cell_of_row _ (w.heap.size + 1) 1 _ _ (0, 0) HS.out
        generalize (wo.setCell ⟨w.heap.size + 1, 0, none⟩ (.string (rdS R))).setCell ⟨w.heap.size + 1, 1, none⟩ (.bool (rdF R)) = W9 at s0 s1 hF ⊢
        simp at s0 s1
        exact bodyPost_ret (v := .tuple #[.slice A BS.length c, .agg #[.string (rdS R), .bool (rdF R)]]) (by simp [results, Tryz.results94, go_sem, s0, s1]) rfl (by rw [HB.out]; exact hF))
end Go.Proofs.YtlpipoihinceiaaGreatDoor
/- ref28.Decode: its memory -/
namespace Go.Proofs.YtlpipoihinceiaaGreatDoor
open Go.RowKit Go.Proofs Go.Shelf

/-- In the midst of reading a declaration; w0 is the world ahead of it. -/
structure RDd (rb : Nat) (w0 : World) (R : Rd) (a k b : Int) (X : World) : Prop where
  rd : X.heap[rb]? = some (.cells #[.string (rdS R), .bool (rdF R)] 141 (0, 0))
  bk : X.heap[w0.heap.size]? = some (.cells #[.int .i64 a, .int .i64 k, .int .i64 b] 135 (0, 0))
  kp : Keeps (fun k => k ≠ rb) w0 X
  lt : rb < w0.heap.size
section
variable {rb : Nat} {w0 : World} {R : Rd} {a k b : Int} {X : World}
theorem RDd.keep (h : RDd rb w0 R a k b X) {Y : World} (hb : Below X.heap.size X Y) : RDd rb w0 R a k b Y :=
  ⟨(hb.block _ (lt_of_block h.rd)).trans h.rd, (hb.block _ (lt_of_block h.bk)).trans h.bk, h.kp.trans (Keeps.whole hb _), h.lt⟩
theorem RDd.setR (h : RDd rb w0 R a k b X) (R' : Rd) : RDd rb w0 R' a k b ((X.setCell ⟨rb, 0, none⟩ (.string (rdS R'))).setCell ⟨rb, 1, none⟩ (.bool (rdF R'))) := by
  have hlt := h.lt
  refine ⟨duo_set h.rd _ _, ?_, (h.kp.setCell (by simp) _).setCell (by simp) _, hlt⟩
  exact (Below.heap_setCell _ _ _ _ (by simp <;> omega)).trans ((Below.heap_setCell _ _ _ _ (by simp <;> omega)).trans h.bk)
theorem RDd.setC (h : RDd rb w0 R a k b X) (i : Nat) (u : Value) {a' k' b' : Int} (hb : (X.setCell ⟨w0.heap.size, i, none⟩ u).heap[w0.heap.size]? = some (.cells #[.int .i64 a', .int .i64 k', .int .i64 b'] 135 (0, 0))) : RDd rb w0 R a' k' b' (X.setCell ⟨w0.heap.size, i, none⟩ u) := by
  have hlt := h.lt
  refine ⟨(Below.heap_setCell _ _ _ _ (by simp <;> omega)).trans h.rd, hb, ⟨h.kp.os, h.kp.tape, h.kp.output, by have := h.kp.size; simpa [World.setCell] using this, fun k hk hs => (Below.heap_setCell _ _ _ _ (by simp <;> omega)).trans (h.kp.block k hk hs)⟩, hlt⟩
theorem RDd.set0 (h : RDd rb w0 R a k b X) (n : Int) : RDd rb w0 R n k b (X.setCell ⟨w0.heap.size, 0, none⟩ (.int .i64 n)) := h.setC 0 _ (by simp [World.setCell, Array.getElem?_modify, h.bk])
theorem RDd.set1 (h : RDd rb w0 R a k b X) (n : Int) : RDd rb w0 R a n b (X.setCell ⟨w0.heap.size, 1, none⟩ (.int .i64 n)) := h.setC 1 _ (by simp [World.setCell, Array.getElem?_modify, h.bk])
theorem RDd.set2 (h : RDd rb w0 R a k b X) (n : Int) : RDd rb w0 R a k n (X.setCell ⟨w0.heap.size, 2, none⟩ (.int .i64 n)) := h.setC 2 _ (by simp [World.setCell, Array.getElem?_modify, h.bk])
theorem RDd.cells (h : RDd rb w0 R a k b X) : X.cell? ⟨rb, 0, none⟩ = some (.string (rdS R)) ∧ X.cell? ⟨rb, 1, none⟩ = some (.bool (rdF R)) ∧ X.frozen? ⟨rb, 0, none⟩ = false ∧ X.frozen? ⟨rb, 1, none⟩ = false :=
  ⟨cell_of_row X _ 0 _ _ (0, 0) h.rd, cell_of_row X _ 1 _ _ (0, 0) h.rd, frozen_of_row X _ 0 _ _ h.rd, frozen_of_row X _ 1 _ _ h.rd⟩
theorem RDd.cellsB (h : RDd rb w0 R a k b X) : X.cell? ⟨w0.heap.size, 0, none⟩ = some (.int .i64 a) ∧ X.cell? ⟨w0.heap.size, 1, none⟩ = some (.int .i64 k) ∧ X.cell? ⟨w0.heap.size, 2, none⟩ = some (.int .i64 b) ∧ X.frozen? ⟨w0.heap.size, 0, none⟩ = false ∧ X.frozen? ⟨w0.heap.size, 1, none⟩ = false ∧ X.frozen? ⟨w0.heap.size, 2, none⟩ = false :=
  ⟨cell_of_row X _ 0 _ _ (0, 0) h.bk, cell_of_row X _ 1 _ _ (0, 0) h.bk, cell_of_row X _ 2 _ _ (0, 0) h.bk, frozen_of_row X _ 0 _ _ h.bk, frozen_of_row X _ 1 _ _ h.bk, frozen_of_row X _ 2 _ _ h.bk⟩
end

/-- The blocks of the call's own: the result, the reader, the code. -/
structure RDf (w0 : World) (R : Rd) (c0 c1 c2 : Value) (X : World) : Prop where
  rs : X.heap[w0.heap.size]? = some (.cells #[.string ⟨#[]⟩, .slice none 0 0, .slice none 0 0] 62 (0, 0))
  rd : X.heap[w0.heap.size + 1]? = some (.cells #[.string (rdS R), .bool (rdF R)] 141 (0, 0))
  ck : X.heap[w0.heap.size + 1 + 1]? = some (.cells #[c0, c1, c2] 62 (0, 0))
  bw : Below w0.heap.size w0 X
/-- The rows of the code's. -/
structure RDr (w0 : World) (bv dv : Value) (BS : List Bg) (bl : List Blk) (ds : List (Int × Int × Int)) (X : World) : Prop where
  bown : X.ownsRow w0.heap.size 133 3 bv BS.length (bgC BS)
  blks : BlksAt w0.heap.size X BS bl
  down : X.ownsRow w0.heap.size 135 3 dv ds.length (cdZ ds)
section
variable {w0 : World} {R : Rd} {c0 c1 c2 bv dv : Value} {BS : List Bg} {bl : List Blk} {ds : List (Int × Int × Int)} {X Y : World}
theorem RDr.keep (h : RDr w0 bv dv BS bl ds X) (hk : ∀ (k : Nat) (cur : Array Value) (t : TypeId) (fz : Nat × Nat), X.heap[k]? = some (.cells cur t fz) → t ≠ 141 → t ≠ 62 → Y.heap[k]? = X.heap[k]?) : RDr w0 bv dv BS bl ds Y :=
  ⟨row_keep h.bown fun k cur fz _ hc => hk k cur _ fz hc (by decide) (by decide), BlksAt.keep (fun k cur fz _ hc => hk k cur _ fz hc (by decide) (by decide)) h.blks, row_keep h.down fun k cur fz _ hc => hk k cur _ fz hc (by decide) (by decide)⟩
theorem RDr.below (h : RDr w0 bv dv BS bl ds X) (hb : Below X.heap.size X Y) : RDr w0 bv dv BS bl ds Y := h.keep fun k _ _ _ hc _ _ => hb.block k (lt_of_block hc)
theorem RDf.turn (h : RDf w0 R c0 c1 c2 X) {R' : Rd} (hr : Y.heap[w0.heap.size + 1]? = some (.cells #[.string (rdS R'), .bool (rdF R')] 141 (0, 0))) (hk : Keeps (fun k => k ≠ w0.heap.size + 1) X Y) : RDf w0 R' c0 c1 c2 Y :=
  ⟨(hk.block _ (lt_of_block h.rs) (by omega)).trans h.rs, hr, (hk.block _ (lt_of_block h.ck) (by omega)).trans h.ck, h.bw.trans (hk.to_below h.bw.size (fun k hk => by omega))⟩
theorem RDr.turn (h : RDr w0 bv dv BS bl ds X) (hf : RDf w0 R c0 c1 c2 X) (hk : Keeps (fun k => k ≠ w0.heap.size + 1) X Y) : RDr w0 bv dv BS bl ds Y :=
  h.keep fun k _ _ _ hc ht _ => hk.block k (lt_of_block hc) (tag_ne hc hf.rd ht)
theorem RDf.keep (h : RDf w0 R c0 c1 c2 X) (hb : Below X.heap.size X Y) : RDf w0 R c0 c1 c2 Y := h.turn ((hb.block _ (lt_of_block h.rd)).trans h.rd) (Keeps.whole hb _)
theorem RDf.setR (h : RDf w0 R c0 c1 c2 X) (R' : Rd) : RDf w0 R' c0 c1 c2 ((X.setCell ⟨w0.heap.size + 1, 0, none⟩ (.string (rdS R'))).setCell ⟨w0.heap.size + 1, 1, none⟩ (.bool (rdF R'))) :=
  h.turn (duo_set h.rd _ _) (((Keeps.refl _ _).setCell (by simp) _).setCell (by simp) _)
theorem RDr.setR (h : RDr w0 bv dv BS bl ds X) (hf : RDf w0 R c0 c1 c2 X) (u0 u1 : Value) : RDr w0 bv dv BS bl ds ((X.setCell ⟨w0.heap.size + 1, 0, none⟩ u0).setCell ⟨w0.heap.size + 1, 1, none⟩ u1) :=
  h.turn hf (((Keeps.refl _ _).setCell (by simp) _).setCell (by simp) _)
theorem RDf.setC (h : RDf w0 R c0 c1 c2 X) (i : Nat) (u : Value) {d0 d1 d2 : Value} (hc : (X.setCell ⟨w0.heap.size + 1 + 1, i, none⟩ u).heap[w0.heap.size + 1 + 1]? = some (.cells #[d0, d1, d2] 62 (0, 0))) : RDf w0 R d0 d1 d2 (X.setCell ⟨w0.heap.size + 1 + 1, i, none⟩ u) :=
  ⟨(Below.heap_setCell _ _ _ _ (by simp <;> omega)).trans h.rs, (Below.heap_setCell _ _ _ _ (by simp <;> omega)).trans h.rd, hc, h.bw.setCell (by simp <;> omega) _⟩
theorem RDf.set0 (h : RDf w0 R c0 c1 c2 X) (u : Value) : RDf w0 R u c1 c2 (X.setCell ⟨w0.heap.size + 1 + 1, 0, none⟩ u) := h.setC 0 u (by simp [World.setCell, Array.getElem?_modify, h.ck])
theorem RDf.set1 (h : RDf w0 R c0 c1 c2 X) (u : Value) : RDf w0 R c0 u c2 (X.setCell ⟨w0.heap.size + 1 + 1, 1, none⟩ u) := h.setC 1 u (by simp [World.setCell, Array.getElem?_modify, h.ck])
theorem RDf.set2 (h : RDf w0 R c0 c1 c2 X) (u : Value) : RDf w0 R c0 c1 u (X.setCell ⟨w0.heap.size + 1 + 1, 2, none⟩ u) := h.setC 2 u (by simp [World.setCell, Array.getElem?_modify, h.ck])
theorem RDr.setC (h : RDr w0 bv dv BS bl ds X) (hf : RDf w0 R c0 c1 c2 X) (i : Nat) (u : Value) : RDr w0 bv dv BS bl ds (X.setCell ⟨w0.heap.size + 1 + 1, i, none⟩ u) :=
  h.keep fun _ _ _ _ hc _ ht => Below.heap_setCell _ _ _ _ (tag_ne hc hf.ck ht)
/-- The row of declarations grows. -/
theorem RDf.grown (h : RDf w0 R c0 c1 c2 X) (hr : X.ownsRow w0.heap.size 135 3 dv ds.length (cdZ ds)) (hg : X.grownBy Y dv.ownBlock) : RDf w0 R c0 c1 c2 Y := by
  have hk : ∀ (k : Nat) (cur : Array Value) (t : TypeId) (fz : Nat × Nat), X.heap[k]? = some (.cells cur t fz) → 135 ≠ t → Y.heap[k]? = X.heap[k]? := fun k cur t fz hc ht => hg.block k (lt_of_block hc) (fun e => own_ne hr hc ht e.symm)
  refine ⟨(hk _ _ _ _ h.rs (by decide)).trans h.rs, (hk _ _ _ _ h.rd (by decide)).trans h.rd, (hk _ _ _ _ h.ck (by decide)).trans h.ck, ⟨hg.os.trans h.bw.os, hg.tape.trans h.bw.tape, hg.output.trans h.bw.output, Nat.le_trans h.bw.size hg.size, fun k hlt => (hg.block k (Nat.lt_of_lt_of_le hlt h.bw.size) (fun e => ?_)).trans (h.bw.block k hlt)⟩⟩
  have := (World.ownsRow.lt hr k e.symm).1
  omega
theorem RDr.grown (h : RDr w0 bv dv BS bl ds X) (hg : X.grownBy Y dv.ownBlock) {dv' : Value} {t : Int × Int × Int}
    (hown : Y.ownsRow w0.heap.size 135 3 dv' (ds.length + 1) (cdZ ds ++ [.int .i64 t.1, .int .i64 t.2.1, .int .i64 t.2.2])) : RDr w0 bv dv' BS bl (ds ++ [t]) Y := by
  have hk : ∀ (k : Nat) (cur : Array Value) (t : TypeId) (fz : Nat × Nat), X.heap[k]? = some (.cells cur t fz) → 135 ≠ t → Y.heap[k]? = X.heap[k]? := fun k cur t fz hc ht => hg.block k (lt_of_block hc) (fun e => own_ne h.down hc ht e.symm)
  refine ⟨row_keep h.bown fun k cur fz _ hc => hk k cur _ fz hc (by decide), BlksAt.keep (fun k cur fz _ hc => hk k cur _ fz hc (by decide)) h.blks, ?_⟩
  rw [List.length_append, cdZ_append]
  simpa [cdZ] using hown
theorem RDf.start (h : RDf w0 R c0 c1 c2 X) : RDd (w0.heap.size + 1) X R 0 0 0 (X.alloc (.cells #[.int .i64 0, .int .i64 0, .int .i64 0] 135)) :=
  ⟨(Below.heap_alloc _ _ _ (lt_of_block h.rd)).trans h.rd, heap_alloc_new X _, (Keeps.refl _ _).alloc _, lt_of_block h.rd⟩
theorem RDf.cells (h : RDf w0 R c0 c1 c2 X) : X.cell? ⟨w0.heap.size + 1, 0, none⟩ = some (.string (rdS R)) ∧ X.cell? ⟨w0.heap.size + 1, 1, none⟩ = some (.bool (rdF R)) ∧ X.frozen? ⟨w0.heap.size + 1, 0, none⟩ = false ∧ X.frozen? ⟨w0.heap.size + 1, 1, none⟩ = false :=
  ⟨cell_of_row X _ 0 _ _ (0, 0) h.rd, cell_of_row X _ 1 _ _ (0, 0) h.rd, frozen_of_row X _ 0 _ _ h.rd, frozen_of_row X _ 1 _ _ h.rd⟩
theorem RDf.cellsC (h : RDf w0 R c0 c1 c2 X) : X.cell? ⟨w0.heap.size + 1 + 1, 0, none⟩ = some c0 ∧ X.cell? ⟨w0.heap.size + 1 + 1, 1, none⟩ = some c1 ∧ X.cell? ⟨w0.heap.size + 1 + 1, 2, none⟩ = some c2 ∧ X.frozen? ⟨w0.heap.size + 1 + 1, 0, none⟩ = false ∧ X.frozen? ⟨w0.heap.size + 1 + 1, 1, none⟩ = false ∧ X.frozen? ⟨w0.heap.size + 1 + 1, 2, none⟩ = false :=
  ⟨cell_of_row X _ 0 _ _ (0, 0) h.ck, cell_of_row X _ 1 _ _ (0, 0) h.ck, cell_of_row X _ 2 _ _ (0, 0) h.ck, frozen_of_row X _ 0 _ _ h.ck, frozen_of_row X _ 1 _ _ h.ck, frozen_of_row X _ 2 _ _ h.ck⟩
theorem RDf.cellsR (h : RDf w0 R c0 c1 c2 X) : X.cell? ⟨w0.heap.size, 0, none⟩ = some (.string ⟨#[]⟩) ∧ X.cell? ⟨w0.heap.size, 1, none⟩ = some (.slice none 0 0) ∧ X.cell? ⟨w0.heap.size, 2, none⟩ = some (.slice none 0 0) ∧ X.frozen? ⟨w0.heap.size, 0, none⟩ = false ∧ X.frozen? ⟨w0.heap.size, 1, none⟩ = false ∧ X.frozen? ⟨w0.heap.size, 2, none⟩ = false :=
  ⟨cell_of_row X _ 0 _ _ (0, 0) h.rs, cell_of_row X _ 1 _ _ (0, 0) h.rs, cell_of_row X _ 2 _ _ (0, 0) h.rs, frozen_of_row X _ 0 _ _ h.rs, frozen_of_row X _ 1 _ _ h.rs, frozen_of_row X _ 2 _ _ h.rs⟩
end
end Go.Proofs.YtlpipoihinceiaaGreatDoor
/- ref28.Decode, the walk -/
namespace Go.Proofs.YtlpipoihinceiaaGreatDoor
open Go.RowKit Go.Proofs Go.Shelf

attribute [local go_sem ↓] Go.wp_at_zero Go.wp_at_succ

theorem text_c (s : ByteArray) {t : ByteArray} {R' : Rd} (h1 : (⟨(rdT (some s.data.toList)).1.toArray⟩ : ByteArray) = t) (h2 : (rdT (some s.data.toList)).2 = R') (hz : rsz (some s.data.toList) ≤ 1001) (X : World) :
    Calls Tryz.prog 93 #[.agg #[.string s, .bool false]] X fun e Y => e = .returned (.tuple #[.string t, .agg #[.string (rdS R'), .bool (rdF R')]]) ∧ Below X.heap.size X Y := by
  have := rdText_any (some s.data.toList) X hz
  rwa [h1, h2] at this

set_option maxRecDepth 100000 in
set_option maxHeartbeats 16000000 in
theorem Decode28_any (s : ByteArray) (w : World) (hs : s.size ≤ 1000) : Calls Tryz.prog 36 #[.string s] w (DecR s w) := by
  have hz0 : rsz (some s.data.toList) ≤ 1001 := by simp only [rsz, size_list]; omega
  obtain ⟨W1, hW1⟩ : ∃ W1, ((w.alloc (.cells #[.string ⟨#[]⟩, .slice none 0 0, .slice none 0 0] 62)).alloc (.cells #[.string s, .bool false] 141)).alloc (.cells #[.string ⟨#[]⟩, .slice none 0 0, .slice none 0 0] 62) = W1 := ⟨_, rfl⟩
  have h1 : RDf w (some s.data.toList) (.string ⟨#[]⟩) (.slice none 0 0) (.slice none 0 0) W1 := by
    rw [← hW1]
    refine ⟨?_, ?_, ?_, (((Below.refl _ _).alloc (Nat.le_refl _) _).alloc (by simp) _).alloc (by simp; omega) _⟩
    · rw [Below.heap_alloc _ _ _ (by simp; omega), Below.heap_alloc _ _ _ (by simp)]
      exact heap_alloc_new w _
    · rw [Below.heap_alloc _ _ _ (by simp)]
      show _ = some (Obj.cells #[.string s, .bool false] 141 (0, 0))
      have := heap_alloc_new (w.alloc (.cells #[.string ⟨#[]⟩, .slice none 0 0, .slice none 0 0] 62)) (.cells #[.string s, .bool false] 141)
      simpa using this
    · have := heap_alloc_new ((w.alloc (.cells #[.string ⟨#[]⟩, .slice none 0 0, .slice none 0 0] 62)).alloc (.cells #[.string s, .bool false] 141)) (.cells #[.string ⟨#[]⟩, .slice none 0 0, .slice none 0 0] 62)
      simpa using this
  obtain ⟨T, HT⟩ : ∃ q : ByteArray, Hid (⟨(rdT (some s.data.toList)).1.toArray⟩ = q) := ⟨_, Lib.hid rfl⟩
  obtain ⟨R1, HR1⟩ : ∃ q, Hid ((rdT (some s.data.toList)).2 = q) := ⟨_, Lib.hid rfl⟩
  obtain ⟨bl, HBL⟩ : ∃ q, Hid ((rdBs R1).1 = q) := ⟨_, Lib.hid rfl⟩
  obtain ⟨R2, HR2⟩ : ∃ q, Hid ((rdBs R1).2 = q) := ⟨_, Lib.hid rfl⟩
  obtain ⟨N, HN⟩ : ∃ q, Hid ((rdN R2).1 = q) := ⟨_, Lib.hid rfl⟩
  obtain ⟨R3, HR3⟩ : ∃ q, Hid ((rdN R2).2 = q) := ⟨_, Lib.hid rfl⟩
  have hNb : (N : Int) ≤ 1099511627776 := by
    have := rdN_max R2
    rw [HN.out] at this
    omega
  have HZ1 := Lib.hid (show rsz R1 ≤ 1001 by
    have := rdT_le (some s.data.toList)
    rw [HR1.out] at this
    omega)
  have HZ3 := Lib.hid (show rsz R3 ≤ 1001 by
    have e1 := rdBs_le R1
    have e2 := rdN_le R2
    have e3 := HZ1.out
    rw [HR2.out] at e1
    rw [HR3.out] at e2
    omega)
  have HRC : Hid (∀ ds R, rdRep rdD N R3 = (ds, R) → ∃ t : List UInt8, (⟨t.toArray⟩ : ByteArray) = T ∧ rdC (some s.data.toList) = ((t, bl, ds), R)) := Lib.hid fun ds R h => by
    refine ⟨_, HT.out, ?_⟩
    have hd : rdDs R2 = (ds, R) := by rw [rdDs, HN.out, HR3.out, h]
    rw [rdC, HR1.out, HBL.out, HR2.out, hd]
  have HC1 := Lib.hid (text_c s HT.out HR1.out hz0 W1)
  have HC2 := Lib.hid (show ∀ X, Calls Tryz.prog 94 #[.agg #[.string (rdS R1), .bool (rdF R1)]] X (BsR X bl R2) from fun X => by
    have := rdBlocks_any R1 X HZ1.out
    rwa [HBL.out, HR2.out] at this)
  have HC3 := Lib.hid (number_c R2 HN.out HR3.out)
  have HSS := Lib.hid hs
  have HH1 := Lib.hid h1
  have HW1 := Lib.hid hW1
  have x0 : W1.cell? ⟨w.heap.size + 1, 0, none⟩ = some (.string s) := HH1.out.cells.1
  have x1 : W1.cell? ⟨w.heap.size + 1, 1, none⟩ = some (.bool false) := HH1.out.cells.2.1
  clear h1 hW1 hz0 hs
  go_enter Tryz.func36, Tryz.ntmps36
  go_wp2_with fail
  rw [HW1.out]
  refine HC1.out.mono ?_
  rintro e w1 ⟨rfl, hb1⟩
  have h2 := HH1.out.keep hb1
  clear hb1 x0 x1
  obtain ⟨x0, x1, x2, x3⟩ := h2.cells
  obtain ⟨y0, y1, y2, y3, y4, y5⟩ := h2.cellsC
  have HH2 := Lib.hid ((h2.set0 (.string T)).setR R1)
  clear h2
  go_wp2_with fail
  refine (HC2.out _).mono ?_
  intro e w2 hBR
  obtain ⟨A, c, BS, rfl, hbo, hbk, hb2⟩ := hBR
  have hbz := HH2.out.bw.size
  have h3 := HH2.out.keep hb2
  have hr3 : RDr w (.slice A bl.length c) (.slice none 0 0) BS bl [] w2 := ⟨World.ownsRow.mono hbo hbz, BlksAt.mono hbz hbk, World.ownsRow_nil _ _ _ _⟩
  obtain ⟨NB, HNB⟩ : ∃ q, Hid (bl.length = q) := ⟨_, Lib.hid rfl⟩
  rw [HNB.out] at hr3 ⊢
  clear hb2 hbo hbk hbz x0 x1 x2 x3 y0 y1 y2 y3 y4 y5
  obtain ⟨x0, x1, x2, x3⟩ := h3.cells
  obtain ⟨y0, y1, y2, y3, y4, y5⟩ := h3.cellsC
  have HH3 := Lib.hid (And.intro ((h3.set1 (.slice A NB c)).setR R2) ((hr3.setC h3 1 (.slice A NB c)).setR (h3.set1 (.slice A NB c)) (.string (rdS R2)) (.bool (rdF R2))))
  clear h3 hr3
  go_wp2_with fail
  refine (HC3.out _).mono ?_
  rintro e w3 ⟨rfl, hb3⟩
  have h4 := HH3.out.1.keep hb3
  have hr4 := HH3.out.2.below hb3
  clear hb3 x0 x1 x2 x3 y0 y1 y2 y3 y4 y5
  obtain ⟨x0, x1, x2, x3⟩ := h4.cells
  have HH4 := Lib.hid (And.intro (h4.setR R3) (hr4.setR h4 (.string (rdS R3)) (.bool (rdF R3))))
  clear h4 hr4
  go_wp2_with fail
  go_loopg [7] N (fun g ct wr => ∃ (j : Nat) (R : Rd) (dv : Value) (ds : List (Int × Int × Int)), g = N - j ∧ j ≤ N ∧ ct = .int .i64 j ∧ RDf w R (.string T) (.slice A NB c) dv wr ∧ RDr w (.slice A NB c) dv BS bl ds wr ∧ Hid (RMid rdD N R3 j ds R) ∧ ds.length + rsz R ≤ 1001)
  case atStart => exact ⟨0, R3, .slice none 0 0, [], rfl, by omega, rfl, HH4.out.1, HH4.out.2, Lib.hid (RMid.start _ _ _), by have := HZ3.out; simpa using this⟩
  case round =>
    obtain ⟨j, R, dv, ds, HG, hj, rfl, hF, hR, HM, hcnt⟩ := hrel
    obtain ⟨wo, rfl⟩ : ∃ q, q = wr := ⟨_, rfl⟩
    have HG' := Lib.hid HG
    have HCN := Lib.hid hcnt
    clear HG hcnt x0 x1 x2 x3
    obtain ⟨x0, x1, x2, x3⟩ := hF.cells
    have hcase : (∃ l, j < N ∧ R = some l) ∨ (j < N ∧ R = none) ∨ (j = N ∧ R = none) ∨ (∃ lr, j = N ∧ R = some lr) := by
      by_cases h : j < N
      · cases R with
        | none => exact .inr (.inl ⟨h, rfl⟩)
        | some l => exact .inl ⟨l, h, rfl⟩
      · cases R with
        | none => exact .inr (.inr (.inl ⟨by omega, rfl⟩))
        | some l => exact .inr (.inr (.inr ⟨l, by omega, rfl⟩))
    rcases hcase with ⟨l, hlt, rfl⟩ | ⟨hlt, hRn⟩ | ⟨hjN, hRn⟩ | ⟨lr, hjN, hRn⟩
    · have i1 : decide ((j : Int) < (N : Int)) = true := decide_eq_true (by omega)
      have x0' : wo.cell? ⟨w.heap.size + 1, 0, none⟩ = some (.string ⟨l.toArray⟩) := x0
      have x1' : wo.cell? ⟨w.heap.size + 1, 1, none⟩ = some (.bool false) := x1
      obtain ⟨d0, H1⟩ : ∃ q, Hid ((rdN (some l)).1 = q) := ⟨_, Lib.hid rfl⟩
      obtain ⟨S1, HS1⟩ : ∃ q, Hid ((rdN (some l)).2 = q) := ⟨_, Lib.hid rfl⟩
      obtain ⟨d1, H2⟩ : ∃ q, Hid ((rdN S1).1 = q) := ⟨_, Lib.hid rfl⟩
      obtain ⟨S2, HS2⟩ : ∃ q, Hid ((rdN S1).2 = q) := ⟨_, Lib.hid rfl⟩
      obtain ⟨d2, H3⟩ : ∃ q, Hid ((rdN S2).1 = q) := ⟨_, Lib.hid rfl⟩
      obtain ⟨S3, HS3⟩ : ∃ q, Hid ((rdN S2).2 = q) := ⟨_, Lib.hid rfl⟩
      have HDD := Lib.hid (show rdD (some l) = (((d0 : Int), (d1 : Int), (d2 : Int)), S3) by rw [rdD, HS1.out, H1.out, HS2.out, H2.out, HS3.out, H3.out])
      have HK1 := Lib.hid (number_c (some l) H1.out HS1.out (wo.alloc (.cells #[.int .i64 0, .int .i64 0, .int .i64 0] 135)))
      have HK2 := Lib.hid (number_c S1 H2.out HS2.out)
      have HK3 := Lib.hid (number_c S2 H3.out HS3.out)
      have HI1 := Lib.hid hF.start
      have HFR := Lib.hid (And.intro hF hR)
      have hrz := HI1.out.lt
      clear x0 x1 hF hR
      go_wp2_with fail
      refine HK1.out.mono ?_
      rintro e w4 ⟨rfl, hb4⟩
      have h4 := HI1.out.keep hb4
      clear hb4 x0' x1' x2 x3
      obtain ⟨x0, x1, x2, x3⟩ := h4.cells
      obtain ⟨y0, y1, y2, y3, y4, y5⟩ := h4.cellsB
      have HH4 := Lib.hid ((h4.set0 (d0 : Int)).setR S1)
      clear h4
      go_wp2_with fail
      refine (HK2.out _).mono ?_
      rintro e w5 ⟨rfl, hb5⟩
      have h5 := HH4.out.keep hb5
      clear hb5 x0 x1 x2 x3 y0 y1 y2 y3 y4 y5
      obtain ⟨x0, x1, x2, x3⟩ := h5.cells
      obtain ⟨y0, y1, y2, y3, y4, y5⟩ := h5.cellsB
      have HH5 := Lib.hid ((h5.set1 (d1 : Int)).setR S2)
      clear h5
      go_wp2_with fail
      refine (HK3.out _).mono ?_
      rintro e w6 ⟨rfl, hb6⟩
      have h6 := HH5.out.keep hb6
      clear hb6 x0 x1 x2 x3 y0 y1 y2 y3 y4 y5
      obtain ⟨x0, x1, x2, x3⟩ := h6.cells
      obtain ⟨y0, y1, y2, y3, y4, y5⟩ := h6.cellsB
      obtain ⟨W7, hW7⟩ : ∃ q, ((w6.setCell ⟨wo.heap.size, 2, none⟩ (.int .i64 (d2 : Int))).setCell ⟨w.heap.size + 1, 0, none⟩ (.string (rdS S3))).setCell ⟨w.heap.size + 1, 1, none⟩ (.bool (rdF S3)) = q := ⟨_, rfl⟩
      have h7 := (h6.set2 (d2 : Int)).setR S3
      rw [hW7] at h7
      have hF7 := HFR.out.1.turn h7.rd h7.kp
      have hR7 := HFR.out.2.turn HFR.out.1 h7.kp
      have hb8 : Below W7.heap.size W7 (W7.alloc (.cells #[.int .i64 (d0 : Int), .int .i64 (d1 : Int), .int .i64 (d2 : Int)] 135)) := (Below.refl _ _).alloc (Nat.le_refl _) _
      have HH8 := Lib.hid (And.intro (hF7.keep hb8) (hR7.below hb8))
      have hzW : w.heap.size ≤ (W7.alloc (.cells #[.int .i64 (d0 : Int), .int .i64 (d1 : Int), .int .i64 (d2 : Int)] 135)).heap.size := HH8.out.1.bw.size
      have HSZ := Lib.hid hzW
      have HNW := Lib.hid (show ∀ ad, (some ⟨W7.heap.size, 0, none⟩ : Option Addr) = some ad → ∀ q u, ([.int .i64 (d0 : Int), .int .i64 (d1 : Int), .int .i64 (d2 : Int)] : List Value)[q]? = some u → (W7.alloc (.cells #[.int .i64 (d0 : Int), .int .i64 (d1 : Int), .int .i64 (d2 : Int)] 135)).cell? (ad.add q) = some u by
        intro ad e
        cases e
        exact World.news_of_block (cs := #[.int .i64 (d0 : Int), .int .i64 (d1 : Int), .int .i64 (d2 : Int)]) (t := 135) (fr := (0, 0)) (heap_alloc_new _ _))
      have hdl : ds.length ≤ 1000 := by
        have := HCN.out
        simp only [rsz] at this
        omega
      obtain ⟨p0, p1, p2, p3, p4, p5⟩ := hF7.cellsC
      obtain ⟨q0, q1, q2, q3, q4, q5⟩ := h7.cellsB
      obtain ⟨i0, hi, hz0', hz1', hz2'⟩ := info_parts Tryz.infoCodeDecl
      clear h6 h7 hF7 hR7 hb8 hzW
      go_wp2_with (at_builtin; refine wpList_append_own_any _ rfl _ _ 60 rfl w.heap.size 135 i0 _ 3 24 Tryz.underlying60 hi hz0' hz1' hz2' rfl (by decide) dv ds.length (cdZ ds) rfl HH8.out.2.down (some ⟨W7.heap.size, 0, none⟩) 1 1 [.int .i64 (d0 : Int), .int .i64 (d1 : Int), .int .i64 (d2 : Int)] rfl rfl (by simp) HNW.out (by simp [Value.oneCell']) (by unfold maxLen; omega) (by omega) HSZ.out ?_; intro dv' w9 hown9 hg9; obtain ⟨A9, c9, rfl⟩ := own_form hown9; have hF9 := HH8.out.1.grown HH8.out.2.down hg9; have hR9 := HH8.out.2.grown (t := ((d0 : Int), (d1 : Int), (d2 : Int))) hg9 hown9; have k0 := hF9.cellsC.2.2.1; have k1 := hF9.cellsC.2.2.2.2.2; have HP9 := Lib.hid (And.intro (hF9.set2 (.slice (A9) (ds.length + 1) c9)) (hR9.setC hF9 2 (.slice (A9) (ds.length + 1) c9))); clear hF9 hR9)
      go_roundg (N - (j + 1))
      case measure => rw [HG'.out]; omega
      case rel =>
        refine ⟨j + 1, S3, _, _, rfl, by omega, by go_num, HP9.out.1, HP9.out.2, Lib.hid ?_, ?_⟩
        · have := HM.out.step hlt
          rwa [HDD.out] at this
        · have h1 := rdD_lt l
          have h2 := HCN.out
          rw [HDD.out] at h1
          rw [List.length_append, List.length_singleton]
          simp only at h1
          omega
    · have i2 : decide ((j : Int) < (N : Int)) = true := decide_eq_true (by omega)
      have i3 : decide (j < N) = true := decide_eq_true hlt
      subst hRn
      have x1' : wo.cell? ⟨w.heap.size + 1, 1, none⟩ = some (.bool true) := x1
      clear x1
      have HXX := Lib.hid (show rdRep rdD N R3 = (ds, none) by exact HM.out.bad)
      obtain ⟨t, ht, hrc⟩ := HRC.out ds none HXX.out
      have hsm : Sml T bl ds := by
        have := rdC_sml (l := s.data.toList) (by rw [size_list]; exact HSS.out)
        rw [hrc] at this
        rw [← ht]
        exact this
      have hok : rdOk s.data.toList ↔ ((none : Rd).isSome = true ∧ codeE T bl ds = 0 ∧ codeL T bl ds = s.data.toList) := by
        rw [rdOk, hrc, ← ht]
      have HDN := Lib.hid (show ¬ ((none : Rd).isSome = true ∧ codeE T bl ds = 0 ∧ codeL T bl ds = s.data.toList) → decO s.data.toList = none from fun h => decO_no fun h' => h (hok.1 h'))
      have HDS := Lib.hid (show ((none : Rd).isSome = true ∧ codeE T bl ds = 0 ∧ codeL T bl ds = s.data.toList) → decO s.data.toList = some (T, bl, ds) from fun h => by
        have := decO_rd (l := s.data.toList) (by rw [size_list]; exact HSS.out) (hok.2 h)
        rw [hrc] at this
        rw [← ht]
        exact this)
      obtain ⟨A', c', e', hbc⟩ := blkC_of hR.bown hR.blks (fun b hb x hx => by have := hsm.snm b hb x hx; omega)
      simp only [Value.slice.injEq] at e'
      obtain ⟨rfl, hnb, rfl⟩ := e'
      clear hnb
      obtain ⟨A2, c2, rfl, hdc⟩ := decC_of hR.down
      obtain ⟨E, HEE⟩ : ∃ q, Hid (codeE T bl ds = q) := ⟨_, Lib.hid rfl⟩
      obtain ⟨TS, HTS⟩ : ∃ q, Hid (encS T bl ds = q) := ⟨_, Lib.hid rfl⟩
      have hen := Encode28_any T bl ds A c A2 c2 wo hbc hdc hsm
      rw [HEE.out, HTS.out, HNB.out] at hen
      have HEN := Lib.hid hen
      obtain ⟨y0, y1, y2, y3, y4, y5⟩ := hF.cellsC
      have HFR := Lib.hid (And.intro hF hR)
      clear hen hbc hdc hsm hok hrc ht hF hR
      go_wp2_with fail
      refine HEN.out.mono ?_
      rintro e w6 ⟨rfl, hb6⟩
      have hF6 := HFR.out.1.keep hb6
      have HR6 := Lib.hid (HFR.out.2.below hb6)
      clear hb6 x0 x1' x2 x3 y0 y1 y2 y3 y4 y5 HEN
      obtain ⟨x0, x1, x2, x3⟩ := hF6.cells
      obtain ⟨y0, y1, y2, y3, y4, y5⟩ := hF6.cellsC
      obtain ⟨r0, r1, r2, r3, r4, r5⟩ := hF6.cellsR
      have HF6 := Lib.hid hF6
      clear hF6
      have x1' : w6.cell? ⟨w.heap.size + 1, 1, none⟩ = some (.bool true) := x1
      have HD := Lib.hid (HDN.out (fun h => by simp at h))
      clear x1
      go_wp2
      have hs := tri_set HF6.out.rs (.string ⟨#[]⟩) (.slice none 0 0) (.slice none 0 0)
      have s0 := cell_of_row _ w.heap.size 0 _ _ (0, 0) hs
      have s1 := cell_of_row _ w.heap.size 1 _ _ (0, 0) hs
      have s2 := cell_of_row _ w.heap.size 2 _ _ (0, 0) hs
      have HR : DecR s w (.returned (.tuple #[.agg #[.string ⟨#[]⟩, .slice none 0 0, .slice none 0 0], .int .i64 13])) (((w6.setCell ⟨w.heap.size, 0, none⟩ (.string ⟨#[]⟩)).setCell ⟨w.heap.size, 1, none⟩ (.slice none 0 0)).setCell ⟨w.heap.size, 2, none⟩ (.slice none 0 0)) := by
        unfold DecR
        rw [HD.out]
        exact ⟨rfl, ((HF6.out.bw.setCell (by simp) _).setCell (by simp) _).setCell (by simp) _⟩
      generalize ((w6.setCell ⟨w.heap.size, 0, none⟩ (.string ⟨#[]⟩)).setCell ⟨w.heap.size, 1, none⟩ (.slice none 0 0)).setCell ⟨w.heap.size, 2, none⟩ (.slice none 0 0) = W9 at s0 s1 s2 HR ⊢
      simp at s0 s1 s2
      exact bodyPost_ret (v := .tuple #[.agg #[.string ⟨#[]⟩, .slice none 0 0, .slice none 0 0], .int .i64 13]) (by simp [results, Tryz.results36, go_sem, s0, s1, s2]) rfl HR
    · have i2 : decide ((j : Int) < (N : Int)) = false := decide_eq_false (by omega)
      have i3 : decide (j < N) = false := decide_eq_false (by omega)
      subst hRn
      have x1' : wo.cell? ⟨w.heap.size + 1, 1, none⟩ = some (.bool true) := x1
      clear x1
      have HXX := Lib.hid (show rdRep rdD N R3 = (ds, none) by rw [hjN] at HM; exact HM.out.done)
      obtain ⟨t, ht, hrc⟩ := HRC.out ds none HXX.out
      have hsm : Sml T bl ds := by
        have := rdC_sml (l := s.data.toList) (by rw [size_list]; exact HSS.out)
        rw [hrc] at this
        rw [← ht]
        exact this
      have hok : rdOk s.data.toList ↔ ((none : Rd).isSome = true ∧ codeE T bl ds = 0 ∧ codeL T bl ds = s.data.toList) := by
        rw [rdOk, hrc, ← ht]
      have HDN := Lib.hid (show ¬ ((none : Rd).isSome = true ∧ codeE T bl ds = 0 ∧ codeL T bl ds = s.data.toList) → decO s.data.toList = none from fun h => decO_no fun h' => h (hok.1 h'))
      have HDS := Lib.hid (show ((none : Rd).isSome = true ∧ codeE T bl ds = 0 ∧ codeL T bl ds = s.data.toList) → decO s.data.toList = some (T, bl, ds) from fun h => by
        have := decO_rd (l := s.data.toList) (by rw [size_list]; exact HSS.out) (hok.2 h)
        rw [hrc] at this
        rw [← ht]
        exact this)
      obtain ⟨A', c', e', hbc⟩ := blkC_of hR.bown hR.blks (fun b hb x hx => by have := hsm.snm b hb x hx; omega)
      simp only [Value.slice.injEq] at e'
      obtain ⟨rfl, hnb, rfl⟩ := e'
      clear hnb
      obtain ⟨A2, c2, rfl, hdc⟩ := decC_of hR.down
      obtain ⟨E, HEE⟩ : ∃ q, Hid (codeE T bl ds = q) := ⟨_, Lib.hid rfl⟩
      obtain ⟨TS, HTS⟩ : ∃ q, Hid (encS T bl ds = q) := ⟨_, Lib.hid rfl⟩
      have hen := Encode28_any T bl ds A c A2 c2 wo hbc hdc hsm
      rw [HEE.out, HTS.out, HNB.out] at hen
      have HEN := Lib.hid hen
      obtain ⟨y0, y1, y2, y3, y4, y5⟩ := hF.cellsC
      have HFR := Lib.hid (And.intro hF hR)
      clear hen hbc hdc hsm hok hrc ht hF hR
      go_wp2_with fail
      refine HEN.out.mono ?_
      rintro e w6 ⟨rfl, hb6⟩
      have hF6 := HFR.out.1.keep hb6
      have HR6 := Lib.hid (HFR.out.2.below hb6)
      clear hb6 x0 x1' x2 x3 y0 y1 y2 y3 y4 y5 HEN
      obtain ⟨x0, x1, x2, x3⟩ := hF6.cells
      obtain ⟨y0, y1, y2, y3, y4, y5⟩ := hF6.cellsC
      obtain ⟨r0, r1, r2, r3, r4, r5⟩ := hF6.cellsR
      have HF6 := Lib.hid hF6
      clear hF6
      have x1' : w6.cell? ⟨w.heap.size + 1, 1, none⟩ = some (.bool true) := x1
      have HD := Lib.hid (HDN.out (fun h => by simp at h))
      clear x1
      go_wp2
      have hs := tri_set HF6.out.rs (.string ⟨#[]⟩) (.slice none 0 0) (.slice none 0 0)
      have s0 := cell_of_row _ w.heap.size 0 _ _ (0, 0) hs
      have s1 := cell_of_row _ w.heap.size 1 _ _ (0, 0) hs
      have s2 := cell_of_row _ w.heap.size 2 _ _ (0, 0) hs
      have HR : DecR s w (.returned (.tuple #[.agg #[.string ⟨#[]⟩, .slice none 0 0, .slice none 0 0], .int .i64 13])) (((w6.setCell ⟨w.heap.size, 0, none⟩ (.string ⟨#[]⟩)).setCell ⟨w.heap.size, 1, none⟩ (.slice none 0 0)).setCell ⟨w.heap.size, 2, none⟩ (.slice none 0 0)) := by
        unfold DecR
        rw [HD.out]
        exact ⟨rfl, ((HF6.out.bw.setCell (by simp) _).setCell (by simp) _).setCell (by simp) _⟩
      generalize ((w6.setCell ⟨w.heap.size, 0, none⟩ (.string ⟨#[]⟩)).setCell ⟨w.heap.size, 1, none⟩ (.slice none 0 0)).setCell ⟨w.heap.size, 2, none⟩ (.slice none 0 0) = W9 at s0 s1 s2 HR ⊢
      simp at s0 s1 s2
      exact bodyPost_ret (v := .tuple #[.agg #[.string ⟨#[]⟩, .slice none 0 0, .slice none 0 0], .int .i64 13]) (by simp [results, Tryz.results36, go_sem, s0, s1, s2]) rfl HR
    · have i2 : decide ((j : Int) < (N : Int)) = false := decide_eq_false (by omega)
      have i3 : decide (j < N) = false := decide_eq_false (by omega)
      subst hRn
      have x1' : wo.cell? ⟨w.heap.size + 1, 1, none⟩ = some (.bool false) := x1
      clear x1
      have HXX := Lib.hid (show rdRep rdD N R3 = (ds, (some lr)) by rw [hjN] at HM; exact HM.out.done)
      obtain ⟨t, ht, hrc⟩ := HRC.out ds (some lr) HXX.out
      have hsm : Sml T bl ds := by
        have := rdC_sml (l := s.data.toList) (by rw [size_list]; exact HSS.out)
        rw [hrc] at this
        rw [← ht]
        exact this
      have hok : rdOk s.data.toList ↔ (((some lr) : Rd).isSome = true ∧ codeE T bl ds = 0 ∧ codeL T bl ds = s.data.toList) := by
        rw [rdOk, hrc, ← ht]
      have HDN := Lib.hid (show ¬ (((some lr) : Rd).isSome = true ∧ codeE T bl ds = 0 ∧ codeL T bl ds = s.data.toList) → decO s.data.toList = none from fun h => decO_no fun h' => h (hok.1 h'))
      have HDS := Lib.hid (show (((some lr) : Rd).isSome = true ∧ codeE T bl ds = 0 ∧ codeL T bl ds = s.data.toList) → decO s.data.toList = some (T, bl, ds) from fun h => by
        have := decO_rd (l := s.data.toList) (by rw [size_list]; exact HSS.out) (hok.2 h)
        rw [hrc] at this
        rw [← ht]
        exact this)
      obtain ⟨A', c', e', hbc⟩ := blkC_of hR.bown hR.blks (fun b hb x hx => by have := hsm.snm b hb x hx; omega)
      simp only [Value.slice.injEq] at e'
      obtain ⟨rfl, hnb, rfl⟩ := e'
      clear hnb
      obtain ⟨A2, c2, rfl, hdc⟩ := decC_of hR.down
      obtain ⟨E, HEE⟩ : ∃ q, Hid (codeE T bl ds = q) := ⟨_, Lib.hid rfl⟩
      obtain ⟨TS, HTS⟩ : ∃ q, Hid (encS T bl ds = q) := ⟨_, Lib.hid rfl⟩
      have hen := Encode28_any T bl ds A c A2 c2 wo hbc hdc hsm
      rw [HEE.out, HTS.out, HNB.out] at hen
      have HEN := Lib.hid hen
      obtain ⟨y0, y1, y2, y3, y4, y5⟩ := hF.cellsC
      have HFR := Lib.hid (And.intro hF hR)
      have HNM := Lib.hid (show ∀ b ∈ bl, ∀ x ∈ b.l, x.nm.size ≤ 9223372036854775807 from fun b hb x hx => by have := hsm.snm b hb x hx; omega)
      clear hen hbc hdc hsm hok hrc ht hF hR
      go_wp2_with fail
      refine HEN.out.mono ?_
      rintro e w6 ⟨rfl, hb6⟩
      have hF6 := HFR.out.1.keep hb6
      have HR6 := Lib.hid (HFR.out.2.below hb6)
      clear hb6 x0 x1' x2 x3 y0 y1 y2 y3 y4 y5 HEN
      obtain ⟨x0, x1, x2, x3⟩ := hF6.cells
      obtain ⟨y0, y1, y2, y3, y4, y5⟩ := hF6.cellsC
      obtain ⟨r0, r1, r2, r3, r4, r5⟩ := hF6.cellsR
      have HF6 := Lib.hid hF6
      clear hF6
      have x1' : w6.cell? ⟨w.heap.size + 1, 1, none⟩ = some (.bool false) := x1
      clear x1
      cases he : E == 0 with
      | false =>
        have he' : (E != 0) = true := by rw [bne, he]; rfl
        have HD := Lib.hid (HDN.out (fun h => by rw [HEE.out] at h; rw [h.2.1] at he; exact absurd he (by decide)))
        go_wp2
        have hs := tri_set HF6.out.rs (.string ⟨#[]⟩) (.slice none 0 0) (.slice none 0 0)
        have s0 := cell_of_row _ w.heap.size 0 _ _ (0, 0) hs
        have s1 := cell_of_row _ w.heap.size 1 _ _ (0, 0) hs
        have s2 := cell_of_row _ w.heap.size 2 _ _ (0, 0) hs
        have HR : DecR s w (.returned (.tuple #[.agg #[.string ⟨#[]⟩, .slice none 0 0, .slice none 0 0], .int .i64 13])) (((w6.setCell ⟨w.heap.size, 0, none⟩ (.string ⟨#[]⟩)).setCell ⟨w.heap.size, 1, none⟩ (.slice none 0 0)).setCell ⟨w.heap.size, 2, none⟩ (.slice none 0 0)) := by
          unfold DecR
          rw [HD.out]
          exact ⟨rfl, ((HF6.out.bw.setCell (by simp) _).setCell (by simp) _).setCell (by simp) _⟩
        generalize ((w6.setCell ⟨w.heap.size, 0, none⟩ (.string ⟨#[]⟩)).setCell ⟨w.heap.size, 1, none⟩ (.slice none 0 0)).setCell ⟨w.heap.size, 2, none⟩ (.slice none 0 0) = W9 at s0 s1 s2 HR ⊢
        simp at s0 s1 s2
        exact bodyPost_ret (v := .tuple #[.agg #[.string ⟨#[]⟩, .slice none 0 0, .slice none 0 0], .int .i64 13]) (by simp [results, Tryz.results36, go_sem, s0, s1, s2]) rfl HR
      | true =>
        have he0 : E = 0 := by simpa using he
        subst he0
        by_cases ht : TS = s
        · have HD := Lib.hid (HDS.out ⟨rfl, HEE.out, by
            have h1 := HTS.out
            rw [encS, if_pos HEE.out, ht] at h1
            rw [← h1, codeS]⟩)
          have ht2 := ht.symm
          subst ht2
          clear ht
          go_wp2
          have hs := tri_set HF6.out.rs (.string T) (.slice A NB c) (.slice A2 ds.length c2)
          have s0 := cell_of_row _ w.heap.size 0 _ _ (0, 0) hs
          have s1 := cell_of_row _ w.heap.size 1 _ _ (0, 0) hs
          have s2 := cell_of_row _ w.heap.size 2 _ _ (0, 0) hs
          have HR : DecR s w (.returned (.tuple #[.agg #[.string T, .slice A NB c, .slice A2 ds.length c2], .int .i64 0])) (((w6.setCell ⟨w.heap.size, 0, none⟩ (.string T)).setCell ⟨w.heap.size, 1, none⟩ (.slice A NB c)).setCell ⟨w.heap.size, 2, none⟩ (.slice A2 ds.length c2)) := by
            have hr := HR6.out.keep (Y := ((w6.setCell ⟨w.heap.size, 0, none⟩ (.string T)).setCell ⟨w.heap.size, 1, none⟩ (.slice A NB c)).setCell ⟨w.heap.size, 2, none⟩ (.slice A2 ds.length c2)) fun k cur t fz hc _ ht => tri_other (tag_ne hc HF6.out.rs ht) _ _ _
            obtain ⟨A', c', e', hbc⟩ := blkC_of hr.bown hr.blks HNM.out
            simp only [Value.slice.injEq] at e'
            obtain ⟨rfl, hnb, rfl⟩ := e'
            obtain ⟨A3, c3, e3, hdc⟩ := decC_of hr.down
            simp only [Value.slice.injEq, true_and] at e3
            obtain ⟨rfl, rfl⟩ := e3
            unfold DecR
            rw [HD.out]
            exact ⟨A, c, A2, c2, by rw [hnb], hbc, hdc, ((HF6.out.bw.setCell (by simp) _).setCell (by simp) _).setCell (by simp) _⟩
          generalize ((w6.setCell ⟨w.heap.size, 0, none⟩ (.string T)).setCell ⟨w.heap.size, 1, none⟩ (.slice A NB c)).setCell ⟨w.heap.size, 2, none⟩ (.slice A2 ds.length c2) = W9 at s0 s1 s2 HR ⊢
          simp at s0 s1 s2
          exact bodyPost_ret (v := .tuple #[.agg #[.string T, .slice A NB c, .slice A2 ds.length c2], .int .i64 0]) (by simp [results, Tryz.results36, go_sem, s0, s1, s2]) rfl HR
        · have HD := Lib.hid (HDN.out (fun h => ht (by rw [← HTS.out, encS, if_pos HEE.out, codeS, h.2.2])))
          have ht' : (TS.toList == s.toList) = false := (Lib.bytes_beq_false_iff _ _).2 ht
          clear ht
          go_wp2
          have hs := tri_set HF6.out.rs (.string ⟨#[]⟩) (.slice none 0 0) (.slice none 0 0)
          have s0 := cell_of_row _ w.heap.size 0 _ _ (0, 0) hs
          have s1 := cell_of_row _ w.heap.size 1 _ _ (0, 0) hs
          have s2 := cell_of_row _ w.heap.size 2 _ _ (0, 0) hs
          have HR : DecR s w (.returned (.tuple #[.agg #[.string ⟨#[]⟩, .slice none 0 0, .slice none 0 0], .int .i64 13])) (((w6.setCell ⟨w.heap.size, 0, none⟩ (.string ⟨#[]⟩)).setCell ⟨w.heap.size, 1, none⟩ (.slice none 0 0)).setCell ⟨w.heap.size, 2, none⟩ (.slice none 0 0)) := by
            unfold DecR
            rw [HD.out]
            exact ⟨rfl, ((HF6.out.bw.setCell (by simp) _).setCell (by simp) _).setCell (by simp) _⟩
          generalize ((w6.setCell ⟨w.heap.size, 0, none⟩ (.string ⟨#[]⟩)).setCell ⟨w.heap.size, 1, none⟩ (.slice none 0 0)).setCell ⟨w.heap.size, 2, none⟩ (.slice none 0 0) = W9 at s0 s1 s2 HR ⊢
          simp at s0 s1 s2
          exact bodyPost_ret (v := .tuple #[.agg #[.string ⟨#[]⟩, .slice none 0 0, .slice none 0 0], .int .i64 13]) (by simp [results, Tryz.results36, go_sem, s0, s1, s2]) rfl HR
end Go.Proofs.YtlpipoihinceiaaGreatDoor
/- law28.CompileDecode -/
namespace Go.Proofs.YtlpipoihinceiaaGreatDoor
open Go.RowKit Go.Proofs Go.Shelf

/-- What both decoders answer. -/
def dlb (s : ByteArray) : ByteArray := match decO s.data.toList with
  | some p => p.1
  | none => ⟨#[]⟩
def dbl (s : ByteArray) : List Blk := match decO s.data.toList with
  | some p => p.2.1
  | none => []
def dds (s : ByteArray) : List (Int × Int × Int) := match decO s.data.toList with
  | some p => p.2.2
  | none => []
def derr (s : ByteArray) : Int := match decO s.data.toList with
  | some _ => 0
  | none => 13
theorem DecR.form {s : ByteArray} {w w' : World} {e : Ending} (h : DecR s w e w') :
    ∃ A1 c1 A2 c2, e = .returned (.tuple #[.agg #[.string (dlb s), .slice A1 (dbl s).length c1, .slice A2 (dds s).length c2], .int .i64 (derr s)]) ∧ BlkC w' A1 c1 (dbl s) ∧ DecC w' A2 c2 (dds s) ∧ Below w.heap.size w w' := by
  unfold DecR at h
  unfold dlb dbl dds derr
  cases hd : decO s.data.toList with
  | none =>
    rw [hd] at h
    exact ⟨Option.none, 0, Option.none, 0, h.1, ⟨by simp, by omega, fun k b hk => by simp at hk⟩, ⟨by simp, by omega, fun k b hk => by simp at hk⟩, h.2⟩
  | some p =>
    rw [hd] at h
    exact h

set_option maxRecDepth 100000 in
set_option maxHeartbeats 8000000 in
theorem lawDecode_any (s : ByteArray) (w : World) :
    Calls Tryz.prog 7 #[.string s] w fun e w' => e = .returned (.bool true) ∧ Below w.heap.size w w' := by
  cases hl : decide (1000 < (s.size : Int)) with
  | true =>
    have HA := Lib.hid (awake28_any w)
    go_enter Tryz.func7, Tryz.ntmps7
    go_wp2_with fail
    refine HA.out.mono ?_
    rintro e w1 ⟨rfl, hb1⟩
    have HB1 := Lib.hid hb1
    clear hb1
    go_wp2
    go_ret
    exact ⟨rfl, HB1.out⟩
  | false =>
  have hss : s.size ≤ 1000 := by have := of_decide_eq_false hl; omega
  have HD1 := Lib.hid (Decode_any s w (by omega))
  have HD2 := Lib.hid (fun X => Decode28_any s X hss)
  clear hss
  go_enter Tryz.func7, Tryz.ntmps7
  go_wp2_with fail
  refine HD1.out.mono ?_
  intro e w1 hR
  obtain ⟨A1, c1, A2, c2, rfl, hb1, hd1, hB1⟩ := hR.form
  obtain ⟨lb, HLB⟩ : ∃ q, Hid (dlb s = q) := ⟨_, Lib.hid rfl⟩
  obtain ⟨bl, HBL⟩ : ∃ q, Hid (dbl s = q) := ⟨_, Lib.hid rfl⟩
  obtain ⟨ds, HDS⟩ : ∃ q, Hid (dds s = q) := ⟨_, Lib.hid rfl⟩
  obtain ⟨er, HER⟩ : ∃ q, Hid (derr s = q) := ⟨_, Lib.hid rfl⟩
  obtain ⟨N1, HN1⟩ : ∃ Q, Hid (bl.length = Q) := ⟨_, Lib.hid rfl⟩
  obtain ⟨N2, HN2⟩ : ∃ Q, Hid (ds.length = Q) := ⟨_, Lib.hid rfl⟩
  rw [HBL.out] at hb1
  rw [HDS.out] at hd1
  rw [HLB.out, HBL.out, HDS.out, HER.out, HN1.out, HN2.out]
  obtain ⟨W2, hW2⟩ : ∃ W2, w1.alloc (.cells #[.string lb, .slice A1 N1 c1, .slice A2 N2 c2] 62) = W2 := ⟨_, rfl⟩
  have hB2 : Below w1.heap.size w1 W2 := by rw [← hW2]; exact (Below.refl _ _).alloc (Nat.le_refl _) _
  have hc2 : W2.heap[w1.heap.size]? = some (.cells #[.string lb, .slice A1 N1 c1, .slice A2 N2 c2] 62 (0, 0)) := by rw [← hW2]; exact heap_alloc_new w1 _
  have HP := Lib.hid (And.intro (hb1.keep hB2) (And.intro (hd1.keep hB2) (And.intro (hB1.trans (hB2.mono hB1.size)) hc2)))
  clear hR hb1 hd1 hB1 hB2 hc2
  go_wp2_with fail
  refine (HD2.out W2).mono ?_
  intro e w3 hR
  obtain ⟨A3, c3, A4, c4, rfl, hb3, hd3, hB3⟩ := hR.form
  rw [HBL.out] at hb3
  rw [HDS.out] at hd3
  rw [HLB.out, HBL.out, HDS.out, HER.out, HN1.out, HN2.out]
  obtain ⟨W4, hW4⟩ : ∃ W4, w3.alloc (.cells #[.string lb, .slice A3 N1 c3, .slice A4 N2 c4] 62) = W4 := ⟨_, rfl⟩
  have hB4 : Below w3.heap.size w3 W4 := by rw [← hW4]; exact (Below.refl _ _).alloc (Nat.le_refl _) _
  have hc4 : W4.heap[w3.heap.size]? = some (.cells #[.string lb, .slice A3 N1 c3, .slice A4 N2 c4] 62 (0, 0)) := by rw [← hW4]; exact heap_alloc_new w3 _
  have hB24 := hB3.trans (hB4.mono hB3.size)
  have hc2 := (hB24.block w1.heap.size (lt_of_block HP.out.2.2.2)).trans HP.out.2.2.2
  have k0 := cell_of_row W4 w3.heap.size 0 _ _ (0, 0) hc4
  have k1 := cell_of_row W4 w3.heap.size 1 _ _ (0, 0) hc4
  have k2 := cell_of_row W4 w3.heap.size 2 _ _ (0, 0) hc4
  have l0 := cell_of_row W4 w1.heap.size 0 _ _ (0, 0) hc2
  have l1 := cell_of_row W4 w1.heap.size 1 _ _ (0, 0) hc2
  have l2 := cell_of_row W4 w1.heap.size 2 _ _ (0, 0) hc2
  simp at k0 k1 k2 l0 l1 l2
  have hsm := sameC lb bl ds A1 c1 A3 c3 A2 c2 A4 c4 W4 (HP.out.1.keep hB24) (hb3.keep hB4) (HP.out.2.1.keep hB24) (hd3.keep hB4)
  rw [HN1.out, HN2.out] at hsm
  have HSM := Lib.hid hsm
  have HB4 := Lib.hid (HP.out.2.2.1.trans (hB24.mono HP.out.2.2.1.size))
  clear hR hb3 hd3 hB3 hB4 hc4 hB24 hc2 hsm hW2
  go_wp2_with fail
  refine HSM.out.mono ?_
  rintro e w5 ⟨rfl, hb5⟩
  have HB5 := Lib.hid (HB4.out.trans (hb5.mono HB4.out.size))
  have HA := Lib.hid (awake28_any w5)
  clear hb5 k0 k1 k2 l0 l1 l2 hW4
  go_wp2_with fail
  refine HA.out.mono ?_
  rintro e w6 ⟨rfl, hb6⟩
  have HB6 := Lib.hid (HB5.out.trans (hb6.mono HB5.out.size))
  clear hb6
  go_wp2
  go_ret
  exact ⟨rfl, HB6.out⟩
end Go.Proofs.YtlpipoihinceiaaGreatDoor
