/- Code and its bytes: what was written is read, what is read was written -/
import Derived.Test.YtlpipoihinceiaaGreatDoorZhf
import Derived.Test.YtlpipoihinceiaaGreatDoorZhc
import Derived.Test.YtlpipoihinceiaaGreatDoorZhe
import Derived.Defers
import Derived.Recover
import Derived.Laws.Pointers
import Derived.Test.YtlpipoihinceiaaGreatDoorGky
import Derived.Test.YtlpipoihinceiaaGreatDoorZha
namespace Go.Proofs.YtlpipoihinceiaaGreatDoor
open Go

theorem numL_nat {n : Nat} (h : n ≤ 1099511627776) : numL (n : Int) = encL n := by rw [numL, if_pos (by omega), Int.toNat_natCast]
theorem sgnI_V {n : Nat} (h : n ≠ 1) : sgnI (sgnV n) = n := by
  unfold sgnV
  split
  · rw [sgnI_neg (by omega)]
    omega
  · rw [sgnI_pos (by omega)]
    omega
theorem sgnV_I {a : Int} (h1 : -999999999 ≤ a) (h2 : a ≤ 999999999) : sgnV (sgnI a).toNat = a ∧ (sgnI a).toNat ≠ 1 ∧ ((sgnI a).toNat : Int) = sgnI a ∧ (sgnI a).toNat ≤ 1099511627776 := by
  by_cases h : a < 0
  · rw [sgnI_neg h]
    unfold sgnV
    split <;> omega
  · rw [sgnI_pos h]
    unfold sgnV
    split <;> omega
theorem list_bytes (s : ByteArray) : (⟨s.data.toList.toArray⟩ : ByteArray) = s := rfl
theorem size_list (s : ByteArray) : s.data.toList.length = s.size := by simp

theorem rep_of {α : Type} {g : List UInt8 → Option (α × List UInt8)} {f : α → List UInt8} (hg : ∀ l x r, g l = some (x, r) → l = f x ++ r) : ∀ (k : Nat) (l : List UInt8) (xs : List α) (r : List UInt8), rep g k l = some (xs, r) → l = catL f xs ++ r ∧ xs.length = k
  | 0, l, xs, r, h => by
    simp only [rep, Option.some.injEq, Prod.mk.injEq] at h
    rw [← h.1, ← h.2]
    exact ⟨rfl, rfl⟩
  | k + 1, l, xs, r, h => by
    cases hc : g l with
    | none => rw [rep_no hc] at h; simp at h
    | some p =>
      obtain ⟨x, q⟩ := p
      rw [rep_step hc] at h
      cases hr : rep g k q with
      | none => rw [hr] at h; simp at h
      | some s =>
        rw [hr] at h
        obtain ⟨ys, r'⟩ := s
        simp only [Option.map_some, Option.some.injEq, Prod.mk.injEq] at h
        obtain ⟨h1, h2⟩ := rep_of hg k q ys r' hr
        rw [← h.1, ← h.2]
        refine ⟨?_, by simp [h2]⟩
        rw [catL, List.append_assoc, ← h1]
        exact hg l x q hc
theorem rep_enc {α : Type} {g : List UInt8 → Option (α × List UInt8)} {f : α → List UInt8} : ∀ (xs : List α) (r : List UInt8), (∀ x ∈ xs, ∀ r, g (f x ++ r) = some (x, r)) → rep g xs.length (catL f xs ++ r) = some (xs, r)
  | [], r, _ => rfl
  | x :: xs, r, h => by
    rw [List.length_cons, catL, List.append_assoc, rep_step (h x (by simp) _), rep_enc xs r (fun y hy => h y (by simp [hy]))]
    rfl

theorem getN_w {l : List UInt8} {n : Nat} {r : List UInt8} (h : getN l = some (n, r)) : l = numL (n : Int) ++ r := by
  obtain ⟨h1, h2⟩ := getN_of h
  rw [numL_nat h2]
  exact h1
theorem getT_w {l t r : List UInt8} (h : getT l = some (t, r)) : l = txtL ⟨t.toArray⟩ ++ r := by
  obtain ⟨h1, h2⟩ := getT_of h
  have hs : (⟨t.toArray⟩ : ByteArray).size = t.length := by show t.toArray.size = _; rw [List.size_toArray]
  rw [txtL, hs, if_pos h2, List.append_assoc]
  exact h1
theorem getI_w {l : List UInt8} {x : Ins} {r : List UInt8} (h : getI l = some (x, r)) : l = insL x ++ r := by
  unfold getI at h
  split at h
  · rename_i p hp
    split at h
    · rename_i q hq
      split at h
      · rename_i s hs
        split at h
        · rename_i t ht
          simp only [Option.some.injEq, Prod.mk.injEq] at h
          obtain ⟨n, hn, hn1, hv⟩ := getS_N (r := q.2) (v := q.1) hq
          have h1 := getN_w (r := p.2) (n := p.1) hp
          have h2 := getN_w hn
          have h3 := getN_w (r := s.2) (n := s.1) hs
          have h4 := getT_w (r := t.2) (t := t.1) ht
          rw [← h.1, ← h.2]
          simp only [insL, List.append_assoc]
          rw [← h4, hv, sgnI_V hn1, ← h3, ← h2, ← h1]
        · simp at h
      · simp at h
    · simp at h
  · simp at h
theorem parI_b {p : Nat} (h : ¬ 1 < p) : parI (p == 1) = (p : Int) := by
  rcases (show p = 0 ∨ p = 1 by omega) with rfl | rfl <;> rfl
theorem getB_w {l : List UInt8} {x : Blk} {r : List UInt8} (h : getB l = some (x, r)) : l = blkL x ++ r := by
  unfold getB at h
  split at h
  · rename_i p hp
    split at h
    · rename_i q hq
      split at h
      · simp at h
      rename_i hq1
      split at h
      · rename_i s hs
        split at h
        · rename_i t ht
          simp only [Option.some.injEq, Prod.mk.injEq] at h
          have h1 := getN_w (r := p.2) (n := p.1) hp
          have h2 := getN_w (r := q.2) (n := q.1) hq
          have h3 := getN_w (r := s.2) (n := s.1) hs
          obtain ⟨h4, h5⟩ := rep_of (fun _ _ _ => getI_w) s.1 s.2 t.1 t.2 ht
          rw [← h.1, ← h.2]
          simp only [blkL, List.append_assoc]
          rw [← h4, h5, parI_b hq1, ← h3, ← h2, ← h1]
        · simp at h
      · simp at h
    · simp at h
  · simp at h
theorem getD_w {l : List UInt8} {x : Int × Int × Int} {r : List UInt8} (h : getD l = some (x, r)) : l = decL x ++ r := by
  unfold getD at h
  split at h
  · rename_i p hp
    split at h
    · rename_i q hq
      split at h
      · rename_i s hs
        simp only [Option.some.injEq, Prod.mk.injEq] at h
        have h1 := getN_w (r := p.2) (n := p.1) hp
        have h2 := getN_w (r := q.2) (n := q.1) hq
        have h3 := getN_w (r := s.2) (n := s.1) hs
        rw [← h.1, ← h.2]
        simp only [decL, List.append_assoc]
        rw [← h3, ← h2, ← h1]
      · simp at h
    · simp at h
  · simp at h
/-- What is read was written. -/
theorem getC_w {l t r : List UInt8} {bl : List Blk} {ds : List (Int × Int × Int)} (h : getC l = some ((t, bl, ds), r)) : l = codeL ⟨t.toArray⟩ bl ds ++ r := by
  unfold getC at h
  split at h
  · rename_i p hp
    split at h
    · rename_i q hq
      split at h
      · rename_i s hs
        split at h
        · rename_i u hu
          split at h
          · rename_i v hv
            simp only [Option.some.injEq, Prod.mk.injEq] at h
            obtain ⟨⟨e1, e2, e3⟩, e4⟩ := h
            have h1 := getT_w (r := p.2) (t := p.1) hp
            have h2 := getN_w (r := q.2) (n := q.1) hq
            obtain ⟨h3, h3'⟩ := rep_of (fun _ _ _ => getB_w) q.1 q.2 s.1 s.2 hs
            have h4 := getN_w (r := u.2) (n := u.1) hu
            obtain ⟨h5, h5'⟩ := rep_of (fun _ _ _ => getD_w) u.1 u.2 v.1 v.2 hv
            rw [← e1, ← e2, ← e3, ← e4]
            simp only [codeL, List.append_assoc]
            rw [← h5, h5', ← h4, ← h3, h3', ← h2, ← h1]
          · simp at h
        · simp at h
      · simp at h
    · simp at h
  · simp at h

/-- An instruction whose numbers can be written. -/
structure InsOk (x : Ins) : Prop where
  op : 0 ≤ x.op ∧ x.op ≤ 1099511627776
  a : -999999999 ≤ x.a ∧ x.a ≤ 999999999
  b : 0 ≤ x.b ∧ x.b ≤ 1099511627776
  nm : x.nm.size ≤ 65536
theorem getN_num {n : Int} (h : 0 ≤ n ∧ n ≤ 1099511627776) (r : List UInt8) : getN (numL n ++ r) = some (n.toNat, r) := by
  rw [numL, if_pos h]
  exact getN_enc _ _ (by omega)
theorem getT_txt {s : ByteArray} (h : s.size ≤ 65536) (r : List UInt8) : getT (txtL s ++ r) = some (s.data.toList, r) := by
  rw [txtL, if_pos h, List.append_assoc, ← size_list s]
  exact getT_enc _ _ (by rw [size_list]; exact h)
theorem getI_e {x : Ins} (h : InsOk x) (r : List UInt8) : getI (insL x ++ r) = some (x, r) := by
  obtain ⟨op, a, b, nm⟩ := x
  obtain ⟨h1, h2, h3, h4⟩ := h
  simp only at h1 h2 h3 h4
  obtain ⟨s1, s2, s3, s4⟩ := sgnV_I h2.1 h2.2
  have hs : getS (numL (sgnI a) ++ (numL b ++ (txtL nm ++ r))) = some (a, numL b ++ (txtL nm ++ r)) := by
    rw [getS, getN_num (by omega)]
    simp only
    rw [if_neg s2, s1]
  have e1 : ((op.toNat : Nat) : Int) = op := by omega
  have e2 : ((b.toNat : Nat) : Int) = b := by omega
  simp only [insL, List.append_assoc]
  rw [getI, getN_num h1]
  simp only
  rw [hs]
  simp only
  rw [getN_num h3]
  simp only
  rw [getT_txt h4]
  simp only
  rw [e1, e2]
structure BlkOk (b : Blk) : Prop where
  cap : 0 ≤ b.cap ∧ b.cap ≤ 1099511627776
  len : b.l.length ≤ 1099511627776
  ins : ∀ x ∈ b.l, InsOk x
theorem getB_e {b : Blk} (h : BlkOk b) (r : List UInt8) : getB (blkL b ++ r) = some (b, r) := by
  obtain ⟨cap, par, l⟩ := b
  obtain ⟨h1, h2, h3⟩ := h
  simp only at h1 h2 h3
  have hp : getN (numL (parI par) ++ (numL (l.length : Int) ++ (catL insL l ++ r))) = some ((parI par).toNat, numL (l.length : Int) ++ (catL insL l ++ r)) := getN_num (by cases par <;> decide) _
  simp only [blkL, List.append_assoc]
  rw [getB, getN_num h1]
  simp only
  rw [hp]
  simp only
  rw [if_neg (by cases par <;> decide), getN_num (by omega)]
  simp only [Int.toNat_natCast]
  rw [rep_enc l r (fun x hx r => getI_e (h3 x hx) r)]
  simp only [Option.some.injEq, Prod.mk.injEq, Blk.mk.injEq, and_true]
  exact ⟨by omega, by cases par <;> rfl⟩
theorem getD_e {t : Int × Int × Int} (h1 : 0 ≤ t.1 ∧ t.1 ≤ 1099511627776) (h2 : 0 ≤ t.2.1 ∧ t.2.1 ≤ 1099511627776) (h3 : 0 ≤ t.2.2 ∧ t.2.2 ≤ 1099511627776) (r : List UInt8) : getD (decL t ++ r) = some (t, r) := by
  obtain ⟨a, b, c⟩ := t
  simp only at h1 h2 h3
  simp only [decL, List.append_assoc]
  rw [getD, getN_num h1]
  simp only
  rw [getN_num h2]
  simp only
  rw [getN_num h3]
  simp only [Option.some.injEq, Prod.mk.injEq, and_true]
  exact ⟨by omega, by omega, by omega⟩
/-- What was written is read. -/
theorem getC_e {lb : ByteArray} {bl : List Blk} {ds : List (Int × Int × Int)} (h1 : lb.size ≤ 65536) (h2 : bl.length ≤ 1099511627776) (h3 : ∀ b ∈ bl, BlkOk b) (h4 : ds.length ≤ 1099511627776)
    (h5 : ∀ t ∈ ds, (0 ≤ t.1 ∧ t.1 ≤ 1099511627776) ∧ (0 ≤ t.2.1 ∧ t.2.1 ≤ 1099511627776) ∧ (0 ≤ t.2.2 ∧ t.2.2 ≤ 1099511627776)) : getC (codeL lb bl ds) = some ((lb.data.toList, bl, ds), []) := by
  rw [codeL, getC, getT_txt h1]
  simp only
  rw [getN_num (by omega)]
  simp only [Int.toNat_natCast]
  rw [rep_enc bl _ (fun b hb r => getB_e (h3 b hb) r)]
  simp only
  rw [getN_num (by omega)]
  simp only [Int.toNat_natCast]
  have := rep_enc (g := getD) (f := decL) ds [] (fun t ht r => getD_e (h5 t ht).1 (h5 t ht).2.1 (h5 t ht).2.2 r)
  rw [List.append_nil] at this
  rw [this]
end Go.Proofs.YtlpipoihinceiaaGreatDoor
/- Code that is checked is read as it was written; what is read is small -/
namespace Go.Proofs.YtlpipoihinceiaaGreatDoor
open Go

theorem rep_mem {α : Type} {g : List UInt8 → Option (α × List UInt8)} (hg : ∀ l x r, g l = some (x, r) → r.length + 1 ≤ l.length) : ∀ (k : Nat) (l : List UInt8) (xs : List α) (r : List UInt8), rep g k l = some (xs, r) → ∀ x ∈ xs, ∃ l' r', g l' = some (x, r') ∧ l'.length ≤ l.length
  | 0, l, xs, r, h, x, hx => by
    simp only [rep, Option.some.injEq, Prod.mk.injEq] at h
    rw [← h.1] at hx
    simp at hx
  | k + 1, l, xs, r, h, x, hx => by
    cases hc : g l with
    | none => rw [rep_no hc] at h; simp at h
    | some p =>
      obtain ⟨y, q⟩ := p
      rw [rep_step hc] at h
      cases hr : rep g k q with
      | none => rw [hr] at h; simp at h
      | some s =>
        rw [hr] at h
        obtain ⟨ys, r'⟩ := s
        simp only [Option.map_some, Option.some.injEq, Prod.mk.injEq] at h
        rw [← h.1] at hx
        rcases List.mem_cons.1 hx with rfl | hx
        · exact ⟨l, q, hc, Nat.le_refl _⟩
        · obtain ⟨l', r2, h1, h2⟩ := rep_mem hg k q ys r' hr x hx
          have := hg l y q hc
          exact ⟨l', r2, h1, by omega⟩
theorem getI_nm {l : List UInt8} {x : Ins} {r : List UInt8} (h : getI l = some (x, r)) : x.nm.size ≤ l.length := by
  unfold getI at h
  split at h
  · rename_i p hp
    split at h
    · rename_i q hq
      split at h
      · rename_i s hs
        split at h
        · rename_i t ht
          simp only [Option.some.injEq, Prod.mk.injEq] at h
          have h1 := getN_len (r := p.2) (n := p.1) hp
          have h2 := getS_len (r := q.2) (v := q.1) hq
          have h3 := getN_len (r := s.2) (n := s.1) hs
          have h4 := getT_len (r := t.2) (t := t.1) ht
          rw [← h.1]
          show t.1.toArray.size ≤ _
          rw [List.size_toArray]
          omega
        · simp at h
      · simp at h
    · simp at h
  · simp at h
theorem getB_in {l : List UInt8} {x : Blk} {r : List UInt8} (h : getB l = some (x, r)) : ∀ i ∈ x.l, i.nm.size ≤ l.length := by
  unfold getB at h
  split at h
  · rename_i p hp
    split at h
    · rename_i q hq
      split at h
      · simp at h
      split at h
      · rename_i s hs
        split at h
        · rename_i t ht
          simp only [Option.some.injEq, Prod.mk.injEq] at h
          have h1 := getN_len (r := p.2) (n := p.1) hp
          have h2 := getN_len (r := q.2) (n := q.1) hq
          have h3 := getN_len (r := s.2) (n := s.1) hs
          intro i hi
          rw [← h.1] at hi
          obtain ⟨l', r', g1, g2⟩ := rep_mem (fun _ _ _ => getI_len) s.1 s.2 t.1 t.2 ht i hi
          have := getI_nm g1
          omega
        · simp at h
      · simp at h
    · simp at h
  · simp at h
theorem getC_sml {l t r : List UInt8} {bl : List Blk} {ds : List (Int × Int × Int)} (h : getC l = some ((t, bl, ds), r)) (hl : l.length ≤ 1000) : Sml ⟨t.toArray⟩ bl ds := by
  unfold getC at h
  split at h
  · rename_i p hp
    split at h
    · rename_i q hq
      split at h
      · rename_i s hs
        split at h
        · rename_i u hu
          split at h
          · rename_i v hv
            simp only [Option.some.injEq, Prod.mk.injEq] at h
            obtain ⟨⟨e1, e2, e3⟩, e4⟩ := h
            have h1 := getT_len (r := p.2) (t := p.1) hp
            have h2 := getN_len (r := q.2) (n := q.1) hq
            have h3 := rep_cnt (fun l x r h => by have := getB_len (l := l) (x := x) (r := r) h; omega) q.1 q.2 s.1 s.2 hs
            have h4 := getN_len (r := u.2) (n := u.1) hu
            have h5 := rep_cnt (fun _ _ _ => getD_len) u.1 u.2 v.1 v.2 hv
            have hm := rep_mem (fun l x r h => by have := getB_len (l := l) (x := x) (r := r) h; omega) q.1 q.2 s.1 s.2 hs
            rw [← e1, ← e2, ← e3]
            refine ⟨?_, by omega, by omega, fun b hb => ?_, fun b hb x hx => ?_⟩
            · show p.1.toArray.size ≤ _
              rw [List.size_toArray]
              omega
            · obtain ⟨l', r', g1, g2⟩ := hm b hb
              have := getB_len g1
              omega
            · obtain ⟨l', r', g1, g2⟩ := hm b hb
              have := getB_in g1 x hx
              omega
          · simp at h
        · simp at h
      · simp at h
    · simp at h
  · simp at h

theorem getC_nm {l t r : List UInt8} {bl : List Blk} {ds : List (Int × Int × Int)} (h : getC l = some ((t, bl, ds), r)) : ∀ b ∈ bl, ∀ x ∈ b.l, x.nm.size ≤ l.length := by
  unfold getC at h
  split at h
  · rename_i p hp
    split at h
    · rename_i q hq
      split at h
      · rename_i s hs
        split at h
        · rename_i u hu
          split at h
          · rename_i v hv
            simp only [Option.some.injEq, Prod.mk.injEq] at h
            obtain ⟨⟨e1, e2, e3⟩, e4⟩ := h
            have h1 := getT_len (r := p.2) (t := p.1) hp
            have h2 := getN_len (r := q.2) (n := q.1) hq
            have hm := rep_mem (fun l x r h => by have := getB_len (l := l) (x := x) (r := r) h; omega) q.1 q.2 s.1 s.2 hs
            rw [← e2]
            intro b hb x hx
            obtain ⟨l', r', g1, g2⟩ := hm b hb
            have := getB_in g1 x hx
            omega
          · simp at h
        · simp at h
      · simp at h
    · simp at h
  · simp at h

theorem insE_ok {bl : List Blk} {len : Nat} {x : Ins} (h : insE bl len x.op x.a x.b x.nm = 0) (hl : len ≤ 1000) (hb : bl.length ≤ 1000) (hn : x.nm.size ≤ 1000) : InsOk x := by
  obtain ⟨op, a, b, nm⟩ := x
  simp only at h hn
  unfold insE at h
  by_cases hk : knO op = false
  · rw [if_pos hk] at h; exact absurd h (by decide)
  rw [if_neg hk] at h
  by_cases h1 : C1B op a b nm = true
  · rw [if_pos h1] at h; exact absurd h (by decide)
  rw [if_neg h1] at h
  by_cases h2 : C2B op nm = true
  · rw [if_pos h2] at h; exact absurd h (by decide)
  rw [if_neg h2] at h
  by_cases h3 : rngB bl len op a b = false
  · rw [if_pos h3] at h; exact absurd h (by decide)
  have h3' : rngB bl len op a b = true := by simpa using h3
  have hk' : 1 ≤ op ∧ op ≤ 16 := by simpa [knO] using hk
  clear h h3 hk h2
  have ha : fldA op = false → a = 0 := fun hf => by
    cases hz : (a == 0) with
    | true => simpa using hz
    | false => exact absurd (by simp [C1B, hf, hz]) h1
  have hB : fldB op = false → b = 0 := fun hf => by
    cases hz : (b == 0) with
    | true => simpa using hz
    | false => exact absurd (by simp [C1B, hf, hz]) h1
  clear h1
  have hab : (-999999999 ≤ a ∧ a ≤ 999999999) ∧ 0 ≤ b ∧ b ≤ 1099511627776 := by
    unfold rngB at h3'
    rcases (show op = 1 ∨ op = 2 ∨ op = 3 ∨ op = 4 ∨ op = 5 ∨ op = 6 ∨ op = 7 ∨ op = 8 ∨ op = 9 ∨ op = 10 ∨ op = 11 ∨ op = 12 ∨ op = 13 ∨ op = 14 ∨ op = 15 ∨ op = 16 by omega) with rfl | rfl | rfl | rfl | rfl | rfl | rfl | rfl | rfl | rfl | rfl | rfl | rfl | rfl | rfl | rfl
    all_goals (first
      | (have e1 := ha (by decide); have e2 := hB (by decide); omega)
      | (have e2 := hB (by decide); simp at h3'; omega)
      | (simp at h3'; omega))
  exact ⟨by simp only; omega, hab.1, hab.2, by simp only; omega⟩
theorem decsE_all {bl : List Blk} : ∀ {p : Int} {ds : List (Int × Int × Int)}, decsE bl p ds = 0 → ∀ t ∈ ds, ∃ q, decE bl q t = 0
  | _, [], _, t, ht => by simp at ht
  | p, d :: r, h, t, ht => by
    by_cases hd : decE bl p d = 0
    · rw [decsE, if_pos hd] at h
      rcases List.mem_cons.1 ht with rfl | ht
      · exact ⟨p, hd⟩
      · exact decsE_all h t ht
    · rw [decsE, if_neg hd] at h
      exact absurd h hd
theorem decE_ok {bl : List Blk} {q : Int} {t : Int × Int × Int} (h : decE bl q t = 0) (hb : bl.length ≤ 1000) : (0 ≤ t.1 ∧ t.1 ≤ 1099511627776) ∧ (0 ≤ t.2.1 ∧ t.2.1 ≤ 1099511627776) ∧ (0 ≤ t.2.2 ∧ t.2.2 ≤ 1099511627776) := by
  obtain ⟨a, k, b⟩ := t
  unfold decE at h
  simp only at h
  split at h
  · exact absurd h (by decide)
  rename_i h1
  split at h
  · exact absurd h (by decide)
  split at h
  · exact absurd h (by decide)
  rename_i h3
  split at h
  · exact absurd h (by decide)
  rename_i h4
  have h4' : 0 ≤ b ∧ b < (bl.length : Int) := by
    refine ⟨?_, ?_⟩
    · by_cases hb : b < 0
      · exact absurd (badB_neg hb) h4
      · omega
    · by_cases hb : (bl.length : Int) ≤ b
      · exact absurd (badB_big hb) h4
      · omega
  simp at h1 h3
  show (0 ≤ a ∧ a ≤ 1099511627776) ∧ (0 ≤ k ∧ k ≤ 1099511627776) ∧ (0 ≤ b ∧ b ≤ 1099511627776)
  refine ⟨by omega, ?_, by omega⟩
  by_cases k1 : k = 1
  · omega
  by_cases k2 : k = 2
  · omega
  have := h3 k1 k2
  omega
/-- Code that is checked is read as it was written. -/
theorem code_rt {lb : ByteArray} {bl : List Blk} {ds : List (Int × Int × Int)} (h : codeE lb bl ds = 0) (hs : Sml lb bl ds) : getC (codeL lb bl ds) = some ((lb.data.toList, bl, ds), []) := by
  unfold codeE at h
  by_cases hl : labelB lb = false
  · rw [if_pos hl] at h; exact absurd h (by decide)
  rw [if_neg hl] at h
  by_cases hf : frstE (blkE bl) bl = 0
  rotate_left
  · rw [if_neg hf] at h; exact absurd h hf
  rw [if_pos hf] at h
  have h1 := hs.slb
  have h2 := hs.sbl
  have h3 := hs.sds
  refine getC_e (by omega) (by omega) (fun b hb => ?_) (by omega) fun t ht => ?_
  · have hbE := frstE_all _ hf b hb
    unfold blkE at hbE
    split at hbE
    · exact absurd hbE (by decide)
    rename_i hc
    split at hbE
    · exact absurd hbE (by decide)
    simp at hc
    have hbl := hs.sl b hb
    exact ⟨by omega, by omega, fun x hx => insE_ok (frstE_all _ hbE x hx) hbl h2 (hs.snm b hb x hx)⟩
  · obtain ⟨q, hq⟩ := decsE_all h t ht
    exact decE_ok hq h2
/-- What Decode makes of bytes. -/
def decO (l : List UInt8) : Option (ByteArray × List Blk × List (Int × Int × Int)) := match getC l with
  | some p => if p.2 = [] ∧ codeE ⟨p.1.1.toArray⟩ p.1.2.1 p.1.2.2 = 0 then some (⟨p.1.1.toArray⟩, p.1.2.1, p.1.2.2) else none
  | none => none
theorem decO_rt {lb : ByteArray} {bl : List Blk} {ds : List (Int × Int × Int)} (h : codeE lb bl ds = 0) (hs : Sml lb bl ds) : decO (codeL lb bl ds) = some (lb, bl, ds) := by
  rw [decO, code_rt h hs]
  simp only
  exact if_pos ⟨trivial, h⟩
theorem decO_of {l : List UInt8} {lb : ByteArray} {bl : List Blk} {ds : List (Int × Int × Int)} (h : decO l = some (lb, bl, ds)) : codeL lb bl ds = l ∧ codeE lb bl ds = 0 := by
  unfold decO at h
  split at h
  · rename_i p hp
    obtain ⟨⟨t, b, d⟩, r⟩ := p
    simp only at h
    split at h
    · rename_i hr
      simp only [Option.some.injEq, Prod.mk.injEq] at h
      obtain ⟨rfl, rfl, rfl⟩ := h
      have := getC_w hp
      rw [hr.1, List.append_nil] at this
      exact ⟨this.symm, hr.2⟩
    · simp at h
  · simp at h
theorem decO_sml {l : List UInt8} {lb : ByteArray} {bl : List Blk} {ds : List (Int × Int × Int)} (h : decO l = some (lb, bl, ds)) (hl : l.length ≤ 1000) : Sml lb bl ds := by
  unfold decO at h
  split at h
  · rename_i p hp
    obtain ⟨⟨t, b, d⟩, r⟩ := p
    simp only at h
    split at h
    · simp only [Option.some.injEq, Prod.mk.injEq] at h
      obtain ⟨rfl, rfl, rfl⟩ := h
      exact getC_sml hp hl
    · simp at h
  · simp at h
theorem grt_len {lb : ByteArray} {bl : List Blk} {ds : List (Int × Int × Int)} (h : grtC lb bl ds.length = false) : (codeL lb bl ds).length ≤ 1000000 := by
  simp only [grtC, Bool.or_eq_false_iff, decide_eq_false_iff_not, grtB] at h
  obtain ⟨⟨h1, h2⟩, h3, h4⟩ := h
  have hk : ∀ b ∈ bl, bigK b = false := fun b hb => by
    have := List.any_eq_false.1 h4 b hb
    simpa using this
  have hi : ∀ b ∈ bl, ∀ x ∈ b.l, (insL x).length ≤ 144 := fun b hb x hx => by
    have h0 := hk b hb
    simp only [bigK, Bool.or_eq_false_iff] at h0
    have hx2 := List.any_eq_false.1 h0.2 x hx
    simp only [bigI, decide_eq_true_eq] at hx2
    have g1 := numL_len x.op
    have g2 := numL_len (sgnI x.a)
    have g3 := numL_len x.b
    have g4 := txtL_len x.nm
    simp only [insL, List.length_append]
    omega
  have hb : ∀ b ∈ bl, (blkL b).length ≤ 14418 := fun b hb => by
    have h0 := catL_len insL 144 b.l (hi b hb)
    have g0 := hk b hb
    simp only [bigK, Bool.or_eq_false_iff, decide_eq_false_iff_not] at g0
    have g1 := numL_len b.cap
    have g2 := numL_len (parI b.par)
    have g3 := numL_len b.l.length
    have g4 : b.l.length * 144 ≤ 100 * 144 := Nat.mul_le_mul_right _ (by omega)
    simp only [blkL, List.length_append]
    omega
  have g0 := catL_len blkL 14418 bl hb
  have g1 : bl.length * 14418 ≤ 60 * 14418 := Nat.mul_le_mul_right _ (by omega)
  have g2 := catL_len decL 18 ds (fun t _ => by
    have g1 := numL_len t.1
    have g2 := numL_len t.2.1
    have g3 := numL_len t.2.2
    simp only [decL, List.length_append]
    omega)
  have g3 : ds.length * 18 ≤ 20 * 18 := Nat.mul_le_mul_right _ (by omega)
  have g4 := txtL_len lb
  have g5 := numL_len bl.length
  have g6 := numL_len ds.length
  simp only [codeL, List.length_append]
  omega
end Go.Proofs.YtlpipoihinceiaaGreatDoor
/- compile.Decode: the deferred function -/
namespace Go.Proofs.YtlpipoihinceiaaGreatDoor
open Go.RowKit Go.Proofs Go.Shelf

set_option maxRecDepth 100000 in
theorem catch_panicking (a b : Nat) (c0 c1 c2 c3 : Value) (w : World) (ha : w.heap[a]? = some (.cells #[c0, c1, c2] 62 (0, 0))) (hb : w.heap[b]? = some (.cells #[c3] 32 (0, 0))) (hab : a ≠ b) :
    CallsD Tryz.prog 91 #[.pointer (some ⟨a, 0, none⟩), .pointer (some ⟨b, 0, none⟩)] (.panicking gaveUp) w fun e u' w' =>
      e = .returned (.tuple #[]) ∧ u' = .panicking [{ v := .iface 238 (.agg #[]), recovered := true }] ∧
      w' = (((w.setCell ⟨a, 0, none⟩ (.string ⟨#[]⟩)).setCell ⟨a, 1, none⟩ (.slice none 0 0)).setCell ⟨a, 2, none⟩ (.slice none 0 0)).setCell ⟨b, 0, none⟩ (.int .i64 13) := by
  have x0 := cell_of_row w a 0 _ _ (0, 0) ha
  have x1 := cell_of_row w a 1 _ _ (0, 0) ha
  have x2 := cell_of_row w a 2 _ _ (0, 0) ha
  have x3 := cell_of_row w b 0 _ _ (0, 0) hb
  have y0 := Lib.frozen_of_heap ha 0
  have y1 := Lib.frozen_of_heap ha 1
  have y2 := Lib.frozen_of_heap ha 2
  have y3 := Lib.frozen_of_heap hb 0
  refine callsD_of_wpS Tryz.func91 rfl fun c₀ cs hu => ?_
  simp only [List.getElem?_toArray, List.getElem?_cons_zero, List.getElem?_cons_succ] at x0 x1 x2 x3
  unfold gaveUp at hu
  apply wpS_seq
  apply wpS_region
  simp [wpOpsS, go_sem, recoverD, hu, Tryz.ntmps91, Exit.thenS]
  apply wpS_seq
  apply wpS_region
  simp [wpOpsS, go_sem, Exit.thenS]
  refine wpS_cond (t := true) (by simp [Act.eval]) ?_
  simp only [if_true]
  apply wpS_region
  simp [wpOpsS, go_sem, x0, x1, x2, x3, y0, y1, y2, y3, bodyPostS, results, Tryz.results91]

set_option maxRecDepth 100000 in
theorem catch_idle (p q : Addr) (w : World) :
    CallsD Tryz.prog 91 #[.pointer (some p), .pointer (some q)] .returning w fun e u' w' => e = .returned (.tuple #[]) ∧ u' = .returning ∧ w' = w := by
  refine callsD_of_wpS Tryz.func91 rfl fun c₀ cs hu => ?_
  apply wpS_seq
  apply wpS_region
  simp [wpOpsS, go_sem, recoverD, hu, Tryz.ntmps91, Exit.thenS]
  apply wpS_seq
  apply wpS_region
  simp [wpOpsS, go_sem, Exit.thenS]
  refine wpS_cond (t := false) (by simp [Act.eval]) ?_
  simp only [Bool.false_eq_true, if_false]
  refine wpS_of_wp (wp_skip ?_)
  cases c₀
  simp_all [bodyPostS, results, Tryz.results91]
end Go.Proofs.YtlpipoihinceiaaGreatDoor
/- compile.Decode -/
namespace Go.Proofs.YtlpipoihinceiaaGreatDoor
open Go.RowKit Go.Proofs Go.Shelf

theorem cdZ_at (x : Int × Int × Int) : ∀ (l : List (Int × Int × Int)) (j : Nat), l[j]? = some x → ∀ q u, ([.int .i64 x.1, .int .i64 x.2.1, .int .i64 x.2.2] : List Value)[q]? = some u → (cdZ l)[j * 3 + q]? = some u
  | [], j, h => by simp at h
  | y :: l, 0, h => by
    simp at h
    subst h
    intro q u hq
    rw [cdZ, Nat.zero_mul, Nat.zero_add, List.getElem?_append_left (List.getElem?_eq_some_iff.1 hq).1]
    exact hq
  | y :: l, j + 1, h => by
    intro q u hq
    have ih := cdZ_at x l j (by simpa using h) q u hq
    rw [cdZ, show (j + 1) * 3 + q = 3 + (j * 3 + q) by omega, List.getElem?_append_right (by simp)]
    simpa using ih
theorem decC_of {W : World} {B : Nat} {v : Value} {ds : List (Int × Int × Int)} (h : W.ownsRow B 135 3 v ds.length (cdZ ds)) : ∃ A c, v = .slice A ds.length c ∧ DecC W A c ds := by
  by_cases h0 : ds.length = 0
  · obtain ⟨A, c, rfl⟩ := own_form h
    have hc : ds.length ≤ c ∧ c ≤ 9223372036854775807 := by
      rcases h.2 with ⟨e, _⟩ | ⟨g, cap, cur, e, _, _, h1, h2, _⟩
      · simp only [Value.slice.injEq] at e
        omega
      · simp only [Value.slice.injEq] at e
        unfold maxLen at h2
        omega
    exact ⟨A, c, rfl, hc.1, hc.2, fun j t hj => by have := (List.getElem?_eq_some_iff.1 hj).1; omega⟩
  · obtain ⟨g, c, rfl, hc1, hc2⟩ := own_pos h (by omega)
    refine ⟨_, c, rfl, hc1, hc2, fun j t hj => ?_⟩
    obtain ⟨hjl, _⟩ := List.getElem?_eq_some_iff.1 hj
    have hcell : ∀ q u, q < 3 → ([.int .i64 t.1, .int .i64 t.2.1, .int .i64 t.2.2] : List Value)[q]? = some u → W.cell? ⟨g, j * 3 + q, none⟩ = some u := fun q u hq hu => (h.cellAt _ (by omega)).trans (cdZ_at t ds j hj q u hu)
    exact ⟨g, 0, rfl, by simpa using hcell 0 _ (by omega) rfl, by simpa using hcell 1 _ (by omega) rfl, by simpa using hcell 2 _ (by omega) rfl⟩
theorem insC_of {W : World} {B : Nat} {v : Value} {l : List Ins} (h : InsAt B W v l) (hn : ∀ x ∈ l, x.nm.size ≤ 9223372036854775807) : ∃ A c, v = .slice A l.length c ∧ InsC W A c l := by
  have h' := h
  unfold InsAt at h'
  by_cases h0 : l.length = 0
  · obtain ⟨A, c, rfl⟩ := own_form h'
    have hc : l.length ≤ c ∧ c ≤ 9223372036854775807 := by
      rcases h'.2 with ⟨e, _⟩ | ⟨g, cap, cur, e, _, _, h1, h2, _⟩
      · simp only [Value.slice.injEq] at e
        omega
      · simp only [Value.slice.injEq] at e
        unfold maxLen at h2
        omega
    exact ⟨A, c, rfl, hc.1, hc.2, hn, fun k x hk => by have := (List.getElem?_eq_some_iff.1 hk).1; omega⟩
  · obtain ⟨g, c, rfl, hc1, hc2⟩ := own_pos h' (by omega)
    refine ⟨_, c, rfl, hc1, hc2, hn, fun k x hk => ?_⟩
    obtain ⟨hkl, _⟩ := List.getElem?_eq_some_iff.1 hk
    have hic : ∀ q u, q < 4 → x.cells[q]? = some u → W.cell? ⟨g, k * 4 + q, none⟩ = some u := fun q u hq hu => (h'.cellAt _ (by omega)).trans (insC_at x l k hk q u hu)
    exact ⟨g, 0, rfl, by simpa using hic 0 _ (by omega) rfl, by simpa using hic 1 _ (by omega) rfl, by simpa using hic 2 _ (by omega) rfl, by simpa using hic 3 _ (by omega) rfl⟩
theorem blkC_of {W : World} {B : Nat} {v : Value} {BS : List Bg} {bl : List Blk} (h : W.ownsRow B 133 3 v BS.length (bgC BS)) (hb : BlksAt B W BS bl) (hn : ∀ b ∈ bl, ∀ x ∈ b.l, x.nm.size ≤ 9223372036854775807) : ∃ A c, v = .slice A bl.length c ∧ BlkC W A c bl := by
  have hl := hb.length
  rw [hl] at h
  by_cases h0 : bl.length = 0
  · obtain ⟨A, c, rfl⟩ := own_form h
    have hc : bl.length ≤ c ∧ c ≤ 9223372036854775807 := by
      rcases h.2 with ⟨e, _⟩ | ⟨g, cap, cur, e, _, _, h1, h2, _⟩
      · simp only [Value.slice.injEq] at e
        omega
      · simp only [Value.slice.injEq] at e
        unfold maxLen at h2
        omega
    exact ⟨A, c, rfl, hc.1, hc.2, fun j t hj => by have := (List.getElem?_eq_some_iff.1 hj).1; omega⟩
  · obtain ⟨g, c, rfl, hc1, hc2⟩ := own_pos h (by omega)
    refine ⟨_, c, rfl, hc1, hc2, fun j b hj => ?_⟩
    obtain ⟨hjl, _⟩ := List.getElem?_eq_some_iff.1 hj
    obtain ⟨y, hy, e1, e2, hi⟩ := hb.at_ hj
    have hcell : ∀ q u, q < 3 → y.cells[q]? = some u → W.cell? ⟨g, j * 3 + q, none⟩ = some u := fun q u hq hu => (h.cellAt _ (by omega)).trans (bgC_at y BS j hy q u hu)
    obtain ⟨A', c', hv, hic⟩ := insC_of hi (hn b (List.mem_of_getElem? hj))
    exact ⟨g, 0, rfl, by rw [← e1]; simpa using hcell 0 _ (by omega) rfl, by rw [← e2]; simpa using hcell 1 _ (by omega) rfl, A', c', by rw [← hv]; simpa using hcell 2 _ (by omega) rfl, hic⟩

/-- What Decode answers. -/
def DecR (s : ByteArray) (w : World) (e : Ending) (w' : World) : Prop := match decO s.data.toList with
  | some p => ∃ A1 c1 A2 c2, e = .returned (.tuple #[.agg #[.string p.1, .slice A1 p.2.1.length c1, .slice A2 p.2.2.length c2], .int .i64 0]) ∧ BlkC w' A1 c1 p.2.1 ∧ DecC w' A2 c2 p.2.2 ∧ Below w.heap.size w w'
  | none => e = .returned (.tuple #[.agg #[.string ⟨#[]⟩, .slice none 0 0, .slice none 0 0], .int .i64 13]) ∧ Below w.heap.size w w'

set_option maxRecDepth 100000 in
set_option maxHeartbeats 16000000 in
theorem Decode_any (s : ByteArray) (w : World) (hs : s.size ≤ 1000000) : Calls Tryz.prog 35 #[.string s] w (DecR s w) := by
  have hmf : ∀ (fn : Fn) (first cap : Array Value) (w : World), (Instr.makeFunc fn first cap).run Tryz.prog w = .ok (.func fn first cap) w := fun _ _ _ _ => rfl
  have hsl : s.data.toList.length = s.size := by simp
  obtain ⟨W3, hW3⟩ : ∃ W3, ((w.alloc (.cells #[.string ⟨#[]⟩, .slice none 0 0, .slice none 0 0] 62)).alloc (.cells #[.int .i64 0] 32)).alloc (.cells #[.string s] 138) = W3 := ⟨_, rfl⟩
  have hB3 : Below w.heap.size w W3 := by rw [← hW3]; exact (((Below.refl _ _).alloc (Nat.le_refl _) _).alloc (by simp) _).alloc (by simp; omega) _
  have hz3 : W3.heap.size = w.heap.size + 3 := by rw [← hW3]; simp
  have hc0 : W3.heap[w.heap.size]? = some (.cells #[.string ⟨#[]⟩, .slice none 0 0, .slice none 0 0] 62 (0, 0)) := by
    rw [← hW3, Below.heap_alloc _ _ _ (by simp; omega), Below.heap_alloc _ _ _ (by simp)]
    exact heap_alloc_new w _
  have hc1 : W3.heap[w.heap.size + 1]? = some (.cells #[.int .i64 0] 32 (0, 0)) := by
    rw [← hW3, Below.heap_alloc _ _ _ (by simp)]
    have := heap_alloc_new (w.alloc (.cells #[.string ⟨#[]⟩, .slice none 0 0, .slice none 0 0] 62)) (.cells #[.int .i64 0] 32)
    simpa using this
  have hrd : RdAt (w.heap.size + 1 + 1) s.data.toList W3 := by
    refine ⟨?_, by omega⟩
    rw [← hW3]
    have := heap_alloc_new ((w.alloc (.cells #[.string ⟨#[]⟩, .slice none 0 0, .slice none 0 0] 62)).alloc (.cells #[.int .i64 0] 32)) (.cells #[.string s] 138)
    simpa using this
  have HCO := Lib.hid (rCode_any (w.heap.size + 1 + 1) s.data.toList W3 hrd (by omega))
  have HB3 := Lib.hid (And.intro hB3 (And.intro hz3 (And.intro hc0 (And.intro hc1 hsl))))
  have HW3 := Lib.hid hW3
  clear hrd hB3 hz3 hc0 hc1 hsl hW3
  cases hg : getC s.data.toList with
  | none =>
    have HD := Lib.hid (show decO s.data.toList = none by rw [decO, hg])
    have HG := Lib.hid hg
    clear hg
    go_enter_defers Tryz.func35, Tryz.ntmps35
    go_wp2_with fail
    rw [HW3.out]
    refine HCO.out.mono ?_
    intro e w4 hR
    unfold CodR at hR
    rw [HG.out] at hR
    obtain ⟨rfl, hk⟩ := hR
    have hBL : Below w.heap.size w w4 := HB3.out.1.trans (hk.to_below (by have := HB3.out.2.1; omega) (fun k hk => by omega))
    have ha := (hk.block w.heap.size (by have := HB3.out.2.1; omega) (by omega)).trans HB3.out.2.2.1
    have hb := (hk.block (w.heap.size + 1) (by have := HB3.out.2.1; omega) (by omega)).trans HB3.out.2.2.2.1
    refine leaves_cons (f := 91) (args := #[.pointer (some ⟨w.heap.size, 0, none⟩), .pointer (some ⟨w.heap.size + 1, 0, none⟩)]) (by simp) (by simp [go_sem]) ?_
    refine (catch_panicking w.heap.size (w.heap.size + 1) _ _ _ _ w4 ha hb (by omega)).mono ?_
    rintro e u' w'' ⟨rfl, rfl, hw⟩
    have hsa : w''.heap[w.heap.size]? = some (.cells #[.string ⟨#[]⟩, .slice none 0 0, .slice none 0 0] 62 (0, 0)) := by
      rw [hw]
      exact (Below.heap_setCell _ _ _ _ (by simp)).trans (tri_set ha _ _ _)
    have hsb : w''.heap[w.heap.size + 1]? = some (.cells #[.int .i64 13] 32 (0, 0)) := by
      have h1 := (tri_other (W := w4) (b := w.heap.size) (k := w.heap.size + 1) (by omega) (.string ⟨#[]⟩) (.slice none 0 0) (.slice none 0 0)).trans hb
      rw [hw]
      simp [World.setCell, Array.getElem?_modify] at h1 ⊢
      rw [h1]
      simp
    have hBW : Below w.heap.size w w'' := by
      rw [hw]
      exact (((hBL.setCell (by simp) _).setCell (by simp) _).setCell (by simp) _).setCell (by simp) _
    have s0 := cell_of_row w'' w.heap.size 0 _ _ (0, 0) hsa
    have s1 := cell_of_row w'' w.heap.size 1 _ _ (0, 0) hsa
    have s2 := cell_of_row w'' w.heap.size 2 _ _ (0, 0) hsa
    have s3 := cell_of_row w'' (w.heap.size + 1) 0 _ _ (0, 0) hsb
    have HR : DecR s w (.returned (.tuple #[.agg #[.string ⟨#[]⟩, .slice none 0 0, .slice none 0 0], .int .i64 13])) w'' := by
      unfold DecR
      rw [HD.out]
      exact ⟨rfl, hBW⟩
    clear hw
    have HRR := Lib.hid HR
    clear HR
    simp [Leaves, settle, results, Tryz.results35, go_sem, s0, s1, s2, s3]
    exact HRR.out
  | some p =>
  obtain ⟨⟨t, bl, ds⟩, rest⟩ := p
  have HG := Lib.hid hg
  have HSM := Lib.hid (show ∀ b ∈ bl, ∀ x ∈ b.l, x.nm.size ≤ 1000000 from fun b hb x hx => by have h1 := getC_nm hg b hb x hx; have := HB3.out.2.2.2.2; omega)
  clear hg
  obtain ⟨lab, HLAB⟩ : ∃ q : ByteArray, Hid (⟨t.toArray⟩ = q) := ⟨_, Lib.hid rfl⟩
  go_enter_defers Tryz.func35, Tryz.ntmps35
  go_wp2_with fail
  rw [HW3.out]
  refine HCO.out.mono ?_
  intro e w4 hR
  unfold CodR at hR
  rw [HG.out] at hR
  obtain ⟨bv, dv, BS, rfl, hbo, hbk, hdo, hrd, hk⟩ := hR
  simp only at hbk hdo hrd ⊢
  rw [HLAB.out]
  obtain ⟨A1, c1, rfl, hbc⟩ := blkC_of hbo hbk (fun b hb x hx => by have := HSM.out b hb x hx; omega)
  obtain ⟨A2, c2, rfl, hdc⟩ := decC_of hdo
  have HROW := Lib.hid (And.intro hbo (And.intro hbk hdo))
  have hBL : Below w.heap.size w w4 := HB3.out.1.trans (hk.to_below (by have := HB3.out.2.1; omega) (fun k hk => by omega))
  have ha := (hk.block w.heap.size (by have := HB3.out.2.1; omega) (by omega)).trans HB3.out.2.2.1
  have hb := (hk.block (w.heap.size + 1) (by have := HB3.out.2.1; omega) (by omega)).trans HB3.out.2.2.2.1
  have hz4 : w.heap.size + 3 ≤ w4.heap.size := by have := hk.size; have := HB3.out.2.1; omega
  obtain ⟨N1, HN1⟩ : ∃ Q, Hid (bl.length = Q) := ⟨_, Lib.hid rfl⟩
  obtain ⟨N2, HN2⟩ : ∃ Q, Hid (ds.length = Q) := ⟨_, Lib.hid rfl⟩
  rw [HN1.out, HN2.out]
  obtain ⟨W5, hW5⟩ : ∃ W5, w4.alloc (.cells #[.string lab, .slice A1 N1 c1, .slice A2 N2 c2] 62) = W5 := ⟨_, rfl⟩
  have hB5 : Below w4.heap.size w4 W5 := by rw [← hW5]; exact (Below.refl _ _).alloc (Nat.le_refl _) _
  have hc5 : W5.heap[w4.heap.size]? = some (.cells #[.string lab, .slice A1 N1 c1, .slice A2 N2 c2] 62 (0, 0)) := by rw [← hW5]; exact heap_alloc_new w4 _
  have hz5 : W5.heap.size = w4.heap.size + 1 := by rw [← hW5]; simp
  obtain ⟨R, HRR⟩ : ∃ q : ByteArray, Hid (⟨rest.toArray⟩ = q) := ⟨_, Lib.hid rfl⟩
  have hr5 : W5.cell? ⟨w.heap.size + 1 + 1, 0, none⟩ = some (.string R) := by
    rw [← HRR.out]
    exact (hB5.cell (by simp; omega)).trans hrd.cell
  have k0 := cell_of_row W5 w4.heap.size 0 _ _ (0, 0) hc5
  have k1 := cell_of_row W5 w4.heap.size 1 _ _ (0, 0) hc5
  have k2 := cell_of_row W5 w4.heap.size 2 _ _ (0, 0) hc5
  have a0 := cell_of_row W5 w.heap.size 0 _ _ (0, 0) ((hB5.block _ (by omega)).trans ha)
  have a1 := cell_of_row W5 w.heap.size 1 _ _ (0, 0) ((hB5.block _ (by omega)).trans ha)
  have a2 := cell_of_row W5 w.heap.size 2 _ _ (0, 0) ((hB5.block _ (by omega)).trans ha)
  have a3 := cell_of_row W5 (w.heap.size + 1) 0 _ _ (0, 0) ((hB5.block _ (by omega)).trans hb)
  have y0 := Lib.frozen_of_heap ((hB5.block _ (by omega)).trans ha) 0
  have y1 := Lib.frozen_of_heap ((hB5.block _ (by omega)).trans ha) 1
  have y2 := Lib.frozen_of_heap ((hB5.block _ (by omega)).trans ha) 2
  have y3 := Lib.frozen_of_heap ((hB5.block _ (by omega)).trans hb) 0
  simp at k0 k1 k2 a0 a1 a2 a3
  have HA5 := Lib.hid (And.intro ((hB5.block _ (by omega)).trans ha) (And.intro ((hB5.block _ (by omega)).trans hb) (And.intro hz5 (And.intro hz4 (And.intro (hBL.trans (hB5.mono (by omega))) (And.intro (hbc.keep hB5) (hdc.keep hB5)))))))
  have HW5 := Lib.hid hW5
  clear hbo hbk hdo hrd hk hbc hdc hBL ha hb hB5 hc5 hz5 hz4
  -- how it ends
  have HEND0 : Hid (decO s.data.toList = none → ∀ X, Below W5.heap.size W5 X → DecR s w (.returned (.tuple #[.agg #[.string ⟨#[]⟩, .slice none 0 0, .slice none 0 0], .int .i64 13])) ((((X.setCell ⟨w.heap.size, 0, none⟩ (.string ⟨#[]⟩)).setCell ⟨w.heap.size, 1, none⟩ (.slice none 0 0)).setCell ⟨w.heap.size, 2, none⟩ (.slice none 0 0)).setCell ⟨w.heap.size + 1, 0, none⟩ (.int .i64 13))) := Lib.hid fun hd X hX => by
    unfold DecR
    rw [hd]
    have hBX : Below w.heap.size w X := HA5.out.2.2.2.2.1.trans (hX.mono HA5.out.2.2.2.2.1.size)
    exact ⟨rfl, (((hBX.setCell (by simp) _).setCell (by simp) _).setCell (by simp) _).setCell (by simp) _⟩
  have HENDC : Hid (∀ X, Below W5.heap.size W5 X → ∀ u0 u1 u2 u3 : Value, ((((X.setCell ⟨w.heap.size, 0, none⟩ u0).setCell ⟨w.heap.size, 1, none⟩ u1).setCell ⟨w.heap.size, 2, none⟩ u2).setCell ⟨w.heap.size + 1, 0, none⟩ u3).heap[w.heap.size]? = some (.cells #[u0, u1, u2] 62 (0, 0)) ∧ ((((X.setCell ⟨w.heap.size, 0, none⟩ u0).setCell ⟨w.heap.size, 1, none⟩ u1).setCell ⟨w.heap.size, 2, none⟩ u2).setCell ⟨w.heap.size + 1, 0, none⟩ u3).heap[w.heap.size + 1]? = some (.cells #[u3] 32 (0, 0))) := Lib.hid fun X hX u0 u1 u2 u3 => by
    have hl0 := lt_of_block HA5.out.1
    have hl1 := lt_of_block HA5.out.2.1
    have ha := (hX.block w.heap.size hl0).trans HA5.out.1
    have hb := (hX.block (w.heap.size + 1) hl1).trans HA5.out.2.1
    refine ⟨(Below.heap_setCell _ _ _ _ (by simp)).trans (tri_set ha _ _ _), ?_⟩
    have h1 := (tri_other (W := X) (b := w.heap.size) (k := w.heap.size + 1) (by omega) u0 u1 u2).trans hb
    simp [World.setCell, Array.getElem?_modify] at h1 ⊢
    rw [h1]
    simp
  by_cases hre : rest = []
  rotate_left
  · have HD := Lib.hid (show decO s.data.toList = none by
      rw [decO, HG.out]
      simp only
      rw [if_neg (fun h => hre h.1)])
    have hR1 : R.toList ≠ [] := by
      rw [← HRR.out, ByteArray.toList_eq]
      simpa using hre
    have hR2 : R.toList.isEmpty = false := by simpa using hR1
    have HE := Lib.hid (HEND0.out HD.out W5 (Below.refl _ _))
    have HQ := Lib.hid (HENDC.out W5 (Below.refl _ _) (.string ⟨#[]⟩) (.slice none 0 0) (.slice none 0 0) (.int .i64 13))
    clear hre
    go_wp2_with fail
    refine leaves_cons (f := 91) (args := #[.pointer (some ⟨w.heap.size, 0, none⟩), .pointer (some ⟨w.heap.size + 1, 0, none⟩)]) (by simp) (by simp [go_sem]) ?_
    refine (catch_idle ⟨w.heap.size, 0, none⟩ ⟨w.heap.size + 1, 0, none⟩ _).mono ?_
    rintro e u' w'' ⟨rfl, rfl, hw⟩
    have HR := HE.out
    obtain ⟨hsa, hsb⟩ := HQ.out
    rw [← hw] at HR hsa hsb
    have s0 := cell_of_row w'' w.heap.size 0 _ _ (0, 0) hsa
    have s1 := cell_of_row w'' w.heap.size 1 _ _ (0, 0) hsa
    have s2 := cell_of_row w'' w.heap.size 2 _ _ (0, 0) hsa
    have s3 := cell_of_row w'' (w.heap.size + 1) 0 _ _ (0, 0) hsb
    have HRR := Lib.hid HR
    clear hw HR
    simp [Leaves, settle, results, Tryz.results35, go_sem, s0, s1, s2, s3]
    exact HRR.out
  · have hR0 : R = ⟨#[]⟩ := by rw [← HRR.out, hre]
    subst hR0
    have hck := cCheck_gen lab bl ds A1 c1 A2 c2 W5 HA5.out.2.2.2.2.2.1 HA5.out.2.2.2.2.2.2
    rw [HN1.out, HN2.out] at hck
    obtain ⟨E, HEE⟩ : ∃ Q, Hid (codeE lab bl ds = Q) := ⟨_, Lib.hid rfl⟩
    rw [HEE.out] at hck
    have HCK := Lib.hid hck
    have HRE := Lib.hid hre
    clear hck hre
    go_wp2_with fail
    refine HCK.out.mono ?_
    rintro e w6 ⟨rfl, hb6⟩
    have HB6 := Lib.hid hb6
    have hl4 : w4.heap.size < W5.heap.size := by have := HA5.out.2.2.1; omega
    have n0 := (hb6.cell (p := ⟨w4.heap.size, 0, none⟩) hl4).trans k0
    have n1 := (hb6.cell (p := ⟨w4.heap.size, 1, none⟩) hl4).trans k1
    have n2 := (hb6.cell (p := ⟨w4.heap.size, 2, none⟩) hl4).trans k2
    clear k0 k1 k2 a0 a1 a2 a3 y0 y1 y2 y3 hr5 HCK
    have hla := lt_of_block HA5.out.1
    have hlb := lt_of_block HA5.out.2.1
    have ha6 := (hb6.block w.heap.size hla).trans HA5.out.1
    have hb7 := (hb6.block (w.heap.size + 1) hlb).trans HA5.out.2.1
    have a0 := cell_of_row w6 w.heap.size 0 _ _ (0, 0) ha6
    have a1 := cell_of_row w6 w.heap.size 1 _ _ (0, 0) ha6
    have a2 := cell_of_row w6 w.heap.size 2 _ _ (0, 0) ha6
    have a3 := cell_of_row w6 (w.heap.size + 1) 0 _ _ (0, 0) hb7
    have y0 := Lib.frozen_of_heap ha6 0
    have y1 := Lib.frozen_of_heap ha6 1
    have y2 := Lib.frozen_of_heap ha6 2
    have y3 := Lib.frozen_of_heap hb7 0
    simp at a0 a1 a2 a3
    clear ha6 hb7 hb6 hla hlb hl4
    cases he : E == 0 with
    | false =>
      have he' : (E != 0) = true := by rw [bne, he]; rfl
      have HD := Lib.hid (show decO s.data.toList = none by
        rw [decO, HG.out]
        simp only
        rw [HLAB.out, HEE.out, if_neg (fun h => by simp at he; exact he h.2)])
      have HE := Lib.hid (HEND0.out HD.out w6 HB6.out)
      have HQ := Lib.hid (HENDC.out w6 HB6.out (.string ⟨#[]⟩) (.slice none 0 0) (.slice none 0 0) (.int .i64 13))
      clear n0 n1 n2
      go_wp2_with fail
      refine leaves_cons (f := 91) (args := #[.pointer (some ⟨w.heap.size, 0, none⟩), .pointer (some ⟨w.heap.size + 1, 0, none⟩)]) (by simp) (by simp [go_sem]) ?_
      refine (catch_idle ⟨w.heap.size, 0, none⟩ ⟨w.heap.size + 1, 0, none⟩ _).mono ?_
      rintro e u' w'' ⟨rfl, rfl, hw⟩
      have HR := HE.out
      obtain ⟨hsa, hsb⟩ := HQ.out
      rw [← hw] at HR hsa hsb
      have s0 := cell_of_row w'' w.heap.size 0 _ _ (0, 0) hsa
      have s1 := cell_of_row w'' w.heap.size 1 _ _ (0, 0) hsa
      have s2 := cell_of_row w'' w.heap.size 2 _ _ (0, 0) hsa
      have s3 := cell_of_row w'' (w.heap.size + 1) 0 _ _ (0, 0) hsb
      have HRR := Lib.hid HR
      clear hw HR
      simp [Leaves, settle, results, Tryz.results35, go_sem, s0, s1, s2, s3]
      exact HRR.out
    | true =>
      obtain rfl : E = 0 := by simpa using he
      clear he
      have HD := Lib.hid (show decO s.data.toList = some (lab, bl, ds) by
        rw [decO, HG.out]
        simp only
        rw [HLAB.out, if_pos ⟨HRE.out, HEE.out⟩])
      have HE : Hid (DecR s w (.returned (.tuple #[.agg #[.string lab, .slice A1 N1 c1, .slice A2 N2 c2], .int .i64 0])) ((((w6.setCell ⟨w.heap.size, 0, none⟩ (.string lab)).setCell ⟨w.heap.size, 1, none⟩ (.slice A1 N1 c1)).setCell ⟨w.heap.size, 2, none⟩ (.slice A2 N2 c2)).setCell ⟨w.heap.size + 1, 0, none⟩ (.int .i64 0))) := Lib.hid (by
        unfold DecR
        rw [HD.out]
        have hBX : Below w.heap.size w w6 := HA5.out.2.2.2.2.1.trans (HB6.out.mono HA5.out.2.2.2.2.1.size)
        have hBZ := (((hBX.setCell (p := ⟨w.heap.size, 0, none⟩) (by simp) (.string lab)).setCell (p := ⟨w.heap.size, 1, none⟩) (by simp) (.slice A1 N1 c1)).setCell (p := ⟨w.heap.size, 2, none⟩) (by simp) (.slice A2 N2 c2)).setCell (p := ⟨w.heap.size + 1, 0, none⟩) (by simp) (.int .i64 0)
        have hkeep : ∀ k, W3.heap.size ≤ k → k < w4.heap.size → ((((w6.setCell ⟨w.heap.size, 0, none⟩ (.string lab)).setCell ⟨w.heap.size, 1, none⟩ (.slice A1 N1 c1)).setCell ⟨w.heap.size, 2, none⟩ (.slice A2 N2 c2)).setCell ⟨w.heap.size + 1, 0, none⟩ (.int .i64 0)).heap[k]? = w4.heap[k]? := fun k h1 h2 => by
          have := HB3.out.2.1
          exact (Below.heap_setCell _ _ _ _ (by simp; omega)).trans ((tri_other (by omega) _ _ _).trans ((HB6.out.block k (by have := HA5.out.2.2.1; omega)).trans (by rw [← HW5.out]; exact Below.heap_alloc _ _ _ h2)))
        obtain ⟨hbo, hbk, hdo⟩ := HROW.out
        obtain ⟨A1', c1', e1, hB⟩ := blkC_of (row_keep hbo fun k cur fz h1 h2 => hkeep k h1 (lt_of_block h2)) (BlksAt.keep (fun k cur fz h1 h2 => hkeep k h1 (lt_of_block h2)) hbk) (fun b hb x hx => by have := HSM.out b hb x hx; omega)
        obtain ⟨A2', c2', e2, hD⟩ := decC_of (row_keep hdo fun k cur fz h1 h2 => hkeep k h1 (lt_of_block h2))
        simp only [Value.slice.injEq, true_and] at e1 e2
        obtain ⟨rfl, rfl⟩ := e1
        obtain ⟨rfl, rfl⟩ := e2
        exact ⟨A1, c1, A2, c2, by rw [HN1.out, HN2.out], hB, hD, hBZ⟩)
      have HQ := Lib.hid (HENDC.out w6 HB6.out (.string lab) (.slice A1 N1 c1) (.slice A2 N2 c2) (.int .i64 0))
      go_wp2_with fail
      refine leaves_cons (f := 91) (args := #[.pointer (some ⟨w.heap.size, 0, none⟩), .pointer (some ⟨w.heap.size + 1, 0, none⟩)]) (by simp) (by simp [go_sem]) ?_
      refine (catch_idle ⟨w.heap.size, 0, none⟩ ⟨w.heap.size + 1, 0, none⟩ _).mono ?_
      rintro e u' w'' ⟨rfl, rfl, hw⟩
      have HR := HE.out
      obtain ⟨hsa, hsb⟩ := HQ.out
      rw [← hw] at HR hsa hsb
      have s0 := cell_of_row w'' w.heap.size 0 _ _ (0, 0) hsa
      have s1 := cell_of_row w'' w.heap.size 1 _ _ (0, 0) hsa
      have s2 := cell_of_row w'' w.heap.size 2 _ _ (0, 0) hsa
      have s3 := cell_of_row w'' (w.heap.size + 1) 0 _ _ (0, 0) hsb
      have HRR := Lib.hid HR
      clear hw HR n0 n1 n2
      simp [Leaves, settle, results, Tryz.results35, go_sem, s0, s1, s2, s3]
      exact HRR.out
end Go.Proofs.YtlpipoihinceiaaGreatDoor
/- ref28.SameBlocks and Same, for equal code wherever it lies -/
namespace Go.Proofs.YtlpipoihinceiaaGreatDoor
open Go.RowKit Go.Proofs Go.Shelf

set_option maxRecDepth 100000 in
set_option maxHeartbeats 4000000 in
theorem sameBlocksC (bl : List Blk) (A1 : Option Addr) (c1 : Nat) (A2 : Option Addr) (c2 : Nat) (w : World) (h1 : BlkC w A1 c1 bl) (h2 : BlkC w A2 c2 bl) : Calls Tryz.prog 96 #[.slice A1 bl.length c1, .slice A2 bl.length c2] w (DrewP (.bool true) w) := by
  have HA := Lib.hid (And.intro h1 h2)
  have p1 := h1.1
  have p2 := h1.2.1
  have p4 := h2.1
  have p5 := h2.2.1
  clear h1 h2
  go_enter Tryz.func96, Tryz.ntmps96
  go_wp2
  go_loopg [5, 6] bl.length (fun g iv _ wr => ∃ j : Nat, g = bl.length - j ∧ j ≤ bl.length ∧ iv = .int .i64 j ∧ ∃ q, wr = w.drewN q)
  case atStart => exact ⟨0, rfl, by omega, rfl, 0, rfl⟩
  case round =>
    obtain ⟨j, HG, hj, rfl, q, rfl⟩ := hrel
    have HG' := Lib.hid HG
    clear HG
    by_cases hlt : j < bl.length
    · obtain ⟨b, hb⟩ : ∃ b, bl[j]? = some b := ⟨_, List.getElem?_eq_getElem hlt⟩
      obtain ⟨g1, o1, rfl, a1, a2, l1, lc1, a3, HI1⟩ := HA.out.1.2.2 _ _ hb
      obtain ⟨g2, o2, rfl, b1, b2, l2, lc2, b3, HI2⟩ := HA.out.2.2.2 _ _ hb
      have r1 := HI1.1
      have r2 := HI1.2.1
      have r3 := HI2.1
      have r4 := HI2.2.1
      have HI := Lib.hid (And.intro HI1 HI2)
      clear HI1 HI2 hb
      have i0 : (0 : Int) ≤ (j : Int) := by omega
      have i1 : (j : Int) < (bl.length : Int) := by omega
      obtain ⟨cap, par, l⟩ := b
      simp only at a1 a2 a3 b1 b2 b3 r1 r3 HI
      go_wp2_with fail
      go_quiet (fail)
      go_wp2_with fail
      go_loopg [6] l.length (fun g kv wr => ∃ k : Nat, g = l.length - k ∧ k ≤ l.length ∧ kv = .int .i64 k ∧ ∃ q, wr = w.drewN q)
      case atStart => exact ⟨0, rfl, by omega, rfl, q + nq, by simp [World.drewN, Nat.add_assoc]⟩
      case round =>
        obtain ⟨k, HG2, hk, rfl, q2, rfl⟩ := hrel
        have HG2' := Lib.hid HG2
        clear HG2
        by_cases hlt2 : k < l.length
        · obtain ⟨x, hx⟩ : ∃ x, l[k]? = some x := ⟨_, List.getElem?_eq_getElem hlt2⟩
          obtain ⟨lg1, lo1, rfl, x0, x1, x2, x3⟩ := HI.out.1.2.2.2 k x hx
          obtain ⟨lg2, lo2, rfl, y0, y1, y2, y3⟩ := HI.out.2.2.2.2 k x hx
          have hE := run_neqI x.op x.a x.b x.nm
          have k0 : (0 : Int) ≤ (k : Int) := by omega
          have k1 : (k : Int) < (l.length : Int) := by omega
          clear hx
          go_wp2_with fail
          go_quiet (fail)
          go_wp2_with fail
          go_roundg (l.length - (k + 1))
          case measure => rw [HG2'.out]; omega
          case rel => exact ⟨k + 1, rfl, by omega, by go_num, q2 + nq, by simp [World.drewN]⟩
        · have k1 : decide ((k : Int) < (l.length : Int)) = false := by simp; omega
          go_wp2_with fail
          go_roundg (bl.length - (j + 1))
          case measure => rw [HG'.out]; omega
          case rel => exact ⟨j + 1, rfl, by omega, by go_num, _, rfl⟩
    · have k1 : decide ((j : Int) < (bl.length : Int)) = false := by simp; omega
      go_wp2
      go_ret
      exact ⟨rfl, _, rfl⟩
set_option maxRecDepth 100000 in
set_option maxHeartbeats 4000000 in
theorem sameC (label : ByteArray) (bl : List Blk) (ds : List (Int × Int × Int)) (A1 : Option Addr) (c1 : Nat) (A2 : Option Addr) (c2 : Nat) (D1 : Option Addr) (e1 : Nat) (D2 : Option Addr) (e2 : Nat) (w : World) (h1 : BlkC w A1 c1 bl) (h2 : BlkC w A2 c2 bl) (h3 : DecC w D1 e1 ds) (h4 : DecC w D2 e2 ds) :
    Calls Tryz.prog 37 #[.agg #[.string label, .slice A1 bl.length c1, .slice D1 ds.length e1], .agg #[.string label, .slice A2 bl.length c2, .slice D2 ds.length e2]] w fun e w' => e = .returned (.bool true) ∧ Below w.heap.size w w' := by
  have p1 := h3.1
  have p2 := h3.2.1
  have p3 := h4.1
  have p4 := h4.2.1
  obtain ⟨N, HN⟩ : ∃ Q, Hid (ds.length = Q) := ⟨_, Lib.hid rfl⟩
  rw [HN.out] at p1 p3 ⊢
  obtain ⟨W0, hW0⟩ : ∃ W0, (w.alloc (.cells #[.string label, .slice A1 bl.length c1, .slice D1 N e1] 62)).alloc (.cells #[.string label, .slice A2 bl.length c2, .slice D2 N e2] 62) = W0 := ⟨_, rfl⟩
  have hB0 : Below w.heap.size w W0 := by rw [← hW0]; exact ((Below.refl _ _).alloc (Nat.le_refl _) _).alloc (by simp) _
  have hx0 : W0.heap[w.heap.size]? = some (.cells #[.string label, .slice A1 bl.length c1, .slice D1 N e1] 62 (0, 0)) := by rw [← hW0]; exact (Below.heap_alloc _ _ _ (by simp)).trans (heap_alloc_new w _)
  have hy0 : W0.heap[w.heap.size + 1]? = some (.cells #[.string label, .slice A2 bl.length c2, .slice D2 N e2] 62 (0, 0)) := by
    have h := heap_alloc_new (w.alloc (.cells #[.string label, .slice A1 bl.length c1, .slice D1 N e1] 62)) (.cells #[.string label, .slice A2 bl.length c2, .slice D2 N e2] 62)
    rw [hW0] at h
    simpa using h
  have x0 := cell_of_row W0 w.heap.size 0 _ _ (0, 0) hx0
  have x1 := cell_of_row W0 w.heap.size 1 _ _ (0, 0) hx0
  have x2 := cell_of_row W0 w.heap.size 2 _ _ (0, 0) hx0
  have y0 := cell_of_row W0 (w.heap.size + 1) 0 _ _ (0, 0) hy0
  have y1 := cell_of_row W0 (w.heap.size + 1) 1 _ _ (0, 0) hy0
  have y2 := cell_of_row W0 (w.heap.size + 1) 2 _ _ (0, 0) hy0
  simp at x0 x1 x2 y0 y1 y2
  have HSB := Lib.hid (sameBlocksC bl _ _ _ _ W0 (h1.keep hB0) (h2.keep hB0))
  have HD := Lib.hid (And.intro (h3.keep hB0) (h4.keep hB0))
  have HB0 := Lib.hid hB0
  clear h1 h2 h3 h4 hx0 hy0 hB0
  go_enter Tryz.func37, Tryz.ntmps37
  go_wp2_with fail
  refine HSB.out.mono ?_
  rintro e w1 ⟨rfl, q0, rfl⟩
  clear hW0 x0 y0 x1 y1
  go_wp2_with fail
  go_loopg [5] N (fun g iv wr => ∃ j : Nat, g = N - j ∧ j ≤ N ∧ iv = .int .i64 j ∧ ∃ q, wr = W0.drewN q)
  case atStart => exact ⟨0, rfl, by omega, rfl, q0, rfl⟩
  case round =>
    obtain ⟨j, HG, hj, rfl, q, rfl⟩ := hrel
    have HG' := Lib.hid HG
    clear HG
    by_cases hlt : j < N
    · obtain ⟨x, hx⟩ : ∃ x, ds[j]? = some x := ⟨_, List.getElem?_eq_getElem (by rw [HN.out]; exact hlt)⟩
      obtain ⟨a1, a2⟩ := HD.out
      obtain ⟨g1, o1, rfl, a10, a11, a12⟩ := a1.2.2 _ _ hx
      obtain ⟨g2, o2, rfl, b10, b11, b12⟩ := a2.2.2 _ _ hx
      have hE := run_neqD x.1 x.2.1 x.2.2
      have i0 : (0 : Int) ≤ (j : Int) := by omega
      have i1 : (j : Int) < (N : Int) := by omega
      clear hx a1 a2
      go_wp2_with fail
      go_quiet (fail)
      go_wp2_with fail
      go_roundg (N - (j + 1))
      case measure => rw [HG'.out]; omega
      case rel => exact ⟨j + 1, rfl, by omega, by go_num, q + nq, by simp [World.drewN]⟩
    · have k1 : decide ((j : Int) < (N : Int)) = false := by simp; omega
      go_wp2
      go_ret
      exact ⟨rfl, HB0.out.trans ⟨rfl, rfl, rfl, Nat.le_refl _, fun _ _ => rfl⟩⟩
end Go.Proofs.YtlpipoihinceiaaGreatDoor
/- law28.CompileEncoding -/
namespace Go.Proofs.YtlpipoihinceiaaGreatDoor
open Go.RowKit Go.Proofs Go.Shelf

theorem DecR.some {s : ByteArray} {w w' : World} {e : Ending} {lb : ByteArray} {bl : List Blk} {ds : List (Int × Int × Int)} (h : DecR s w e w') (hd : decO s.data.toList = some (lb, bl, ds)) :
    ∃ A1 c1 A2 c2, e = .returned (.tuple #[.agg #[.string lb, .slice A1 bl.length c1, .slice A2 ds.length c2], .int .i64 0]) ∧ BlkC w' A1 c1 bl ∧ DecC w' A2 c2 ds ∧ Below w.heap.size w w' := by
  unfold DecR at h
  rw [hd] at h
  exact h
theorem DecR.none {s : ByteArray} {w w' : World} {e : Ending} (h : DecR s w e w') (hd : decO s.data.toList = none) :
    e = .returned (.tuple #[.agg #[.string ⟨#[]⟩, .slice none 0 0, .slice none 0 0], .int .i64 13]) ∧ Below w.heap.size w w' := by
  unfold DecR at h
  rw [hd] at h
  exact h

set_option maxRecDepth 100000 in
set_option maxHeartbeats 16000000 in
theorem lawEncoding_any (lb : ByteArray) (bl : List Blk) (ds : List (Int × Int × Int)) (A1 : Option Addr) (c1 : Nat) (A2 : Option Addr) (c2 : Nat) (s : ByteArray) (w : World) (hp : BlkC w A1 c1 bl) (hd : DecC w A2 c2 ds) :
    Calls Tryz.prog 9 #[.agg #[.string lb, .slice A1 bl.length c1, .slice A2 ds.length c2], .string s] w fun e w' => e = .returned (.bool true) ∧ Below w.heap.size w w' := by
  obtain ⟨N1, HN1⟩ : ∃ Q, Hid (bl.length = Q) := ⟨_, Lib.hid rfl⟩
  obtain ⟨N2, HN2⟩ : ∃ Q, Hid (ds.length = Q) := ⟨_, Lib.hid rfl⟩
  rw [HN1.out, HN2.out]
  obtain ⟨W0, hW0⟩ : ∃ W0, w.alloc (.cells #[.string lb, .slice A1 N1 c1, .slice A2 N2 c2] 62) = W0 := ⟨_, rfl⟩
  have hB0 : Below w.heap.size w W0 := by rw [← hW0]; exact (Below.refl _ _).alloc (Nat.le_refl _) _
  have hz0 : w.heap.size + 1 = W0.heap.size := by rw [← hW0]; simp
  have hx0 : W0.heap[w.heap.size]? = some (.cells #[.string lb, .slice A1 N1 c1, .slice A2 N2 c2] 62 (0, 0)) := by rw [← hW0]; exact heap_alloc_new w _
  have HC : Hid (∀ X, Below W0.heap.size W0 X → Below w.heap.size w X ∧ BlkC X A1 c1 bl ∧ DecC X A2 c2 ds ∧ X.cell? ⟨w.heap.size, 0, none⟩ = some (.string lb) ∧ X.cell? ⟨w.heap.size, 1, none⟩ = some (.slice A1 N1 c1) ∧ X.cell? ⟨w.heap.size, 2, none⟩ = some (.slice A2 N2 c2)) := Lib.hid fun X hX => by
    have h0 := (hX.block w.heap.size (by omega)).trans hx0
    have hw := hB0.trans (hX.mono (by omega))
    exact ⟨hw, hp.keep hw, hd.keep hw, cell_of_row X _ 0 _ _ (0, 0) h0, cell_of_row X _ 1 _ _ (0, 0) h0, cell_of_row X _ 2 _ _ (0, 0) h0⟩
  obtain ⟨_, hpc, _, x0, x1, x2⟩ := HC.out W0 (Below.refl _ _)
  have hgr := Great28_any lb A1 c1 bl A2 ds.length c2 W0 hpc
  obtain ⟨G, HG⟩ : ∃ Q, Hid (grtC lb bl ds.length = Q) := ⟨_, Lib.hid rfl⟩
  rw [HG.out, HN1.out, HN2.out] at hgr
  have HGR := Lib.hid hgr
  clear hp hd hB0 hz0 hx0 hgr hpc
  have hlast : ∀ b : Bool, (G = true ∨ 1000 < s.size) ∨ (G = false ∧ s.size ≤ 1000) := fun _ => by
    cases G
    · by_cases h : 1000 < s.size
      · exact .inl (.inr h)
      · exact .inr ⟨rfl, by omega⟩
    · exact .inl (.inl rfl)
  cases hl : decide (1000 < (s.size : Int)) with
  | true =>
    clear hlast
    go_enter Tryz.func9, Tryz.ntmps9
    go_wp2_with fail
    refine HGR.out.mono ?_
    rintro e w1 ⟨rfl, hb1⟩
    have HB1 := Lib.hid (HC.out w1 hb1).1
    have HA := Lib.hid (awake28_any w1)
    clear hb1 x0 x1 x2 hW0 HGR
    cases G
    all_goals (
      go_wp2_with fail
      refine HA.out.mono ?_
      rintro e w2 ⟨rfl, hb2⟩
      have HB2 := Lib.hid (HB1.out.trans (hb2.mono HB1.out.size))
      clear hb2
      go_wp2
      go_ret
      exact ⟨rfl, HB2.out⟩)
  | false =>
  clear hlast
  have HSS := Lib.hid (show s.size ≤ 1000 by have := of_decide_eq_false hl; omega)
  go_enter Tryz.func9, Tryz.ntmps9
  go_wp2_with fail
  refine HGR.out.mono ?_
  rintro e w1 ⟨rfl, hb1⟩
  clear x0 x1 x2 hW0 HGR
  cases G with
  | true =>
    have HB1 := Lib.hid (HC.out w1 hb1).1
    have HA := Lib.hid (awake28_any w1)
    clear hb1
    go_wp2_with fail
    refine HA.out.mono ?_
    rintro e w2 ⟨rfl, hb2⟩
    have HB2 := Lib.hid (HB1.out.trans (hb2.mono HB1.out.size))
    clear hb2
    go_wp2
    go_ret
    exact ⟨rfl, HB2.out⟩
  | false =>
  have HSM := Lib.hid (Sml.of_grt HG.out)
  obtain ⟨_, hpc, hdc, x0, x1, x2⟩ := HC.out w1 hb1
  have hE1 := cEncode_any lb bl ds A1 c1 A2 c2 w1 hpc hdc HSM.out
  have HB1 := Lib.hid hb1
  obtain ⟨E, HEE⟩ : ∃ Q, Hid (codeE lb bl ds = Q) := ⟨_, Lib.hid rfl⟩
  obtain ⟨T, HET⟩ : ∃ Q, Hid (encS lb bl ds = Q) := ⟨_, Lib.hid rfl⟩
  rw [HEE.out, HET.out, HN1.out, HN2.out] at hE1
  have HE1 := Lib.hid hE1
  clear hb1 hpc hdc hE1
  go_wp2_with fail
  refine HE1.out.mono ?_
  rintro e w2 ⟨rfl, hb2⟩
  have HB2 := Lib.hid (HB1.out.trans (hb2.mono HB1.out.size))
  clear hb2 x0 x1 x2 HE1 HB1
  obtain ⟨_, hpc, hdc, x0, x1, x2⟩ := HC.out w2 HB2.out
  cases he : E == 0
  case' false =>
    have he' : (E != 0) = true := by rw [bne, he]; rfl
    have hT0 : T = ⟨#[]⟩ := by
      rw [← HET.out, encS, if_neg (by rw [HEE.out]; simpa using he)]
    have hck := cCheck_gen lb bl ds A1 c1 A2 c2 w2 hpc hdc
    rw [HEE.out, HN1.out, HN2.out] at hck
    have HCK := Lib.hid hck
    clear hpc hdc hck
    subst hT0
    go_wp2_with fail
    refine HCK.out.mono ?_
    rintro e w3 ⟨rfl, hb3⟩
    have HBX := Lib.hid (HB2.out.trans (hb3.mono HB2.out.size))
    have HDC := Lib.hid (Decode_any s w3 (by have := HSS.out; omega))
    clear hb3 x0 x1 x2 HCK HB2
    go_wp2_with fail
  case' true =>
    obtain rfl : E = 0 := by simpa using he
    have hT0 : T.data.toList = codeL lb bl ds := by
      rw [← HET.out, encS, if_pos HEE.out, codeS]
    have HRT := Lib.hid (show decO T.data.toList = some (lb, bl, ds) by rw [hT0]; exact decO_rt HEE.out HSM.out)
    have HDT := Lib.hid (Decode_any T w2 (by have h1 := grt_len HG.out; rw [← hT0] at h1; simpa using h1))
    clear hpc hdc he hT0
    go_wp2_with fail
    refine HDT.out.mono ?_
    intro e w3 hR
    obtain ⟨D1, d1, D2, d2, rfl, hbD, hdD, hb3⟩ := hR.some HRT.out
    rw [HN1.out, HN2.out]
    obtain ⟨W4, hW4⟩ : ∃ W4, w3.alloc (.cells #[.string lb, .slice D1 N1 d1, .slice D2 N2 d2] 62) = W4 := ⟨_, rfl⟩
    have hB4 : Below w3.heap.size w3 W4 := by rw [← hW4]; exact (Below.refl _ _).alloc (Nat.le_refl _) _
    have hc4 : W4.heap[w3.heap.size]? = some (.cells #[.string lb, .slice D1 N1 d1, .slice D2 N2 d2] 62 (0, 0)) := by rw [← hW4]; exact heap_alloc_new w3 _
    have hb3' := HB2.out.trans (hb3.mono HB2.out.size)
    have hb4' := hb3'.trans (hB4.mono hb3'.size)
    have HB4 := Lib.hid hb4'
    clear x0 x1 x2
    obtain ⟨_, hpc, hdc, x0, x1, x2⟩ := HC.out W4 hb4'
    have k0 := cell_of_row W4 w3.heap.size 0 _ _ (0, 0) hc4
    have k1 := cell_of_row W4 w3.heap.size 1 _ _ (0, 0) hc4
    have k2 := cell_of_row W4 w3.heap.size 2 _ _ (0, 0) hc4
    simp at k0 k1 k2
    have hsm := sameC lb bl ds A1 c1 D1 d1 A2 c2 D2 d2 W4 hpc (hbD.keep hB4) hdc (hdD.keep hB4)
    rw [HN1.out, HN2.out] at hsm
    have HSC := Lib.hid hsm
    clear hpc hdc hbD hdD hb3 hb3' hb4' hB4 hc4 hsm HB2 HDT
    go_wp2_with fail
    refine HSC.out.mono ?_
    rintro e w5 ⟨rfl, hb5⟩
    have HBX := Lib.hid (HB4.out.trans (hb5.mono HB4.out.size))
    have HDC := Lib.hid (Decode_any s w5 (by have := HSS.out; omega))
    clear hb5 x0 x1 x2 k0 k1 k2 hW4 HSC HB4
    go_wp2_with fail
  all_goals (
    refine HDC.out.mono ?_
    intro e wD hR
    clear HDC
    cases hdo : decO s.data.toList with
    | none =>
      obtain ⟨rfl, hbD⟩ := hR.none hdo
      have hBD := HBX.out.trans (hbD.mono HBX.out.size)
      have HBD := Lib.hid ((HC.out _ (hBD.alloc hBD.size (.cells #[.string ⟨#[]⟩, .slice none 0 0, .slice none 0 0] 62))).1)
      have HA := Lib.hid (awake28_any (wD.alloc (.cells #[.string ⟨#[]⟩, .slice none 0 0, .slice none 0 0] 62)))
      clear hbD hBD hdo HBX
      go_wp2_with fail
      refine HA.out.mono ?_
      rintro e w9 ⟨rfl, hb9⟩
      have HB9 := Lib.hid (HBD.out.trans (hb9.mono HBD.out.size))
      clear hb9
      go_wp2
      go_ret
      exact ⟨rfl, HB9.out⟩
    | some p =>
      obtain ⟨lb', bl', ds'⟩ := p
      obtain ⟨D3, d3, D4, d4, rfl, hbD, hdD, hb⟩ := hR.some hdo
      obtain ⟨hcl, hce⟩ := decO_of hdo
      have hsm' := decO_sml hdo (by have := HSS.out; simpa using this)
      have HES := Lib.hid (show encS lb' bl' ds' = s by
        rw [encS, if_pos hce, codeS, hcl])
      obtain ⟨M1, HM1⟩ : ∃ Q, Hid (bl'.length = Q) := ⟨_, Lib.hid rfl⟩
      obtain ⟨M2, HM2⟩ : ∃ Q, Hid (ds'.length = Q) := ⟨_, Lib.hid rfl⟩
      rw [HM1.out, HM2.out]
      obtain ⟨W6, hW6⟩ : ∃ W6, wD.alloc (.cells #[.string lb', .slice D3 M1 d3, .slice D4 M2 d4] 62) = W6 := ⟨_, rfl⟩
      have hB6 : Below wD.heap.size wD W6 := by rw [← hW6]; exact (Below.refl _ _).alloc (Nat.le_refl _) _
      have hc6 : W6.heap[wD.heap.size]? = some (.cells #[.string lb', .slice D3 M1 d3, .slice D4 M2 d4] 62 (0, 0)) := by rw [← hW6]; exact heap_alloc_new wD _
      have hBD := HBX.out.trans (hb.mono HBX.out.size)
      have HB6 := Lib.hid (hBD.trans (hB6.mono hBD.size))
      have k0 := cell_of_row W6 wD.heap.size 0 _ _ (0, 0) hc6
      have k1 := cell_of_row W6 wD.heap.size 1 _ _ (0, 0) hc6
      have k2 := cell_of_row W6 wD.heap.size 2 _ _ (0, 0) hc6
      simp at k0 k1 k2
      have hen := cEncode_any lb' bl' ds' D3 d3 D4 d4 W6 (hbD.keep hB6) (hdD.keep hB6) hsm'
      rw [HES.out, hce, HM1.out, HM2.out] at hen
      have HEN := Lib.hid hen
      clear hen hbD hdD hb hB6 hc6 hBD hsm' hcl hce hdo HBX
      go_wp2_with fail
      refine HEN.out.mono ?_
      rintro e w8 ⟨rfl, hb8⟩
      have HB8 := Lib.hid (HB6.out.trans (hb8.mono HB6.out.size))
      have HA := Lib.hid (awake28_any w8)
      clear hb8 k0 k1 k2 hW6 HEN
      go_wp2_with fail
      refine HA.out.mono ?_
      rintro e w9 ⟨rfl, hb9⟩
      have HB9 := Lib.hid (HC.out w9 (HB8.out.trans (hb9.mono HB8.out.size))).1
      clear hb9
      go_wp2
      go_ret
      exact ⟨rfl, HB9.out⟩)
end Go.Proofs.YtlpipoihinceiaaGreatDoor
