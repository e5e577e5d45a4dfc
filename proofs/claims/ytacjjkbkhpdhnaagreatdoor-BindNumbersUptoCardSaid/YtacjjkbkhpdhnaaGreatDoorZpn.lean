/- ref21.Same and its like (printed by gen_smt.py) -/
import Derived.Test.YtacjjkbkhpdhnaaGreatDoorZpc
import Derived.Test.YtacjjkbkhpdhnaaGreatDoorZlj
import Derived.Test.YtacjjkbkhpdhnaaGreatDoorZla
import Derived.BigQuiet
import Derived.Deep.QuietTactic
import Derived.Deep.RegionHeld3
import Derived.Deep.DeepCutAuto
namespace Go.Proofs.YtacjjkbkhpdhnaaGreatDoor
open Go.RowKit Go.Proofs Go.Shelf
theorem bytes_ext {a b : ByteArray} (h : (a.toList == b.toList) = true) : a = b := by
  have h := eq_of_beq h
  rw [ByteArray.toList_eq, ByteArray.toList_eq] at h
  exact ByteArray.ext (Array.ext' h)
theorem bytes_ne {a b : ByteArray} (h : (a.toList == b.toList) = false) : a ≠ b := fun e => by subst e; simp at h
theorem below_drewS {B : Nat} {w w' : World} (h : Below B w w') : Below B w w'.drew := ⟨h.os, h.tape, h.output, h.size, h.block⟩
def SameX (k : Int) (n m : ByteArray) (i d : Int) (s : Fo) (k' : Int) (n' m' : ByteArray) (i' d' : Int) (t : Fo) : Prop := k = k' ∧ n = n' ∧ m = m' ∧ i = i' ∧ d = d' ∧ s.pt = t.pt
def SameP (p : Prop) (w : World) (e : Ending) (w' : World) : Prop := ∃ b, e = .returned (.bool b) ∧ (b = true ↔ p) ∧ Below w.heap.size w w'
def SameOK (s : Fo) : Prop := ∀ (k : Int) (n m : ByteArray) (i d : Int) (A : Option Addr) (c : Nat) (k' : Int) (n' m' : ByteArray) (i' d' : Int) (A' : Option Addr) (c' : Nat) (t : Fo) (w : World), s.Sl w w.heap.size A c → t.Sl w w.heap.size A' c' →
    Calls Tryz.prog 93 #[.agg #[.int .i64 k, .string n, .string m, .int .i64 i, .int .i64 d, .slice A s.len c], .agg #[.int .i64 k', .string n', .string m', .int .i64 i', .int .i64 d', .slice A' t.len c']] w (SameP (SameX k n m i d s k' n' m' i' d' t) w)
def RestS (w : World) (B : Nat) (A : Option Addr) (j : Nat) (r : Fo) : Prop := r ≠ .nil → ∃ b o, A = some ⟨b, o, none⟩ ∧ b < B ∧ r.At w B b (o + j * 6)
theorem RestS.start {w : World} {B c : Nat} {A : Option Addr} {s : Fo} (h : s.Sl w B A c) : RestS w B A 0 s := fun hne => by
  obtain ⟨b, o, e, hb, h⟩ := h.2.2 hne
  exact ⟨b, o, e, hb, by rw [Nat.zero_mul, Nat.add_zero]; exact h⟩
theorem RestS.next {w w' : World} {B j : Nat} {A : Option Addr} {k : Int} {n m : ByteArray} {i d : Int} {A' : Option Addr} {c' : Nat} {s r : Fo} (h : RestS w B A j (.cons k n m i d A' c' s r)) (hk : ∀ p : Addr, p.block < B → w'.cell? p = w.cell? p) : RestS w' B A (j + 1) r := fun _ => by
  obtain ⟨b, o, e, hb, _, _, _, _, _, _, hr⟩ := h (by simp)
  exact ⟨b, o, e, hb, by rw [show o + (j + 1) * 6 = o + j * 6 + 6 by omega]; exact hr.keep (Nat.le_refl _) hk hb⟩
theorem RestS.keep {w w' : World} {B j : Nat} {A : Option Addr} {r : Fo} (h : RestS w B A j r) (hk : ∀ p : Addr, p.block < B → w'.cell? p = w.cell? p) : RestS w' B A j r := fun hne => by
  obtain ⟨b, o, e, hb, hr⟩ := h hne
  exact ⟨b, o, e, hb, hr.keep (Nat.le_refl _) hk hb⟩
theorem pt_step {k : Int} {n m : ByteArray} {i d : Int} {u r : Pt} {k' : Int} {n' m' : ByteArray} {i' d' : Int} {u' r' : Pt} : Pt.cons k n m i d u r = Pt.cons k' n' m' i' d' u' r' ↔ (k = k' ∧ n = n' ∧ m = m' ∧ i = i' ∧ d = d' ∧ u = u') ∧ r = r' := by
  constructor
  · intro h; cases h; exact ⟨⟨rfl, rfl, rfl, rfl, rfl, rfl⟩, rfl⟩
  · rintro ⟨⟨rfl, rfl, rfl, rfl, rfl, rfl⟩, rfl⟩; rfl
set_option maxRecDepth 100000 in
set_option maxHeartbeats 8000000 in
theorem same_step (s : Fo) (ih : s.All SameOK) : SameOK s := by
  intro k n m i d A c k' n' m' i' d' A' c' t w hs ht
  obtain ⟨L, HL⟩ : ∃ Q, Hid (s.len = Q) := ⟨_, Lib.hid rfl⟩
  obtain ⟨L', HL'⟩ : ∃ Q, Hid (t.len = Q) := ⟨_, Lib.hid rfl⟩
  have hc1 := hs.1
  have hc2 := hs.2.1
  have hd1 := ht.1
  have hd2 := ht.2.1
  unfold maxLen at hc2 hd2
  rw [HL.out] at hc1 ⊢
  rw [HL'.out] at hd1 ⊢
  obtain ⟨W1, hW1⟩ : ∃ W1, (w.alloc (.cells #[.int .i64 k, .string n, .string m, .int .i64 i, .int .i64 d, .slice A L c] 28)).alloc (.cells #[.int .i64 k', .string n', .string m', .int .i64 i', .int .i64 d', .slice A' L' c'] 28) = W1 := ⟨_, rfl⟩
  have hb1 : Below w.heap.size w W1 := by rw [← hW1]; exact ((Below.refl _ _).alloc (Nat.le_refl _) _).alloc (by simp) _
  have hz1 : W1.heap.size = w.heap.size + 2 := by rw [← hW1]; simp
  have hx0 : W1.heap[w.heap.size]? = some (.cells #[.int .i64 k, .string n, .string m, .int .i64 i, .int .i64 d, .slice A L c] 28 (0, 0)) := by rw [← hW1]; exact (Below.heap_alloc _ _ _ (by simp)).trans (heap_alloc_new w _)
  have hx1 : W1.heap[w.heap.size + 1]? = some (.cells #[.int .i64 k', .string n', .string m', .int .i64 i', .int .i64 d', .slice A' L' c'] 28 (0, 0)) := by
    have h := heap_alloc_new (w.alloc (.cells #[.int .i64 k, .string n, .string m, .int .i64 i, .int .i64 d, .slice A L c] 28)) (.cells #[.int .i64 k', .string n', .string m', .int .i64 i', .int .i64 d', .slice A' L' c'] 28)
    rw [hW1] at h
    simpa using h
  have x0 : W1.cell? ⟨w.heap.size, 0, none⟩ = some (.int .i64 k) := cell_of_row W1 _ 0 _ _ (0, 0) hx0
  have x1 : W1.cell? ⟨w.heap.size, 1, none⟩ = some (.string n) := cell_of_row W1 _ 1 _ _ (0, 0) hx0
  have x2 : W1.cell? ⟨w.heap.size, 2, none⟩ = some (.string m) := cell_of_row W1 _ 2 _ _ (0, 0) hx0
  have x3 : W1.cell? ⟨w.heap.size, 3, none⟩ = some (.int .i64 i) := cell_of_row W1 _ 3 _ _ (0, 0) hx0
  have x4 : W1.cell? ⟨w.heap.size, 4, none⟩ = some (.int .i64 d) := cell_of_row W1 _ 4 _ _ (0, 0) hx0
  have x5 : W1.cell? ⟨w.heap.size, 5, none⟩ = some (.slice A L c) := cell_of_row W1 _ 5 _ _ (0, 0) hx0
  have y0 : W1.cell? ⟨w.heap.size + 1, 0, none⟩ = some (.int .i64 k') := cell_of_row W1 _ 0 _ _ (0, 0) hx1
  have y1 : W1.cell? ⟨w.heap.size + 1, 1, none⟩ = some (.string n') := cell_of_row W1 _ 1 _ _ (0, 0) hx1
  have y2 : W1.cell? ⟨w.heap.size + 1, 2, none⟩ = some (.string m') := cell_of_row W1 _ 2 _ _ (0, 0) hx1
  have y3 : W1.cell? ⟨w.heap.size + 1, 3, none⟩ = some (.int .i64 i') := cell_of_row W1 _ 3 _ _ (0, 0) hx1
  have y4 : W1.cell? ⟨w.heap.size + 1, 4, none⟩ = some (.int .i64 d') := cell_of_row W1 _ 4 _ _ (0, 0) hx1
  have y5 : W1.cell? ⟨w.heap.size + 1, 5, none⟩ = some (.slice A' L' c') := cell_of_row W1 _ 5 _ _ (0, 0) hx1
  have HB := Lib.hid (And.intro hb1 (And.intro hs (And.intro ht (And.intro ih hz1))))
  have HX := Lib.hid (show ∀ X : World, Below W1.heap.size W1 X → X.cell? ⟨w.heap.size, 5, none⟩ = some (.slice A L c) ∧ X.cell? ⟨w.heap.size + 1, 5, none⟩ = some (.slice A' L' c') from fun X hX => ⟨(hX.cell (p := ⟨w.heap.size, 5, none⟩) (by simp; omega)).trans x5, (hX.cell (p := ⟨w.heap.size + 1, 5, none⟩) (by simp; omega)).trans y5⟩)
  clear hb1 hs ht ih hz1 hx0 hx1
  by_cases hq0 : k = k'
  rotate_left
  · have HF := Lib.hid (show ¬ SameX k n m i d s k' n' m' i' d' t from fun h => hq0 h.1)
    have hb0 : (k != k') = true := by simpa using hq0
    clear hq0
    go_enter Tryz.func93, Tryz.ntmps93
    go_wp2
    go_ret
    exact ⟨false, rfl, ⟨fun h => by simp at h, fun h => absurd h HF.out⟩, HB.out.1⟩
  subst hq0
  cases hq1 : (n.toList == n'.toList) with
  | false =>
    have HF := Lib.hid (show ¬ SameX k n m i d s k n' m' i' d' t from fun h => bytes_ne hq1 h.2.1)
    go_enter Tryz.func93, Tryz.ntmps93
    go_wp2
    go_ret
    exact ⟨false, rfl, ⟨fun h => by simp at h, fun h => absurd h HF.out⟩, HB.out.1⟩
  | true =>
  obtain rfl := bytes_ext hq1
  clear hq1
  cases hq2 : (m.toList == m'.toList) with
  | false =>
    have HF := Lib.hid (show ¬ SameX k n m i d s k n m' i' d' t from fun h => bytes_ne hq2 h.2.2.1)
    go_enter Tryz.func93, Tryz.ntmps93
    go_wp2
    go_ret
    exact ⟨false, rfl, ⟨fun h => by simp at h, fun h => absurd h HF.out⟩, HB.out.1⟩
  | true =>
  obtain rfl := bytes_ext hq2
  clear hq2
  by_cases hq3 : i = i'
  rotate_left
  · have HF := Lib.hid (show ¬ SameX k n m i d s k n m i' d' t from fun h => hq3 h.2.2.2.1)
    have hb3 : (i != i') = true := by simpa using hq3
    clear hq3
    go_enter Tryz.func93, Tryz.ntmps93
    go_wp2
    go_ret
    exact ⟨false, rfl, ⟨fun h => by simp at h, fun h => absurd h HF.out⟩, HB.out.1⟩
  subst hq3
  by_cases hq4 : d = d'
  rotate_left
  · have HF := Lib.hid (show ¬ SameX k n m i d s k n m i d' t from fun h => hq4 h.2.2.2.2.1)
    have hb4 : (d != d') = true := by simpa using hq4
    clear hq4
    go_enter Tryz.func93, Tryz.ntmps93
    go_wp2
    go_ret
    exact ⟨false, rfl, ⟨fun h => by simp at h, fun h => absurd h HF.out⟩, HB.out.1⟩
  subst hq4
  by_cases hLL : L = L'
  rotate_left
  · have HF := Lib.hid (show ¬ SameX k n m i d s k n m i d t from fun h => hLL (by rw [← HL.out, ← HL'.out, ← Fo.pt_len, ← Fo.pt_len, h.2.2.2.2.2]))
    have hbL : ((L : Int) != (L' : Int)) = true := by simpa using (by omega : ¬ (L : Int) = (L' : Int))
    have hbL2 : (L != L') = true := by simpa using hLL
    clear hLL
    go_enter Tryz.func93, Tryz.ntmps93
    go_wp2
    go_ret
    exact ⟨false, rfl, ⟨fun h => by simp at h, fun h => absurd h HF.out⟩, HB.out.1⟩
  subst hLL
  have HQ := Lib.hid (show SameX k n m i d s k n m i d t ↔ s.pt = t.pt from ⟨fun h => h.2.2.2.2.2, fun h => ⟨rfl, rfl, rfl, rfl, rfl, h⟩⟩)
  go_enter Tryz.func93, Tryz.ntmps93
  go_wp2
  clear x0 x1 x2 x3 x4 x5 y0 y1 y2 y3 y4 y5
  go_loopg [5] L (fun gg ct wr => ∃ (j : Nat) (r r' : Fo), gg = r.len ∧ j + r.len = L ∧ ct = .int .i64 j ∧ r'.len = r.len ∧ (s.pt = t.pt ↔ r.pt = r'.pt) ∧ r.All SameOK ∧ RestS wr w.heap.size A j r ∧ RestS wr w.heap.size A' j r' ∧ Below W1.heap.size W1 wr)
  case atStart =>
    exact ⟨0, s, t, HL.out.symm, by rw [HL.out]; omega, rfl, by rw [HL.out, HL'.out], Iff.rfl, HB.out.2.2.2.1, (RestS.start HB.out.2.1).keep (fun p hp => HB.out.1.cell hp), (RestS.start HB.out.2.2.1).keep (fun p hp => HB.out.1.cell hp), Below.refl _ _⟩
  case round =>
    obtain ⟨j, r, r', HG, hjr, rfl, hlen, hpt, hA, hR1, hR2, hB⟩ := hrel
    obtain ⟨x5, y5⟩ := HX.out wr hB
    have HT := Lib.hid (And.intro HG (And.intro hjr (And.intro hlen (And.intro hpt (And.intro hA hB)))))
    have hzw : w.heap.size + 2 ≤ wr.heap.size := by have := hB.size; have := HB.out.2.2.2.2; omega
    clear hB hA hpt HG
    cases r with
    | nil =>
      have hjL : j = L := by simp only [Fo.len] at hjr; omega
      have hr' : r' = .nil := by
        cases r' with
        | nil => rfl
        | cons => simp [Fo.len] at hlen
      subst hr'
      have HF := Lib.hid (HQ.out.trans (HT.out.2.2.2.1.trans ⟨fun _ => trivial, fun _ => rfl⟩))
      clear hR1 hR2 hlen hjr
      subst hjL
      go_wp2
      go_ret
      exact ⟨true, rfl, ⟨fun _ => HF.out.2 trivial, fun _ => rfl⟩, HB.out.1.trans (HT.out.2.2.2.2.2.mono HB.out.1.size)⟩
    | cons rk rn rm ri rd rA rc rs rr =>
      cases r' with
      | nil => simp [Fo.len] at hlen
      | cons tk tn tm ti td tA tc ts tr =>
        have hjL : j < L := by simp only [Fo.len] at hjr; omega
        obtain ⟨b, o, rfl, hb, d0, d1, d2, d3, d4, ⟨d5, hsc, hsm, hss⟩, _⟩ := id hR1 (by simp)
        obtain ⟨b2, o2, rfl, hb2, f0, f1, f2, f3, f4, ⟨f5, htc, htm, hts⟩, _⟩ := id hR2 (by simp)
        have HSl := Lib.hid (show ∀ X : World, Below wr.heap.size wr X → rs.Sl X X.heap.size rA rc ∧ ts.Sl X X.heap.size tA tc from fun X hX => by
          have := hX.size
          exact ⟨⟨hsc, hsm, fun hne => by
            obtain ⟨b', o', e, hb', h'⟩ := hss hne
            exact ⟨b', o', e, by omega, h'.keep (by omega) (fun p hp => hX.cell (by omega)) hb'⟩⟩, ⟨htc, htm, fun hne => by
            obtain ⟨b', o', e, hb', h'⟩ := hts hne
            exact ⟨b', o', e, by omega, h'.keep (by omega) (fun p hp => hX.cell (by omega)) hb'⟩⟩⟩)
        obtain ⟨rl, Hrl⟩ : ∃ Q, Hid (rs.len = Q) := ⟨_, Lib.hid rfl⟩
        obtain ⟨tl, Htl⟩ : ∃ Q, Hid (ts.len = Q) := ⟨_, Lib.hid rfl⟩
        rw [Hrl.out] at d5
        rw [Htl.out] at f5
        have HCa := Lib.hid (show ∀ X : World, Below wr.heap.size wr X → Calls Tryz.prog 93 #[.agg #[.int .i64 rk, .string rn, .string rm, .int .i64 ri, .int .i64 rd, .slice rA rl rc], .agg #[.int .i64 tk, .string tn, .string tm, .int .i64 ti, .int .i64 td, .slice tA tl tc]] X (SameP (SameX rk rn rm ri rd rs tk tn tm ti td ts) X) from fun X hX => by
          have h := HT.out.2.2.2.2.1.1 rk rn rm ri rd rA rc tk tn tm ti td tA tc ts X (HSl.out X hX).1 (HSl.out X hX).2
          rwa [Hrl.out, Htl.out] at h)
        have HSX := Lib.hid (show ∀ X : World, Below wr.heap.size wr X → X.cell? ⟨w.heap.size, 5, none⟩ = some (.slice (some ⟨b, o, none⟩) L c) ∧ X.cell? ⟨w.heap.size + 1, 5, none⟩ = some (.slice (some ⟨b2, o2, none⟩) L c') ∧ X.cell? ⟨b, o + j * 6, none⟩ = some (.int .i64 rk) ∧ X.cell? ⟨b, o + j * 6 + 1, none⟩ = some (.string rn) ∧ X.cell? ⟨b, o + j * 6 + 2, none⟩ = some (.string rm) ∧ X.cell? ⟨b, o + j * 6 + 3, none⟩ = some (.int .i64 ri) ∧ X.cell? ⟨b, o + j * 6 + 4, none⟩ = some (.int .i64 rd) ∧ X.cell? ⟨b, o + j * 6 + 5, none⟩ = some (.slice rA rl rc) ∧ X.cell? ⟨b2, o2 + j * 6, none⟩ = some (.int .i64 tk) ∧ X.cell? ⟨b2, o2 + j * 6 + 1, none⟩ = some (.string tn) ∧ X.cell? ⟨b2, o2 + j * 6 + 2, none⟩ = some (.string tm) ∧ X.cell? ⟨b2, o2 + j * 6 + 3, none⟩ = some (.int .i64 ti) ∧ X.cell? ⟨b2, o2 + j * 6 + 4, none⟩ = some (.int .i64 td) ∧ X.cell? ⟨b2, o2 + j * 6 + 5, none⟩ = some (.slice tA tl tc) from fun X hX => by
          have q : ∀ (u q : Nat) (v : Value), u < w.heap.size + 2 → wr.cell? ⟨u, q, none⟩ = some v → X.cell? ⟨u, q, none⟩ = some v := fun u q v hu h => (hX.cell (p := ⟨u, q, none⟩) (by simp; omega)).trans h
          exact ⟨q _ _ _ (by omega) x5, q _ _ _ (by omega) y5, q _ _ _ (by omega) d0, q _ _ _ (by omega) d1, q _ _ _ (by omega) d2, q _ _ _ (by omega) d3, q _ _ _ (by omega) d4, q _ _ _ (by omega) d5, q _ _ _ (by omega) f0, q _ _ _ (by omega) f1, q _ _ _ (by omega) f2, q _ _ _ (by omega) f3, q _ _ _ (by omega) f4, q _ _ _ (by omega) f5⟩)
        have HR := Lib.hid (And.intro hR1 hR2)
        have hl0 : (0 : Int) ≤ (j : Int) := by omega
        have hl1 : (j : Int) < (L : Int) := by omega
        clear hsc hsm hss htc htm hts hR1 hR2
        go_wp2_with fail
        go_region_held3 (fun X => X.cell? ⟨w.heap.size, 5, none⟩ = some (.slice (some ⟨b, o, none⟩) L c) ∧ X.cell? ⟨w.heap.size + 1, 5, none⟩ = some (.slice (some ⟨b2, o2, none⟩) L c') ∧ X.cell? ⟨b, o + j * 6, none⟩ = some (.int .i64 rk) ∧ X.cell? ⟨b, o + j * 6 + 1, none⟩ = some (.string rn) ∧ X.cell? ⟨b, o + j * 6 + 2, none⟩ = some (.string rm) ∧ X.cell? ⟨b, o + j * 6 + 3, none⟩ = some (.int .i64 ri) ∧ X.cell? ⟨b, o + j * 6 + 4, none⟩ = some (.int .i64 rd) ∧ X.cell? ⟨b, o + j * 6 + 5, none⟩ = some (.slice rA rl rc) ∧ X.cell? ⟨b2, o2 + j * 6, none⟩ = some (.int .i64 tk) ∧ X.cell? ⟨b2, o2 + j * 6 + 1, none⟩ = some (.string tn) ∧ X.cell? ⟨b2, o2 + j * 6 + 2, none⟩ = some (.string tm) ∧ X.cell? ⟨b2, o2 + j * 6 + 3, none⟩ = some (.int .i64 ti) ∧ X.cell? ⟨b2, o2 + j * 6 + 4, none⟩ = some (.int .i64 td) ∧ X.cell? ⟨b2, o2 + j * 6 + 5, none⟩ = some (.slice tA tl tc))
          (first | exact HSX.out _ (below_drewS (Below.refl _ _)) | exact HSX.out _ hbb)
          (first | (go_at_call 93; refine (HCa.out _ (below_drewS (Below.refl _ _))).mono ?_; rintro e w3 ⟨bq, rfl, hbq, hb3⟩; have hbb : Below wr.heap.size wr w3 := (below_drewS (Below.refl wr.heap.size wr)).trans (hb3.mono (Nat.le_refl _))))
        all_goals (
          have HB3 := Lib.hid (And.intro hbq hbb)
          clear hb3 hbq x5 y5 d0 d1 d2 d3 d4 d5 f0 f1 f2 f3 f4 f5
          have x5 := (HSX.out _ hbb).1
          have y5 := (HSX.out _ hbb).2.1
          clear hbb
          cases bq with
          | true =>
            go_wp2
            go_roundg rr.len
            case measure => rw [HT.out.1]; simp [Fo.len]
            case rel =>
              refine ⟨j + 1, rr, tr, rfl, by have := HT.out.2.1; simp only [Fo.len] at this; omega, by go_num, by have := HT.out.2.2.1; simp only [Fo.len] at this; omega, ?_, HT.out.2.2.2.2.1.2, HR.out.1.next (fun p hp => HB3.out.2.cell (by omega)), HR.out.2.next (fun p hp => HB3.out.2.cell (by omega)), HT.out.2.2.2.2.2.trans (HB3.out.2.mono HT.out.2.2.2.2.2.size)⟩
              rw [HT.out.2.2.2.1]
              simp only [Fo.pt]
              rw [pt_step]
              exact ⟨fun h => h.2, fun h => ⟨HB3.out.1.1 (by simp), h⟩⟩
          | false =>
            have HF := Lib.hid (show ¬ SameX k n m i d s k n m i d t from fun h => by
              have h2 := HT.out.2.2.2.1.1 (HQ.out.1 h)
              simp only [Fo.pt] at h2
              rw [pt_step] at h2
              exact absurd (HB3.out.1.2 h2.1) (by simp))
            go_wp2
            go_ret
            exact ⟨false, rfl, ⟨fun h => by simp at h, fun h => absurd h HF.out⟩, HB.out.1.trans ((HT.out.2.2.2.2.2.trans (HB3.out.2.mono HT.out.2.2.2.2.2.size)).mono HB.out.1.size)⟩)
theorem same21_any (s : Fo) : SameOK s := Fo.by_parts same_step s
end Go.Proofs.YtacjjkbkhpdhnaaGreatDoor
/- ref21.SameStrings, SameDecl, SameDecls, SameSource, ref24.Same (printed by gen_smu.py) -/
namespace Go.Proofs.YtacjjkbkhpdhnaaGreatDoor
open Go.RowKit Go.Proofs Go.Shelf
theorem eq_takeS {l l' : List ByteArray} (h : l.length = l'.length) (hall : ∀ k < l.length, l[k]? = l'[k]?) : l = l' := by
  apply List.ext_getElem?
  intro k
  by_cases hk : k < l.length
  · exact hall k hk
  · rw [List.getElem?_eq_none (by omega), List.getElem?_eq_none (by omega)]
theorem below_drewT {B : Nat} {w w' : World} (h : Below B w w') (q : Nat) : Below B w (w'.drewN q) := below_drewN h q
set_option maxRecDepth 100000 in
set_option maxHeartbeats 2000000 in
theorem sameStrings_any (l l' : List ByteArray) (A : Option Addr) (c : Nat) (A' : Option Addr) (c' : Nat) (w : World) (hs : SlS w w.heap.size A c l) (hs' : SlS w w.heap.size A' c' l') :
    Calls Tryz.prog 72 #[.slice A l.length c, .slice A' l'.length c'] w fun e w' => e = .returned (.bool (decide (l = l'))) ∧ ∃ q, w' = w.drewN q := by
  have h1 := hs.1
  have h2 := hs.2.1
  have h1' := hs'.1
  have h2' := hs'.2.1
  unfold maxLen at h2 h2'
  obtain ⟨N, HN⟩ : ∃ Q, Hid (l.length = Q) := ⟨_, Lib.hid rfl⟩
  obtain ⟨N', HN'⟩ : ∃ Q, Hid (l'.length = Q) := ⟨_, Lib.hid rfl⟩
  have HO := Lib.hid (And.intro hs hs')
  obtain ⟨E, HE⟩ : ∃ Q, Hid (decide (l = l') = Q) := ⟨_, Lib.hid rfl⟩
  rw [HN.out] at h1 ⊢
  rw [HN'.out] at h1' ⊢
  rw [HE.out]
  clear hs hs'
  go_enter Tryz.func72, Tryz.ntmps72
  by_cases hne : N = N'
  · subst hne
    go_wp2
    go_loopg [5] N (fun gg ct wr => ∃ j : Nat, gg = N - j ∧ j ≤ N ∧ ct = .int .i64 j ∧ (∀ k < j, l[k]? = l'[k]?) ∧ ∃ q, wr = w.drewN q)
    case atStart => exact ⟨0, rfl, by omega, rfl, fun k hk => absurd hk (Nat.not_lt_zero _), 0, rfl⟩
    case round =>
      obtain ⟨j, HG, hj, rfl, hall, q, rfl⟩ := hrel
      by_cases hlt : j < N
      · have hlt1 : j < l.length := by rw [HN.out]; exact hlt
        have hlt2 : j < l'.length := by rw [HN'.out]; exact hlt
        obtain ⟨y, hy⟩ : ∃ y, l[j]? = some y := ⟨_, List.getElem?_eq_getElem hlt1⟩
        obtain ⟨z, hz⟩ : ∃ y, l'[j]? = some y := ⟨_, List.getElem?_eq_getElem hlt2⟩
        obtain ⟨b, o, rfl, hb, hc⟩ := HO.out.1.2.2 (by intro e; rw [e] at hlt1; simp at hlt1)
        obtain ⟨b', o', rfl, hb', hc'⟩ := HO.out.2.2.2 (by intro e; rw [e] at hlt2; simp at hlt2)
        have c0 := hc j y hy
        have d0 := hc' j z hz
        have hj0 : (0 : Int) ≤ (j : Int) := by omega
        have hj1 : (j : Int) < (N : Int) := by omega
        have HM := Lib.hid (And.intro HG (And.intro hall (And.intro hy hz)))
        clear HG hall hy hz hc hc'
        cases he : (y.toList == z.toList) with
        | true =>
          have HEQ := Lib.hid (bytes_ext he)
          go_wp2_with fail
          go_quiet (fail)
          clear c0 d0 he
          go_wp2
          go_roundg (N - (j + 1))
          case measure => rw [HM.out.1]; omega
          case rel =>
            refine ⟨j + 1, rfl, by omega, by go_num, fun k hk => ?_, q + nq, by simp [World.drewN]⟩
            by_cases e : k = j
            · rw [e, HM.out.2.2.1, HM.out.2.2.2, HEQ.out]
            · exact HM.out.2.1 k (by omega)
        | false =>
          have HEQ := Lib.hid (show E = false by
            rw [← HE.out, decide_eq_false_iff_not]
            intro e
            have h3 := HM.out.2.2.1
            rw [e, HM.out.2.2.2] at h3
            cases h3
            simp at he)
          go_wp2_with fail
          go_quiet (fail)
          clear c0 d0 he
          go_wp2
          go_ret
          exact ⟨by rw [HEQ.out]; rfl, q + nq, by simp [World.drewN, Nat.add_assoc]⟩
      · obtain rfl : j = N := by omega
        have HEQ := Lib.hid (show E = true by
          rw [← HE.out, decide_eq_true_iff]
          exact eq_takeS (by rw [HN.out, HN'.out]) (by rw [HN.out]; exact hall))
        clear hall HG
        go_wp2
        go_ret
        exact ⟨by rw [HEQ.out]; rfl, _, rfl⟩
  · have HEQ := Lib.hid (show E = false by
      rw [← HE.out, decide_eq_false_iff_not]
      intro e
      exact hne (by rw [← HN.out, ← HN'.out, e]))
    have hn1 : ((N : Int) != (N' : Int)) = true := by simpa using (by omega : ¬ (N : Int) = (N' : Int))
    have hn2 : (N != N') = true := by simpa using hne
    go_wp2
    go_ret
    exact ⟨by rw [HEQ.out]; rfl, 0, rfl⟩
structure EqDc (x y : Dc) : Prop where
  id : x.id = y.id
  kind : x.kind = y.kind
  pub : x.pub = y.pub
  doubt : x.doubt = y.doubt
  names : x.names = y.names
  body : SameX x.k x.n x.m x.i x.d x.s y.k y.n y.m y.i y.d y.s
set_option maxRecDepth 100000 in
set_option maxHeartbeats 8000000 in
theorem sameDecl_any (x y : Dc) (w : World) (hx : x.Ok w w.heap.size) (hy : y.Ok w w.heap.size) : Calls Tryz.prog 38 #[.agg x.cells, .agg y.cells] w (SameP (EqDc x y) w) := by
  obtain ⟨xid, xkind, xpub, xnA, xnc, xnames, xdoubt, xk, xn, xm, xi, xd, xA, xc, xs⟩ := x
  obtain ⟨yid, ykind, ypub, ynA, ync, ynames, ydoubt, yk, yn, ym, yi, yd, yA, yc, ys⟩ := y
  obtain ⟨hxn, hxs⟩ := hx
  obtain ⟨hyn, hys⟩ := hy
  simp only at hxn hxs hyn hys
  obtain ⟨xL, HxL⟩ : ∃ Q, Hid (xnames.length = Q) := ⟨_, Lib.hid rfl⟩
  obtain ⟨yL, HyL⟩ : ∃ Q, Hid (ynames.length = Q) := ⟨_, Lib.hid rfl⟩
  obtain ⟨xsl, Hxsl⟩ : ∃ Q, Hid (xs.len = Q) := ⟨_, Lib.hid rfl⟩
  obtain ⟨ysl, Hysl⟩ : ∃ Q, Hid (ys.len = Q) := ⟨_, Lib.hid rfl⟩
  simp only [Dc.cells]
  rw [HxL.out, HyL.out, Hxsl.out, Hysl.out]
  obtain ⟨W1, hW1⟩ : ∃ W1, (w.alloc (.cells #[.int .i64 xid, .int .i64 xkind, .bool xpub, .slice xnA xL xnc, .bool xdoubt, .int .i64 xk, .string xn, .string xm, .int .i64 xi, .int .i64 xd, .slice xA xsl xc] 63)).alloc (.cells #[.int .i64 yid, .int .i64 ykind, .bool ypub, .slice ynA yL ync, .bool ydoubt, .int .i64 yk, .string yn, .string ym, .int .i64 yi, .int .i64 yd, .slice yA ysl yc] 63) = W1 := ⟨_, rfl⟩
  have hb1 : Below w.heap.size w W1 := by rw [← hW1]; exact ((Below.refl _ _).alloc (Nat.le_refl _) _).alloc (by simp) _
  have hx0 : W1.heap[w.heap.size]? = some (.cells #[.int .i64 xid, .int .i64 xkind, .bool xpub, .slice xnA xL xnc, .bool xdoubt, .int .i64 xk, .string xn, .string xm, .int .i64 xi, .int .i64 xd, .slice xA xsl xc] 63 (0, 0)) := by rw [← hW1]; exact (Below.heap_alloc _ _ _ (by simp)).trans (heap_alloc_new w _)
  have hx1 : W1.heap[w.heap.size + 1]? = some (.cells #[.int .i64 yid, .int .i64 ykind, .bool ypub, .slice ynA yL ync, .bool ydoubt, .int .i64 yk, .string yn, .string ym, .int .i64 yi, .int .i64 yd, .slice yA ysl yc] 63 (0, 0)) := by
    have h := heap_alloc_new (w.alloc (.cells #[.int .i64 xid, .int .i64 xkind, .bool xpub, .slice xnA xL xnc, .bool xdoubt, .int .i64 xk, .string xn, .string xm, .int .i64 xi, .int .i64 xd, .slice xA xsl xc] 63)) (.cells #[.int .i64 yid, .int .i64 ykind, .bool ypub, .slice ynA yL ync, .bool ydoubt, .int .i64 yk, .string yn, .string ym, .int .i64 yi, .int .i64 yd, .slice yA ysl yc] 63)
    rw [hW1] at h
    simpa using h
  have x0 : W1.cell? ⟨w.heap.size, 0, none⟩ = some (.int .i64 xid) := cell_of_row W1 _ 0 _ _ (0, 0) hx0
  have x1 : W1.cell? ⟨w.heap.size, 1, none⟩ = some (.int .i64 xkind) := cell_of_row W1 _ 1 _ _ (0, 0) hx0
  have x2 : W1.cell? ⟨w.heap.size, 2, none⟩ = some (.bool xpub) := cell_of_row W1 _ 2 _ _ (0, 0) hx0
  have x3 : W1.cell? ⟨w.heap.size, 3, none⟩ = some (.slice xnA xL xnc) := cell_of_row W1 _ 3 _ _ (0, 0) hx0
  have x4 : W1.cell? ⟨w.heap.size, 4, none⟩ = some (.bool xdoubt) := cell_of_row W1 _ 4 _ _ (0, 0) hx0
  have x5 : W1.cell? ⟨w.heap.size, 5, none⟩ = some (.int .i64 xk) := cell_of_row W1 _ 5 _ _ (0, 0) hx0
  have x6 : W1.cell? ⟨w.heap.size, 6, none⟩ = some (.string xn) := cell_of_row W1 _ 6 _ _ (0, 0) hx0
  have x7 : W1.cell? ⟨w.heap.size, 7, none⟩ = some (.string xm) := cell_of_row W1 _ 7 _ _ (0, 0) hx0
  have x8 : W1.cell? ⟨w.heap.size, 8, none⟩ = some (.int .i64 xi) := cell_of_row W1 _ 8 _ _ (0, 0) hx0
  have x9 : W1.cell? ⟨w.heap.size, 9, none⟩ = some (.int .i64 xd) := cell_of_row W1 _ 9 _ _ (0, 0) hx0
  have x10 : W1.cell? ⟨w.heap.size, 10, none⟩ = some (.slice xA xsl xc) := cell_of_row W1 _ 10 _ _ (0, 0) hx0
  have y0 : W1.cell? ⟨w.heap.size + 1, 0, none⟩ = some (.int .i64 yid) := cell_of_row W1 _ 0 _ _ (0, 0) hx1
  have y1 : W1.cell? ⟨w.heap.size + 1, 1, none⟩ = some (.int .i64 ykind) := cell_of_row W1 _ 1 _ _ (0, 0) hx1
  have y2 : W1.cell? ⟨w.heap.size + 1, 2, none⟩ = some (.bool ypub) := cell_of_row W1 _ 2 _ _ (0, 0) hx1
  have y3 : W1.cell? ⟨w.heap.size + 1, 3, none⟩ = some (.slice ynA yL ync) := cell_of_row W1 _ 3 _ _ (0, 0) hx1
  have y4 : W1.cell? ⟨w.heap.size + 1, 4, none⟩ = some (.bool ydoubt) := cell_of_row W1 _ 4 _ _ (0, 0) hx1
  have y5 : W1.cell? ⟨w.heap.size + 1, 5, none⟩ = some (.int .i64 yk) := cell_of_row W1 _ 5 _ _ (0, 0) hx1
  have y6 : W1.cell? ⟨w.heap.size + 1, 6, none⟩ = some (.string yn) := cell_of_row W1 _ 6 _ _ (0, 0) hx1
  have y7 : W1.cell? ⟨w.heap.size + 1, 7, none⟩ = some (.string ym) := cell_of_row W1 _ 7 _ _ (0, 0) hx1
  have y8 : W1.cell? ⟨w.heap.size + 1, 8, none⟩ = some (.int .i64 yi) := cell_of_row W1 _ 8 _ _ (0, 0) hx1
  have y9 : W1.cell? ⟨w.heap.size + 1, 9, none⟩ = some (.int .i64 yd) := cell_of_row W1 _ 9 _ _ (0, 0) hx1
  have y10 : W1.cell? ⟨w.heap.size + 1, 10, none⟩ = some (.slice yA ysl yc) := cell_of_row W1 _ 10 _ _ (0, 0) hx1
  have hss := sameStrings_any xnames ynames xnA xnc ynA ync W1 (hxn.keep hb1.size fun p hp => hb1.cell hp) (hyn.keep hb1.size fun p hp => hb1.cell hp)
  obtain ⟨sb, Hsb⟩ : ∃ Q, Hid (decide (xnames = ynames) = Q) := ⟨_, Lib.hid rfl⟩
  rw [HxL.out, HyL.out, Hsb.out] at hss
  have HSS := Lib.hid hss
  have HB := Lib.hid (And.intro hb1 (And.intro hxs (And.intro hys (And.intro hx0 hx1))))
  clear hxn hyn hxs hys hb1 hx0 hx1 hss
  by_cases hq0 : xid = yid
  rotate_left
  · have HF := Lib.hid (show ¬ EqDc ⟨xid, xkind, xpub, xnA, xnc, xnames, xdoubt, xk, xn, xm, xi, xd, xA, xc, xs⟩ ⟨yid, ykind, ypub, ynA, ync, ynames, ydoubt, yk, yn, ym, yi, yd, yA, yc, ys⟩ from fun h => hq0 h.id)
    have hb0 : (xid == yid) = false := by simpa using hq0
    clear hq0
    go_enter Tryz.func38, Tryz.ntmps38
    go_wp2
    go_ret
    exact ⟨false, rfl, ⟨fun h => by simp at h, fun h => absurd h HF.out⟩, HB.out.1⟩
  subst hq0
  by_cases hq1 : xkind = ykind
  rotate_left
  · have HF := Lib.hid (show ¬ EqDc ⟨xid, xkind, xpub, xnA, xnc, xnames, xdoubt, xk, xn, xm, xi, xd, xA, xc, xs⟩ ⟨xid, ykind, ypub, ynA, ync, ynames, ydoubt, yk, yn, ym, yi, yd, yA, yc, ys⟩ from fun h => hq1 h.kind)
    have hb1 : (xkind == ykind) = false := by simpa using hq1
    clear hq1
    go_enter Tryz.func38, Tryz.ntmps38
    go_wp2
    go_ret
    exact ⟨false, rfl, ⟨fun h => by simp at h, fun h => absurd h HF.out⟩, HB.out.1⟩
  subst hq1
  by_cases hq2 : xpub = ypub
  rotate_left
  · have HF := Lib.hid (show ¬ EqDc ⟨xid, xkind, xpub, xnA, xnc, xnames, xdoubt, xk, xn, xm, xi, xd, xA, xc, xs⟩ ⟨xid, xkind, ypub, ynA, ync, ynames, ydoubt, yk, yn, ym, yi, yd, yA, yc, ys⟩ from fun h => hq2 h.pub)
    have hb2 : (xpub == ypub) = false := by simpa using hq2
    clear hq2
    go_enter Tryz.func38, Tryz.ntmps38
    go_wp2
    go_ret
    exact ⟨false, rfl, ⟨fun h => by simp at h, fun h => absurd h HF.out⟩, HB.out.1⟩
  subst hq2
  by_cases hq3 : xdoubt = ydoubt
  rotate_left
  · have HF := Lib.hid (show ¬ EqDc ⟨xid, xkind, xpub, xnA, xnc, xnames, xdoubt, xk, xn, xm, xi, xd, xA, xc, xs⟩ ⟨xid, xkind, xpub, ynA, ync, ynames, ydoubt, yk, yn, ym, yi, yd, yA, yc, ys⟩ from fun h => hq3 h.doubt)
    have hb3 : (xdoubt == ydoubt) = false := by simpa using hq3
    clear hq3
    go_enter Tryz.func38, Tryz.ntmps38
    go_wp2
    go_ret
    exact ⟨false, rfl, ⟨fun h => by simp at h, fun h => absurd h HF.out⟩, HB.out.1⟩
  subst hq3
  have HQ := Lib.hid (show EqDc ⟨xid, xkind, xpub, xnA, xnc, xnames, xdoubt, xk, xn, xm, xi, xd, xA, xc, xs⟩ ⟨xid, xkind, xpub, ynA, ync, ynames, xdoubt, yk, yn, ym, yi, yd, yA, yc, ys⟩ ↔ (xnames = ynames ∧ SameX xk xn xm xi xd xs yk yn ym yi yd ys) from ⟨fun h => ⟨h.names, h.body⟩, fun h => ⟨rfl, rfl, rfl, rfl, h.1, h.2⟩⟩)
  go_enter Tryz.func38, Tryz.ntmps38
  go_wp2_with fail
  refine HSS.out.mono ?_
  rintro e w2 ⟨rfl, nq, hw2⟩
  have hb2 : Below w.heap.size w w2 := by rw [hw2]; exact below_drewT HB.out.1 nq
  have hh2 : w2.heap = W1.heap := by rw [hw2]; rfl
  clear hw2
  cases sb with
  | false =>
    have HB2 := Lib.hid hb2
    have HF := Lib.hid (show ¬ EqDc ⟨xid, xkind, xpub, xnA, xnc, xnames, xdoubt, xk, xn, xm, xi, xd, xA, xc, xs⟩ ⟨xid, xkind, xpub, ynA, ync, ynames, xdoubt, yk, yn, ym, yi, yd, yA, yc, ys⟩ from fun h => by
      have := Hsb.out
      rw [decide_eq_false_iff_not] at this
      exact this (HQ.out.1 h).1)
    clear hb2 hh2 x0 x1 x2 x3 x4 x5 x6 x7 x8 x9 x10 y0 y1 y2 y3 y4 y5 y6 y7 y8 y9 y10
    go_wp2
    go_ret
    exact ⟨false, rfl, ⟨fun h => by simp at h, fun h => absurd h HF.out⟩, HB2.out⟩
  | true =>
    have hn := of_decide_eq_true Hsb.out
    have e0 := HB.out.2.2.2.1
    have e1 := HB.out.2.2.2.2
    rw [← hh2] at e0 e1
    have x5 : w2.cell? ⟨w.heap.size, 5, none⟩ = some (.int .i64 xk) := cell_of_row w2 _ 5 _ _ (0, 0) e0
    have x6 : w2.cell? ⟨w.heap.size, 6, none⟩ = some (.string xn) := cell_of_row w2 _ 6 _ _ (0, 0) e0
    have x7 : w2.cell? ⟨w.heap.size, 7, none⟩ = some (.string xm) := cell_of_row w2 _ 7 _ _ (0, 0) e0
    have x8 : w2.cell? ⟨w.heap.size, 8, none⟩ = some (.int .i64 xi) := cell_of_row w2 _ 8 _ _ (0, 0) e0
    have x9 : w2.cell? ⟨w.heap.size, 9, none⟩ = some (.int .i64 xd) := cell_of_row w2 _ 9 _ _ (0, 0) e0
    have x10 : w2.cell? ⟨w.heap.size, 10, none⟩ = some (.slice xA xsl xc) := cell_of_row w2 _ 10 _ _ (0, 0) e0
    have y5 : w2.cell? ⟨w.heap.size + 1, 5, none⟩ = some (.int .i64 yk) := cell_of_row w2 _ 5 _ _ (0, 0) e1
    have y6 : w2.cell? ⟨w.heap.size + 1, 6, none⟩ = some (.string yn) := cell_of_row w2 _ 6 _ _ (0, 0) e1
    have y7 : w2.cell? ⟨w.heap.size + 1, 7, none⟩ = some (.string ym) := cell_of_row w2 _ 7 _ _ (0, 0) e1
    have y8 : w2.cell? ⟨w.heap.size + 1, 8, none⟩ = some (.int .i64 yi) := cell_of_row w2 _ 8 _ _ (0, 0) e1
    have y9 : w2.cell? ⟨w.heap.size + 1, 9, none⟩ = some (.int .i64 yd) := cell_of_row w2 _ 9 _ _ (0, 0) e1
    have y10 : w2.cell? ⟨w.heap.size + 1, 10, none⟩ = some (.slice yA ysl yc) := cell_of_row w2 _ 10 _ _ (0, 0) e1
    have hsm := same21_any xs xk xn xm xi xd xA xc yk yn ym yi yd yA yc ys w2 (HB.out.2.1.keep hb2.size fun p hp => hb2.cell hp) (HB.out.2.2.1.keep hb2.size fun p hp => hb2.cell hp)
    rw [Hxsl.out, Hysl.out] at hsm
    have HSM := Lib.hid hsm
    have HB2 := Lib.hid (And.intro hb2 hn)
    clear hsm hb2 hh2 e0 e1 hn
    go_wp2_with fail
    refine HSM.out.mono ?_
    rintro e w3 ⟨b, rfl, hbq, hb3⟩
    have HB3 := Lib.hid (And.intro (HB2.out.1.trans (hb3.mono HB2.out.1.size)) hbq)
    clear hb3 hbq x0 x1 x2 x3 x4 x5 x6 x7 x8 x9 x10 y0 y1 y2 y3 y4 y5 y6 y7 y8 y9 y10
    go_wp2
    go_ret
    exact ⟨b, rfl, ⟨fun h => HQ.out.2 ⟨HB2.out.2, HB3.out.2.1 h⟩, fun h => HB3.out.2.2 (HQ.out.1 h).2⟩, HB3.out.1⟩
def EqDs : List Dc → List Dc → Prop
  | [], [] => True
  | x :: r, y :: s => EqDc x y ∧ EqDs r s
  | _, _ => False
theorem EqDs.len : ∀ {l l' : List Dc}, EqDs l l' → l.length = l'.length
  | [], [], _ => rfl
  | [], _ :: _, h => h.elim
  | _ :: _, [], h => h.elim
  | _ :: r, _ :: s, h => by simp [EqDs.len h.2]
theorem eqDs_drop {l l' : List Dc} {j : Nat} {x y : Dc} (hx : l[j]? = some x) (hy : l'[j]? = some y) : EqDs (l.drop j) (l'.drop j) ↔ (EqDc x y ∧ EqDs (l.drop (j + 1)) (l'.drop (j + 1))) := by
  obtain ⟨h1, rfl⟩ := List.getElem?_eq_some_iff.1 hx
  obtain ⟨h2, rfl⟩ := List.getElem?_eq_some_iff.1 hy
  rw [List.drop_eq_getElem_cons h1, List.drop_eq_getElem_cons h2]
  rfl
set_option maxRecDepth 100000 in
set_option maxHeartbeats 8000000 in
theorem sameDecls_any (l l' : List Dc) (A : Option Addr) (c : Nat) (A' : Option Addr) (c' : Nat) (w : World) (hs : SlD w w.heap.size A c l) (hs' : SlD w w.heap.size A' c' l') :
    Calls Tryz.prog 73 #[.slice A l.length c, .slice A' l'.length c'] w (SameP (EqDs l l') w) := by
  have h1 := hs.1
  have h2 := hs.2.1
  have h1' := hs'.1
  have h2' := hs'.2.1
  unfold maxLen at h2 h2'
  obtain ⟨N, HN⟩ : ∃ Q, Hid (l.length = Q) := ⟨_, Lib.hid rfl⟩
  obtain ⟨N', HN'⟩ : ∃ Q, Hid (l'.length = Q) := ⟨_, Lib.hid rfl⟩
  have HO := Lib.hid (And.intro hs hs')
  rw [HN.out] at h1 ⊢
  rw [HN'.out] at h1' ⊢
  clear hs hs'
  by_cases hne : N = N'
  rotate_left
  · have HF := Lib.hid (show ¬ EqDs l l' from fun h => hne (by rw [← HN.out, ← HN'.out, h.len]))
    have hn1 : ((N : Int) != (N' : Int)) = true := by simpa using (by omega : ¬ (N : Int) = (N' : Int))
    have hn2 : (N != N') = true := by simpa using hne
    clear hne
    go_enter Tryz.func73, Tryz.ntmps73
    go_wp2
    go_ret
    exact ⟨false, rfl, ⟨fun h => by simp at h, fun h => absurd h HF.out⟩, Below.refl _ _⟩
  subst hne
  go_enter Tryz.func73, Tryz.ntmps73
  go_wp2
  go_loopg [5] N (fun gg ct wr => ∃ j : Nat, gg = N - j ∧ j ≤ N ∧ ct = .int .i64 j ∧ Hid (EqDs l l' ↔ EqDs (l.drop j) (l'.drop j)) ∧ Below w.heap.size w wr)
  case atStart => exact ⟨0, rfl, by omega, rfl, Lib.hid Iff.rfl, Below.refl _ _⟩
  case round =>
    obtain ⟨j, HG, hj, rfl, HEq, hB⟩ := hrel
    by_cases hlt : j < N
    · have hlt1 : j < l.length := by rw [HN.out]; exact hlt
      have hlt2 : j < l'.length := by rw [HN'.out]; exact hlt
      obtain ⟨x, hx⟩ : ∃ y, l[j]? = some y := ⟨_, List.getElem?_eq_getElem hlt1⟩
      obtain ⟨y, hy⟩ : ∃ y, l'[j]? = some y := ⟨_, List.getElem?_eq_getElem hlt2⟩
      obtain ⟨b, o, rfl, hb, hc⟩ := HO.out.1.2.2 (by intro e; rw [e] at hlt1; simp at hlt1)
      obtain ⟨b', o', rfl, hb', hc'⟩ := HO.out.2.2.2 (by intro e; rw [e] at hlt2; simp at hlt2)
      obtain ⟨hcx, hxok⟩ := hc j x hx
      obtain ⟨hcy, hyok⟩ := hc' j y hy
      have HM := Lib.hid (And.intro HG (And.intro hx (And.intro hy hB)))
      have HCa := Lib.hid (show ∀ X : World, Below wr.heap.size wr X → Calls Tryz.prog 38 #[.agg x.cells, .agg y.cells] X (SameP (EqDc x y) X) from fun X hX => by
        have h0 := hB.trans (hX.mono hB.size)
        exact sameDecl_any x y X ⟨hxok.1.keep h0.size (fun p hp => h0.cell hp), hxok.2.keep h0.size (fun p hp => h0.cell hp)⟩ ⟨hyok.1.keep h0.size (fun p hp => h0.cell hp), hyok.2.keep h0.size (fun p hp => h0.cell hp)⟩)
      have HCl := Lib.hid (show ∀ X : World, Below wr.heap.size wr X → (∀ q v, x.cells[q]? = some v → X.cell? ⟨b, o + j * 11 + q, none⟩ = some v) ∧ (∀ q v, y.cells[q]? = some v → X.cell? ⟨b', o' + j * 11 + q, none⟩ = some v) from fun X hX => by
        have h0 := hB.trans (hX.mono hB.size)
        exact ⟨fun q v hq => (h0.cell (p := ⟨b, o + j * 11 + q, none⟩) hb).trans (hcx q v hq), fun q v hq => (h0.cell (p := ⟨b', o' + j * 11 + q, none⟩) hb').trans (hcy q v hq)⟩)
      have hj0 : (0 : Int) ≤ (j : Int) := by omega
      have hj1 : (j : Int) < (N : Int) := by omega
      clear HG hx hy hc hc' hcx hcy hxok hyok hB
      obtain ⟨Pq, HPq⟩ : ∃ Q : Prop, Hid (EqDc x y ↔ Q) := ⟨_, Lib.hid Iff.rfl⟩
      have HCa2 := Lib.hid (show ∀ X : World, Below wr.heap.size wr X → Calls Tryz.prog 38 #[.agg x.cells, .agg y.cells] X (SameP Pq X) from fun X hX => (HCa.out X hX).mono fun _ _ ⟨b, h1, h2, h3⟩ => ⟨b, h1, h2.trans HPq.out, h3⟩)
      clear HCa
      obtain ⟨xid, xkind, xpub, xnA, xnc, xnames, xdoubt, xk, xn, xm, xi, xd, xA, xc, xs⟩ := x
      obtain ⟨yid, ykind, ypub, ynA, ync, ynames, ydoubt, yk, yn, ym, yi, yd, yA, yc, ys⟩ := y
      simp only [Dc.cells] at HCa2
      obtain ⟨xL, HxL⟩ : ∃ Q, Hid (xnames.length = Q) := ⟨_, Lib.hid rfl⟩
      obtain ⟨yL, HyL⟩ : ∃ Q, Hid (ynames.length = Q) := ⟨_, Lib.hid rfl⟩
      obtain ⟨xsl, Hxsl⟩ : ∃ Q, Hid (xs.len = Q) := ⟨_, Lib.hid rfl⟩
      obtain ⟨ysl, Hysl⟩ : ∃ Q, Hid (ys.len = Q) := ⟨_, Lib.hid rfl⟩
      rw [HxL.out, HyL.out, Hxsl.out, Hysl.out] at HCa2
      have HSX := Lib.hid (show ∀ X : World, Below wr.heap.size wr X → X.cell? ⟨b, o + j * 11, none⟩ = some (.int .i64 xid) ∧ X.cell? ⟨b, o + j * 11 + 1, none⟩ = some (.int .i64 xkind) ∧ X.cell? ⟨b, o + j * 11 + 2, none⟩ = some (.bool xpub) ∧ X.cell? ⟨b, o + j * 11 + 3, none⟩ = some (.slice xnA xL xnc) ∧ X.cell? ⟨b, o + j * 11 + 4, none⟩ = some (.bool xdoubt) ∧ X.cell? ⟨b, o + j * 11 + 5, none⟩ = some (.int .i64 xk) ∧ X.cell? ⟨b, o + j * 11 + 6, none⟩ = some (.string xn) ∧ X.cell? ⟨b, o + j * 11 + 7, none⟩ = some (.string xm) ∧ X.cell? ⟨b, o + j * 11 + 8, none⟩ = some (.int .i64 xi) ∧ X.cell? ⟨b, o + j * 11 + 9, none⟩ = some (.int .i64 xd) ∧ X.cell? ⟨b, o + j * 11 + 10, none⟩ = some (.slice xA xsl xc) ∧ X.cell? ⟨b', o' + j * 11, none⟩ = some (.int .i64 yid) ∧ X.cell? ⟨b', o' + j * 11 + 1, none⟩ = some (.int .i64 ykind) ∧ X.cell? ⟨b', o' + j * 11 + 2, none⟩ = some (.bool ypub) ∧ X.cell? ⟨b', o' + j * 11 + 3, none⟩ = some (.slice ynA yL ync) ∧ X.cell? ⟨b', o' + j * 11 + 4, none⟩ = some (.bool ydoubt) ∧ X.cell? ⟨b', o' + j * 11 + 5, none⟩ = some (.int .i64 yk) ∧ X.cell? ⟨b', o' + j * 11 + 6, none⟩ = some (.string yn) ∧ X.cell? ⟨b', o' + j * 11 + 7, none⟩ = some (.string ym) ∧ X.cell? ⟨b', o' + j * 11 + 8, none⟩ = some (.int .i64 yi) ∧ X.cell? ⟨b', o' + j * 11 + 9, none⟩ = some (.int .i64 yd) ∧ X.cell? ⟨b', o' + j * 11 + 10, none⟩ = some (.slice yA ysl yc) from fun X hX => by
        obtain ⟨h1, h2⟩ := HCl.out X hX
        have a3 := h1 3 (.slice xnA xnames.length xnc) rfl
        have a10 := h1 10 (.slice xA xs.len xc) rfl
        have b3 := h2 3 (.slice ynA ynames.length ync) rfl
        have b10 := h2 10 (.slice yA ys.len yc) rfl
        rw [HxL.out] at a3
        rw [HyL.out] at b3
        rw [Hxsl.out] at a10
        rw [Hysl.out] at b10
        exact ⟨h1 0 _ rfl, h1 1 _ rfl, h1 2 _ rfl, a3, h1 4 _ rfl, h1 5 _ rfl, h1 6 _ rfl, h1 7 _ rfl, h1 8 _ rfl, h1 9 _ rfl, a10, h2 0 _ rfl, h2 1 _ rfl, h2 2 _ rfl, b3, h2 4 _ rfl, h2 5 _ rfl, h2 6 _ rfl, h2 7 _ rfl, h2 8 _ rfl, h2 9 _ rfl, b10⟩)
      clear HCl
      go_wp2_with fail
      go_region_held3 (fun X => X.cell? ⟨b, o + j * 11, none⟩ = some (.int .i64 xid) ∧ X.cell? ⟨b, o + j * 11 + 1, none⟩ = some (.int .i64 xkind) ∧ X.cell? ⟨b, o + j * 11 + 2, none⟩ = some (.bool xpub) ∧ X.cell? ⟨b, o + j * 11 + 3, none⟩ = some (.slice xnA xL xnc) ∧ X.cell? ⟨b, o + j * 11 + 4, none⟩ = some (.bool xdoubt) ∧ X.cell? ⟨b, o + j * 11 + 5, none⟩ = some (.int .i64 xk) ∧ X.cell? ⟨b, o + j * 11 + 6, none⟩ = some (.string xn) ∧ X.cell? ⟨b, o + j * 11 + 7, none⟩ = some (.string xm) ∧ X.cell? ⟨b, o + j * 11 + 8, none⟩ = some (.int .i64 xi) ∧ X.cell? ⟨b, o + j * 11 + 9, none⟩ = some (.int .i64 xd) ∧ X.cell? ⟨b, o + j * 11 + 10, none⟩ = some (.slice xA xsl xc) ∧ X.cell? ⟨b', o' + j * 11, none⟩ = some (.int .i64 yid) ∧ X.cell? ⟨b', o' + j * 11 + 1, none⟩ = some (.int .i64 ykind) ∧ X.cell? ⟨b', o' + j * 11 + 2, none⟩ = some (.bool ypub) ∧ X.cell? ⟨b', o' + j * 11 + 3, none⟩ = some (.slice ynA yL ync) ∧ X.cell? ⟨b', o' + j * 11 + 4, none⟩ = some (.bool ydoubt) ∧ X.cell? ⟨b', o' + j * 11 + 5, none⟩ = some (.int .i64 yk) ∧ X.cell? ⟨b', o' + j * 11 + 6, none⟩ = some (.string yn) ∧ X.cell? ⟨b', o' + j * 11 + 7, none⟩ = some (.string ym) ∧ X.cell? ⟨b', o' + j * 11 + 8, none⟩ = some (.int .i64 yi) ∧ X.cell? ⟨b', o' + j * 11 + 9, none⟩ = some (.int .i64 yd) ∧ X.cell? ⟨b', o' + j * 11 + 10, none⟩ = some (.slice yA ysl yc))
        (first | exact HSX.out _ (below_drewS (Below.refl _ _)) | exact HSX.out _ hbb)
        (first | (go_at_call 38; refine (HCa2.out _ (below_drewS (Below.refl _ _))).mono ?_; rintro e w3 ⟨bq, rfl, hbq, hb3⟩; have hbb : Below wr.heap.size wr w3 := (below_drewS (Below.refl wr.heap.size wr)).trans (hb3.mono (Nat.le_refl _))))
      all_goals (
        have HB3 := Lib.hid (And.intro hbq hbb)
        clear hb3 hbq hbb
        cases bq with
        | true =>
          go_wp2
          go_roundg (N - (j + 1))
          case measure => rw [HM.out.1]; omega
          case rel =>
            refine ⟨j + 1, rfl, by omega, by go_num, Lib.hid (HEq.out.trans ((eqDs_drop HM.out.2.1 HM.out.2.2.1).trans ⟨fun h => h.2, fun h => ⟨HPq.out.2 (HB3.out.1.1 (by simp)), h⟩⟩)), HM.out.2.2.2.trans (HB3.out.2.mono HM.out.2.2.2.size)⟩
        | false =>
          have HF := Lib.hid (show ¬ EqDs l l' from fun h => by
            have h2 := (eqDs_drop HM.out.2.1 HM.out.2.2.1).1 (HEq.out.1 h)
            exact absurd (HB3.out.1.2 (HPq.out.1 h2.1)) (by simp))
          go_wp2
          go_ret
          exact ⟨false, rfl, ⟨fun h => by simp at h, fun h => absurd h HF.out⟩, HM.out.2.2.2.trans (HB3.out.2.mono HM.out.2.2.2.size)⟩)
    · obtain rfl : j = N := by omega
      have HF := Lib.hid (show EqDs l l' from HEq.out.2 (by
        rw [List.drop_eq_nil_of_le (by rw [HN.out]; exact Nat.le_refl _), List.drop_eq_nil_of_le (by rw [HN'.out]; exact Nat.le_refl _)]
        trivial))
      have HB := Lib.hid hB
      clear HG hB
      go_wp2
      go_ret
      exact ⟨true, rfl, ⟨fun _ => HF.out, fun _ => rfl⟩, HB.out⟩
set_option maxRecDepth 100000 in
set_option maxHeartbeats 4000000 in
theorem sameSource_any (u u' : List ByteArray) (uA : Option Addr) (uc : Nat) (uA' : Option Addr) (uc' : Nat) (l l' : List Dc) (A : Option Addr) (c : Nat) (A' : Option Addr) (c' : Nat) (w : World) (hu : SlS w w.heap.size uA uc u) (hu' : SlS w w.heap.size uA' uc' u') (hs : SlD w w.heap.size A c l) (hs' : SlD w w.heap.size A' c' l') :
    Calls Tryz.prog 28 #[.agg #[.slice uA u.length uc, .slice A l.length c], .agg #[.slice uA' u'.length uc', .slice A' l'.length c']] w (SameP (u = u' ∧ EqDs l l') w) := by
  obtain ⟨M, HM⟩ : ∃ Q, Hid (u.length = Q) := ⟨_, Lib.hid rfl⟩
  obtain ⟨M', HM'⟩ : ∃ Q, Hid (u'.length = Q) := ⟨_, Lib.hid rfl⟩
  obtain ⟨N, HN⟩ : ∃ Q, Hid (l.length = Q) := ⟨_, Lib.hid rfl⟩
  obtain ⟨N', HN'⟩ : ∃ Q, Hid (l'.length = Q) := ⟨_, Lib.hid rfl⟩
  rw [HM.out, HM'.out, HN.out, HN'.out]
  obtain ⟨W1, hW1⟩ : ∃ W1, (w.alloc (.cells #[.slice uA M uc, .slice A N c] 40)).alloc (.cells #[.slice uA' M' uc', .slice A' N' c'] 40) = W1 := ⟨_, rfl⟩
  have hb1 : Below w.heap.size w W1 := by rw [← hW1]; exact ((Below.refl _ _).alloc (Nat.le_refl _) _).alloc (by simp) _
  have hx0 : W1.heap[w.heap.size]? = some (.cells #[.slice uA M uc, .slice A N c] 40 (0, 0)) := by rw [← hW1]; exact (Below.heap_alloc _ _ _ (by simp)).trans (heap_alloc_new w _)
  have hx1 : W1.heap[w.heap.size + 1]? = some (.cells #[.slice uA' M' uc', .slice A' N' c'] 40 (0, 0)) := by
    have h := heap_alloc_new (w.alloc (.cells #[.slice uA M uc, .slice A N c] 40)) (.cells #[.slice uA' M' uc', .slice A' N' c'] 40)
    rw [hW1] at h
    simpa using h
  have x0 : W1.cell? ⟨w.heap.size, 0, none⟩ = some (.slice uA M uc) := cell_of_row W1 _ 0 _ _ (0, 0) hx0
  have y0 : W1.cell? ⟨w.heap.size + 1, 0, none⟩ = some (.slice uA' M' uc') := cell_of_row W1 _ 0 _ _ (0, 0) hx1
  have hss := sameStrings_any u u' uA uc uA' uc' W1 (hu.keep hb1.size fun p hp => hb1.cell hp) (hu'.keep hb1.size fun p hp => hb1.cell hp)
  obtain ⟨sb, Hsb⟩ : ∃ Q, Hid (decide (u = u') = Q) := ⟨_, Lib.hid rfl⟩
  rw [HM.out, HM'.out, Hsb.out] at hss
  have HSS := Lib.hid hss
  have HB := Lib.hid (And.intro hb1 (And.intro hs (And.intro hs' (And.intro hx0 hx1))))
  clear hu hu' hs hs' hb1 hx0 hx1 hss
  go_enter Tryz.func28, Tryz.ntmps28
  go_wp2_with fail
  refine HSS.out.mono ?_
  rintro e w2 ⟨rfl, nq, hw2⟩
  have hb2 : Below w.heap.size w w2 := by rw [hw2]; exact below_drewT HB.out.1 nq
  have hh2 : w2.heap = W1.heap := by rw [hw2]; rfl
  clear hw2
  cases sb with
  | false =>
    have HB2 := Lib.hid hb2
    have HF := Lib.hid (show ¬ (u = u' ∧ EqDs l l') from fun h => by
      have := Hsb.out
      rw [decide_eq_false_iff_not] at this
      exact this h.1)
    clear hb2 hh2 x0 y0
    go_wp2
    go_ret
    exact ⟨false, rfl, ⟨fun h => by simp at h, fun h => absurd h HF.out⟩, HB2.out⟩
  | true =>
    have hn := of_decide_eq_true Hsb.out
    have e0 := HB.out.2.2.2.1
    have e1 := HB.out.2.2.2.2
    rw [← hh2] at e0 e1
    have x1 : w2.cell? ⟨w.heap.size, 1, none⟩ = some (.slice A N c) := cell_of_row w2 _ 1 _ _ (0, 0) e0
    have y1 : w2.cell? ⟨w.heap.size + 1, 1, none⟩ = some (.slice A' N' c') := cell_of_row w2 _ 1 _ _ (0, 0) e1
    have hsm := sameDecls_any l l' A c A' c' w2 (HB.out.2.1.keep hb2.size fun p hp => hb2.cell hp) (HB.out.2.2.1.keep hb2.size fun p hp => hb2.cell hp)
    rw [HN.out, HN'.out] at hsm
    have HSM := Lib.hid hsm
    have HB2 := Lib.hid (And.intro hb2 hn)
    clear hsm hb2 hh2 e0 e1 hn x0 y0
    go_wp2_with fail
    refine HSM.out.mono ?_
    rintro e w3 ⟨b, rfl, hbq, hb3⟩
    have HB3 := Lib.hid (And.intro (HB2.out.1.trans (hb3.mono HB2.out.1.size)) hbq)
    clear hb3 hbq x1 y1
    go_wp2
    go_ret
    exact ⟨b, rfl, ⟨fun h => ⟨HB2.out.2, HB3.out.2.1 h⟩, fun h => HB3.out.2.2 h.2⟩, HB3.out.1⟩
end Go.Proofs.YtacjjkbkhpdhnaaGreatDoor
