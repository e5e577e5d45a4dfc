/- ref21.Kinds, ref24.refersTo (printed by gen_ykd.py) -/
import Derived.Test.YtacjjkbkhpdhnaaGreatDoorZla
import Derived.Test.YtacjjkbkhpdhnaaGreatDoorZle
import Derived.Test.YtacjjkbkhpdhnaaGreatDoorZlo
import Derived.Test.YtacjjkbkhpdhnaaGreatDoorYcm
import Derived.Test.YtacjjkbkhpdhnaaGreatDoorZlg
import Derived.Test.YtacjjkbkhpdhnaaGreatDoorZlj
import Derived.Test.YtacjjkbkhpdhnaaGreatDoorZlf
import Derived.Deep.QuietTactic
import Derived.BigQuiet
import Derived.IntWalk
import Derived.Test.YtacjjkbkhpdhnaaGreatDoorChk
import Derived.Test.YtacjjkbkhpdhnaaGreatDoorZpa
import Derived.Deep.RegionHeld3
namespace Go.Proofs.YtacjjkbkhpdhnaaGreatDoor
open Go.RowKit Go.Proofs Go.Shelf
def Fo.has (p : Int → ByteArray → Bool) : Fo → Bool
  | .nil => false
  | .cons k n _ _ _ _ _ s r => (p k n || s.has p) || r.has p
theorem Fo.vis_has (p : Int → ByteArray → Bool) : ∀ f : Fo, f.vis.any (fun y => p y.k y.n) = f.has p
  | .nil => rfl
  | .cons k n m i d A c s r => by
    have h1 := vis_has p s
    have h2 := vis_has p r
    simp only [Fo.vis, Fo.has, List.any_append, List.any_cons, h1, h2]
    rw [Bool.or_comm]
def kdP (K : Int) (k : Int) (_ : ByteArray) : Bool := k == K
def kdOK (K : Int) (s : Fo) : Prop := ∀ (k : Int) (n m : ByteArray) (i d : Int) (A : Option Addr) (c : Nat) (w : World), s.Sl w w.heap.size A c →
    Calls Tryz.prog 92 #[.agg #[.int .i64 k, .string n, .string m, .int .i64 i, .int .i64 d, .slice A s.len c], .int .i64 K] w fun e w' => e = .returned (.bool (kdP K k n || s.has (kdP K))) ∧ Below w.heap.size w w'
set_option maxRecDepth 100000 in
set_option maxHeartbeats 2000000 in
theorem kd_step (K : Int) (s : Fo) (ih : s.All (kdOK K)) : kdOK K s := by
  intro k n m i d A c w hs
  have HS := Lib.hid hs
  have IH := Lib.hid ih
  have hcap : s.len ≤ 9223372036854775807 := by have := HS.out.1; have := HS.out.2.1; unfold maxLen at this; omega
  clear hs ih
  obtain ⟨W0, hW0⟩ : ∃ W0, w.alloc (.cells #[.int .i64 k, .string n, .string m, .int .i64 i, .int .i64 d, .slice A s.len c] 28) = W0 := ⟨_, rfl⟩
  have hzw : w.heap.size < W0.heap.size := by subst hW0; simp
  have hB0 : Below w.heap.size w W0 := by subst hW0; exact (Below.refl _ _).alloc (Nat.le_refl _) _
  have hx0 : W0.heap[w.heap.size]? = some (.cells #[.int .i64 k, .string n, .string m, .int .i64 i, .int .i64 d, .slice A s.len c] 28 (0, 0)) := by rw [← hW0]; exact heap_alloc_new w _
  have HC : Hid (∀ X, Below W0.heap.size W0 X → Below w.heap.size w X ∧ X.cell? ⟨w.heap.size, 0, none⟩ = some (.int .i64 k) ∧ X.cell? ⟨w.heap.size, 1, none⟩ = some (.string n) ∧ X.cell? ⟨w.heap.size, 5, none⟩ = some (.slice A s.len c)) := fun X hX => by
    have h0 := (hX.block w.heap.size hzw).trans hx0
    exact ⟨hB0.trans (hX.mono (Nat.le_of_lt hzw)), cell_of_row X _ 0 _ _ (0, 0) h0, cell_of_row X _ 1 _ _ (0, 0) h0, cell_of_row X _ 5 _ _ (0, 0) h0⟩
  obtain ⟨R, HR⟩ : ∃ R, Hid ((kdP K k n || s.has (kdP K)) = R) := ⟨_, Lib.hid rfl⟩
  rw [HR.out]
  obtain ⟨_, x0, x1, x5⟩ := HC.out W0 (Below.refl _ _)
  have HB0 := Lib.hid hB0
  clear hB0 hx0
  cases hp : kdP K k n with
  | true =>
    obtain rfl : R = true := by rw [← HR.out, hp]; rfl
    clear HR
    have hk : (k == K) = true := hp
    clear hp
    go_enter Tryz.func92, Tryz.ntmps92
    go_wp2
    go_ret
    exact ⟨rfl, HB0.out⟩
  | false =>
    have HRs := Lib.hid (show s.has (kdP K) = R by rw [← HR.out, hp]; rfl)
    clear HR
    have hk : (k == K) = false := hp
    clear hp
    all_goals (
      go_enter Tryz.func92, Tryz.ntmps92
      go_wp2_with fail
      clear x0 x1 x5 hW0
      go_loopg [5] s.len (fun g ct wr => ∃ (j : Nat) (r : Fo), g = r.len ∧ j + r.len = s.len ∧ ct = .int .i64 j ∧ r.has (kdP K) = R ∧ r.All (kdOK K) ∧
        (r ≠ .nil → ∃ b o, A = some ⟨b, o, none⟩ ∧ b < w.heap.size ∧ r.At wr w.heap.size b (o + j * 6)) ∧ Below W0.heap.size W0 wr)
      case atStart =>
        refine ⟨0, s, rfl, by omega, rfl, HRs.out, IH.out, ?_, Below.refl _ _⟩
        intro hne
        obtain ⟨b, o, e, hb, h⟩ := HS.out.2.2 hne
        exact ⟨b, o, e, hb, by rw [Nat.zero_mul, Nat.add_zero]; exact h.keep (Nat.le_refl _) (fun p hp => HB0.out.cell hp) hb⟩
      case round =>
        obtain ⟨j, r, HG, hjr, rfl, hRr, HA, HAt, HB⟩ := hrel
        have HBh := Lib.hid (And.intro HB (And.intro hRr HA))
        clear hRr HA HB
        have hzr := HBh.out.1.size
        obtain ⟨hBw, _, _, x5⟩ := HC.out wr HBh.out.1
        have HBw := Lib.hid hBw
        clear hBw
        cases r with
        | nil =>
          have hjr2 : s.len ≤ j := by simp only [Fo.len] at hjr; omega
          have hjr1 : j ≤ s.len := by simp only [Fo.len] at hjr; omega
          obtain rfl : R = false := HBh.out.2.1.symm
          clear hjr HG HBh HRs
          go_wp2
          go_ret
          exact ⟨rfl, HBw.out⟩
        | cons rk rn rm ri rd A' c' rs rr =>
          have hjr2 : j < s.len := by simp only [Fo.len] at hjr; omega
          obtain ⟨b, o, rfl, hb, h0, h1, h2, h3, h4, ⟨h5, hc', hm', hs'⟩, hr'⟩ := HAt (by simp)
          have hcall := HBh.out.2.2.1 rk rn rm ri rd A' c' wr ⟨hc', hm', fun hne => by
            obtain ⟨b', o', e, hb', h'⟩ := hs' hne
            exact ⟨b', o', e, by omega, h'.keep (by omega) (fun _ _ => rfl) hb'⟩⟩
          have hRk := HBh.out.2.1
          simp only [Fo.has] at hRk
          obtain ⟨E1, HE1⟩ : ∃ E1, Hid ((kdP K rk rn || rs.has (kdP K)) = E1) := ⟨_, Lib.hid rfl⟩
          rw [HE1.out] at hRk hcall
          have HCL := Lib.hid hcall
          have HK := Lib.hid (And.intro hr' hRk)
          clear hcall hRk HAt hr' hs' HE1
          cases E1 with
          | true =>
            obtain rfl : R = true := HK.out.2.symm
            go_wp2_with fail
            refine HCL.out.mono ?_
            rintro e w4 ⟨rfl, hb4⟩
            have HB4 := Lib.hid (HBw.out.trans (hb4.mono HBw.out.size))
            clear hb4
            go_wp2
            go_ret
            exact ⟨rfl, HB4.out⟩
          | false =>
            go_wp2_with fail
            refine HCL.out.mono ?_
            rintro e w4 ⟨rfl, hb4⟩
            have HB4 := Lib.hid hb4
            clear hb4
            go_wp2
            go_roundg rr.len
            case measure => first | (rw [HG]; simp [Fo.len]; done) | (simp only [Fo.len]; omega)
            case rel =>
              refine ⟨j + 1, rr, rfl, by simp only [Fo.len] at hjr; omega, by go_num, HK.out.2, HBh.out.2.2.2, ?_, HBh.out.1.trans (HB4.out.mono hzr)⟩
              intro hne
              refine ⟨b, o, rfl, hb, ?_⟩
              rw [show o + (j + 1) * 6 = o + j * 6 + 6 by omega]
              exact HK.out.1.keep (Nat.le_refl _) (fun p hp => HB4.out.cell (by omega)) hb)
theorem kd_any (K : Int) (s : Fo) : kdOK K s := Fo.by_parts (kd_step K) s
def rtP (nm : ByteArray) (k : Int) (n : ByteArray) : Bool := (k == 5) && (n.toList == nm.toList)
def rtOK (nm : ByteArray) (s : Fo) : Prop := ∀ (k : Int) (n m : ByteArray) (i d : Int) (A : Option Addr) (c : Nat) (w : World), s.Sl w w.heap.size A c →
    Calls Tryz.prog 105 #[.agg #[.int .i64 k, .string n, .string m, .int .i64 i, .int .i64 d, .slice A s.len c], .string nm] w fun e w' => e = .returned (.bool (rtP nm k n || s.has (rtP nm))) ∧ Below w.heap.size w w'
set_option maxRecDepth 100000 in
set_option maxHeartbeats 2000000 in
theorem rt_step (nm : ByteArray) (s : Fo) (ih : s.All (rtOK nm)) : rtOK nm s := by
  intro k n m i d A c w hs
  have HS := Lib.hid hs
  have IH := Lib.hid ih
  have hcap : s.len ≤ 9223372036854775807 := by have := HS.out.1; have := HS.out.2.1; unfold maxLen at this; omega
  clear hs ih
  obtain ⟨W0, hW0⟩ : ∃ W0, w.alloc (.cells #[.int .i64 k, .string n, .string m, .int .i64 i, .int .i64 d, .slice A s.len c] 28) = W0 := ⟨_, rfl⟩
  have hzw : w.heap.size < W0.heap.size := by subst hW0; simp
  have hB0 : Below w.heap.size w W0 := by subst hW0; exact (Below.refl _ _).alloc (Nat.le_refl _) _
  have hx0 : W0.heap[w.heap.size]? = some (.cells #[.int .i64 k, .string n, .string m, .int .i64 i, .int .i64 d, .slice A s.len c] 28 (0, 0)) := by rw [← hW0]; exact heap_alloc_new w _
  have HC : Hid (∀ X, Below W0.heap.size W0 X → Below w.heap.size w X ∧ X.cell? ⟨w.heap.size, 0, none⟩ = some (.int .i64 k) ∧ X.cell? ⟨w.heap.size, 1, none⟩ = some (.string n) ∧ X.cell? ⟨w.heap.size, 5, none⟩ = some (.slice A s.len c)) := fun X hX => by
    have h0 := (hX.block w.heap.size hzw).trans hx0
    exact ⟨hB0.trans (hX.mono (Nat.le_of_lt hzw)), cell_of_row X _ 0 _ _ (0, 0) h0, cell_of_row X _ 1 _ _ (0, 0) h0, cell_of_row X _ 5 _ _ (0, 0) h0⟩
  obtain ⟨R, HR⟩ : ∃ R, Hid ((rtP nm k n || s.has (rtP nm)) = R) := ⟨_, Lib.hid rfl⟩
  rw [HR.out]
  obtain ⟨_, x0, x1, x5⟩ := HC.out W0 (Below.refl _ _)
  have HB0 := Lib.hid hB0
  clear hB0 hx0
  cases hp : rtP nm k n with
  | true =>
    obtain rfl : R = true := by rw [← HR.out, hp]; rfl
    clear HR
    obtain ⟨hk, hk2⟩ : (k == 5) = true ∧ (n.toList == nm.toList) = true := by simpa [rtP] using hp
    clear hp
    go_enter Tryz.func105, Tryz.ntmps105
    go_wp2
    go_ret
    exact ⟨rfl, HB0.out⟩
  | false =>
    have HRs := Lib.hid (show s.has (rtP nm) = R by rw [← HR.out, hp]; rfl)
    clear HR
    have hk : (k == 5) = false ∨ ((k == 5) = true ∧ (n.toList == nm.toList) = false) := by
      cases h : k == 5
      · exact .inl rfl
      · refine .inr ⟨rfl, ?_⟩
        simpa [rtP, h] using hp
    clear hp
    rcases hk with hk | ⟨hk, hk2⟩
    all_goals (
      go_enter Tryz.func105, Tryz.ntmps105
      go_wp2_with fail
      clear x0 x1 x5 hW0
      go_loopg [5] s.len (fun g ct wr => ∃ (j : Nat) (r : Fo), g = r.len ∧ j + r.len = s.len ∧ ct = .int .i64 j ∧ r.has (rtP nm) = R ∧ r.All (rtOK nm) ∧
        (r ≠ .nil → ∃ b o, A = some ⟨b, o, none⟩ ∧ b < w.heap.size ∧ r.At wr w.heap.size b (o + j * 6)) ∧ Below W0.heap.size W0 wr)
      case atStart =>
        refine ⟨0, s, rfl, by omega, rfl, HRs.out, IH.out, ?_, Below.refl _ _⟩
        intro hne
        obtain ⟨b, o, e, hb, h⟩ := HS.out.2.2 hne
        exact ⟨b, o, e, hb, by rw [Nat.zero_mul, Nat.add_zero]; exact h.keep (Nat.le_refl _) (fun p hp => HB0.out.cell hp) hb⟩
      case round =>
        obtain ⟨j, r, HG, hjr, rfl, hRr, HA, HAt, HB⟩ := hrel
        have HBh := Lib.hid (And.intro HB (And.intro hRr HA))
        clear hRr HA HB
        have hzr := HBh.out.1.size
        obtain ⟨hBw, _, _, x5⟩ := HC.out wr HBh.out.1
        have HBw := Lib.hid hBw
        clear hBw
        cases r with
        | nil =>
          have hjr2 : s.len ≤ j := by simp only [Fo.len] at hjr; omega
          have hjr1 : j ≤ s.len := by simp only [Fo.len] at hjr; omega
          obtain rfl : R = false := HBh.out.2.1.symm
          clear hjr HG HBh HRs
          go_wp2
          go_ret
          exact ⟨rfl, HBw.out⟩
        | cons rk rn rm ri rd A' c' rs rr =>
          have hjr2 : j < s.len := by simp only [Fo.len] at hjr; omega
          obtain ⟨b, o, rfl, hb, h0, h1, h2, h3, h4, ⟨h5, hc', hm', hs'⟩, hr'⟩ := HAt (by simp)
          have hcall := HBh.out.2.2.1 rk rn rm ri rd A' c' wr ⟨hc', hm', fun hne => by
            obtain ⟨b', o', e, hb', h'⟩ := hs' hne
            exact ⟨b', o', e, by omega, h'.keep (by omega) (fun _ _ => rfl) hb'⟩⟩
          have hRk := HBh.out.2.1
          simp only [Fo.has] at hRk
          obtain ⟨E1, HE1⟩ : ∃ E1, Hid ((rtP nm rk rn || rs.has (rtP nm)) = E1) := ⟨_, Lib.hid rfl⟩
          rw [HE1.out] at hRk hcall
          have HCL := Lib.hid hcall
          have HK := Lib.hid (And.intro hr' hRk)
          clear hcall hRk HAt hr' hs' HE1
          cases E1 with
          | true =>
            obtain rfl : R = true := HK.out.2.symm
            go_wp2_with fail
            refine HCL.out.mono ?_
            rintro e w4 ⟨rfl, hb4⟩
            have HB4 := Lib.hid (HBw.out.trans (hb4.mono HBw.out.size))
            clear hb4
            go_wp2
            go_ret
            exact ⟨rfl, HB4.out⟩
          | false =>
            go_wp2_with fail
            refine HCL.out.mono ?_
            rintro e w4 ⟨rfl, hb4⟩
            have HB4 := Lib.hid hb4
            clear hb4
            go_wp2
            go_roundg rr.len
            case measure => first | (rw [HG]; simp [Fo.len]; done) | (simp only [Fo.len]; omega)
            case rel =>
              refine ⟨j + 1, rr, rfl, by simp only [Fo.len] at hjr; omega, by go_num, HK.out.2, HBh.out.2.2.2, ?_, HBh.out.1.trans (HB4.out.mono hzr)⟩
              intro hne
              refine ⟨b, o, rfl, hb, ?_⟩
              rw [show o + (j + 1) * 6 = o + j * 6 + 6 by omega]
              exact HK.out.1.keep (Nat.le_refl _) (fun p hp => HB4.out.cell (by omega)) hb)
theorem rt_any (nm : ByteArray) (s : Fo) : rtOK nm s := Fo.by_parts (rt_step nm) s
end Go.Proofs.YtacjjkbkhpdhnaaGreatDoor
/- ref21.free (printed by gen_yfr.py) -/
namespace Go.Proofs.YtacjjkbkhpdhnaaGreatDoor
open Go.RowKit Go.Proofs Go.Shelf
theorem VarsAt.below {W X : World} {B : Nat} {A : Option Addr} {c : Nat} {l : List ByteArray} (h : VarsAt W A c l) (hb : Below B W X) (hB : W.heap.size ≤ B) : VarsAt X A c l :=
  h.keep fun k cur fz hk => hb.block k (by
    have : k < W.heap.size := by
      by_cases hlt : k < W.heap.size
      · exact hlt
      · rw [Array.getElem?_eq_none (by omega)] at hk; cases hk
    omega)
def Fo.V3 : Fo → Prop
  | .nil => True
  | .cons k _ _ _ _ _ _ s r => (k = 3 → s.len = 0) ∧ s.V3 ∧ r.V3
def FrP (l : List ByteArray) (fb : Bool) (q : Nat) (w : World) (e : Ending) (w' : World) : Prop :=
  ∃ g c LL, e = .returned (.slice (some ⟨g, 0, none⟩) LL.length c) ∧ OwnS w' g c LL ∧ (LL = [] ↔ l = [] ∧ fb = false) ∧ LL.length ≤ l.length + q ∧ Below w.heap.size w w'
def FrOK (s : Fo) : Prop := ∀ (k : Int) (n m : ByteArray) (i d : Int) (A : Option Addr) (c : Nat) (bd : List ByteArray) (bA : Option Addr) (bc : Nat) (l : List ByteArray) (g lc : Nat) (w : World),
    s.Sl w w.heap.size A c → (k = 3 → s.len = 0) → s.V3 → VarsAt w bA bc bd → OwnS w g lc l → bd.length + 2 * (1 + s.count) ≤ 1000000 → l.length + (1 + s.count) ≤ 1000000 →
    Calls Tryz.prog 137 #[.agg #[.int .i64 k, .string n, .string m, .int .i64 i, .int .i64 d, .slice A s.len c], .slice bA bd.length bc, .slice (some ⟨g, 0, none⟩) l.length lc] w (FrP l (nodeFree k n m s bd) (1 + s.count) w)
set_option maxRecDepth 100000 in
set_option maxHeartbeats 4000000 in
theorem fr_step (s : Fo) (ih : s.All FrOK) : FrOK s := by
  intro k n m i d A c bd bA bc l g lc w hs h3 hv3 hbd hl hq1 hq2
  obtain ⟨i0, hi, hz0, hz1, hz2⟩ := info_parts Tryz.infoString
  have hcap : s.len ≤ 9223372036854775807 := by have := hs.1; have := hs.2.1; unfold maxLen at this; omega
  obtain ⟨W0, hW0⟩ : ∃ W0, w.alloc (.cells #[.int .i64 k, .string n, .string m, .int .i64 i, .int .i64 d, .slice A s.len c] 28) = W0 := ⟨_, rfl⟩
  have hzw : w.heap.size < W0.heap.size := by subst hW0; simp
  have hB0 : Below w.heap.size w W0 := by subst hW0; exact (Below.refl _ _).alloc (Nat.le_refl _) _
  have hx0 : W0.heap[w.heap.size]? = some (.cells #[.int .i64 k, .string n, .string m, .int .i64 i, .int .i64 d, .slice A s.len c] 28 (0, 0)) := by rw [← hW0]; exact heap_alloc_new w _
  have HC : Hid (∀ X, Below W0.heap.size W0 X → Below w.heap.size w X ∧ X.cell? ⟨w.heap.size, 0, none⟩ = some (.int .i64 k) ∧ X.cell? ⟨w.heap.size, 1, none⟩ = some (.string n) ∧ X.cell? ⟨w.heap.size, 2, none⟩ = some (.string m) ∧ X.cell? ⟨w.heap.size, 5, none⟩ = some (.slice A s.len c) ∧ VarsAt X bA bc bd ∧ SlS X X.heap.size bA bc bd ∧ OwnS X g lc l) := fun X hX => by
    have h0 := (hX.block w.heap.size hzw).trans hx0
    have hb := hB0.trans (hX.mono (Nat.le_of_lt hzw))
    exact ⟨hb, cell_of_row X _ 0 _ _ (0, 0) h0, cell_of_row X _ 1 _ _ (0, 0) h0, cell_of_row X _ 2 _ _ (0, 0) h0, cell_of_row X _ 5 _ _ (0, 0) h0, hbd.below hb (Nat.le_refl _), (hbd.below hb (Nat.le_refl _)).sls.1, VarsAt.below hl hb (Nat.le_refl _)⟩
  have HS := Lib.hid (And.intro hs hv3)
  obtain ⟨FB, HFB⟩ : ∃ FB, Hid (nodeFree k n m s bd = FB) := ⟨_, Lib.hid rfl⟩
  rw [HFB.out]
  obtain ⟨_, x0, x1, x2, x5, _, hsb, hol⟩ := HC.out W0 (Below.refl _ _)
  clear hB0 hx0 hs hv3 hbd hl
  by_cases hk3 : k = 3
  · subst hk3
    have hsn : s.len = 0 := h3 rfl
    have HH := Lib.hid (has21_any bd n bA bc W0 hsb)
    cases hh : hasS bd n with
    | false =>
      obtain rfl : FB = true := by rw [← HFB.out]; simp [nodeFree, hh]
      rw [hh] at HH
      have HW := Lib.hid (with21_any l n g lc W0 hol (by omega))
      clear hh hsb hol HFB h3 hsn
      go_enter Tryz.func137, Tryz.ntmps137
      go_wp2_with fail
      refine HH.out.mono ?_
      rintro e w1 ⟨rfl, rfl⟩
      go_wp2_with fail
      refine HW.out.mono ?_
      rintro e w2 ⟨g2, c2, LL, rfl, ho, hne, hle, hb2⟩
      have HR := Lib.hid (show FrP l true (1 + s.count) w (.returned (.slice (some ⟨g2, 0, none⟩) LL.length c2)) w2 from ⟨g2, c2, LL, rfl, ho, by simp [hne], by omega, (HC.out w2 hb2).1⟩)
      clear ho hne hle hb2
      go_wp2
      go_ret
      exact HR.out
    | true =>
      obtain rfl : FB = false := by rw [← HFB.out]; simp [nodeFree, hh]
      rw [hh] at HH
      rw [hsn] at x5
      have hsl0 : s.len = 0 := hsn
      have HR := Lib.hid (show FrP l false (1 + s.count) w (.returned (.slice (some ⟨g, 0, none⟩) l.length lc)) W0 from ⟨g, lc, l, rfl, hol, by simp, by omega, (HC.out W0 (Below.refl _ _)).1⟩)
      clear hh hsb hol HFB h3
      rw [hsl0] at hW0 ⊢
      clear hsn hsl0 hcap
      go_enter Tryz.func137, Tryz.ntmps137
      go_wp2_with fail
      refine HH.out.mono ?_
      rintro e w1 ⟨rfl, rfl⟩
      go_wp2_with fail
      go_loop [2, 7] (fun lv ct => lv = .slice (some ⟨g, 0, none⟩) l.length lc ∧ ct = .int .i64 0) (fun _ _ => 0)
      case atStart => exact ⟨rfl, rfl⟩
      case round =>
        obtain ⟨rfl, rfl⟩ := hrel
        go_wp2
        go_ret
        exact HR.out
  · have hk3' : (k == 3) = false := by simpa using hk3
    have IH := Lib.hid ih
    have HF := Lib.hid (show s.free (fun q => bd ++ boundBy k n m q) 0 = FB by rw [← HFB.out]; simp [nodeFree, hk3])
    have HOL := Lib.hid hol
    clear hsb hol HFB h3 hk3 ih
    go_enter Tryz.func137, Tryz.ntmps137
    go_wp2_with fail
    clear x0 x1 x2 x5 hW0
    go_loopg [2, 7, 8, 33, 49] s.len (fun gg lv ct _ _ _ wr => ∃ (j : Nat) (r : Fo) (g' c' : Nat) (LL : List ByteArray), gg = r.len ∧ j + r.len = s.len ∧ ct = .int .i64 j ∧ lv = .slice (some ⟨g', 0, none⟩) LL.length c' ∧
      OwnS wr g' c' LL ∧ ((LL = [] ∧ r.free (fun q => bd ++ boundBy k n m q) j = false) ↔ (l = [] ∧ FB = false)) ∧ (LL.length + r.count ≤ l.length + s.count ∧ r.count ≤ s.count) ∧ r.V3 ∧ r.All FrOK ∧
      (r ≠ .nil → ∃ b o, A = some ⟨b, o, none⟩ ∧ b < w.heap.size ∧ r.At wr w.heap.size b (o + j * 6)) ∧ Below W0.heap.size W0 wr)
    case atStart =>
      refine ⟨0, s, g, lc, l, rfl, by omega, rfl, rfl, HOL.out, by rw [HF.out], ⟨Nat.le_refl _, Nat.le_refl _⟩, HS.out.2, IH.out, ?_, Below.refl _ _⟩
      intro hne
      obtain ⟨b, o, e, hb, h⟩ := HS.out.1.2.2 hne
      exact ⟨b, o, e, hb, by rw [Nat.zero_mul, Nat.add_zero]; exact h.keep (Nat.le_refl _) (fun p hp => (HC.out _ (Below.refl _ _)).1.cell hp) hb⟩
    case round =>
      obtain ⟨j, r, g', c', LL, HG, hjr, rfl, rfl, hown, hiff, ⟨hcnt, hcn2⟩, hv3, HA, HAt, HB⟩ := hrel
      have HBh := Lib.hid (And.intro HB (And.intro hown (And.intro hiff (And.intro hv3 HA))))
      clear hown hiff hv3 HA HB
      have hzr := HBh.out.1.size
      obtain ⟨hBw, x0, x1, x2, x5, hvb, _, _⟩ := HC.out wr HBh.out.1
      have HBw := Lib.hid (And.intro hBw hvb)
      clear hBw hvb
      cases r with
      | nil =>
        have hjr2 : s.len ≤ j := by simp only [Fo.len] at hjr; omega
        have hjr1 : j ≤ s.len := by simp only [Fo.len] at hjr; omega
        have HR := Lib.hid (show FrP l FB (1 + s.count) w (.returned (.slice (some ⟨g', 0, none⟩) LL.length c')) wr from ⟨g', c', LL, rfl, HBh.out.2.1, by have := HBh.out.2.2.1; simpa [Fo.free] using this, by simp only [Fo.count] at hcnt; omega, HBw.out.1⟩)
        clear hjr HG hcnt hcn2
        go_wp2
        go_ret
        exact HR.out
      | cons rk rn rm ri rd A' rc rs rr =>
        have hjr2 : j < s.len := by simp only [Fo.len] at hjr; omega
        obtain ⟨b, o, rfl, hb, h0, h1, h2, h3, h4, ⟨h5, hc', hm', hs'⟩, hr'⟩ := HAt (by simp)
        have HW1 : Hid (∀ X, Below wr.heap.size wr X → X.cell? ⟨w.heap.size, 0, none⟩ = some (.int .i64 k) ∧ X.cell? ⟨w.heap.size, 1, none⟩ = some (.string n) ∧ X.cell? ⟨w.heap.size, 2, none⟩ = some (.string m) ∧ X.cell? ⟨w.heap.size, 5, none⟩ = some (.slice (some ⟨b, o, none⟩) s.len c) ∧
            X.cell? ⟨b, o + j * 6, none⟩ = some (.int .i64 rk) ∧ X.cell? ⟨b, o + j * 6 + 1, none⟩ = some (.string rn) ∧ X.cell? ⟨b, o + j * 6 + 2, none⟩ = some (.string rm) ∧ X.cell? ⟨b, o + j * 6 + 3, none⟩ = some (.int .i64 ri) ∧ X.cell? ⟨b, o + j * 6 + 4, none⟩ = some (.int .i64 rd) ∧ X.cell? ⟨b, o + j * 6 + 5, none⟩ = some (.slice A' rs.len rc)) := fun X hX => by
          have hbl : b < wr.heap.size := by omega
          have hwl : w.heap.size < wr.heap.size := by omega
          exact ⟨(hX.cell (p := ⟨w.heap.size, 0, none⟩) hwl).trans x0, (hX.cell (p := ⟨w.heap.size, 1, none⟩) hwl).trans x1, (hX.cell (p := ⟨w.heap.size, 2, none⟩) hwl).trans x2, (hX.cell (p := ⟨w.heap.size, 5, none⟩) hwl).trans x5,
            (hX.cell (p := ⟨b, _, none⟩) hbl).trans h0, (hX.cell (p := ⟨b, _, none⟩) hbl).trans h1, (hX.cell (p := ⟨b, _, none⟩) hbl).trans h2, (hX.cell (p := ⟨b, _, none⟩) hbl).trans h3, (hX.cell (p := ⟨b, _, none⟩) hbl).trans h4, (hX.cell (p := ⟨b, _, none⟩) hbl).trans h5⟩
        have HNx : Hid (∀ X, Below wr.heap.size wr X → ∀ (bd' : List ByteArray) (A2 : Option Addr) (c2 : Nat), bd' = bd ++ boundBy k n m j → VarsAt X A2 c2 bd' →
            Calls Tryz.prog 137 #[.agg #[.int .i64 rk, .string rn, .string rm, .int .i64 ri, .int .i64 rd, .slice A' rs.len rc], .slice A2 bd'.length c2, .slice (some ⟨g', 0, none⟩) LL.length c'] X (FrP LL (nodeFree rk rn rm rs (bd ++ boundBy k n m j)) (1 + rs.count) X)) := fun X hX bd' A2 c2 e hva => by
          subst e
          have hbo : (boundBy k n m j).length ≤ 2 := by unfold boundBy; split <;> (try split) <;> (try split) <;> simp
          simp only [Fo.count] at hcnt hcn2
          refine HBh.out.2.2.2.2.1 rk rn rm ri rd A' rc _ A2 c2 LL g' c' X ⟨hc', hm', fun hne => ?_⟩ HBh.out.2.2.2.1.1 HBh.out.2.2.2.1.2.1 hva (VarsAt.below HBh.out.2.1 hX (Nat.le_refl _)) ?_ ?_
          · obtain ⟨b', o', e, hb', h'⟩ := hs' hne
            have := hX.size
            exact ⟨b', o', e, by omega, h'.keep (by omega) (fun p hp => hX.cell (by omega)) hb'⟩
          · rw [List.length_append]; omega
          · omega
        have HEnd : Hid (∀ (X : World) (g2 c2 : Nat) (L2 : List ByteArray), Below wr.heap.size wr X → OwnS X g2 c2 L2 → (L2 = [] ↔ LL = [] ∧ nodeFree rk rn rm rs (bd ++ boundBy k n m j) = false) → L2.length ≤ LL.length + (1 + rs.count) →
            ∃ (j' : Nat) (r : Fo) (g' c' : Nat) (L3 : List ByteArray), rr.len = r.len ∧ j' + r.len = s.len ∧ Value.int .i64 ((j : Int) + 1) = .int .i64 j' ∧ Value.slice (some ⟨g2, 0, none⟩) L2.length c2 = .slice (some ⟨g', 0, none⟩) L3.length c' ∧
            OwnS X g' c' L3 ∧ ((L3 = [] ∧ r.free (fun q => bd ++ boundBy k n m q) j' = false) ↔ (l = [] ∧ FB = false)) ∧ (L3.length + r.count ≤ l.length + s.count ∧ r.count ≤ s.count) ∧ r.V3 ∧ r.All FrOK ∧
            (r ≠ .nil → ∃ b' o', (some ⟨b, o, none⟩ : Option Addr) = some ⟨b', o', none⟩ ∧ b' < w.heap.size ∧ r.At X w.heap.size b' (o' + j' * 6)) ∧ Below W0.heap.size W0 X) := fun X g2 c2 L2 hX ho he hle => by
          simp only [Fo.len] at hjr
          simp only [Fo.count] at hcnt hcn2
          refine ⟨j + 1, rr, g2, c2, L2, rfl, by omega, by go_num, rfl, ho, ?_, ⟨by omega, by omega⟩, HBh.out.2.2.2.1.2.2, HBh.out.2.2.2.2.2, ?_, HBh.out.1.trans (hX.mono hzr)⟩
          · rw [← HBh.out.2.2.1, he, Fo.free_cons, Bool.or_eq_false_iff, and_assoc]
          · intro hne
            refine ⟨b, o, rfl, hb, ?_⟩
            rw [show o + (j + 1) * 6 = o + j * 6 + 6 by omega]
            exact hr'.keep (Nat.le_refl _) (fun p hp => hX.cell (by omega)) hb
        have HR1 := Lib.hid (World.ownsRow_lit (base := wr.heap.size) (e := 9) (size := 1) wr #[] 0 (Nat.le_refl _) (by simp) rfl)
        have HB1 := Lib.hid ((Below.refl wr.heap.size wr).alloc (Nat.le_refl _) (.cells #[] 9))
        have HSB := Lib.hid ((HBw.out.2.below HB1.out (Nat.le_refl _)).sls.1.news)
        have hbl : bd.length ≤ 1000000 := by omega
        have hlk : (0 : Int) ≤ (j : Int) := by omega
        have hlk1 : (j : Int) < (s.len : Int) := by omega
        clear h0 h1 h2 h3 h4 h5 hs' hr' HAt hcnt hcn2 hc' hm' hq1 hq2 HC HS HOL HF IH
        have hsp : k = 6 ∨ (k = 8 ∧ j = 1) ∨ (k = 13 ∧ j = 2) ∨ (k ≠ 6 ∧ ¬ (k = 8 ∧ j = 1) ∧ ¬ (k = 13 ∧ j = 2)) := by omega
        rcases hsp with rfl | ⟨rfl, hj8⟩ | ⟨rfl, hj13⟩ | ⟨hk6, hk8, hk13⟩
        · have kf : True := trivial
          go_wp2_with (first
            | (at_builtin; refine wpList_append_own_any _ rfl (.tmp 30) (.tmp 31) 22 rfl wr.heap.size 9 i0 _ 1 16 Tryz.underlying22 hi hz0 hz1 hz2 rfl (by decide) _ 0 [] rfl HR1.out bA bd.length bc (bd.map Value.string) rfl (by simp) HSB.out.1 HSB.out.2 (strs_one _) (by unfold maxLen; omega) (by omega) (by simp) ?_; intro v1 w1 hown1 hg1; have hb1 := HB1.out.grown hg1 (by simp) (fun q hq => (HR1.out.lt q hq).1); have hz1' := hb1.size; obtain ⟨a0, a1, a2, a5, e0, e1, e2, e3, e4, e5⟩ := HW1.out w1 hb1)
            | (at_builtin; refine wpList_append_own _ rfl (.tmp 44) (.tmp 47) 22 rfl wr.heap.size 9 i0 _ 1 16 Tryz.underlying22 hi hz0 hz1 hz2 rfl (by decide) v1 _ _ rfl (hown1.alloc _) ⟨w1.heap.size, 0, none⟩ 1 1 [.string n] rfl rfl (cell_one_new _ _ _) (strs_one [n]) (by unfold maxLen; omega) (by omega) (by simp; omega) ?_; intro v2 w2 hown2 hg2 _; have hb2 := (hb1.alloc hz1' (.cells #[.string n] 9)).grown hg2 (by simp; omega) (fun q hq => (hown1.lt q hq).1); have hz2' := hb2.size; obtain ⟨f0, f1, f2, f5, q0, q1, q2, q3, q4, q5⟩ := HW1.out w2 hb2))
          have hf : w2.ownsRow wr.heap.size 9 1 v2 (bd ++ [n]).length ((bd ++ [n]).map .string) := by
            simpa using hown2
          obtain ⟨A2, c2, rfl, hva⟩ := VarsAt.of hf
          have HCL := Lib.hid (HNx.out w2 hb2 (bd ++ [n]) A2 c2 (by simp [boundBy]) hva)
          clear hva hf
          with_reducible refine HCL.out.mono ?_
          rintro e w5 ⟨g2, c3, L2, rfl, ho, he, hle, hb5⟩
          have HE5 := Lib.hid (HEnd.out w5 g2 c3 L2 (hb2.trans (hb5.mono hb2.size)) ho he hle)
          clear ho he hle hb5
          go_wp2
          go_roundg rr.len
          case measure => first | (rw [HG]; simp [Fo.len]; done) | (simp only [Fo.len]; omega)
          case rel => exact HE5.out
        · have j8 : ((j : Int) == 1) = true := by simp; omega
          have HJ := Lib.hid hj8
          clear hj8
          go_wp2_with (first
            | (at_builtin; refine wpList_append_own_any _ rfl (.tmp 30) (.tmp 31) 22 rfl wr.heap.size 9 i0 _ 1 16 Tryz.underlying22 hi hz0 hz1 hz2 rfl (by decide) _ 0 [] rfl HR1.out bA bd.length bc (bd.map Value.string) rfl (by simp) HSB.out.1 HSB.out.2 (strs_one _) (by unfold maxLen; omega) (by omega) (by simp) ?_; intro v1 w1 hown1 hg1; have hb1 := HB1.out.grown hg1 (by simp) (fun q hq => (HR1.out.lt q hq).1); have hz1' := hb1.size; obtain ⟨a0, a1, a2, a5, e0, e1, e2, e3, e4, e5⟩ := HW1.out w1 hb1)
            | (at_builtin; refine wpList_append_own _ rfl (.tmp 44) (.tmp 47) 22 rfl wr.heap.size 9 i0 _ 1 16 Tryz.underlying22 hi hz0 hz1 hz2 rfl (by decide) v1 _ _ rfl (hown1.alloc _) ⟨w1.heap.size, 0, none⟩ 1 1 [.string n] rfl rfl (cell_one_new _ _ _) (strs_one [n]) (by unfold maxLen; omega) (by omega) (by simp; omega) ?_; intro v2 w2 hown2 hg2 _; have hb2 := (hb1.alloc hz1' (.cells #[.string n] 9)).grown hg2 (by simp; omega) (fun q hq => (hown1.lt q hq).1); have hz2' := hb2.size; obtain ⟨f0, f1, f2, f5, q0, q1, q2, q3, q4, q5⟩ := HW1.out w2 hb2))
          have hf : w2.ownsRow wr.heap.size 9 1 v2 (bd ++ [n]).length ((bd ++ [n]).map .string) := by
            simpa using hown2
          obtain ⟨A2, c2, rfl, hva⟩ := VarsAt.of hf
          have HCL := Lib.hid (HNx.out w2 hb2 (bd ++ [n]) A2 c2 (by simp [boundBy, HJ.out]) hva)
          clear hva hf
          with_reducible refine HCL.out.mono ?_
          rintro e w5 ⟨g2, c3, L2, rfl, ho, he, hle, hb5⟩
          have HE5 := Lib.hid (HEnd.out w5 g2 c3 L2 (hb2.trans (hb5.mono hb2.size)) ho he hle)
          clear ho he hle hb5
          go_wp2
          go_roundg rr.len
          case measure => first | (rw [HG]; simp [Fo.len]; done) | (simp only [Fo.len]; omega)
          case rel => exact HE5.out
        · have j13 : ((j : Int) == 2) = true := by simp; omega
          have HJ := Lib.hid hj13
          clear hj13
          go_wp2_with (first
            | (at_builtin; refine wpList_append_own_any _ rfl (.tmp 30) (.tmp 31) 22 rfl wr.heap.size 9 i0 _ 1 16 Tryz.underlying22 hi hz0 hz1 hz2 rfl (by decide) _ 0 [] rfl HR1.out bA bd.length bc (bd.map Value.string) rfl (by simp) HSB.out.1 HSB.out.2 (strs_one _) (by unfold maxLen; omega) (by omega) (by simp) ?_; intro v1 w1 hown1 hg1; have hb1 := HB1.out.grown hg1 (by simp) (fun q hq => (HR1.out.lt q hq).1); have hz1' := hb1.size; obtain ⟨a0, a1, a2, a5, e0, e1, e2, e3, e4, e5⟩ := HW1.out w1 hb1)
            | (at_builtin; refine wpList_append_own _ rfl (.tmp 57) (.tmp 62) 22 rfl wr.heap.size 9 i0 _ 1 16 Tryz.underlying22 hi hz0 hz1 hz2 rfl (by decide) v1 _ _ rfl (hown1.alloc _) ⟨w1.heap.size, 0, none⟩ 2 2 [.string n, .string m] rfl rfl (cell_pair_new _ _ _ _) (strs_one [n, m]) (by unfold maxLen; omega) (by omega) (by simp; omega) ?_; intro v2 w2 hown2 hg2 _; have hb2 := (hb1.alloc hz1' (.cells #[.string n, .string m] 9)).grown hg2 (by simp; omega) (fun q hq => (hown1.lt q hq).1); have hz2' := hb2.size; obtain ⟨f0, f1, f2, f5, q0, q1, q2, q3, q4, q5⟩ := HW1.out w2 hb2))
          have hf : w2.ownsRow wr.heap.size 9 1 v2 (bd ++ [n, m]).length ((bd ++ [n, m]).map .string) := by
            simpa using hown2
          obtain ⟨A2, c2, rfl, hva⟩ := VarsAt.of hf
          have HCL := Lib.hid (HNx.out w2 hb2 (bd ++ [n, m]) A2 c2 (by simp [boundBy, HJ.out]) hva)
          clear hva hf
          with_reducible refine HCL.out.mono ?_
          rintro e w5 ⟨g2, c3, L2, rfl, ho, he, hle, hb5⟩
          have HE5 := Lib.hid (HEnd.out w5 g2 c3 L2 (hb2.trans (hb5.mono hb2.size)) ho he hle)
          clear ho he hle hb5
          go_wp2
          go_roundg rr.len
          case measure => first | (rw [HG]; simp [Fo.len]; done) | (simp only [Fo.len]; omega)
          case rel => exact HE5.out
        · have k6 : (k == 6) = false := by simpa using hk6
          have k8 : (k == 8) = false ∨ ((k == 8) = true ∧ ((j : Int) == 1) = false) := by
            by_cases h : k = 8
            · right; exact ⟨by simpa using h, by simp; omega⟩
            · left; simpa using h
          have k13 : (k == 13) = false ∨ ((k == 13) = true ∧ ((j : Int) == 2) = false) := by
            by_cases h : k = 13
            · right; exact ⟨by simpa using h, by simp; omega⟩
            · left; simpa using h
          have HBN := Lib.hid (show bd = bd ++ boundBy k n m j by unfold boundBy; rw [if_neg hk6, if_neg hk8, if_neg hk13]; simp)
          clear hk6 hk8 hk13
          rcases k8 with k8 | ⟨k8, j8⟩
          all_goals rcases k13 with k13 | ⟨k13, j13⟩
          all_goals (
            go_wp2_with (first
              | (at_builtin; refine wpList_append_own_any _ rfl (.tmp 30) (.tmp 31) 22 rfl wr.heap.size 9 i0 _ 1 16 Tryz.underlying22 hi hz0 hz1 hz2 rfl (by decide) _ 0 [] rfl HR1.out bA bd.length bc (bd.map Value.string) rfl (by simp) HSB.out.1 HSB.out.2 (strs_one _) (by unfold maxLen; omega) (by omega) (by simp) ?_; intro v1 w1 hown1 hg1; have hb1 := HB1.out.grown hg1 (by simp) (fun q hq => (HR1.out.lt q hq).1); have hz1' := hb1.size; obtain ⟨a0, a1, a2, a5, e0, e1, e2, e3, e4, e5⟩ := HW1.out w1 hb1))
            have hf : w1.ownsRow wr.heap.size 9 1 v1 bd.length (bd.map .string) := by
              simpa using hown1
            obtain ⟨A2, c2, rfl, hva⟩ := VarsAt.of hf
            have HCL := Lib.hid (HNx.out w1 hb1 bd A2 c2 HBN.out hva)
            clear hva hf
            with_reducible refine HCL.out.mono ?_
            rintro e w5 ⟨g2, c3, L2, rfl, ho, he, hle, hb5⟩
            have HE5 := Lib.hid (HEnd.out w5 g2 c3 L2 (hb1.trans (hb5.mono hb1.size)) ho he hle)
            clear ho he hle hb5
            go_wp2
            go_roundg rr.len
            case measure => first | (rw [HG]; simp [Fo.len]; done) | (simp only [Fo.len]; omega)
            case rel => exact HE5.out)
theorem fr_any (s : Fo) : FrOK s := Fo.by_parts fr_step s
end Go.Proofs.YtacjjkbkhpdhnaaGreatDoor
/- ref21.CheckExpr, Free -/
namespace Go.Proofs.YtacjjkbkhpdhnaaGreatDoor
open Go.RowKit Go.Proofs Go.Shelf
theorem firstE_app : ∀ a b : List Nd, firstE (a ++ b) = if firstE a = 0 then firstE b else firstE a
  | [], b => by simp [firstE]
  | x :: a, b => by
    have h := firstE_app a b
    simp only [List.cons_append, firstE, h]
    by_cases hx : x.err = 0 <;> simp [hx]
theorem Fo.first_pre : ∀ (f : Fo) (dp : Nat), firstE (f.pre dp) = f.ck
  | .nil, _ => rfl
  | .cons k n m i d A c s r, dp => by
    have h1 := first_pre s (dp + 1)
    have h2 := first_pre r dp
    simp only [Fo.pre, firstE, firstE_app, h1, h2, Fo.ck, Nd.err]
theorem Fo.dep_pre : ∀ (f : Fo) (dp : Nat), (f.pre dp).any (fun x => decide (40 < x.dep)) = decide (0 < f.depth ∧ 40 < dp + f.depth - 1)
  | .nil, dp => by simp [Fo.pre, Fo.depth]
  | .cons k n m i d A c s r, dp => by
    have h1 := dep_pre s (dp + 1)
    have h2 := dep_pre r dp
    simp only [Fo.pre, List.any_cons, List.any_append, h1, h2, Fo.depth]
    rw [Bool.eq_iff_iff]
    simp only [Bool.or_eq_true, decide_eq_true_eq]
    refine Iff.trans ?_ decide_eq_true_iff.symm
    have hd1 : s.depth + 1 ≤ max (s.depth + 1) r.depth := Nat.le_max_left _ _
    have hd2 : r.depth ≤ max (s.depth + 1) r.depth := Nat.le_max_right _ _
    have hd3 : max (s.depth + 1) r.depth = s.depth + 1 ∨ max (s.depth + 1) r.depth = r.depth := by omega
    omega
theorem exprE_ck (k : Int) (n m : ByteArray) (i d : Int) (A : Option Addr) (c : Nat) (s : Fo) :
    exprE (⟨1, k, n, m, i, d, A, s.len, c⟩ :: s.pre 2) = if 400 < 1 + s.count ∨ 40 < s.depth + 1 then 4 else ckN k n m i d s := by
  unfold exprE limB
  have h1 := s.pre_length 2
  have h2 := s.dep_pre 2
  have h3 := s.first_pre 2
  by_cases h : 400 < 1 + s.count ∨ 40 < s.depth + 1
  · rw [if_pos h, if_pos]
    simp only [List.any_cons, h2, List.length_cons, h1, Bool.or_eq_true, decide_eq_true_eq]
    omega
  · rw [if_neg h, if_neg]
    · simp only [firstE, h3, ckN, Nd.err]
    · simp only [List.any_cons, h2, List.length_cons, h1, Bool.or_eq_true, decide_eq_true_eq]
      omega
set_option maxRecDepth 100000 in
set_option maxHeartbeats 2000000 in
theorem checkExpr21_any (k : Int) (n m : ByteArray) (i d : Int) (A : Option Addr) (c : Nat) (s : Fo) (w : World) (hs : s.Sl w w.heap.size A c) (hn : n.size ≤ 1000) (hm : m.size ≤ 1000) (hst : s.Short) (hcnt : s.count ≤ 1000000) :
    Calls Tryz.prog 126 #[.agg #[.int .i64 k, .string n, .string m, .int .i64 i, .int .i64 d, .slice A s.len c]] w fun e w' => e = .returned (.int .i64 (exprE (⟨1, k, n, m, i, d, A, s.len, c⟩ :: s.pre 2))) ∧ Below w.heap.size w w' := by
  obtain ⟨R, HR⟩ : ∃ R, Hid (exprE (⟨1, k, n, m, i, d, A, s.len, c⟩ :: s.pre 2) = R) := ⟨_, Lib.hid rfl⟩
  have HRc := Lib.hid (show R = if 400 < 1 + s.count ∨ 40 < s.depth + 1 then 4 else ckN k n m i d s by rw [← HR.out, exprE_ck])
  rw [HR.out]
  clear HR
  obtain ⟨W0, hW0⟩ : ∃ W0, w.alloc (.cells #[.int .i64 k, .string n, .string m, .int .i64 i, .int .i64 d, .slice A s.len c] 28) = W0 := ⟨_, rfl⟩
  have hzw : w.heap.size < W0.heap.size := by subst hW0; simp
  have hB0 : Below w.heap.size w W0 := by subst hW0; exact (Below.refl _ _).alloc (Nat.le_refl _) _
  have hx0 : W0.heap[w.heap.size]? = some (.cells #[.int .i64 k, .string n, .string m, .int .i64 i, .int .i64 d, .slice A s.len c] 28 (0, 0)) := by rw [← hW0]; exact heap_alloc_new w _
  have HC : Hid (∀ X, Below W0.heap.size W0 X → Below w.heap.size w X ∧ s.Sl X X.heap.size A c ∧ X.cell? ⟨w.heap.size, 0, none⟩ = some (.int .i64 k) ∧ X.cell? ⟨w.heap.size, 1, none⟩ = some (.string n) ∧ X.cell? ⟨w.heap.size, 2, none⟩ = some (.string m) ∧ X.cell? ⟨w.heap.size, 3, none⟩ = some (.int .i64 i) ∧ X.cell? ⟨w.heap.size, 4, none⟩ = some (.int .i64 d) ∧ X.cell? ⟨w.heap.size, 5, none⟩ = some (.slice A s.len c)) := fun X hX => by
    have h0 := (hX.block w.heap.size hzw).trans hx0
    have hb := hB0.trans (hX.mono (Nat.le_of_lt hzw))
    exact ⟨hb, hs.keep hb.size fun p hp => hb.cell hp, cell_of_row X _ 0 _ _ (0, 0) h0, cell_of_row X _ 1 _ _ (0, 0) h0, cell_of_row X _ 2 _ _ (0, 0) h0, cell_of_row X _ 3 _ _ (0, 0) h0, cell_of_row X _ 4 _ _ (0, 0) h0, cell_of_row X _ 5 _ _ (0, 0) h0⟩
  obtain ⟨_, hs0, x0, x1, x2, x3, x4, x5⟩ := HC.out W0 (Below.refl _ _)
  have hno := nodes_any s k n m i d A c W0 hs0
  rw [wrap64_small (by omega) (by omega)] at hno
  have HNO := Lib.hid hno
  have hdl := s.depth_le
  have HP := Lib.hid (And.intro hst (And.intro hn hm))
  obtain ⟨C, HCn⟩ : ∃ C, Hid (s.count = C) := ⟨_, Lib.hid rfl⟩
  obtain ⟨D, HD⟩ : ∃ D, Hid (s.depth = D) := ⟨_, Lib.hid rfl⟩
  rw [HCn.out] at HNO hcnt hdl HRc
  rw [HD.out] at hdl HRc
  clear hs hs0 hB0 hx0 hst hno
  by_cases hC : 400 < 1 + C
  · have t1 : decide (400 < 1 + (C : Int)) = true := by simp; omega
    obtain rfl : R = 4 := by rw [HRc.out, if_pos (.inl hC)]
    go_enter Tryz.func126, Tryz.ntmps126
    go_wp2_with fail
    refine HNO.out.mono ?_
    rintro e w1 ⟨rfl, hb1⟩
    have HB := Lib.hid (HC.out w1 hb1).1
    clear hb1
    go_wp2
    go_ret
    exact ⟨rfl, HB.out⟩
  · have t1 : decide (400 < 1 + (C : Int)) = false := by simp; omega
    go_enter Tryz.func126, Tryz.ntmps126
    go_wp2_with fail
    refine HNO.out.mono ?_
    rintro e w1 ⟨rfl, hb1⟩
    have HB1 := Lib.hid hb1
    clear hb1 x0 x1 x2 x3 x4 x5 hW0 HNO
    obtain ⟨_, hs1, x0, x1, x2, x3, x4, x5⟩ := HC.out w1 HB1.out
    have hde := depth_any s k n m i d A c w1 (by rw [HCn.out]; exact hcnt) hs1
    rw [HD.out] at hde
    have HDE := Lib.hid hde
    clear hde hs1
    have hw1 : ((D + 1 : Nat) : Int) = (D : Int) + 1 := by omega
    rw [hw1] at HDE
    clear hw1
    by_cases hD : 40 < D + 1
    · have t2 : decide (40 < (D : Int) + 1) = true := by simp; omega
      obtain rfl : R = 4 := by rw [HRc.out, if_pos (.inr hD)]
      go_wp2_with fail
      refine HDE.out.mono ?_
      rintro e w2 ⟨rfl, hb2⟩
      have HB := Lib.hid (HC.out w2 (HB1.out.trans (hb2.mono HB1.out.size))).1
      clear hb2
      go_wp2
      go_ret
      exact ⟨rfl, HB.out⟩
    · have t2 : decide (40 < (D : Int) + 1) = false := by simp; omega
      have HRk := Lib.hid (show ckN k n m i d s = R by rw [HRc.out, if_neg (by omega)])
      go_wp2_with fail
      refine HDE.out.mono ?_
      rintro e w2 ⟨rfl, hb2⟩
      have HB2 := Lib.hid (HB1.out.trans (hb2.mono HB1.out.size))
      clear hb2 x0 x1 x2 x3 x4 x5 HDE
      obtain ⟨_, hs2, x0, x1, x2, x3, x4, x5⟩ := HC.out w2 HB2.out
      have hck := ck_any s k n m i d A c w2 HP.out.2.1 HP.out.2.2 HP.out.1 hs2
      rw [HRk.out] at hck
      have HCK := Lib.hid hck
      clear hck hs2
      go_wp2_with fail
      refine HCK.out.mono ?_
      rintro e w3 ⟨rfl, hb3⟩
      have HB := Lib.hid (HC.out w3 (HB2.out.trans (hb3.mono HB2.out.size))).1
      clear hb3
      go_wp2
      go_ret
      exact ⟨rfl, HB.out⟩
end Go.Proofs.YtacjjkbkhpdhnaaGreatDoor
/- ref21.Free, where the expression is valid -/
namespace Go.Proofs.YtacjjkbkhpdhnaaGreatDoor
open Go.RowKit Go.Proofs Go.Shelf

theorem v3_of_err {n m : ByteArray} {i d : Int} {len : Nat} (h : nodeE 3 n m i d len = 0) : len = 0 := by
  have : nodeE 3 n m i d len = if argB 1 0 0 n m i d len then 1 else if namesE 3 n m 1 = 0 then numE 3 i d else namesE 3 n m 1 := rfl
  rw [this] at h
  cases ha : argB 1 0 0 n m i d len
  · unfold argB at ha; simp at ha; omega
  · rw [ha] at h; simp at h
theorem Fo.v3_of_errs : ∀ (f : Fo) (dp : Nat), (∀ x ∈ f.pre dp, x.err = 0) → f.V3
  | .nil, _, _ => trivial
  | .cons k n m i d A c s r, dp, h => by
    simp only [Fo.pre, List.mem_cons, List.mem_append] at h
    have h0 := h ⟨dp, k, n, m, i, d, A, s.len, c⟩ (.inl rfl)
    exact ⟨fun e => by subst e; exact v3_of_err h0, s.v3_of_errs (dp + 1) (fun x hx => h x (.inr (.inl hx))), r.v3_of_errs dp (fun x hx => h x (.inr (.inr hx)))⟩
theorem ownS_new (W : World) : OwnS (W.alloc (.cells #[] 9)) W.heap.size 0 [] := by
  have h := World.ownsRow_lit (base := 0) (e := 9) (size := 1) W #[] 0 (Nat.zero_le _) (by simp) rfl
  exact h

set_option maxRecDepth 100000 in
set_option maxHeartbeats 2000000 in
theorem free21_top (k : Int) (n m : ByteArray) (i d : Int) (A : Option Addr) (c : Nat) (s : Fo) (w : World) (hs : s.Sl w w.heap.size A c) (hn : n.size ≤ 1000) (hm : m.size ≤ 1000) (hst : s.Short) (he : exprE (⟨1, k, n, m, i, d, A, s.len, c⟩ :: s.pre 2) = 0) :
    Calls Tryz.prog 104 #[.agg #[.int .i64 k, .string n, .string m, .int .i64 i, .int .i64 d, .slice A s.len c]] w (FreeP (nodeFree k n m s []) w) := by
  obtain ⟨hc1, _, herr⟩ := exprE_zero he
  rw [List.length_cons, s.pre_length] at hc1
  have hk3 : k = 3 → s.len = 0 := fun e => by subst e; exact v3_of_err (herr _ (List.mem_cons_self ..))
  have hv3 := s.v3_of_errs 2 fun y hy => herr y (List.mem_cons_of_mem _ hy)
  obtain ⟨W0, hW0⟩ : ∃ W0, w.alloc (.cells #[.int .i64 k, .string n, .string m, .int .i64 i, .int .i64 d, .slice A s.len c] 28) = W0 := ⟨_, rfl⟩
  have hzw : w.heap.size < W0.heap.size := by subst hW0; simp
  have hB0 : Below w.heap.size w W0 := by subst hW0; exact (Below.refl _ _).alloc (Nat.le_refl _) _
  have hx0 : W0.heap[w.heap.size]? = some (.cells #[.int .i64 k, .string n, .string m, .int .i64 i, .int .i64 d, .slice A s.len c] 28 (0, 0)) := by rw [← hW0]; exact heap_alloc_new w _
  have HC : Hid (∀ X, Below W0.heap.size W0 X → Below w.heap.size w X ∧ s.Sl X X.heap.size A c ∧ X.cell? ⟨w.heap.size, 0, none⟩ = some (.int .i64 k) ∧ X.cell? ⟨w.heap.size, 1, none⟩ = some (.string n) ∧ X.cell? ⟨w.heap.size, 2, none⟩ = some (.string m) ∧ X.cell? ⟨w.heap.size, 3, none⟩ = some (.int .i64 i) ∧ X.cell? ⟨w.heap.size, 4, none⟩ = some (.int .i64 d) ∧ X.cell? ⟨w.heap.size, 5, none⟩ = some (.slice A s.len c)) := fun X hX => by
    have h0 := (hX.block w.heap.size hzw).trans hx0
    have hb := hB0.trans (hX.mono (Nat.le_of_lt hzw))
    exact ⟨hb, hs.keep hb.size fun p hp => hb.cell hp, cell_of_row X _ 0 _ _ (0, 0) h0, cell_of_row X _ 1 _ _ (0, 0) h0, cell_of_row X _ 2 _ _ (0, 0) h0, cell_of_row X _ 3 _ _ (0, 0) h0, cell_of_row X _ 4 _ _ (0, 0) h0, cell_of_row X _ 5 _ _ (0, 0) h0⟩
  obtain ⟨_, hs0, x0, x1, x2, x3, x4, x5⟩ := HC.out W0 (Below.refl _ _)
  have hce := checkExpr21_any k n m i d A c s W0 hs0 hn hm hst (by omega)
  rw [he] at hce
  have HCE := Lib.hid hce
  obtain ⟨FB, HFB⟩ : ∃ FB, Hid (nodeFree k n m s [] = FB) := ⟨_, Lib.hid rfl⟩
  rw [HFB.out]
  have HV := Lib.hid (And.intro hk3 (And.intro hv3 hc1))
  clear hs hs0 hB0 hx0 hst hce he herr hk3 hv3 hc1
  go_enter Tryz.func104, Tryz.ntmps104
  go_wp2_with fail
  refine HCE.out.mono ?_
  rintro e w1 ⟨rfl, hb1⟩
  have HB1 := Lib.hid hb1
  clear hb1 x0 x1 x2 x3 x4 x5 hW0 HCE
  have hz1 : w.heap.size < w1.heap.size := Nat.lt_of_lt_of_le hzw HB1.out.size
  obtain ⟨W2, hW2⟩ : ∃ W2, w1.alloc (.cells #[] 9) = W2 := ⟨_, rfl⟩
  have hb2 : Below W0.heap.size W0 W2 := by rw [← hW2]; exact HB1.out.alloc HB1.out.size _
  obtain ⟨_, hs2, y0, y1, y2, y3, y4, y5⟩ := HC.out W2 hb2
  obtain ⟨_, _, x0, x1, x2, x3, x4, x5⟩ := HC.out w1 HB1.out
  have hfr := fr_any s k n m i d A c [] none 0 [] w1.heap.size 0 W2 hs2 HV.out.1 HV.out.2.1 (VarsAt.nil _) (by rw [← hW2]; exact ownS_new w1) (by have := HV.out.2.2; simp; omega) (by have := HV.out.2.2; simp; omega)
  rw [HFB.out] at hfr
  have HFR := Lib.hid hfr
  have HB2 := Lib.hid hb2
  clear hfr hs2 hb2
  go_wp2_with fail
  refine HFR.out.mono ?_
  rintro e w3 ⟨g, c3, LL, rfl, ho, hiff, hle, hb3⟩
  have HR := Lib.hid (show FreeP FB w (.returned (.slice (some ⟨g, 0, none⟩) LL.length c3)) w3 from ⟨_, _, _, rfl, by rw [List.length_eq_zero_iff, hiff]; simp, by have := HV.out.2.2; simp only [List.length_nil] at hle; omega, (HC.out w3 (HB2.out.trans (hb3.mono HB2.out.size))).1⟩)
  clear ho hiff hle hb3
  go_wp2
  go_ret
  exact HR.out
end Go.Proofs.YtacjjkbkhpdhnaaGreatDoor
/- ref21.CheckDecl -/
namespace Go.Proofs.YtacjjkbkhpdhnaaGreatDoor
open Go.RowKit Go.Proofs Go.Shelf
def Dc.Sht (x : Dc) : Prop := (x.n.size ≤ 1000 ∧ x.m.size ≤ 1000) ∧ x.s.Short ∧ x.s.count ≤ 1000000 ∧ ∀ s ∈ x.names, s.size ≤ 1000
def cdE (x : Dc) : Int := if x.id < 0 ∨ 999999 < x.id then 2 else if x.kind < 1 ∨ 3 < x.kind then 9 else if dnE x.names ≠ 0 then dnE x.names else exprE x.pre
set_option maxRecDepth 100000 in
set_option maxHeartbeats 4000000 in
theorem checkDecl21_any (x : Dc) (w : World) (hx : x.Ok w w.heap.size) (hsh : x.Sht) :
    Calls Tryz.prog 91 #[.agg x.cells] w fun e w' => e = .returned (.int .i64 (cdE x)) ∧ Below w.heap.size w w' := by
  obtain ⟨E, HE⟩ : ∃ E, Hid (cdE x = E) := ⟨_, Lib.hid rfl⟩
  rw [HE.out]
  obtain ⟨id, kind, pub, nA, nc, names, doubt, k, n, m, i, d, A, c, s⟩ := x
  simp only [Dc.cells]
  obtain ⟨W0, hW0⟩ : ∃ W0, w.alloc (.cells #[.int .i64 id, .int .i64 kind, .bool pub, .slice nA names.length nc, .bool doubt, .int .i64 k, .string n, .string m, .int .i64 i, .int .i64 d, .slice A s.len c] 63) = W0 := ⟨_, rfl⟩
  have hzw : w.heap.size < W0.heap.size := by subst hW0; simp
  have hB0 : Below w.heap.size w W0 := by subst hW0; exact (Below.refl _ _).alloc (Nat.le_refl _) _
  have hx0 : W0.heap[w.heap.size]? = some (.cells #[.int .i64 id, .int .i64 kind, .bool pub, .slice nA names.length nc, .bool doubt, .int .i64 k, .string n, .string m, .int .i64 i, .int .i64 d, .slice A s.len c] 63 (0, 0)) := by rw [← hW0]; exact heap_alloc_new w _
  obtain ⟨NN, HNN⟩ : ∃ NN, Hid (names.length = NN) := ⟨_, Lib.hid rfl⟩
  have HC : Hid (∀ X, Below W0.heap.size W0 X → Below w.heap.size w X ∧ s.Sl X X.heap.size A c ∧ SlS X X.heap.size nA nc names ∧ X.cell? ⟨w.heap.size, 0, none⟩ = some (.int .i64 id) ∧ X.cell? ⟨w.heap.size, 1, none⟩ = some (.int .i64 kind) ∧ X.cell? ⟨w.heap.size, 3, none⟩ = some (.slice nA NN nc) ∧ X.cell? ⟨w.heap.size, 5, none⟩ = some (.int .i64 k) ∧ X.cell? ⟨w.heap.size, 6, none⟩ = some (.string n) ∧ X.cell? ⟨w.heap.size, 7, none⟩ = some (.string m) ∧ X.cell? ⟨w.heap.size, 8, none⟩ = some (.int .i64 i) ∧ X.cell? ⟨w.heap.size, 9, none⟩ = some (.int .i64 d) ∧ X.cell? ⟨w.heap.size, 10, none⟩ = some (.slice A s.len c)) := fun X hX => by
    have h0 := (hX.block w.heap.size hzw).trans hx0
    rw [HNN.out] at h0
    have hb := hB0.trans (hX.mono (Nat.le_of_lt hzw))
    exact ⟨hb, hx.2.keep hb.size fun p hp => hb.cell hp, hx.1.keep hb.size fun p hp => hb.cell hp, cell_of_row X _ 0 _ _ (0, 0) h0, cell_of_row X _ 1 _ _ (0, 0) h0, cell_of_row X _ 3 _ _ (0, 0) h0, cell_of_row X _ 5 _ _ (0, 0) h0, cell_of_row X _ 6 _ _ (0, 0) h0, cell_of_row X _ 7 _ _ (0, 0) h0, cell_of_row X _ 8 _ _ (0, 0) h0, cell_of_row X _ 9 _ _ (0, 0) h0, cell_of_row X _ 10 _ _ (0, 0) h0⟩
  have hnl := hx.1.1
  have hnl2 := hx.1.2.1
  unfold maxLen at hnl2
  simp only at hnl
  rw [HNN.out] at hnl hW0 ⊢
  have HD : Hid (E = if id < 0 ∨ 999999 < id then 2 else if kind < 1 ∨ 3 < kind then 9 else if dnE names ≠ 0 then dnE names else exprE (⟨1, k, n, m, i, d, A, s.len, c⟩ :: s.pre 2)) := HE.out.symm
  obtain ⟨_, _, _, x0, x1, x3, _⟩ := HC.out W0 (Below.refl _ _)
  have HB0 := Lib.hid hB0
  have HSh := Lib.hid hsh
  clear HE hB0 hx0 hx hsh
  by_cases c1 : id < 0
  · obtain rfl : E = 2 := HD.out.trans (if_pos (.inl c1))
    go_enter Tryz.func91, Tryz.ntmps91
    go_wp2
    go_ret
    exact ⟨rfl, HB0.out⟩
  have c1' : decide (id < 0) = false := by simpa using c1
  by_cases c2 : 999999 < id
  · obtain rfl : E = 2 := HD.out.trans (if_pos (.inr c2))
    clear c1
    go_enter Tryz.func91, Tryz.ntmps91
    go_wp2
    go_ret
    exact ⟨rfl, HB0.out⟩
  have c2' : decide (999999 < id) = false := by simpa using c2
  have HD2 := Lib.hid (HD.out.trans (if_neg (by omega)))
  clear HD c1 c2
  by_cases k1 : kind < 1
  · obtain rfl : E = 9 := HD2.out.trans (if_pos (.inl k1))
    go_enter Tryz.func91, Tryz.ntmps91
    go_wp2
    go_ret
    exact ⟨rfl, HB0.out⟩
  have k1' : decide (kind < 1) = false := by simpa using k1
  by_cases k2 : 3 < kind
  · obtain rfl : E = 9 := HD2.out.trans (if_pos (.inr k2))
    clear k1
    go_enter Tryz.func91, Tryz.ntmps91
    go_wp2
    go_ret
    exact ⟨rfl, HB0.out⟩
  have k2' : decide (3 < kind) = false := by simpa using k2
  have HD3 := Lib.hid (HD2.out.trans (if_neg (by omega)))
  clear HD2 k1 k2
  by_cases h13 : NN = 1 ∨ NN = 3
  rotate_left
  · obtain rfl : E = 1 := by
      have e1 : dnE names = 1 := by unfold dnE; rw [HNN.out, if_pos (by omega)]
      rw [HD3.out, e1]; rfl
    have n1 : ((NN : Int) != 1) = true := by simp; omega
    have n3 : ((NN : Int) != 3) = true := by simp; omega
    clear h13
    go_enter Tryz.func91, Tryz.ntmps91
    go_wp2
    go_ret
    exact ⟨rfl, HB0.out⟩
  have HDN := Lib.hid (show dnE names = if names.all (dnB NN) = true then 0 else 6 by unfold dnE; rw [HNN.out, if_neg (by omega)])
  have hN3 : NN ≤ 3 := by omega
  obtain ⟨bq, Hbq⟩ : ∃ bq, Hid ((NN == 1) = bq) := ⟨_, Lib.hid rfl⟩
  have q1 : ((NN : Int) == 1) = bq := by rw [← Hbq.out]; rcases h13 with h | h <;> subst h <;> rfl
  have q2 : ((NN : Int) != 1) = !bq := by rw [← Hbq.out]; rcases h13 with h | h <;> subst h <;> rfl
  have q3 : ((NN : Int) != 3) = bq := by rw [← Hbq.out]; rcases h13 with h | h <;> subst h <;> rfl
  clear h13
  cases bq
  all_goals (
    go_enter Tryz.func91, Tryz.ntmps91
    go_wp2_with fail
    clear x0 x1 hW0
    go_loopg [3] NN (fun g ct wr => ∃ j : Nat, g = NN - j ∧ j ≤ NN ∧ ct = .int .i64 j ∧ (names.take j).all (dnB NN) = true ∧ Below W0.heap.size W0 wr)
    case atStart => exact ⟨0, rfl, by omega, rfl, by simp, Below.refl _ _⟩
    case round =>
      obtain ⟨j, HG, hj, rfl, HA, HB⟩ := hrel
      have HG' := Lib.hid (And.intro HG (And.intro HA HB))
      clear HG HA HB
      obtain ⟨hBw, hsl, hsn, _, _, y3, y5, y6, y7, y8, y9, y10⟩ := HC.out wr HG'.out.2.2
      have HBw := Lib.hid (And.intro hBw hsl)
      clear hBw hsl x3
      by_cases hlt : j < NN
      · have hjl : j < names.length := by rw [HNN.out]; exact hlt
        obtain ⟨b, o, rfl, hb, hcell⟩ := hsn.at_ hjl
        have hj2 := Lib.hid (And.intro (List.getElem?_eq_getElem hjl) (List.getElem_mem hjl))
        have hstep : (names.take (j + 1)).all (dnB NN) = dnB NN names[j] := by
          rw [List.take_succ_eq_append_getElem hjl, List.all_append, HG'.out.2.1]
          simp
        have hno : dnB NN names[j] = false → names.all (dnB NN) = false := by
          intro h
          rw [List.all_eq_false]
          exact ⟨names[j], List.getElem_mem hjl, by rw [h]; simp⟩
        have hsz := HSh.out.2.2.2 _ (List.getElem_mem hjl)
        have HS := Lib.hid (And.intro hstep hno)
        clear hstep hno hj2 hsn
        generalize names[j] = v at hcell HS hsz
        clear hjl
        have HNm := Lib.hid (name21_any v wr (by omega))
        have HDv := Lib.hid (show dnB NN v = (nameB v || (!(NN == 1) && v.toList.isEmpty)) from rfl)
        rw [Hbq.out] at HDv
        cases hv : nameB v <;> cases hem : v.toList.isEmpty
        all_goals (
          rw [hv, hem] at HDv
          rw [hv] at HNm
          have hem2 : (v.toList == []) = v.toList.isEmpty := by cases v.toList <;> rfl
          rw [hem] at hem2
          go_wp2_with fail
          refine HNm.out.mono ?_
          rintro e w3 ⟨rfl, hb3⟩
          have HB3 := Lib.hid (HG'.out.2.2.trans (hb3.mono HG'.out.2.2.size))
          have z3 := (hb3.cell (p := ⟨w.heap.size, 3, none⟩) (Nat.lt_of_lt_of_le hzw HG'.out.2.2.size)).trans y3
          have zc := (hb3.cell (p := ⟨b, o + j, none⟩) hb).trans hcell
          clear hb3
          go_wp2
          first
            | (go_roundg (NN - (j + 1))
               case measure => rw [HG'.out.1]; omega
               case rel => exact ⟨j + 1, rfl, by omega, by go_num, by rw [HS.out.1, HDv.out]; rfl, HB3.out⟩)
            | (go_ret
               exact ⟨by rw [HD3.out, HDN.out, HS.out.2 (by rw [HDv.out]; rfl)]; rfl, (HC.out _ HB3.out).1⟩))
      · obtain rfl : j = NN := by omega
        have HE2 := Lib.hid (show E = exprE (⟨1, k, n, m, i, d, A, s.len, c⟩ :: s.pre 2) by
          have h1 := HG'.out.2.1
          rw [List.take_of_length_le (by rw [HNN.out]; omega)] at h1
          rw [HD3.out, HDN.out, h1]; rfl)
        have hce := checkExpr21_any k n m i d A c s wr HBw.out.2 HSh.out.1.1 HSh.out.1.2 HSh.out.2.1 HSh.out.2.2.1
        rw [← HE2.out] at hce
        have HCE := Lib.hid hce
        clear hce hsn
        go_wp2_with fail
        refine HCE.out.mono ?_
        rintro e w3 ⟨rfl, hb3⟩
        have HB3 := Lib.hid (HC.out w3 (HG'.out.2.2.trans (hb3.mono HG'.out.2.2.size))).1
        clear hb3
        go_wp2
        go_ret
        exact ⟨rfl, HB3.out⟩)
end Go.Proofs.YtacjjkbkhpdhnaaGreatDoor
/- ref24.decl -/
namespace Go.Proofs.YtacjjkbkhpdhnaaGreatDoor
open Go.RowKit Go.Proofs Go.Shelf

theorem body_has (p : Int → ByteArray → Bool) (x : Dc) : x.body.vis.any (fun y => p y.k y.n) = (p x.k x.n || x.s.has p) := by
  rw [Fo.vis_has]
  simp [Dc.body, Fo.has]

set_option maxRecDepth 100000 in
set_option maxHeartbeats 4000000 in
theorem decl24_any (label : ByteArray) (x : Dc) (w : World) (hx : x.Ok w w.heap.size) (hsh : x.Sht) :
    Calls Tryz.prog 52 #[.string label, .agg x.cells] w fun e w' => e = .returned (.int .i64 (declE label x)) ∧ Below w.heap.size w w' := by
  obtain ⟨E, HE⟩ : ∃ E, Hid (declE label x = E) := ⟨_, Lib.hid rfl⟩
  rw [HE.out]
  have HD : Hid (E = if x.id < 1 ∨ 999999 < x.id then 2 else if x.kind ≠ 1 ∧ x.kind ≠ 2 ∧ x.kind ≠ 3 then 9 else if dnE x.names ≠ 0 then dnE x.names else if exprE x.pre ≠ 0 then exprE x.pre else
      if (kdP 4 x.k x.n || x.s.has (kdP 4)) = true then 9 else if nodeFree x.k x.n x.m x.s [] = true then 21 else if (rtP label x.k x.n || x.s.has (rtP label)) = true then 1 else 0) := by
    have h4 := body_has (kdP 4) x
    have h5 := body_has (rtP label) x
    show E = _
    rw [← HE.out, declE]
    unfold isRefTo
    rw [← h4, ← h5]
    rfl
  have HCD := Lib.hid (show 1 ≤ x.id → (cdE x ≠ 0 → E = cdE x) ∧ (cdE x = 0 → exprE x.pre = 0 ∧ E = if (kdP 4 x.k x.n || x.s.has (kdP 4)) = true then 9 else if nodeFree x.k x.n x.m x.s [] = true then 21 else if (rtP label x.k x.n || x.s.has (rtP label)) = true then 1 else 0) by
    intro hid
    have hD := HD.out
    unfold cdE
    by_cases c2 : 999999 < x.id
    · rw [if_pos (.inr c2)] at hD
      rw [if_pos (.inr c2)]
      exact ⟨fun _ => hD, fun h => by omega⟩
    rw [if_neg (by omega)] at hD
    rw [if_neg (by omega)]
    by_cases k1 : x.kind < 1 ∨ 3 < x.kind
    · rw [if_pos (by omega)] at hD
      rw [if_pos k1]
      exact ⟨fun _ => hD, fun h => by omega⟩
    rw [if_neg (by omega)] at hD
    rw [if_neg k1]
    by_cases d1 : dnE x.names = 0
    · rw [if_neg (by omega)] at hD
      rw [if_neg (by omega)]
      by_cases e1 : exprE x.pre = 0
      · rw [if_neg (by omega)] at hD
        exact ⟨fun h => absurd e1 h, fun _ => ⟨e1, hD⟩⟩
      · rw [if_pos e1] at hD
        exact ⟨fun _ => hD, fun h => absurd h e1⟩
    · rw [if_pos d1] at hD
      rw [if_pos d1]
      exact ⟨fun _ => hD, fun h => absurd h d1⟩)
  have HID := Lib.hid (show x.id < 1 → E = 2 from fun h => HD.out.trans (if_pos (.inl h)))
  clear HD HE
  have HCk := Lib.hid (fun X h => checkDecl21_any x X h hsh)
  have HX := Lib.hid (And.intro hx hsh)
  clear hx hsh
  obtain ⟨id, kind, pub, nA, nc, names, doubt, k, n, m, i, d, A, c, s⟩ := x
  simp only [Dc.cells] at HCk ⊢
  simp only at HCD HID
  obtain ⟨W0, hW0⟩ : ∃ W0, w.alloc (.cells #[.int .i64 id, .int .i64 kind, .bool pub, .slice nA names.length nc, .bool doubt, .int .i64 k, .string n, .string m, .int .i64 i, .int .i64 d, .slice A s.len c] 63) = W0 := ⟨_, rfl⟩
  have hzw : w.heap.size < W0.heap.size := by subst hW0; simp
  have hB0 : Below w.heap.size w W0 := by subst hW0; exact (Below.refl _ _).alloc (Nat.le_refl _) _
  have hx0 : W0.heap[w.heap.size]? = some (.cells #[.int .i64 id, .int .i64 kind, .bool pub, .slice nA names.length nc, .bool doubt, .int .i64 k, .string n, .string m, .int .i64 i, .int .i64 d, .slice A s.len c] 63 (0, 0)) := by rw [← hW0]; exact heap_alloc_new w _
  have HC : Hid (∀ X, Below W0.heap.size W0 X → Below w.heap.size w X ∧ s.Sl X X.heap.size A c ∧ X.cell? ⟨w.heap.size, 5, none⟩ = some (.int .i64 k) ∧ X.cell? ⟨w.heap.size, 6, none⟩ = some (.string n) ∧ X.cell? ⟨w.heap.size, 7, none⟩ = some (.string m) ∧ X.cell? ⟨w.heap.size, 8, none⟩ = some (.int .i64 i) ∧ X.cell? ⟨w.heap.size, 9, none⟩ = some (.int .i64 d) ∧ X.cell? ⟨w.heap.size, 10, none⟩ = some (.slice A s.len c)) := fun X hX => by
    have h0 := (hX.block w.heap.size hzw).trans hx0
    have hb := hB0.trans (hX.mono (Nat.le_of_lt hzw))
    exact ⟨hb, HX.out.1.2.keep hb.size fun p hp => hb.cell hp, cell_of_row X _ 5 _ _ (0, 0) h0, cell_of_row X _ 6 _ _ (0, 0) h0, cell_of_row X _ 7 _ _ (0, 0) h0, cell_of_row X _ 8 _ _ (0, 0) h0, cell_of_row X _ 9 _ _ (0, 0) h0, cell_of_row X _ 10 _ _ (0, 0) h0⟩
  have x0 := cell_of_row W0 w.heap.size 0 _ _ (0, 0) hx0
  have x1 := cell_of_row W0 w.heap.size 1 _ _ (0, 0) hx0
  have x2 := cell_of_row W0 w.heap.size 2 _ _ (0, 0) hx0
  have x3 := cell_of_row W0 w.heap.size 3 _ _ (0, 0) hx0
  have x4 := cell_of_row W0 w.heap.size 4 _ _ (0, 0) hx0
  simp at x0 x1 x2 x3 x4
  obtain ⟨_, _, x5, x6, x7, x8, x9, x10⟩ := HC.out W0 (Below.refl _ _)
  have HB0 := Lib.hid hB0
  have HCD0 := Lib.hid (HCk.out W0 ⟨HX.out.1.1.keep (Nat.le_of_lt hzw) fun p hp => hB0.cell hp, HX.out.1.2.keep (Nat.le_of_lt hzw) fun p hp => hB0.cell hp⟩)
  clear hx0 hB0 HCk
  by_cases c1 : id < 1
  · obtain rfl : E = 2 := HID.out c1
    go_enter Tryz.func52, Tryz.ntmps52
    go_wp2
    go_ret
    exact ⟨rfl, HB0.out⟩
  have c1' : decide (id < 1) = false := by simpa using c1
  have HCD1 := Lib.hid (HCD.out (by omega))
  clear HCD HID c1
  obtain ⟨E1, HE1⟩ : ∃ E1, Hid (cdE ⟨id, kind, pub, nA, nc, names, doubt, k, n, m, i, d, A, c, s⟩ = E1) := ⟨_, Lib.hid rfl⟩
  rw [HE1.out] at HCD0 HCD1
  clear HE1
  go_enter Tryz.func52, Tryz.ntmps52
  go_wp2_with fail
  refine HCD0.out.mono ?_
  rintro e w1 ⟨rfl, hb1⟩
  have HB1 := Lib.hid hb1
  clear hb1 x0 x1 x2 x3 x4 x5 x6 x7 x8 x9 x10 hW0 HCD0
  obtain ⟨hBw1, hs1, x5, x6, x7, x8, x9, x10⟩ := HC.out w1 HB1.out
  have HBw1 := Lib.hid hBw1
  clear hBw1
  by_cases e1 : E1 = 0
  rotate_left
  · have e1' : (E1 != 0) = true := by simpa using e1
    have HR := Lib.hid (HCD1.out.1 e1)
    clear e1 hs1
    go_wp2
    go_ret
    exact ⟨by rw [HR.out]; rfl, HBw1.out⟩
  subst e1
  have HV := Lib.hid (HCD1.out.2 rfl)
  clear HCD1
  obtain ⟨b4, Hb4⟩ : ∃ q, Hid ((kdP 4 k n || s.has (kdP 4)) = q) := ⟨_, Lib.hid rfl⟩
  obtain ⟨fb, Hfb⟩ : ∃ q, Hid (nodeFree k n m s [] = q) := ⟨_, Lib.hid rfl⟩
  obtain ⟨br, Hbr⟩ : ∃ q, Hid ((rtP label k n || s.has (rtP label)) = q) := ⟨_, Lib.hid rfl⟩
  have HV2 := Lib.hid HV.out.2
  rw [Hb4.out, Hfb.out, Hbr.out] at HV2
  have HK := Lib.hid (kd_any 4 s k n m i d A c w1 hs1)
  rw [Hb4.out] at HK
  clear hs1
  go_wp2_with fail
  refine HK.out.mono ?_
  rintro e w2 ⟨rfl, hb2⟩
  have HB2 := Lib.hid (HB1.out.trans (hb2.mono HB1.out.size))
  clear hb2 x5 x6 x7 x8 x9 x10 HK
  obtain ⟨hBw2, hs2, x5, x6, x7, x8, x9, x10⟩ := HC.out w2 HB2.out
  have HBw2 := Lib.hid hBw2
  clear hBw2
  cases b4 with
  | true =>
    obtain rfl : E = 9 := HV2.out
    clear hs2
    go_wp2
    go_ret
    exact ⟨rfl, HBw2.out⟩
  | false =>
  have HV3 := Lib.hid (show E = if fb = true then 21 else if br = true then 1 else 0 from HV2.out)
  have HF := Lib.hid (free21_top k n m i d A c s w2 hs2 HX.out.2.1.1 HX.out.2.1.2 HX.out.2.2.1 HV.out.1)
  rw [Hfb.out] at HF
  clear hs2 HV2
  go_wp2_with fail
  refine HF.out.mono ?_
  rintro e w3 ⟨fA, fn, fc, rfl, hfn, hfl, hb3⟩
  have HB3 := Lib.hid (HB2.out.trans (hb3.mono HB2.out.size))
  clear hb3 x5 x6 x7 x8 x9 x10 HF
  obtain ⟨hBw3, hs3, x5, x6, x7, x8, x9, x10⟩ := HC.out w3 HB3.out
  have HBw3 := Lib.hid hBw3
  clear hBw3
  cases fb with
  | true =>
    obtain rfl : E = 21 := HV3.out
    have hfp : 0 < fn := by
      rcases Nat.eq_zero_or_pos fn with h | h
      · exact absurd (hfn.1 h) (by simp)
      · exact h
    have hfp' : decide (0 < (fn : Int)) = true := by simp; omega
    clear hs3 hfn
    go_wp2
    go_ret
    exact ⟨rfl, HBw3.out⟩
  | false =>
  obtain rfl : fn = 0 := hfn.2 rfl
  have HV4 := Lib.hid (show E = if br = true then 1 else 0 from HV3.out)
  have HR := Lib.hid (rt_any label s k n m i d A c w3 hs3)
  rw [Hbr.out] at HR
  clear hs3 HV3 hfn hfl
  go_wp2_with fail
  refine HR.out.mono ?_
  rintro e w4 ⟨rfl, hb4⟩
  have HBw4 := Lib.hid (HC.out w4 (HB3.out.trans (hb4.mono HB3.out.size))).1
  clear hb4
  cases br with
  | true =>
    obtain rfl : E = 1 := HV4.out
    go_wp2
    go_ret
    exact ⟨rfl, HBw4.out⟩
  | false =>
    obtain rfl : E = 0 := HV4.out
    go_wp2
    go_ret
    exact ⟨rfl, HBw4.out⟩
end Go.Proofs.YtacjjkbkhpdhnaaGreatDoor
/- ref21.CheckUses, ref24.Alias, uses -/
namespace Go.Proofs.YtacjjkbkhpdhnaaGreatDoor
open Go.RowKit Go.Proofs Go.Shelf

theorem below_drewN' {B : Nat} {w w' : World} (h : Below B w w') (n : Nat) : Below B w (w'.drewN n) := ⟨h.os, h.tape, h.output, h.size, h.block⟩

set_option maxRecDepth 100000 in
set_option maxHeartbeats 2000000 in
theorem checkUses21_any (l : List ByteArray) (A : Option Addr) (c : Nat) (w : World) (hs : SlS w w.heap.size A c l) (hz : ∀ s ∈ l, s.size ≤ 1000) :
    Calls Tryz.prog 50 #[.slice A l.length c] w fun e w' => e = .returned (.int .i64 (srcE l)) ∧ Below w.heap.size w w' := by
  have hc1 := hs.1
  have hc2 := hs.2.1
  unfold maxLen at hc2
  have HS := Lib.hid (And.intro hs hz)
  clear hs hz
  obtain ⟨E, HE⟩ : ∃ E, Hid (E = srcE l) := ⟨_, Lib.hid rfl⟩
  rw [← HE.out]
  obtain ⟨n, HN⟩ : ∃ n, Hid (l.length = n) := ⟨_, Lib.hid rfl⟩
  rw [HN.out] at hc1 ⊢
  by_cases h1 : 20 < n
  · have HR := Lib.hid (HE.out.trans (show srcE l = 4 by unfold srcE; rw [HN.out, if_pos h1]))
    have h1' : decide (20 < (n : Int)) = true := by simp; omega
    go_enter Tryz.func50, Tryz.ntmps50
    go_wp2
    go_ret
    exact ⟨by rw [HR.out]; rfl, Below.refl _ _⟩
  · have HE1 := Lib.hid (HE.out.trans (show srcE l = usesE none l by unfold srcE; rw [HN.out, if_neg h1]))
    have h1' : decide (20 < (n : Int)) = false := by simp; omega
    clear HE
    go_enter Tryz.func50, Tryz.ntmps50
    go_wp2_with fail
    go_loopg [3] n (fun g ct wr => ∃ j : Nat, g = n - j ∧ j ≤ n ∧ ct = .int .i64 j ∧ E = usesE (prevO l j) (l.drop j) ∧ Below w.heap.size w wr)
    case atStart => exact ⟨0, rfl, by omega, rfl, by rw [HE1.out]; rfl, Below.refl _ _⟩
    case round =>
      obtain ⟨j, HG, hj, rfl, HA, HB⟩ := hrel
      have HG' := Lib.hid (And.intro HG HB)
      have HA' := Lib.hid HA
      clear HG HA HB
      by_cases hlt : j < n
      · have hjl : j < l.length := by rw [HN.out]; exact hlt
        obtain ⟨b, o, rfl, hb, hcell⟩ := HS.out.1.2.2 (by intro e; subst e; simp at hjl)
        have hj2 : l[j]? = some l[j] := List.getElem?_eq_getElem hjl
        have hcj : wr.cell? ⟨b, o + j, none⟩ = some (.string l[j]) := (HG'.out.2.cell (p := ⟨b, o + j, none⟩) hb).trans (hcell j _ hj2)
        have hdrop : l.drop j = l[j] :: l.drop (j + 1) := List.drop_eq_getElem_cons hjl
        have hprev : prevO l (j + 1) = some l[j] := hj2
        rw [hdrop] at HA'
        have HP := Lib.hid hprev
        have HC := Lib.hid hcell
        have hsz := HS.out.2 _ (List.getElem_mem hjl)
        clear hprev hdrop hj2 hcell
        generalize l[j] = u at hcj HP HA' hsz
        clear hjl
        have HL := Lib.hid (Label20_any u wr (by omega))
        cases hu : labelB u with
        | false =>
          have HR := Lib.hid (show E = 6 by rw [HA'.out]; cases prevO l j <;> simp [usesE, hu])
          rw [hu] at HL
          go_wp2_with fail
          refine HL.out.mono ?_
          rintro e w3 ⟨rfl, rfl⟩
          go_wp2
          go_ret
          exact ⟨by rw [HR.out]; rfl, HG'.out.2⟩
        | true =>
          rw [hu] at HL
          cases j with
          | zero =>
            rw [Nat.add_zero] at hcj
            have HR := Lib.hid (HA'.out.trans (show usesE (prevO l 0) (u :: l.drop (0 + 1)) = usesE (some u) (l.drop (0 + 1)) by simp [prevO, usesE, hu]))
            have i0 : (0 : Int) < (n : Int) := by omega
            go_wp2_with fail
            refine HL.out.mono ?_
            rintro e w3 ⟨rfl, rfl⟩
            go_wp2_with fail
            go_quiet (fail)
            go_wp2
            go_roundg (n - (0 + 1))
            case measure => rw [HG'.out.1]; omega
            case rel => exact ⟨0 + 1, rfl, by omega, by go_num, by rw [HR.out, HP.out], below_drewN' HG'.out.2 _⟩
          | succ j =>
            have hkl : j < l.length := by rw [HN.out]; omega
            have hk2 : l[j]? = some l[j] := List.getElem?_eq_getElem hkl
            have hck : wr.cell? ⟨b, o + j, none⟩ = some (.string l[j]) := (HG'.out.2.cell (p := ⟨b, o + j, none⟩) hb).trans (HC.out j _ hk2)
            have HQ := Lib.hid (show prevO l (j + 1) = some l[j] from hk2)
            have hp1 : (0 : Int) < (j : Int) + 1 := by omega
            have hw1 : IntKind.i64.wrap ((j : Int) + 1 - 1) = j := by rw [show ((j : Int) + 1 - 1) = j by omega]; exact IntWalk.i64_in _ (by omega)
            have hj0 : (0 : Int) ≤ (j : Int) := by omega
            have hj1 : (j : Int) < (n : Int) := by omega
            have hj2 : (0 : Int) ≤ (j : Int) + 1 := by omega
            have hj3 : (j : Int) + 1 < (n : Int) := by omega
            clear hk2
            generalize l[j] = q at hck HQ
            clear hkl
            rw [HQ.out] at HA'
            cases hq : Op.bytesLess q.toList u.toList
            · have HR := Lib.hid (HA'.out.trans (show usesE (some q) (u :: l.drop (j + 1 + 1)) = 10 by simp [usesE, hu, hq]))
              go_wp2_with fail
              refine HL.out.mono ?_
              rintro e w3 ⟨rfl, rfl⟩
              go_wp2_with fail
              go_quiet (fail)
              go_wp2
              go_ret
              exact ⟨by rw [HR.out]; rfl, below_drewN' HG'.out.2 _⟩
            · have HR := Lib.hid (HA'.out.trans (show usesE (some q) (u :: l.drop (j + 1 + 1)) = usesE (some u) (l.drop (j + 1 + 1)) by simp [usesE, hu, hq]))
              go_wp2_with fail
              refine HL.out.mono ?_
              rintro e w3 ⟨rfl, rfl⟩
              go_wp2_with fail
              go_quiet (fail)
              go_wp2
              go_roundg (n - (j + 1 + 1))
              case measure => rw [HG'.out.1]; omega
              case rel => exact ⟨j + 1 + 1, rfl, by omega, by go_num, by rw [HR.out, HP.out], below_drewN' HG'.out.2 _⟩
      · have HR := Lib.hid (HA'.out.trans (show usesE (prevO l j) (l.drop j) = 0 by rw [List.drop_of_length_le (by rw [HN.out]; omega)]; cases prevO l j <;> rfl))
        have hjn : n ≤ j := by omega
        go_wp2
        go_ret
        exact ⟨by rw [HR.out]; rfl, HG'.out.2⟩

set_option maxHeartbeats 1000000 in
theorem alias24_any (s : ByteArray) (w : World) (hs : s.size ≤ 9223372036854775807) : Calls Tryz.prog 15 #[.string s] w fun e w' => e = .returned (.string (aliasB s)) ∧ w = w' := by
  have HL := Lib.hid (Label20_any s w hs)
  cases hl : labelB s with
  | false =>
    have H := Lib.hid (show aliasB s = ⟨#[]⟩ by simp [aliasB, hl])
    rw [hl] at HL
    go_enter Tryz.func15, Tryz.ntmps15
    go_wp2_with fail
    refine HL.out.mono ?_
    rintro e w1 ⟨rfl, rfl⟩
    go_wp2
    go_ret
    exact ⟨by rw [H.out]; rfl, rfl⟩
  | true =>
    have hs9 : s.size ≤ 90 := by
      simp only [labelB, Bool.and_eq_true, decide_eq_true_eq] at hl
      exact hl.1
    have H := Lib.hid (show aliasB s = s.extract (lastI s.data.toList 47 s.size + 1).toNat s.size by simp [aliasB, hl])
    rw [hl] at HL
    clear hl hs
    go_enter Tryz.func15, Tryz.ntmps15
    go_wp2_with fail
    refine HL.out.mono ?_
    rintro e w1 ⟨rfl, rfl⟩
    go_wp2_with fail
    go_loop [3] (fun i => ∃ k : Nat, k ≤ s.size ∧ i = .int .i64 k ∧ lastI s.data.toList 47 s.size = lastI s.data.toList 47 k) (fun i => (intOf i).toNat)
    case atStart => exact ⟨s.size, Nat.le_refl _, rfl, rfl⟩
    case round =>
      obtain ⟨k, hk, rfl, hL⟩ := hrel
      have HLa := Lib.hid hL
      clear hL
      cases k with
      | zero =>
        have HR := Lib.hid (show aliasB s = s by rw [H.out, HLa.out]; simp [lastI])
        go_wp2
        go_ret
        exact ⟨by rw [HR.out]; rfl, rfl⟩
      | succ k =>
        have hlt : k < s.size := by omega
        have HN := Lib.hid (getElem_data s k hlt)
        have hp1 : (0 : Int) < (k : Int) + 1 := by omega
        by_cases hc : s[k] = 47
        · have HR := Lib.hid (show aliasB s = s.extract (k + 1) s.size by
            rw [H.out, HLa.out, lastI, if_pos (by rw [HN.out, hc])]
            rw [show ((k : Int) + 1).toNat = k + 1 by omega])
          have c1 : ((s[k].toNat : Int) != 47) = false := by rw [hc]; rfl
          have c3 : s[k].toNat = 47 := by rw [hc]; rfl
          clear hc
          go_wp2
          go_ret
          exact ⟨by rw [HR.out]; rfl, rfl⟩
        · have hne : s[k].toNat ≠ 47 := fun h => hc (UInt8.toNat_inj.1 h)
          have c1 : ((s[k].toNat : Int) != 47) = true := by simp; omega
          have HR := Lib.hid (show lastI s.data.toList 47 s.size = lastI s.data.toList 47 k by
            rw [HLa.out, lastI, if_neg (by rw [HN.out]; simpa using hc)])
          clear hc
          go_wp2
          go_round
          case rel => exact ⟨k, by omega, by go_num, HR.out⟩
          case measure => simp [intOf]
theorem aliasB_size (s : ByteArray) : (aliasB s).size ≤ s.size := by
  unfold aliasB
  split
  · simp
  · show 0 ≤ s.size
    omega
theorem alias24_q (s : ByteArray) (w : World) (n : Nat) (hs : s.size ≤ 9223372036854775807) : Calls Tryz.prog 15 #[.string s] (w.drewN n) fun e w' => e = .returned (.string (aliasB s)) ∧ w' = w.drewN n :=
  (alias24_any s _ hs).mono fun _ _ ⟨h1, h2⟩ => ⟨h1, h2.symm⟩

set_option maxRecDepth 100000 in
set_option maxHeartbeats 4000000 in
theorem uses24_any (label : ByteArray) (l : List ByteArray) (A : Option Addr) (c : Nat) (w : World) (hs : SlS w w.heap.size A c l) (hz : ∀ s ∈ l, s.size ≤ 1000) :
    Calls Tryz.prog 51 #[.string label, .slice A l.length c] w fun e w' => e = .returned (.int .i64 (useAll label l l.length 0)) ∧ Below w.heap.size w w' := by
  have hc1 := hs.1
  have hc2 := hs.2.1
  unfold maxLen at hc2
  have HS := Lib.hid (And.intro hs hz)
  clear hs hz
  obtain ⟨n, HN⟩ : ∃ n, Hid (l.length = n) := ⟨_, Lib.hid rfl⟩
  rw [HN.out] at hc1 ⊢
  obtain ⟨E, HE⟩ : ∃ E, Hid (useAll label l n 0 = E) := ⟨_, Lib.hid rfl⟩
  rw [HE.out]
  go_enter Tryz.func51, Tryz.ntmps51
  go_wp2_with fail
  go_loopg [5, 6] n (fun g ct _ wr => ∃ j : Nat, g = n - j ∧ j ≤ n ∧ ct = .int .i64 j ∧ useAll label l (n - j) j = E ∧ Below w.heap.size w wr)
  case atStart => exact ⟨0, rfl, by omega, rfl, HE.out, Below.refl _ _⟩
  case round =>
    obtain ⟨j, HG, hj, rfl, HA, HB⟩ := hrel
    have HG' := Lib.hid (And.intro HG (And.intro HA HB))
    clear HG HA HB
    by_cases hlt : j < n
    · have hjl : j < l.length := by rw [HN.out]; exact hlt
      obtain ⟨b, o, rfl, hb, hcell⟩ := HS.out.1.2.2 (by intro e; subst e; simp at hjl)
      have hj2 : l[j]? = some l[j] := List.getElem?_eq_getElem hjl
      have hcj : wr.cell? ⟨b, o + j, none⟩ = some (.string l[j]) := (HG'.out.2.2.cell (p := ⟨b, o + j, none⟩) hb).trans (hcell j _ hj2)
      have hd : l.getD j ⟨#[]⟩ = l[j] := by simp [List.getD, hj2]
      have HU := Lib.hid (show useE label l j = if nameB (aliasB l[j]) = false then 6 else if ((l.take j).any fun v => (aliasB v).toList == (aliasB l[j]).toList) = true then 7 else if (l[j].toList == label.toList) = true then 23 else 0 by
        unfold useE
        rw [hd])
      have HE2 := Lib.hid (show (if useE label l j = 0 then useAll label l (n - (j + 1)) (j + 1) else useE label l j) = E by
        rw [← HG'.out.2.1, show n - j = (n - (j + 1)) + 1 by omega, useAll])
      have HC := Lib.hid hcell
      have hsz := HS.out.2 _ (List.getElem_mem hjl)
      have HJ2 := Lib.hid hj2
      clear hd hj2 hcell
      generalize l[j] = u at hcj HU hsz HJ2
      clear hjl
      have HAl := Lib.hid (alias24_any u wr (by omega))
      have has := aliasB_size u
      have HNm := Lib.hid (name21_any (aliasB u) wr (by omega))
      clear has
      cases hn : nameB (aliasB u) with
      | false =>
        have HR := Lib.hid (show E = 6 by rw [← HE2.out, HU.out, if_pos hn]; rfl)
        rw [hn] at HNm
        go_wp2_with fail
        refine HAl.out.mono ?_
        rintro e w1 ⟨rfl, rfl⟩
        go_wp2_with fail
        refine HNm.out.mono ?_
        rintro e w2 ⟨rfl, hb2⟩
        have HB2 := Lib.hid (HG'.out.2.2.trans (hb2.mono HG'.out.2.2.size))
        clear hb2
        go_wp2
        go_ret
        exact ⟨by rw [HR.out]; rfl, HB2.out⟩
      | true =>
        have HU2 := Lib.hid (show useE label l j = if ((l.take j).any fun v => (aliasB v).toList == (aliasB u).toList) = true then 7 else if (u.toList == label.toList) = true then 23 else 0 by rw [HU.out, if_neg (by simp [hn])])
        rw [hn] at HNm
        clear HU hn
        go_wp2_with fail
        refine HAl.out.mono ?_
        rintro e w1 ⟨rfl, rfl⟩
        go_wp2_with fail
        refine HNm.out.mono ?_
        rintro e w2 ⟨rfl, hb2⟩
        have HB2 := Lib.hid (HG'.out.2.2.trans (hb2.mono HG'.out.2.2.size))
        clear hb2 hcj
        go_wp2_with fail
        go_loopg [6] j (fun g ct wq => ∃ i : Nat, g = j - i ∧ i ≤ j ∧ ct = .int .i64 i ∧ ((l.take i).any fun v => (aliasB v).toList == (aliasB u).toList) = false ∧ Below w.heap.size w wq)
        case atStart => exact ⟨0, rfl, by omega, rfl, by simp, HB2.out⟩
        case round =>
          obtain ⟨i, HGi, hij, rfl, HAi, HBi⟩ := hrel
          have HGi' := Lib.hid (And.intro HGi (And.intro HAi HBi))
          clear HGi HAi HBi
          have hju := (HGi'.out.2.2.cell (p := ⟨b, o + j, none⟩) hb).trans (HC.out j u HJ2.out)
          by_cases hilt : i < j
          · have hil : i < l.length := by rw [HN.out]; omega
            have hi2 : l[i]? = some l[i] := List.getElem?_eq_getElem hil
            have hci := (HGi'.out.2.2.cell (p := ⟨b, o + i, none⟩) hb).trans (HC.out i _ hi2)
            have HT := Lib.hid (show ((l.take (i + 1)).any fun v => (aliasB v).toList == (aliasB u).toList) = ((aliasB l[i]).toList == (aliasB u).toList) by
              rw [List.take_succ_eq_append_getElem hil, List.any_append, HGi'.out.2.1]
              simp)
            have HY := Lib.hid (show ((aliasB l[i]).toList == (aliasB u).toList) = true → ((l.take j).any fun v => (aliasB v).toList == (aliasB u).toList) = true from fun h => List.any_eq_true.2 ⟨l[i], List.mem_take_iff_getElem.2 ⟨i, by omega, rfl⟩, h⟩)
            have hsv := HS.out.2 _ (List.getElem_mem hil)
            clear hi2
            generalize l[i] = v at hci HT HY hsv
            clear hil
            have HAv := Lib.hid (fun W q => alias24_q v W q (by omega))
            have HAu := Lib.hid (fun W q => alias24_q u W q (by omega))
            have i0 : (0 : Int) ≤ (i : Int) := by omega
            have i1 : (i : Int) < (n : Int) := by omega
            have j0 : (0 : Int) ≤ (j : Int) := by omega
            have j1 : (j : Int) < (n : Int) := by omega
            have ij : (i : Int) < (j : Int) := by omega
            obtain ⟨av, Hav⟩ : ∃ q, Hid (aliasB v = q) := ⟨_, Lib.hid rfl⟩
            obtain ⟨au, Hau⟩ : ∃ q, Hid (aliasB u = q) := ⟨_, Lib.hid rfl⟩
            rw [Hav.out, Hau.out] at HT HY
            rw [Hav.out] at HAv
            rw [Hau.out] at HAu
            cases heq : av.toList == au.toList with
            | true =>
              have HR := Lib.hid (show E = 7 by rw [← HE2.out, HU2.out, Hau.out, if_pos (HY.out heq)]; rfl)
              go_wp2_with fail
              go_quiet ((first | (go_at_call 15; with_reducible exact Calls.quiet_of_same (HAv.out _ _)) | (go_at_call 15; with_reducible exact Calls.quiet_of_same (HAu.out _ _))))
              go_wp2
              go_ret
              exact ⟨by rw [HR.out]; rfl, below_drewN' HGi'.out.2.2 _⟩
            | false =>
              go_wp2_with fail
              go_quiet ((first | (go_at_call 15; with_reducible exact Calls.quiet_of_same (HAv.out _ _)) | (go_at_call 15; with_reducible exact Calls.quiet_of_same (HAu.out _ _))))
              go_wp2
              go_roundg (j - (i + 1))
              case measure => rw [HGi'.out.1]; omega
              case rel => exact ⟨i + 1, rfl, by omega, by go_num, by rw [Hau.out, HT.out, heq], below_drewN' HGi'.out.2.2 _⟩
          · obtain rfl : i = j := by omega
            cases hlb : u.toList == label.toList with
            | true =>
              have HR := Lib.hid (show E = 23 by rw [← HE2.out, HU2.out, HGi'.out.2.1, hlb]; rfl)
              go_wp2
              go_ret
              exact ⟨by rw [HR.out]; rfl, HGi'.out.2.2⟩
            | false =>
              have HR := Lib.hid (show useAll label l (n - (i + 1)) (i + 1) = E by rw [← HE2.out, HU2.out, HGi'.out.2.1, hlb]; rfl)
              go_wp2
              go_roundg (n - (i + 1))
              case measure => rw [HG'.out.1]; omega
              case rel => exact ⟨i + 1, rfl, by omega, by go_num, HR.out, HGi'.out.2.2⟩
    · have HR := Lib.hid (show E = 0 by rw [← HG'.out.2.1, show n - j = 0 by omega]; rfl)
      have hjn : n ≤ j := by omega
      go_wp2
      go_ret
      exact ⟨by rw [HR.out]; rfl, HG'.out.2.2⟩
end Go.Proofs.YtacjjkbkhpdhnaaGreatDoor
/- ref24.Check -/
namespace Go.Proofs.YtacjjkbkhpdhnaaGreatDoor
open Go.RowKit Go.Proofs Go.Shelf
theorem below_drewM (w : World) : Below w.heap.size w w.drew := ⟨rfl, rfl, rfl, Nat.le_refl _, fun _ _ => rfl⟩
def ModS (label : ByteArray) (uses : List ByteArray) (decls : List Dc) : Prop := label.size ≤ 1000 ∧ (∀ s ∈ uses, s.size ≤ 1000) ∧ ∀ x ∈ decls, x.Sht
set_option maxRecDepth 100000 in
set_option maxHeartbeats 8000000 in
theorem check24_any (label : ByteArray) (uses : List ByteArray) (uA : Option Addr) (uc : Nat) (decls : List Dc) (dA : Option Addr) (dc : Nat) (w : World) (hu : SlS w w.heap.size uA uc uses) (hd : SlD w w.heap.size dA dc decls) (hms : ModS label uses decls) :
    Calls Tryz.prog 13 #[.agg #[.string label, .slice uA uses.length uc, .slice dA decls.length dc]] w fun e w' => e = .returned (.int .i64 (checkE label uses decls)) ∧ Below w.heap.size w w' := by
  obtain ⟨E, HE⟩ : ∃ E, Hid (checkE label uses decls = E) := ⟨_, Lib.hid rfl⟩
  rw [HE.out]
  obtain ⟨N, HN⟩ : ∃ Q, Hid (decls.length = Q) := ⟨_, Lib.hid rfl⟩
  obtain ⟨NU, HNU⟩ : ∃ Q, Hid (uses.length = Q) := ⟨_, Lib.hid rfl⟩
  obtain ⟨W0, hW0⟩ : ∃ W0, w.alloc (.cells #[.string label, .slice uA NU uc, .slice dA N dc] 25) = W0 := ⟨_, rfl⟩
  have hzw : w.heap.size < W0.heap.size := by subst hW0; simp
  have hB0 : Below w.heap.size w W0 := by subst hW0; exact (Below.refl _ _).alloc (Nat.le_refl _) _
  have hx0 : W0.heap[w.heap.size]? = some (.cells #[.string label, .slice uA NU uc, .slice dA N dc] 25 (0, 0)) := by rw [← hW0]; exact heap_alloc_new w _
  have HC : Hid (∀ X, Below W0.heap.size W0 X → Below w.heap.size w X ∧ w.heap.size < X.heap.size ∧ SlS X X.heap.size uA uc uses ∧ SlD X w.heap.size dA dc decls ∧ X.cell? ⟨w.heap.size, 0, none⟩ = some (.string label) ∧ X.cell? ⟨w.heap.size, 1, none⟩ = some (.slice uA NU uc) ∧ X.cell? ⟨w.heap.size, 2, none⟩ = some (.slice dA N dc)) := fun X hX => by
    have h0 := (hX.block w.heap.size hzw).trans hx0
    have hb := hB0.trans (hX.mono (Nat.le_of_lt hzw))
    exact ⟨hb, Nat.lt_of_lt_of_le hzw hX.size, hu.keep hb.size (fun p hp => hb.cell hp), hd.keep (Nat.le_refl _) (fun p hp => hb.cell hp), cell_of_row X _ 0 _ _ (0, 0) h0, cell_of_row X _ 1 _ _ (0, 0) h0, cell_of_row X _ 2 _ _ (0, 0) h0⟩
  have hul := hu.1
  have hul2 := hu.2.1
  have hdl := hd.1
  have hdl2 := hd.2.1
  unfold maxLen at hul2 hdl2
  rw [HNU.out] at hul ⊢
  rw [HN.out] at hdl ⊢
  have HMS := Lib.hid hms
  obtain ⟨E1, HE1⟩ : ∃ E1, Hid (srcE uses = E1) := ⟨_, Lib.hid rfl⟩
  obtain ⟨E2, HE2⟩ : ∃ E2, Hid (useAll label uses NU 0 = E2) := ⟨_, Lib.hid rfl⟩
  obtain ⟨bl, Hbl⟩ : ∃ bl, Hid (labelB label = bl) := ⟨_, Lib.hid rfl⟩
  have HD : Hid (E = if bl = false then 6 else if E1 ≠ 0 then E1 else if E2 ≠ 0 then E2 else if 100 < N then 4 else declsE label none decls) := by
    show E = _
    rw [← HE.out, checkE, Hbl.out, HE1.out, HNU.out, HE2.out, HN.out]
  have HL := Lib.hid (Label20_any label W0 (by have := hms.1; omega))
  rw [Hbl.out] at HL
  obtain ⟨_, _, _, _, x0, x1, x2⟩ := HC.out W0 (Below.refl _ _)
  have HB0 := Lib.hid hB0
  clear HE hu hd hB0 hx0 hms
  cases bl with
  | false =>
    obtain rfl : E = 6 := HD.out
    go_enter Tryz.func13, Tryz.ntmps13
    go_wp2_with fail
    refine HL.out.mono ?_
    rintro e w1 ⟨rfl, rfl⟩
    go_wp2
    go_ret
    exact ⟨rfl, HB0.out⟩
  | true =>
  have HD2 := Lib.hid (show E = if E1 ≠ 0 then E1 else if E2 ≠ 0 then E2 else if 100 < N then 4 else declsE label none decls from HD.out)
  have hcu := checkUses21_any uses uA uc W0 (HC.out W0 (Below.refl _ _)).2.2.1 HMS.out.2.1
  rw [HNU.out, HE1.out] at hcu
  have HCU := Lib.hid hcu
  clear hcu HD
  go_enter Tryz.func13, Tryz.ntmps13
  go_wp2_with fail
  refine HL.out.mono ?_
  rintro e w1 ⟨rfl, rfl⟩
  go_wp2_with fail
  refine HCU.out.mono ?_
  rintro e w1 ⟨rfl, hb1⟩
  have HB1 := Lib.hid hb1
  clear hb1 x0 x1 x2 hW0 HCU HL
  obtain ⟨hBw1, _, hs1, _, x0, x1, x2⟩ := HC.out w1 HB1.out
  have HBw1 := Lib.hid hBw1
  clear hBw1
  by_cases e1 : E1 = 0
  rotate_left
  · have e1' : (E1 != 0) = true := by simpa using e1
    have HR := Lib.hid (HD2.out.trans (if_pos e1))
    clear e1 hs1
    go_wp2
    go_ret
    exact ⟨by rw [HR.out]; rfl, HBw1.out⟩
  subst e1
  have HD3 := Lib.hid (HD2.out.trans (if_neg (by simp)))
  have hus := uses24_any label uses uA uc w1 hs1 HMS.out.2.1
  rw [HNU.out, HE2.out] at hus
  have HUS := Lib.hid hus
  clear hus hs1 HD2
  go_wp2_with fail
  refine HUS.out.mono ?_
  rintro e w2 ⟨rfl, hb2⟩
  have HB2 := Lib.hid (HB1.out.trans (hb2.mono HB1.out.size))
  clear hb2 x0 x1 x2 HUS
  obtain ⟨hBw2, _, _, _, x0, x1, x2⟩ := HC.out w2 HB2.out
  have HBw2 := Lib.hid hBw2
  clear hBw2
  by_cases e2 : E2 = 0
  rotate_left
  · have e2' : (E2 != 0) = true := by simpa using e2
    have HR := Lib.hid (HD3.out.trans (if_pos e2))
    clear e2
    go_wp2
    go_ret
    exact ⟨by rw [HR.out]; rfl, HBw2.out⟩
  subst e2
  have HD4 := Lib.hid (HD3.out.trans (if_neg (by simp)))
  clear HD3
  by_cases hlong : 100 < N
  · have HR := Lib.hid (HD4.out.trans (if_pos hlong))
    have hl' : decide (100 < (N : Int)) = true := by simp; omega
    go_wp2
    go_ret
    exact ⟨by rw [HR.out]; rfl, HBw2.out⟩
  have HD5 := Lib.hid (HD4.out.trans (if_neg hlong))
  have hl' : decide (100 < (N : Int)) = false := by simp; omega
  clear HD4
  go_wp2_with fail
  clear x0 x1 x2
  go_loopg [5, 6] N (fun g ct _ wr => ∃ j : Nat, g = N - j ∧ j ≤ N ∧ ct = .int .i64 j ∧ E = declsE label (prevI decls j) (decls.drop j) ∧ Below W0.heap.size W0 wr)
  case atStart => exact ⟨0, rfl, by omega, rfl, HD5.out, HB2.out⟩
  case round =>
    obtain ⟨j, HG, hj, rfl, HA, HB⟩ := hrel
    have HG' := Lib.hid (And.intro HG (And.intro HA HB))
    clear HG HA HB
    obtain ⟨hBw, hzr, _, hdr, z0, _, z2⟩ := HC.out wr HG'.out.2.2
    have HBw := Lib.hid hBw
    clear hBw
    by_cases hlt : j < N
    · have hjl : j < decls.length := by rw [HN.out]; exact hlt
      have hj3 : decls[j]? = some decls[j] := List.getElem?_eq_getElem hjl
      obtain ⟨b, o, rfl, hb, hall⟩ := hdr.2.2 (by intro e; subst e; simp at hjl)
      obtain ⟨hcs, hok⟩ := hall j _ hj3
      have HDR := Lib.hid (show decls.drop j = decls[j] :: decls.drop (j + 1) from List.drop_eq_getElem_cons hjl)
      have HPV := Lib.hid (show prevI decls (j + 1) = some decls[j].id by simp [prevI, hj3])
      have HALL := Lib.hid hall
      have hsh := HMS.out.2.2 _ (List.getElem_mem hjl)
      clear hall hj3 hdr
      generalize decls[j] = x at hcs hok HDR HPV hsh
      clear hjl
      have HX := Lib.hid (And.intro hcs (And.intro hok hsh))
      obtain ⟨Ed, HEd⟩ : ∃ Ed, Hid (declE label x = Ed) := ⟨_, Lib.hid rfl⟩
      have HDC : Hid (∀ X, Below wr.heap.size wr X → Calls Tryz.prog 52 #[.string label, .agg x.cells] X fun e w' => e = .returned (.int .i64 Ed) ∧ Below X.heap.size X w') := fun X hX => by
        have h := decl24_any label x X ⟨HX.out.2.1.1.keep (by have := hX.size; omega) (fun p hp => hX.cell (by omega)), HX.out.2.1.2.keep (by have := hX.size; omega) (fun p hp => hX.cell (by omega))⟩ HX.out.2.2
        rwa [HEd.out] at h
      clear hcs hok hsh
      obtain ⟨xid, xkind, xpub, xnA, xnc, xnames, xdoubt, xk, xn, xm, xi, xd, xA, xc, xs⟩ := x
      simp only [Dc.cells] at HDC
      have HSX : Hid (∀ X, Below wr.heap.size wr X → X.cell? ⟨w.heap.size, 0, none⟩ = some (.string label) ∧ X.cell? ⟨w.heap.size, 2, none⟩ = some (.slice (some ⟨b, o, none⟩) N dc) ∧
          X.cell? ⟨b, o + j * 11, none⟩ = some (.int .i64 xid) ∧ X.cell? ⟨b, o + j * 11 + 1, none⟩ = some (.int .i64 xkind) ∧ X.cell? ⟨b, o + j * 11 + 2, none⟩ = some (.bool xpub) ∧ X.cell? ⟨b, o + j * 11 + 3, none⟩ = some (.slice xnA xnames.length xnc) ∧ X.cell? ⟨b, o + j * 11 + 4, none⟩ = some (.bool xdoubt) ∧ X.cell? ⟨b, o + j * 11 + 5, none⟩ = some (.int .i64 xk) ∧ X.cell? ⟨b, o + j * 11 + 6, none⟩ = some (.string xn) ∧ X.cell? ⟨b, o + j * 11 + 7, none⟩ = some (.string xm) ∧ X.cell? ⟨b, o + j * 11 + 8, none⟩ = some (.int .i64 xi) ∧ X.cell? ⟨b, o + j * 11 + 9, none⟩ = some (.int .i64 xd) ∧ X.cell? ⟨b, o + j * 11 + 10, none⟩ = some (.slice xA xs.len xc)) := fun X hX => by
        have q : ∀ (t : Nat) (v : Value), wr.cell? ⟨b, t, none⟩ = some v → X.cell? ⟨b, t, none⟩ = some v := fun t v h => (hX.cell (p := ⟨b, t, none⟩) (by simp; omega)).trans h
        exact ⟨(hX.cell (p := ⟨w.heap.size, 0, none⟩) hzr).trans z0, (hX.cell (p := ⟨w.heap.size, 2, none⟩) hzr).trans z2, q _ _ (HX.out.1 0 _ rfl), q _ _ (HX.out.1 1 _ rfl), q _ _ (HX.out.1 2 _ rfl), q _ _ (HX.out.1 3 _ rfl), q _ _ (HX.out.1 4 _ rfl), q _ _ (HX.out.1 5 _ rfl), q _ _ (HX.out.1 6 _ rfl), q _ _ (HX.out.1 7 _ rfl), q _ _ (HX.out.1 8 _ rfl), q _ _ (HX.out.1 9 _ rfl), q _ _ (HX.out.1 10 _ rfl)⟩
      have hl0 : (0 : Int) ≤ (j : Int) := by omega
      have hl1 : (j : Int) < (N : Int) := by omega
      go_wp2_with fail
      go_region_held3 (fun X => X.cell? ⟨w.heap.size, 0, none⟩ = some (.string label) ∧ X.cell? ⟨w.heap.size, 2, none⟩ = some (.slice (some ⟨b, o, none⟩) N dc) ∧
          X.cell? ⟨b, o + j * 11, none⟩ = some (.int .i64 xid) ∧ X.cell? ⟨b, o + j * 11 + 1, none⟩ = some (.int .i64 xkind) ∧ X.cell? ⟨b, o + j * 11 + 2, none⟩ = some (.bool xpub) ∧ X.cell? ⟨b, o + j * 11 + 3, none⟩ = some (.slice xnA xnames.length xnc) ∧ X.cell? ⟨b, o + j * 11 + 4, none⟩ = some (.bool xdoubt) ∧ X.cell? ⟨b, o + j * 11 + 5, none⟩ = some (.int .i64 xk) ∧ X.cell? ⟨b, o + j * 11 + 6, none⟩ = some (.string xn) ∧ X.cell? ⟨b, o + j * 11 + 7, none⟩ = some (.string xm) ∧ X.cell? ⟨b, o + j * 11 + 8, none⟩ = some (.int .i64 xi) ∧ X.cell? ⟨b, o + j * 11 + 9, none⟩ = some (.int .i64 xd) ∧ X.cell? ⟨b, o + j * 11 + 10, none⟩ = some (.slice xA xs.len xc))
        (first | exact HSX.out _ (below_drewM _) | exact HSX.out _ hbb)
        (first | (go_at_call 52; refine (HDC.out _ (below_drewM _)).mono ?_; rintro e w3 ⟨rfl, hb3⟩; have hbb : Below wr.heap.size wr w3 := (below_drewM wr).trans (hb3.mono (Nat.le_refl _))))
      all_goals (
        have HB3 := Lib.hid (And.intro (HG'.out.2.2.trans (hbb.mono HG'.out.2.2.size)) hbb)
        clear hb3 hbb z0 z2
        obtain ⟨z0, z2, d0, _⟩ := HSX.out _ HB3.out.2
        have HBw3 := Lib.hid (HC.out _ HB3.out.1).1
        have HAE := Lib.hid HG'.out.2.1
        rw [HDR.out] at HAE
        by_cases ed : Ed = 0
        rotate_left
        · have ed' : (Ed != 0) = true := by simpa using ed
          have HR := Lib.hid (show E = Ed by rw [HAE.out]; cases prevI decls j <;> simp [declsE, HEd.out, ed])
          clear ed
          go_wp2
          go_ret
          exact ⟨by rw [HR.out]; rfl, HBw3.out⟩
        subst ed
        cases j with
        | zero =>
          have HR := Lib.hid (show E = declsE label (some xid) (decls.drop (0 + 1)) by rw [HAE.out]; simp [prevI, declsE, HEd.out])
          go_wp2_with fail
          go_quiet (fail)
          go_wp2
          go_roundg (N - (0 + 1))
          case measure => rw [HG'.out.1]; omega
          case rel => exact ⟨0 + 1, rfl, by omega, by go_num, by rw [HR.out, HPV.out], below_drewN HB3.out.1 _⟩
        | succ j =>
          have hkl : j < decls.length := by rw [HN.out]; omega
          have hk2 : decls[j]? = some decls[j] := List.getElem?_eq_getElem hkl
          have p0 := (HB3.out.2.cell (p := ⟨b, o + j * 11, none⟩) (by simp; omega)).trans ((HALL.out j _ hk2).1 0 (.int .i64 decls[j].id) rfl)
          have HQ := Lib.hid (show prevI decls (j + 1) = some decls[j].id by simp [prevI, hk2])
          rw [HQ.out] at HAE
          clear hk2
          generalize decls[j] = y at p0 HQ HAE
          clear hkl
          have hp1 : (0 : Int) < (j : Int) + 1 := by omega
          have hw1 : IntKind.i64.wrap ((j : Int) + 1 - 1) = j := by rw [show ((j : Int) + 1 - 1) = j by omega]; exact IntWalk.i64_in _ (by omega)
          have hw2 : IntKind.i64.wrap (j : Int) = j := IntWalk.i64_in _ (by omega)
          have hj0 : (0 : Int) ≤ (j : Int) := by omega
          have hj1 : (j : Int) < (N : Int) := by omega
          have hj2 : (0 : Int) ≤ (j : Int) + 1 := by omega
          have hj3 : (j : Int) + 1 < (N : Int) := by omega
          by_cases hle : xid ≤ y.id
          · have hle' : decide (xid ≤ y.id) = true := by simpa using hle
            have HR := Lib.hid (show E = 10 by rw [HAE.out]; simp [declsE, HEd.out, hle])
            clear hle
            go_wp2_with fail
            go_quiet (fail)
            go_wp2
            go_ret
            exact ⟨by rw [HR.out]; rfl, below_drewN HBw3.out _⟩
          · have hle' : decide (xid ≤ y.id) = false := by simpa using hle
            have HR := Lib.hid (show E = declsE label (some xid) (decls.drop (j + 1 + 1)) by rw [HAE.out]; simp [declsE, HEd.out, hle])
            clear hle
            go_wp2_with fail
            go_quiet (fail)
            go_wp2
            go_roundg (N - (j + 1 + 1))
            case measure => rw [HG'.out.1]; omega
            case rel => exact ⟨j + 1 + 1, rfl, by omega, by go_num, by rw [HR.out, HPV.out], below_drewN HB3.out.1 _⟩)
    · have HR := Lib.hid (show E = 0 by rw [HG'.out.2.1, List.drop_of_length_le (by rw [HN.out]; omega)]; cases prevI decls j <;> rfl)
      have hjn : N ≤ j := by omega
      clear hdr
      go_wp2
      go_ret
      exact ⟨by rw [HR.out]; rfl, HBw.out⟩
end Go.Proofs.YtacjjkbkhpdhnaaGreatDoor
