/- compile.Check answers OK at valid code -/
import Derived.Test.YtlcfoiapkblheaaGreatDoorVcb
import Derived.Test.YtlcfoiapkblheaaGreatDoorGky
import Derived.Test.YtlcfoiapkblheaaGreatDoorGkj
namespace Go.Proofs.YtlcfoiapkblheaaGreatDoor
open Go.RowKit Go.Proofs Go.Shelf

/-- Declarations of code in memory, as a walk reads them. -/
def DecCells (W : World) (A2 : Option Addr) (c2 : Nat) (ds : List (Int × Int × Nat)) : Prop :=
  ∀ (j : Nat) (t : Int × Int × Nat), ds[j]? = some t → ∃ g, A2 = some ⟨g, 0, none⟩ ∧ ds.length ≤ c2 ∧ c2 ≤ 9223372036854775807 ∧ W.cell? ⟨g, j * 3, none⟩ = some (.int .i64 t.1) ∧ W.cell? ⟨g, j * 3 + 1, none⟩ = some (.int .i64 t.2.1) ∧ W.cell? ⟨g, j * 3 + 2, none⟩ = some (.int .i64 t.2.2)
theorem DecCells.keep {W X : World} {A2 : Option Addr} {c2 : Nat} {ds : List (Int × Int × Nat)} (h : DecCells W A2 c2 ds) (hb : Below W.heap.size W X) : DecCells X A2 c2 ds := fun j t hj => by
  obtain ⟨g, e1, e2, e3, e4, e5, e6⟩ := h j t hj
  have hl : g < W.heap.size := World.block_lt_of_cell? W ⟨g, j * 3, none⟩ e4
  exact ⟨g, e1, e2, e3, (hb.cell hl).trans e4, (hb.cell hl).trans e5, (hb.cell hl).trans e6⟩
theorem CdAt.dec {W : World} {A2 : Option Addr} {c2 n : Nat} {ds : List (Int × Int × Nat)} (h : CdAt W (.slice A2 n c2) ds) : DecCells W A2 c2 ds := fun j t hj => by
  obtain ⟨g, c, e1, e2, e3, e4, e5, e6⟩ := h.at_ hj
  simp only [Value.slice.injEq] at e1
  obtain ⟨rfl, _, rfl⟩ := e1
  exact ⟨g, rfl, e2, e3, e4, e5, e6⟩

set_option maxRecDepth 100000 in
set_option maxHeartbeats 8000000 in
theorem cCheck_any (lb : ByteArray) (bl : List Blk) (ds : List (Int × Int × Nat)) (decls : List Dc) (A1 : Option Addr) (c1 : Nat) (A2 : Option Addr) (c2 : Nat) (w : World) (hv : CodeV lb bl ds decls) (hp : ParCells w A1 c1 bl) (hbl : bl.length ≤ 9223372036854775807) (hd : DecCells w A2 c2 ds) (hdl : ds.length ≤ 9223372036854775807) :
    Calls Tryz.prog 45 #[.agg #[.string lb, .slice A1 bl.length c1, .slice A2 ds.length c2]] w fun e w' => e = .returned (.int .i64 0) ∧ Below w.heap.size w w' := by
  obtain ⟨N1, HN1⟩ : ∃ Q, Hid (bl.length = Q) := ⟨_, Lib.hid rfl⟩
  obtain ⟨N2, HN2⟩ : ∃ Q, Hid (ds.length = Q) := ⟨_, Lib.hid rfl⟩
  rw [HN1.out] at hbl ⊢
  rw [HN2.out] at hdl ⊢
  obtain ⟨W0, hW0⟩ : ∃ W0, w.alloc (.cells #[.string lb, .slice A1 N1 c1, .slice A2 N2 c2] 31) = W0 := ⟨_, rfl⟩
  have hB0 : Below w.heap.size w W0 := by rw [← hW0]; exact (Below.refl _ _).alloc (Nat.le_refl _) _
  have hz0 : w.heap.size + 1 = W0.heap.size := by rw [← hW0]; simp
  have hx0 : W0.heap[w.heap.size]? = some (.cells #[.string lb, .slice A1 N1 c1, .slice A2 N2 c2] 31 (0, 0)) := by rw [← hW0]; exact heap_alloc_new w _
  have HC : Hid (∀ X, Below W0.heap.size W0 X → Below w.heap.size w X ∧ X.cell? ⟨w.heap.size, 0, none⟩ = some (.string lb) ∧ X.cell? ⟨w.heap.size, 1, none⟩ = some (.slice A1 N1 c1) ∧ X.cell? ⟨w.heap.size, 2, none⟩ = some (.slice A2 N2 c2)) := fun X hX => by
    have h0 := (hX.block w.heap.size (by omega)).trans hx0
    exact ⟨hB0.trans (hX.mono (by omega)), cell_of_row X _ 0 _ _ (0, 0) h0, cell_of_row X _ 1 _ _ (0, 0) h0, cell_of_row X _ 2 _ _ (0, 0) h0⟩
  obtain ⟨_, x0, x1, x2⟩ := HC.out W0 (Below.refl _ _)
  have HL := Lib.hid (label_any lb W0)
  rw [hv.lab] at HL
  have HV := Lib.hid (And.intro hv (And.intro hp hd))
  clear hv hp hd hB0 hx0
  go_enter Tryz.func45, Tryz.ntmps45
  go_wp2_with fail
  refine HL.out.mono ?_
  rintro e w1 ⟨rfl, hb1⟩
  have HB1 := Lib.hid hb1
  clear x0 x1 x2 hW0
  obtain ⟨_, x0, x1, x2⟩ := HC.out w1 hb1
  clear hb1
  go_wp2_with fail
  clear x0 x1 x2
  go_loopg [4, 5, 15] N1 (fun g _ _ ct wr => ∃ j : Nat, g = N1 - j ∧ j ≤ N1 ∧ ct = .int .i64 j ∧ Below W0.heap.size W0 wr)
  case atStart => exact ⟨0, rfl, by omega, rfl, HB1.out⟩
  case round =>
    obtain ⟨j, HG, hj, rfl, hBr⟩ := hrel
    have hzr := hBr.size
    obtain ⟨hbw, x0, x1, x2⟩ := HC.out wr hBr
    by_cases hlt : j < N1
    · have hlt' : j < bl.length := by rw [HN1.out]; exact hlt
      have hj3 : bl[j]? = some bl[j] := List.getElem?_eq_getElem hlt'
      obtain ⟨g, rfl, e2, e3, f0, f1, lA, lc, f2, hic⟩ := (HV.out.2.1.keep hbw) _ _ hj3
      rw [HN1.out] at e2
      have hbv := HV.out.1.blocks _ (List.getElem_mem hlt')
      generalize bl[j] = b at f0 f1 f2 hic hbv
      obtain ⟨W3, hW3⟩ : ∃ W3, wr.alloc (.cells #[.int .i64 b.cap, .bool b.par, .slice lA b.l.length lc] 52) = W3 := ⟨_, rfl⟩
      have hB3 : Below wr.heap.size wr W3 := by rw [← hW3]; exact (Below.refl _ _).alloc (Nat.le_refl _) _
      have hB03 : Below W0.heap.size W0 W3 := hBr.trans (hB3.mono hzr)
      have hx3 : W3.heap[wr.heap.size]? = some (.cells #[.int .i64 b.cap, .bool b.par, .slice lA b.l.length lc] 52 (0, 0)) := by rw [← hW3]; exact heap_alloc_new wr _
      have g0 := cell_of_row W3 wr.heap.size 0 _ _ (0, 0) hx3
      have g1 := cell_of_row W3 wr.heap.size 1 _ _ (0, 0) hx3
      have g2 := cell_of_row W3 wr.heap.size 2 _ _ (0, 0) hx3
      simp at g0 g1 g2
      obtain ⟨hbw3, x0', x1', x2'⟩ := HC.out W3 hB03
      have hcb := checkBlock_any lb _ c1 A2 N2 c2 bl b lA lc W3 (HV.out.2.1.keep hbw3) hbv (hic.keep hB3)
      rw [HN1.out] at hcb
      have HCB := Lib.hid hcb
      have HE := Lib.hid (And.intro HG hB03)
      clear hcb hbv hic hB3 hB03 hx3 hbw hbw3 hBr HG hj3
      have i1 : (j : Int) < (N1 : Int) := by omega
      go_wp2_with fail
      refine HCB.out.mono ?_
      rintro e w4 ⟨rfl, hb4⟩
      have HB4 := Lib.hid (HE.out.2.trans (hb4.mono HE.out.2.size))
      clear hb4
      go_wp2
      go_roundg (N1 - (j + 1))
      case measure => rw [HE.out.1]; omega
      case rel => exact ⟨j + 1, rfl, by omega, by go_num, HB4.out⟩
    · obtain rfl : j = N1 := by omega
      have HB := Lib.hid hBr
      clear hBr HG hbw
      go_wp2_with fail
      clear x0 x1 x2
      go_loopg [6, 7, 29, 34, 43, 58, 72] N2 (fun g _ _ ct _ _ _ _ wr => ∃ j : Nat, g = N2 - j ∧ j ≤ N2 ∧ ct = .int .i64 j ∧ Below W0.heap.size W0 wr)
      case atStart => exact ⟨0, rfl, by omega, rfl, HB.out⟩
      case round =>
        obtain ⟨q, HG, hq, rfl, hBr⟩ := hrel
        have hzr := hBr.size
        obtain ⟨hbw, x0, x1, x2⟩ := HC.out wr hBr
        by_cases hlt : q < N2
        · have hlt' : q < ds.length := by rw [HN2.out]; exact hlt
          have hj3 : ds[q]? = some ds[q] := List.getElem?_eq_getElem hlt'
          obtain ⟨dg, rfl, e2, e3, f0, f1, f2⟩ := (HV.out.2.2.keep hbw) _ _ hj3
          rw [HN2.out] at e2
          obtain ⟨_, b, _, _, _, ⟨hi0, hi1⟩, hk, _, hb, hbc, hbp⟩ := HV.out.1.dec _ _ hj3
          have hrise := fun t' (h : ds[q - 1]? = some t') (hq : 0 < q) => (HV.out.1.rise (q - 1) t' ds[q] h (by rw [Nat.sub_add_cancel hq]; exact hj3)).1
          have HRI := Lib.hid hrise
          clear hrise
          generalize ds[q] = t at f0 f1 f2 hi0 hi1 hk hb HRI hj3
          obtain ⟨tid, tk, tb⟩ := t
          simp only at f0 f1 f2 hi0 hi1 hk hb HRI
          obtain ⟨W3, hW3⟩ : ∃ W3, wr.alloc (.cells #[.int .i64 tid, .int .i64 tk, .int .i64 tb] 80) = W3 := ⟨_, rfl⟩
          have hB3 : Below wr.heap.size wr W3 := by rw [← hW3]; exact (Below.refl _ _).alloc (Nat.le_refl _) _
          have hB03 : Below W0.heap.size W0 W3 := hBr.trans (hB3.mono hzr)
          have hx3 : W3.heap[wr.heap.size]? = some (.cells #[.int .i64 tid, .int .i64 tk, .int .i64 tb] 80 (0, 0)) := by rw [← hW3]; exact heap_alloc_new wr _
          have g0 := cell_of_row W3 wr.heap.size 0 _ _ (0, 0) hx3
          have g1 := cell_of_row W3 wr.heap.size 1 _ _ (0, 0) hx3
          have g2 := cell_of_row W3 wr.heap.size 2 _ _ (0, 0) hx3
          simp at g0 g1 g2
          obtain ⟨hbw3, x0', x1', x2'⟩ := HC.out W3 hB03
          obtain ⟨bg, rfl, b2, b3, k0, k1, _⟩ := (HV.out.2.1.keep hbw3) _ _ hb
          rw [HN1.out] at b2
          rw [hbc] at k0
          rw [hbp] at k1
          have t0 : (0 : Int) ≤ (tb : Int) := by omega
          have t1 : (tb : Int) < (j : Int) := by have := (List.getElem?_eq_some_iff.1 hb).1; rw [HN1.out] at this; omega
          have t2 : decide ((tb : Int) < 0) = false := by simp
          have t3 : decide ((j : Int) ≤ (tb : Int)) = false := by simp; omega
          have HPR := Lib.hid ((HV.out.2.2.keep hbw3))
          have HE := Lib.hid (And.intro HG hB03)
          have i1 : (q : Int) < (N2 : Int) := by omega
          clear hB3 hB03 hx3 hbw hbw3 hBr HG hj3 hb hbc hbp
          cases q with
          | zero =>
            rcases hk with rfl | rfl | rfl
            all_goals (
              go_wp2_with fail
              go_quiet (fail)
              go_wp2
              go_roundg (N2 - (0 + 1))
              case measure => rw [HE.out.1]; omega
              case rel => exact ⟨0 + 1, rfl, by omega, by go_num, below_drewN HE.out.2 _⟩)
          | succ q =>
            have hk3 : ds[q]? = some ds[q] := List.getElem?_eq_getElem (by rw [HN2.out]; omega)
            obtain ⟨dg', hdg, _, _, p0, _, _⟩ := HPR.out q _ hk3
            simp only [Option.some.injEq, Addr.mk.injEq, and_true] at hdg
            subst hdg
            have hlti := HRI.out _ hk3 (by omega)
            clear hk3
            generalize ds[q] = pt at p0 hlti
            obtain ⟨pid, pk, pb⟩ := pt
            simp only at p0 hlti
            have hp1 : (0 : Int) < (q : Int) + 1 := by omega
            have hw1 : IntKind.i64.wrap ((q : Int) + 1 - 1) = q := by rw [show ((q : Int) + 1 - 1) = q by omega]; exact IntWalk.i64_in _ (by omega)
            have hj0 : (0 : Int) ≤ (q : Int) := by omega
            have hj1 : (q : Int) < (N2 : Int) := by omega
            have hle' : decide (tid ≤ pid) = false := by simp; omega
            rcases hk with rfl | rfl | rfl
            all_goals (
              go_wp2_with fail
              go_quiet (fail)
              go_wp2
              go_roundg (N2 - (q + 1 + 1))
              case measure => rw [HE.out.1]; omega
              case rel => exact ⟨q + 1 + 1, rfl, by omega, by go_num, below_drewN HE.out.2 _⟩)
        · obtain rfl : q = N2 := by omega
          have HB2 := Lib.hid hbw
          clear hBr HG hbw
          go_wp2
          go_ret
          exact ⟨rfl, HB2.out⟩
end Go.Proofs.YtlcfoiapkblheaaGreatDoor
