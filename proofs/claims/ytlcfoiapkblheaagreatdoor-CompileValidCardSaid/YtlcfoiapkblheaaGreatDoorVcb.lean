/- compile.checkBlock answers OK at the blocks of valid code -/
import Derived.Test.YtlcfoiapkblheaaGreatDoorVci
import Derived.Test.YtlcfoiapkblheaaGreatDoorGky
namespace Go.Proofs.YtlcfoiapkblheaaGreatDoor
open Go.RowKit Go.Proofs Go.Shelf

/-- Instructions in memory, as a walk reads them. -/
def InsCells (W : World) (lA : Option Addr) (lc : Nat) (l : List Ins) : Prop :=
  l.length ≤ 9223372036854775807 ∧ ∀ k x, l[k]? = some x → ∃ lg, lA = some ⟨lg, 0, none⟩ ∧ l.length ≤ lc ∧ lc ≤ 9223372036854775807 ∧ W.cell? ⟨lg, k * 4, none⟩ = some (.int .i64 x.op) ∧ W.cell? ⟨lg, k * 4 + 1, none⟩ = some (.int .i64 x.a) ∧ W.cell? ⟨lg, k * 4 + 2, none⟩ = some (.int .i64 x.b) ∧ W.cell? ⟨lg, k * 4 + 3, none⟩ = some (.string x.nm)
theorem InsCells.keep {W X : World} {lA : Option Addr} {lc : Nat} {l : List Ins} (h : InsCells W lA lc l) (hb : Below W.heap.size W X) : InsCells X lA lc l :=
  ⟨h.1, fun k x hx => by
    obtain ⟨lg, e1, e2, e3, e4, e5, e6, e7⟩ := h.2 k x hx
    have hl : lg < W.heap.size := World.block_lt_of_cell? W ⟨lg, k * 4, none⟩ e4
    exact ⟨lg, e1, e2, e3, (hb.cell hl).trans e4, (hb.cell hl).trans e5, (hb.cell hl).trans e6, (hb.cell hl).trans e7⟩⟩
/-- What names a block of the code, as a walk reads it. -/
def ParCells (W : World) (A1 : Option Addr) (c1 : Nat) (bl : List Blk) : Prop :=
  ∀ (k : Nat) (b : Blk), bl[k]? = some b → ∃ g, A1 = some ⟨g, 0, none⟩ ∧ bl.length ≤ c1 ∧ c1 ≤ 9223372036854775807 ∧ W.cell? ⟨g, k * 3, none⟩ = some (.int .i64 b.cap) ∧ W.cell? ⟨g, k * 3 + 1, none⟩ = some (.bool b.par) ∧ ∃ lA lc, W.cell? ⟨g, k * 3 + 2, none⟩ = some (.slice lA b.l.length lc) ∧ InsCells W lA lc b.l
theorem ParCells.keep {W X : World} {A1 : Option Addr} {c1 : Nat} {bl : List Blk} (h : ParCells W A1 c1 bl) (hb : Below W.heap.size W X) : ParCells X A1 c1 bl := fun k b hk => by
  obtain ⟨g, e1, e2, e3, e4, e5, lA, lc, e6, e7⟩ := h k b hk
  have hl : g < W.heap.size := World.block_lt_of_cell? W ⟨g, k * 3, none⟩ e4
  exact ⟨g, e1, e2, e3, (hb.cell hl).trans e4, (hb.cell hl).trans e5, lA, lc, (hb.cell hl).trans e6, e7.keep hb⟩
theorem BlocksAt.par {W : World} {A1 : Option Addr} {c1 n : Nat} {bl : List Blk} (h : BlocksAt W (.slice A1 n c1) bl) : ParCells W A1 c1 bl := fun k b hk => by
  obtain ⟨g, c, lA, lc, e1, e2, e3, e4, e5, e6, e7, e8⟩ := h.at_ hk
  simp only [Value.slice.injEq] at e1
  obtain ⟨rfl, _, rfl⟩ := e1
  exact ⟨g, rfl, e2, e3, e4, e5, lA, lc, e6, e7, e8⟩
theorem inR_of {W : World} {A1 : Option Addr} {c1 : Nat} {bl : List Blk} (h : ParCells W A1 c1 bl) {len : Nat} {x : Ins} (hv : InsV bl len x) : InR W A1 bl.length c1 len x.op x.a x.b := by
  obtain ⟨⟨E, hE, hw⟩, h5⟩ := hv
  refine ⟨hw.i1, hw.i2, hw.i3, hw.i4, fun e => ?_, fun e => ⟨(hw.i8 e).1, by have := (hw.i8 e).2; omega⟩, hw.i15, hw.i16⟩
  obtain ⟨k, ek, b, hb, hp⟩ := h5 e
  obtain ⟨g, e1, e2, e3, _, e5, _⟩ := h k b hb
  rw [hp] at e5
  exact ⟨k, g, ek, (List.getElem?_eq_some_iff.1 hb).1, e2, e3, e1, e5⟩

set_option maxRecDepth 100000 in
set_option maxHeartbeats 4000000 in
theorem checkBlock_any (lb : ByteArray) (A1 : Option Addr) (c1 : Nat) (A2 : Option Addr) (n2 c2 : Nat) (bl : List Blk) (b : Blk) (lA : Option Addr) (lc : Nat) (w : World) (hp : ParCells w A1 c1 bl) (hv : BlkV bl b) (hl : InsCells w lA lc b.l) :
    Calls Tryz.prog 109 #[.agg #[.string lb, .slice A1 bl.length c1, .slice A2 n2 c2], .agg #[.int .i64 b.cap, .bool b.par, .slice lA b.l.length lc]] w fun e w' => e = .returned (.int .i64 0) ∧ Below w.heap.size w w' := by
  obtain ⟨cap, par, l⟩ := b
  obtain ⟨⟨hc0, hc1⟩, ⟨xl, hxl, hop⟩, hall⟩ := hv
  simp only at hc0 hc1 hxl hall hl ⊢
  obtain ⟨lg, hlA, hlc, hlm, q0, q1, q2, q3⟩ := hl.2 _ _ hxl
  rw [hop] at q0
  obtain ⟨M, HM⟩ : ∃ M, Hid (l.length = M + 1) := ⟨l.length - 1, Lib.hid (by have := (List.getElem?_eq_some_iff.1 hxl).1; omega)⟩
  obtain ⟨n1, HN⟩ : ∃ Q, Hid (bl.length = Q) := ⟨_, Lib.hid rfl⟩
  rw [HM.out] at hlc q0 ⊢
  rw [Nat.add_sub_cancel] at q0
  rw [HN.out]
  have hM := hl.1
  rw [HM.out] at hM
  subst hlA
  obtain ⟨W0, hW0⟩ : ∃ W0, (w.alloc (.cells #[.string lb, .slice A1 n1 c1, .slice A2 n2 c2] 31)).alloc (.cells #[.int .i64 cap, .bool par, .slice (some ⟨lg, 0, none⟩) (M + 1) lc] 52) = W0 := ⟨_, rfl⟩
  have hB0 : Below w.heap.size w W0 := by subst hW0; exact ((Below.refl _ _).alloc (Nat.le_refl _) _).alloc (by simp) _
  have hz0 : w.heap.size + 2 = W0.heap.size := by subst hW0; simp
  have hx0 : W0.heap[w.heap.size]? = some (.cells #[.string lb, .slice A1 n1 c1, .slice A2 n2 c2] 31 (0, 0)) := by
    rw [← hW0, Below.heap_alloc _ _ _ (by simp)]
    exact heap_alloc_new w _
  have hx1 : W0.heap[w.heap.size + 1]? = some (.cells #[.int .i64 cap, .bool par, .slice (some ⟨lg, 0, none⟩) (M + 1) lc] 52 (0, 0)) := by
    rw [← hW0]
    have := heap_alloc_new (w.alloc (.cells #[.string lb, .slice A1 n1 c1, .slice A2 n2 c2] 31)) (.cells #[.int .i64 cap, .bool par, .slice (some ⟨lg, 0, none⟩) (M + 1) lc] 52)
    simpa using this
  have HC : Hid (∀ X, Below W0.heap.size W0 X → X.cell? ⟨w.heap.size, 0, none⟩ = some (.string lb) ∧ X.cell? ⟨w.heap.size, 1, none⟩ = some (.slice A1 n1 c1) ∧ X.cell? ⟨w.heap.size, 2, none⟩ = some (.slice A2 n2 c2) ∧ X.cell? ⟨w.heap.size + 1, 0, none⟩ = some (.int .i64 cap) ∧ X.cell? ⟨w.heap.size + 1, 1, none⟩ = some (.bool par) ∧ X.cell? ⟨w.heap.size + 1, 2, none⟩ = some (.slice (some ⟨lg, 0, none⟩) (M + 1) lc)) := fun X hX => by
    have h0 := (hX.block w.heap.size (by omega)).trans hx0
    have h1 := (hX.block (w.heap.size + 1) (by omega)).trans hx1
    exact ⟨cell_of_row X _ 0 _ _ (0, 0) h0, cell_of_row X _ 1 _ _ (0, 0) h0, cell_of_row X _ 2 _ _ (0, 0) h0, cell_of_row X _ 0 _ _ (0, 0) h1, cell_of_row X _ 1 _ _ (0, 0) h1, cell_of_row X _ 2 _ _ (0, 0) h1⟩
  have q0' := (hB0.cell (World.block_lt_of_cell? w ⟨lg, M * 4, none⟩ q0)).trans q0
  obtain ⟨x0, x1, x2, y0, y1, y2⟩ := HC.out W0 (Below.refl _ _)
  have HL := Lib.hid (And.intro hl (And.intro hp (And.intro hall hB0)))
  have hw1 : IntKind.i64.wrap ((M : Int) + 1 - 1) = M := by rw [show ((M : Int) + 1 - 1) = M by omega]; exact IntWalk.i64_in _ (by omega)
  have hj0 : (0 : Int) ≤ (M : Int) := by omega
  have hj1 : (M : Int) < (M : Int) + 1 := by omega
  clear hl hp hall hB0 hx0 hx1 hxl q0 q1 q2 q3
  go_enter Tryz.func109, Tryz.ntmps109
  go_wp2_with fail
  clear q0' x0 x1 x2 y0 y1 y2 hw1 hj0 hj1
  go_loopg [6, 7, 35] (M + 1) (fun g _ _ ct wr => ∃ j : Nat, g = M + 1 - j ∧ j ≤ M + 1 ∧ ct = .int .i64 j ∧ Below W0.heap.size W0 wr)
  case atStart => exact ⟨0, rfl, by omega, rfl, Below.refl _ _⟩
  case round =>
    obtain ⟨j, HG, hj, rfl, hBr⟩ := hrel
    have hzr := hBr.size
    by_cases hlt : j < M + 1
    · have hlt' : j < l.length := by rw [HM.out]; exact hlt
      have hj3 : l[j]? = some l[j] := List.getElem?_eq_getElem hlt'
      have hbw := HL.out.2.2.2.trans (hBr.mono (by omega))
      obtain ⟨lg', hlA, _, _, f0, f1, f2, f3⟩ := (HL.out.1.keep hbw).2 _ _ hj3
      simp only [Option.some.injEq, Addr.mk.injEq, and_true] at hlA
      subst hlA
      obtain ⟨x0, x1, x2, y0, y1, y2⟩ := HC.out wr hBr
      have hiv := HL.out.2.2.1 _ (List.getElem_mem hlt')
      generalize l[j] = x at f0 f1 f2 f3 hiv
      obtain ⟨W3, hW3⟩ : ∃ W3, wr.alloc (.cells #[.int .i64 x.op, .int .i64 x.a, .int .i64 x.b, .string x.nm] 90) = W3 := ⟨_, rfl⟩
      have hB3 : Below wr.heap.size wr W3 := by rw [← hW3]; exact (Below.refl _ _).alloc (Nat.le_refl _) _
      have hB03 : Below W0.heap.size W0 W3 := hBr.trans (hB3.mono hzr)
      have hx3 : W3.heap[wr.heap.size]? = some (.cells #[.int .i64 x.op, .int .i64 x.a, .int .i64 x.b, .string x.nm] 90 (0, 0)) := by rw [← hW3]; exact heap_alloc_new wr _
      have g0 := cell_of_row W3 wr.heap.size 0 _ _ (0, 0) hx3
      have g1 := cell_of_row W3 wr.heap.size 1 _ _ (0, 0) hx3
      have g2 := cell_of_row W3 wr.heap.size 2 _ _ (0, 0) hx3
      have g3 := cell_of_row W3 wr.heap.size 3 _ _ (0, 0) hx3
      simp at g0 g1 g2 g3
      obtain ⟨x0', x1', x2', y0', y1', y2'⟩ := HC.out W3 hB03
      obtain ⟨E, hE, hw⟩ := hiv.1
      have hir := inR_of (HL.out.2.1.keep (HL.out.2.2.2.trans (hB03.mono (by omega)))) hiv
      have hci := checkInstr_any lb A1 bl.length c1 A2 n2 c2 cap par (some ⟨lg, 0, none⟩) l.length lc E x W3 hw hir
      rw [HM.out, HN.out] at hci
      have HCI := Lib.hid hci
      have HE := Lib.hid (And.intro HG hB03)
      clear hci hir hiv hw hE hB3 hB03 hx3 hbw hBr HG hj3
      have i1 : (j : Int) < (M : Int) + 1 := by omega
      go_wp2_with fail
      refine HCI.out.mono ?_
      rintro e w4 ⟨rfl, hb4⟩
      have HB4 := Lib.hid (HE.out.2.trans (hb4.mono HE.out.2.size))
      clear hb4
      go_wp2
      go_roundg (M + 1 - (j + 1))
      case measure => rw [HE.out.1]; omega
      case rel => exact ⟨j + 1, rfl, by omega, by go_num, HB4.out⟩
    · obtain rfl : j = M + 1 := by omega
      have HB := Lib.hid (HL.out.2.2.2.trans (hBr.mono (by omega)))
      clear hBr HG
      go_wp2
      go_ret
      exact ⟨rfl, HB.out⟩
end Go.Proofs.YtlcfoiapkblheaaGreatDoor
