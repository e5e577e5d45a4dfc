/- compile.inRange answers true -/
import Derived.Test.YtlcfoiapkblheaaGreatDoorVfl
namespace Go.Proofs.YtlcfoiapkblheaaGreatDoor
open Go.RowKit Go.Proofs Go.Shelf

/-- The numbers of an instruction are as required. -/
structure InR (w : World) (A1 : Option Addr) (n1 c1 len : Nat) (j a b : Int) : Prop where
  i1 : j = 1 → -999999999 ≤ a ∧ a ≤ 999999999
  i2 : j = 2 → a = 0 ∨ a = 1
  i3 : j = 3 → 0 ≤ a ∧ a ≤ 800
  i4 : j = 4 → 1 ≤ a ∧ a ≤ 999999
  i5 : j = 5 → ∃ k g : Nat, a = k ∧ k < n1 ∧ n1 ≤ c1 ∧ c1 ≤ 9223372036854775807 ∧ A1 = some ⟨g, 0, none⟩ ∧ w.cell? ⟨g, k * 3 + 1, none⟩ = some (.bool true)
  i8 : j = 8 ∨ j = 9 ∨ j = 13 → 0 ≤ a ∧ a < len
  i15 : j = 15 → a = 1 ∨ a = 2
  i16 : j = 16 → 1 ≤ b ∧ b ≤ 999999 ∧ 0 ≤ a ∧ a ≤ b

set_option maxRecDepth 100000 in
set_option maxHeartbeats 4000000 in
theorem inRange_any (lb : ByteArray) (A1 : Option Addr) (n1 c1 : Nat) (A2 : Option Addr) (n2 c2 : Nat) (cap : Int) (par : Bool) (lA : Option Addr) (len lc : Nat) (j a b : Int) (nm : ByteArray) (w : World) (h0 : 1 ≤ j) (h1 : j ≤ 16) (h : InR w A1 n1 c1 len j a b) :
    Calls Tryz.prog 215 #[.agg #[.string lb, .slice A1 n1 c1, .slice A2 n2 c2], .agg #[.int .i64 cap, .bool par, .slice lA len lc], .agg #[.int .i64 j, .int .i64 a, .int .i64 b, .string nm]] w fun e w' => e = .returned (.bool true) ∧ Below w.heap.size w w' := by
  obtain ⟨W0, hW0⟩ : ∃ W0, ((w.alloc (.cells #[.string lb, .slice A1 n1 c1, .slice A2 n2 c2] 31)).alloc (.cells #[.int .i64 cap, .bool par, .slice lA len lc] 52)).alloc (.cells #[.int .i64 j, .int .i64 a, .int .i64 b, .string nm] 90) = W0 := ⟨_, rfl⟩
  have hB0 : Below w.heap.size w W0 := by subst hW0; exact (((Below.refl _ _).alloc (Nat.le_refl _) _).alloc (by simp) _).alloc (by simp; omega) _
  have y1 : W0.cell? ⟨w.heap.size, 1, none⟩ = some (.slice A1 n1 c1) := by subst hW0; go_simp
  have y2 : W0.cell? ⟨w.heap.size + 1, 2, none⟩ = some (.slice lA len lc) := by subst hW0; go_simp
  have z0 : W0.cell? ⟨w.heap.size + 1 + 1, 0, none⟩ = some (.int .i64 j) := by subst hW0; go_simp
  have z1 : W0.cell? ⟨w.heap.size + 1 + 1, 1, none⟩ = some (.int .i64 a) := by subst hW0; go_simp
  have z2 : W0.cell? ⟨w.heap.size + 1 + 1, 2, none⟩ = some (.int .i64 b) := by subst hW0; go_simp
  have HB := Lib.hid hB0
  have HI := Lib.hid h
  clear h
  rcases (show j = 5 ∨ j = 2 ∨ j = 15 ∨ j = 1 ∨ j = 3 ∨ j = 4 ∨ j = 6 ∨ j = 7 ∨ j = 8 ∨ j = 9 ∨ j = 10 ∨ j = 11 ∨ j = 12 ∨ j = 13 ∨ j = 14 ∨ j = 16 by omega) with rfl | rfl | rfl | rfl | rfl | rfl | rfl | rfl | rfl | rfl | rfl | rfl | rfl | rfl | rfl | rfl
  · obtain ⟨k, g, rfl, hk, hn, hc, rfl, hcell⟩ := HI.out.i5 rfl
    have hc0 := (hB0.cell (World.block_lt_of_cell? w ⟨g, k * 3 + 1, none⟩ hcell)).trans hcell
    clear hB0 hcell h0 h1
    go_enter Tryz.func215, Tryz.ntmps215
    go_wp2
    go_ret
    exact ⟨rfl, HB.out⟩
  · clear hB0 h0 h1
    rcases HI.out.i2 rfl with rfl | rfl
    all_goals (
      go_enter Tryz.func215, Tryz.ntmps215
      go_wp2
      go_ret
      exact ⟨rfl, HB.out⟩)
  · clear hB0 h0 h1
    rcases HI.out.i15 rfl with rfl | rfl
    all_goals (
      go_enter Tryz.func215, Tryz.ntmps215
      go_wp2
      go_ret
      exact ⟨rfl, HB.out⟩)
  all_goals (
    have g1 := HI.out.i1
    have g3 := HI.out.i3
    have g4 := HI.out.i4
    have g8 := HI.out.i8
    have g16 := HI.out.i16
    simp at g1 g3 g4 g8 g16
    clear hB0 h0 h1
    go_enter Tryz.func215, Tryz.ntmps215
    go_wp2
    go_ret
    exact ⟨rfl, HB.out⟩)
end Go.Proofs.YtlcfoiapkblheaaGreatDoor
