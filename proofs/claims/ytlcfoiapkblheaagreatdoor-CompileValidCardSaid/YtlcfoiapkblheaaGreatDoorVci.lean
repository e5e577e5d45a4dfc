/- compile.checkInstr answers OK at the instructions of valid code (printed by gen_vci.py) -/
import Derived.Test.YtlcfoiapkblheaaGreatDoorVir
import Derived.Test.YtlcfoiapkblheaaGreatDoorVpl
namespace Go.Proofs.YtlcfoiapkblheaaGreatDoor
open Go.RowKit Go.Proofs Go.Shelf

theorem InR.keep {w w' : World} {A1 : Option Addr} {n1 c1 len : Nat} {j a b : Int} (h : InR w A1 n1 c1 len j a b) (hb : Below w.heap.size w w') : InR w' A1 n1 c1 len j a b :=
  ⟨h.i1, h.i2, h.i3, h.i4, fun e => by
    obtain ⟨k, g, e1, e2, e3, e4, e5, e6⟩ := h.i5 e
    exact ⟨k, g, e1, e2, e3, e4, e5, (hb.cell (World.block_lt_of_cell? w ⟨g, k * 3 + 1, none⟩ e6)).trans e6⟩, h.i8, h.i15, h.i16⟩
theorem fields_int (j : Int) (fa fb fn : Bool) (h0 : 1 ≤ j) (h1 : j ≤ 16) (ha : fldA j = fa) (hb : fldB j = fb) (hn : fldN j = fn) (w : World) : Calls Tryz.prog 213 #[.int .i64 j] w fun e w' => e = .returned (.tuple #[.bool fa, .bool fb, .bool fn, .bool true]) ∧ w = w' := by
  obtain ⟨n, rfl⟩ := Int.eq_ofNat_of_zero_le (show 0 ≤ j by omega)
  subst ha hb hn
  exact fields_any n (by omega) (by omega) w


set_option maxRecDepth 100000 in
set_option maxHeartbeats 4000000 in
theorem checkInstr_1 (lb : ByteArray) (A1 : Option Addr) (n1 c1 : Nat) (A2 : Option Addr) (n2 c2 : Nat) (cap : Int) (par : Bool) (lA : Option Addr) (len lc : Nat) (a : Int) (nm : ByteArray) (w : World) (h : InR w A1 n1 c1 len 1 a 0) (hn : nm.toList = []) :
    Calls Tryz.prog 169 #[.agg #[.string lb, .slice A1 n1 c1, .slice A2 n2 c2], .agg #[.int .i64 cap, .bool par, .slice lA len lc], .agg #[.int .i64 1, .int .i64 a, .int .i64 0, .string nm]] w fun e w' => e = .returned (.int .i64 0) ∧ Below w.heap.size w w' := by
  obtain ⟨W0, hW0⟩ : ∃ W0, ((w.alloc (.cells #[.string lb, .slice A1 n1 c1, .slice A2 n2 c2] 31)).alloc (.cells #[.int .i64 cap, .bool par, .slice lA len lc] 52)).alloc (.cells #[.int .i64 1, .int .i64 a, .int .i64 0, .string nm] 90) = W0 := ⟨_, rfl⟩
  have hB0 : Below w.heap.size w W0 := by subst hW0; exact (((Below.refl _ _).alloc (Nat.le_refl _) _).alloc (by simp) _).alloc (by simp; omega) _
  have hz0 : w.heap.size + 3 = W0.heap.size := by subst hW0; simp
  have x0 : W0.cell? ⟨w.heap.size, 0, none⟩ = some (.string lb) := by subst hW0; go_simp
  have x1 : W0.cell? ⟨w.heap.size, 1, none⟩ = some (.slice A1 n1 c1) := by subst hW0; go_simp
  have x2 : W0.cell? ⟨w.heap.size, 2, none⟩ = some (.slice A2 n2 c2) := by subst hW0; go_simp
  have y0 : W0.cell? ⟨w.heap.size + 1, 0, none⟩ = some (.int .i64 cap) := by subst hW0; go_simp
  have y1 : W0.cell? ⟨w.heap.size + 1, 1, none⟩ = some (.bool par) := by subst hW0; go_simp
  have y2 : W0.cell? ⟨w.heap.size + 1, 2, none⟩ = some (.slice lA len lc) := by subst hW0; go_simp
  have z0 : W0.cell? ⟨w.heap.size + 1 + 1, 0, none⟩ = some (.int .i64 1) := by subst hW0; go_simp
  have z1 : W0.cell? ⟨w.heap.size + 1 + 1, 1, none⟩ = some (.int .i64 a) := by subst hW0; go_simp
  have z2 : W0.cell? ⟨w.heap.size + 1 + 1, 2, none⟩ = some (.int .i64 0) := by subst hW0; go_simp
  have z3 : W0.cell? ⟨w.heap.size + 1 + 1, 3, none⟩ = some (.string nm) := by subst hW0; go_simp
  have HF := Lib.hid (fields_int 1 true false false (by omega) (by omega) rfl rfl rfl W0)
  have HI := Lib.hid (h.keep hB0)
  have HB := Lib.hid hB0
  clear h hB0
  go_enter Tryz.func169, Tryz.ntmps169
  go_wp2_with fail
  refine HF.out.mono ?_
  rintro e w1 ⟨rfl, rfl⟩
  have HR := Lib.hid (inRange_any lb A1 n1 c1 A2 n2 c2 cap par lA len lc 1 a 0 nm W0 (by omega) (by omega) HI.out)
  go_wp2_with fail
  refine HR.out.mono ?_
  rintro e w2 ⟨rfl, hb2⟩
  have HB2 := Lib.hid (HB.out.trans (hb2.mono HB.out.size))
  clear hb2
  go_wp2
  go_ret
  exact ⟨rfl, HB2.out⟩

set_option maxRecDepth 100000 in
set_option maxHeartbeats 4000000 in
theorem checkInstr_2 (lb : ByteArray) (A1 : Option Addr) (n1 c1 : Nat) (A2 : Option Addr) (n2 c2 : Nat) (cap : Int) (par : Bool) (lA : Option Addr) (len lc : Nat) (a : Int) (nm : ByteArray) (w : World) (h : InR w A1 n1 c1 len 2 a 0) (hn : nm.toList = []) :
    Calls Tryz.prog 169 #[.agg #[.string lb, .slice A1 n1 c1, .slice A2 n2 c2], .agg #[.int .i64 cap, .bool par, .slice lA len lc], .agg #[.int .i64 2, .int .i64 a, .int .i64 0, .string nm]] w fun e w' => e = .returned (.int .i64 0) ∧ Below w.heap.size w w' := by
  obtain ⟨W0, hW0⟩ : ∃ W0, ((w.alloc (.cells #[.string lb, .slice A1 n1 c1, .slice A2 n2 c2] 31)).alloc (.cells #[.int .i64 cap, .bool par, .slice lA len lc] 52)).alloc (.cells #[.int .i64 2, .int .i64 a, .int .i64 0, .string nm] 90) = W0 := ⟨_, rfl⟩
  have hB0 : Below w.heap.size w W0 := by subst hW0; exact (((Below.refl _ _).alloc (Nat.le_refl _) _).alloc (by simp) _).alloc (by simp; omega) _
  have hz0 : w.heap.size + 3 = W0.heap.size := by subst hW0; simp
  have x0 : W0.cell? ⟨w.heap.size, 0, none⟩ = some (.string lb) := by subst hW0; go_simp
  have x1 : W0.cell? ⟨w.heap.size, 1, none⟩ = some (.slice A1 n1 c1) := by subst hW0; go_simp
  have x2 : W0.cell? ⟨w.heap.size, 2, none⟩ = some (.slice A2 n2 c2) := by subst hW0; go_simp
  have y0 : W0.cell? ⟨w.heap.size + 1, 0, none⟩ = some (.int .i64 cap) := by subst hW0; go_simp
  have y1 : W0.cell? ⟨w.heap.size + 1, 1, none⟩ = some (.bool par) := by subst hW0; go_simp
  have y2 : W0.cell? ⟨w.heap.size + 1, 2, none⟩ = some (.slice lA len lc) := by subst hW0; go_simp
  have z0 : W0.cell? ⟨w.heap.size + 1 + 1, 0, none⟩ = some (.int .i64 2) := by subst hW0; go_simp
  have z1 : W0.cell? ⟨w.heap.size + 1 + 1, 1, none⟩ = some (.int .i64 a) := by subst hW0; go_simp
  have z2 : W0.cell? ⟨w.heap.size + 1 + 1, 2, none⟩ = some (.int .i64 0) := by subst hW0; go_simp
  have z3 : W0.cell? ⟨w.heap.size + 1 + 1, 3, none⟩ = some (.string nm) := by subst hW0; go_simp
  have HF := Lib.hid (fields_int 2 true false false (by omega) (by omega) rfl rfl rfl W0)
  have HI := Lib.hid (h.keep hB0)
  have HB := Lib.hid hB0
  clear h hB0
  go_enter Tryz.func169, Tryz.ntmps169
  go_wp2_with fail
  refine HF.out.mono ?_
  rintro e w1 ⟨rfl, rfl⟩
  have HR := Lib.hid (inRange_any lb A1 n1 c1 A2 n2 c2 cap par lA len lc 2 a 0 nm W0 (by omega) (by omega) HI.out)
  go_wp2_with fail
  refine HR.out.mono ?_
  rintro e w2 ⟨rfl, hb2⟩
  have HB2 := Lib.hid (HB.out.trans (hb2.mono HB.out.size))
  clear hb2
  go_wp2
  go_ret
  exact ⟨rfl, HB2.out⟩

set_option maxRecDepth 100000 in
set_option maxHeartbeats 4000000 in
theorem checkInstr_3 (lb : ByteArray) (A1 : Option Addr) (n1 c1 : Nat) (A2 : Option Addr) (n2 c2 : Nat) (cap : Int) (par : Bool) (lA : Option Addr) (len lc : Nat) (a : Int) (nm : ByteArray) (w : World) (h : InR w A1 n1 c1 len 3 a 0) (hn : nm.toList = []) :
    Calls Tryz.prog 169 #[.agg #[.string lb, .slice A1 n1 c1, .slice A2 n2 c2], .agg #[.int .i64 cap, .bool par, .slice lA len lc], .agg #[.int .i64 3, .int .i64 a, .int .i64 0, .string nm]] w fun e w' => e = .returned (.int .i64 0) ∧ Below w.heap.size w w' := by
  obtain ⟨W0, hW0⟩ : ∃ W0, ((w.alloc (.cells #[.string lb, .slice A1 n1 c1, .slice A2 n2 c2] 31)).alloc (.cells #[.int .i64 cap, .bool par, .slice lA len lc] 52)).alloc (.cells #[.int .i64 3, .int .i64 a, .int .i64 0, .string nm] 90) = W0 := ⟨_, rfl⟩
  have hB0 : Below w.heap.size w W0 := by subst hW0; exact (((Below.refl _ _).alloc (Nat.le_refl _) _).alloc (by simp) _).alloc (by simp; omega) _
  have hz0 : w.heap.size + 3 = W0.heap.size := by subst hW0; simp
  have x0 : W0.cell? ⟨w.heap.size, 0, none⟩ = some (.string lb) := by subst hW0; go_simp
  have x1 : W0.cell? ⟨w.heap.size, 1, none⟩ = some (.slice A1 n1 c1) := by subst hW0; go_simp
  have x2 : W0.cell? ⟨w.heap.size, 2, none⟩ = some (.slice A2 n2 c2) := by subst hW0; go_simp
  have y0 : W0.cell? ⟨w.heap.size + 1, 0, none⟩ = some (.int .i64 cap) := by subst hW0; go_simp
  have y1 : W0.cell? ⟨w.heap.size + 1, 1, none⟩ = some (.bool par) := by subst hW0; go_simp
  have y2 : W0.cell? ⟨w.heap.size + 1, 2, none⟩ = some (.slice lA len lc) := by subst hW0; go_simp
  have z0 : W0.cell? ⟨w.heap.size + 1 + 1, 0, none⟩ = some (.int .i64 3) := by subst hW0; go_simp
  have z1 : W0.cell? ⟨w.heap.size + 1 + 1, 1, none⟩ = some (.int .i64 a) := by subst hW0; go_simp
  have z2 : W0.cell? ⟨w.heap.size + 1 + 1, 2, none⟩ = some (.int .i64 0) := by subst hW0; go_simp
  have z3 : W0.cell? ⟨w.heap.size + 1 + 1, 3, none⟩ = some (.string nm) := by subst hW0; go_simp
  have HF := Lib.hid (fields_int 3 true false false (by omega) (by omega) rfl rfl rfl W0)
  have HI := Lib.hid (h.keep hB0)
  have HB := Lib.hid hB0
  clear h hB0
  go_enter Tryz.func169, Tryz.ntmps169
  go_wp2_with fail
  refine HF.out.mono ?_
  rintro e w1 ⟨rfl, rfl⟩
  have HR := Lib.hid (inRange_any lb A1 n1 c1 A2 n2 c2 cap par lA len lc 3 a 0 nm W0 (by omega) (by omega) HI.out)
  go_wp2_with fail
  refine HR.out.mono ?_
  rintro e w2 ⟨rfl, hb2⟩
  have HB2 := Lib.hid (HB.out.trans (hb2.mono HB.out.size))
  clear hb2
  go_wp2
  go_ret
  exact ⟨rfl, HB2.out⟩

set_option maxRecDepth 100000 in
set_option maxHeartbeats 4000000 in
theorem checkInstr_4 (lb : ByteArray) (A1 : Option Addr) (n1 c1 : Nat) (A2 : Option Addr) (n2 c2 : Nat) (cap : Int) (par : Bool) (lA : Option Addr) (len lc : Nat) (a : Int) (nm : ByteArray) (w : World) (h : InR w A1 n1 c1 len 4 a 0) (hlab : labelB nm = true) :
    Calls Tryz.prog 169 #[.agg #[.string lb, .slice A1 n1 c1, .slice A2 n2 c2], .agg #[.int .i64 cap, .bool par, .slice lA len lc], .agg #[.int .i64 4, .int .i64 a, .int .i64 0, .string nm]] w fun e w' => e = .returned (.int .i64 0) ∧ Below w.heap.size w w' := by
  obtain ⟨W0, hW0⟩ : ∃ W0, ((w.alloc (.cells #[.string lb, .slice A1 n1 c1, .slice A2 n2 c2] 31)).alloc (.cells #[.int .i64 cap, .bool par, .slice lA len lc] 52)).alloc (.cells #[.int .i64 4, .int .i64 a, .int .i64 0, .string nm] 90) = W0 := ⟨_, rfl⟩
  have hB0 : Below w.heap.size w W0 := by subst hW0; exact (((Below.refl _ _).alloc (Nat.le_refl _) _).alloc (by simp) _).alloc (by simp; omega) _
  have hz0 : w.heap.size + 3 = W0.heap.size := by subst hW0; simp
  have x0 : W0.cell? ⟨w.heap.size, 0, none⟩ = some (.string lb) := by subst hW0; go_simp
  have x1 : W0.cell? ⟨w.heap.size, 1, none⟩ = some (.slice A1 n1 c1) := by subst hW0; go_simp
  have x2 : W0.cell? ⟨w.heap.size, 2, none⟩ = some (.slice A2 n2 c2) := by subst hW0; go_simp
  have y0 : W0.cell? ⟨w.heap.size + 1, 0, none⟩ = some (.int .i64 cap) := by subst hW0; go_simp
  have y1 : W0.cell? ⟨w.heap.size + 1, 1, none⟩ = some (.bool par) := by subst hW0; go_simp
  have y2 : W0.cell? ⟨w.heap.size + 1, 2, none⟩ = some (.slice lA len lc) := by subst hW0; go_simp
  have z0 : W0.cell? ⟨w.heap.size + 1 + 1, 0, none⟩ = some (.int .i64 4) := by subst hW0; go_simp
  have z1 : W0.cell? ⟨w.heap.size + 1 + 1, 1, none⟩ = some (.int .i64 a) := by subst hW0; go_simp
  have z2 : W0.cell? ⟨w.heap.size + 1 + 1, 2, none⟩ = some (.int .i64 0) := by subst hW0; go_simp
  have z3 : W0.cell? ⟨w.heap.size + 1 + 1, 3, none⟩ = some (.string nm) := by subst hW0; go_simp
  have HF := Lib.hid (fields_int 4 true false true (by omega) (by omega) rfl rfl rfl W0)
  have HI := Lib.hid (h.keep hB0)
  have HB := Lib.hid hB0
  clear h hB0
  go_enter Tryz.func169, Tryz.ntmps169
  go_wp2_with fail
  refine HF.out.mono ?_
  rintro e w1 ⟨rfl, rfl⟩
  have HL := Lib.hid (label_any nm W0)
  rw [hlab] at HL
  go_wp2_with fail
  refine HL.out.mono ?_
  rintro e w1 ⟨rfl, hb1⟩
  have HB1 := Lib.hid (HB.out.trans (hb1.mono (by omega)))
  have HI1 := Lib.hid (HI.out.keep hb1)
  have x0' := (hb1.cell (p := ⟨w.heap.size, 0, none⟩) (by show w.heap.size < W0.heap.size; omega)).trans x0
  have x1' := (hb1.cell (p := ⟨w.heap.size, 1, none⟩) (by show w.heap.size < W0.heap.size; omega)).trans x1
  have x2' := (hb1.cell (p := ⟨w.heap.size, 2, none⟩) (by show w.heap.size < W0.heap.size; omega)).trans x2
  have y0' := (hb1.cell (p := ⟨w.heap.size + 1, 0, none⟩) (by show w.heap.size + 1 < W0.heap.size; omega)).trans y0
  have y1' := (hb1.cell (p := ⟨w.heap.size + 1, 1, none⟩) (by show w.heap.size + 1 < W0.heap.size; omega)).trans y1
  have y2' := (hb1.cell (p := ⟨w.heap.size + 1, 2, none⟩) (by show w.heap.size + 1 < W0.heap.size; omega)).trans y2
  have z0' := (hb1.cell (p := ⟨w.heap.size + 1 + 1, 0, none⟩) (by show w.heap.size + 1 + 1 < W0.heap.size; omega)).trans z0
  have z1' := (hb1.cell (p := ⟨w.heap.size + 1 + 1, 1, none⟩) (by show w.heap.size + 1 + 1 < W0.heap.size; omega)).trans z1
  have z2' := (hb1.cell (p := ⟨w.heap.size + 1 + 1, 2, none⟩) (by show w.heap.size + 1 + 1 < W0.heap.size; omega)).trans z2
  have z3' := (hb1.cell (p := ⟨w.heap.size + 1 + 1, 3, none⟩) (by show w.heap.size + 1 + 1 < W0.heap.size; omega)).trans z3
  clear hb1 x0 x1 x2 y0 y1 y2 z0 z1 z2 z3 hW0
  have HR := Lib.hid (inRange_any lb A1 n1 c1 A2 n2 c2 cap par lA len lc 4 a 0 nm w1 (by omega) (by omega) HI1.out)
  go_wp2_with fail
  refine HR.out.mono ?_
  rintro e w2 ⟨rfl, hb2⟩
  have HB2 := Lib.hid (HB1.out.trans (hb2.mono HB1.out.size))
  clear hb2
  go_wp2
  go_ret
  exact ⟨rfl, HB2.out⟩

set_option maxRecDepth 100000 in
set_option maxHeartbeats 4000000 in
theorem checkInstr_5 (lb : ByteArray) (A1 : Option Addr) (n1 c1 : Nat) (A2 : Option Addr) (n2 c2 : Nat) (cap : Int) (par : Bool) (lA : Option Addr) (len lc : Nat) (a : Int) (nm : ByteArray) (w : World) (h : InR w A1 n1 c1 len 5 a 0) (hn : nm.toList = []) :
    Calls Tryz.prog 169 #[.agg #[.string lb, .slice A1 n1 c1, .slice A2 n2 c2], .agg #[.int .i64 cap, .bool par, .slice lA len lc], .agg #[.int .i64 5, .int .i64 a, .int .i64 0, .string nm]] w fun e w' => e = .returned (.int .i64 0) ∧ Below w.heap.size w w' := by
  obtain ⟨W0, hW0⟩ : ∃ W0, ((w.alloc (.cells #[.string lb, .slice A1 n1 c1, .slice A2 n2 c2] 31)).alloc (.cells #[.int .i64 cap, .bool par, .slice lA len lc] 52)).alloc (.cells #[.int .i64 5, .int .i64 a, .int .i64 0, .string nm] 90) = W0 := ⟨_, rfl⟩
  have hB0 : Below w.heap.size w W0 := by subst hW0; exact (((Below.refl _ _).alloc (Nat.le_refl _) _).alloc (by simp) _).alloc (by simp; omega) _
  have hz0 : w.heap.size + 3 = W0.heap.size := by subst hW0; simp
  have x0 : W0.cell? ⟨w.heap.size, 0, none⟩ = some (.string lb) := by subst hW0; go_simp
  have x1 : W0.cell? ⟨w.heap.size, 1, none⟩ = some (.slice A1 n1 c1) := by subst hW0; go_simp
  have x2 : W0.cell? ⟨w.heap.size, 2, none⟩ = some (.slice A2 n2 c2) := by subst hW0; go_simp
  have y0 : W0.cell? ⟨w.heap.size + 1, 0, none⟩ = some (.int .i64 cap) := by subst hW0; go_simp
  have y1 : W0.cell? ⟨w.heap.size + 1, 1, none⟩ = some (.bool par) := by subst hW0; go_simp
  have y2 : W0.cell? ⟨w.heap.size + 1, 2, none⟩ = some (.slice lA len lc) := by subst hW0; go_simp
  have z0 : W0.cell? ⟨w.heap.size + 1 + 1, 0, none⟩ = some (.int .i64 5) := by subst hW0; go_simp
  have z1 : W0.cell? ⟨w.heap.size + 1 + 1, 1, none⟩ = some (.int .i64 a) := by subst hW0; go_simp
  have z2 : W0.cell? ⟨w.heap.size + 1 + 1, 2, none⟩ = some (.int .i64 0) := by subst hW0; go_simp
  have z3 : W0.cell? ⟨w.heap.size + 1 + 1, 3, none⟩ = some (.string nm) := by subst hW0; go_simp
  have HF := Lib.hid (fields_int 5 true false false (by omega) (by omega) rfl rfl rfl W0)
  have HI := Lib.hid (h.keep hB0)
  have HB := Lib.hid hB0
  clear h hB0
  go_enter Tryz.func169, Tryz.ntmps169
  go_wp2_with fail
  refine HF.out.mono ?_
  rintro e w1 ⟨rfl, rfl⟩
  have HR := Lib.hid (inRange_any lb A1 n1 c1 A2 n2 c2 cap par lA len lc 5 a 0 nm W0 (by omega) (by omega) HI.out)
  go_wp2_with fail
  refine HR.out.mono ?_
  rintro e w2 ⟨rfl, hb2⟩
  have HB2 := Lib.hid (HB.out.trans (hb2.mono HB.out.size))
  clear hb2
  go_wp2
  go_ret
  exact ⟨rfl, HB2.out⟩

set_option maxRecDepth 100000 in
set_option maxHeartbeats 4000000 in
theorem checkInstr_6 (lb : ByteArray) (A1 : Option Addr) (n1 c1 : Nat) (A2 : Option Addr) (n2 c2 : Nat) (cap : Int) (par : Bool) (lA : Option Addr) (len lc : Nat) (nm : ByteArray) (w : World) (h : InR w A1 n1 c1 len 6 0 0) (hn : nm.toList = []) :
    Calls Tryz.prog 169 #[.agg #[.string lb, .slice A1 n1 c1, .slice A2 n2 c2], .agg #[.int .i64 cap, .bool par, .slice lA len lc], .agg #[.int .i64 6, .int .i64 0, .int .i64 0, .string nm]] w fun e w' => e = .returned (.int .i64 0) ∧ Below w.heap.size w w' := by
  obtain ⟨W0, hW0⟩ : ∃ W0, ((w.alloc (.cells #[.string lb, .slice A1 n1 c1, .slice A2 n2 c2] 31)).alloc (.cells #[.int .i64 cap, .bool par, .slice lA len lc] 52)).alloc (.cells #[.int .i64 6, .int .i64 0, .int .i64 0, .string nm] 90) = W0 := ⟨_, rfl⟩
  have hB0 : Below w.heap.size w W0 := by subst hW0; exact (((Below.refl _ _).alloc (Nat.le_refl _) _).alloc (by simp) _).alloc (by simp; omega) _
  have hz0 : w.heap.size + 3 = W0.heap.size := by subst hW0; simp
  have x0 : W0.cell? ⟨w.heap.size, 0, none⟩ = some (.string lb) := by subst hW0; go_simp
  have x1 : W0.cell? ⟨w.heap.size, 1, none⟩ = some (.slice A1 n1 c1) := by subst hW0; go_simp
  have x2 : W0.cell? ⟨w.heap.size, 2, none⟩ = some (.slice A2 n2 c2) := by subst hW0; go_simp
  have y0 : W0.cell? ⟨w.heap.size + 1, 0, none⟩ = some (.int .i64 cap) := by subst hW0; go_simp
  have y1 : W0.cell? ⟨w.heap.size + 1, 1, none⟩ = some (.bool par) := by subst hW0; go_simp
  have y2 : W0.cell? ⟨w.heap.size + 1, 2, none⟩ = some (.slice lA len lc) := by subst hW0; go_simp
  have z0 : W0.cell? ⟨w.heap.size + 1 + 1, 0, none⟩ = some (.int .i64 6) := by subst hW0; go_simp
  have z1 : W0.cell? ⟨w.heap.size + 1 + 1, 1, none⟩ = some (.int .i64 0) := by subst hW0; go_simp
  have z2 : W0.cell? ⟨w.heap.size + 1 + 1, 2, none⟩ = some (.int .i64 0) := by subst hW0; go_simp
  have z3 : W0.cell? ⟨w.heap.size + 1 + 1, 3, none⟩ = some (.string nm) := by subst hW0; go_simp
  have HF := Lib.hid (fields_int 6 false false false (by omega) (by omega) rfl rfl rfl W0)
  have HI := Lib.hid (h.keep hB0)
  have HB := Lib.hid hB0
  clear h hB0
  go_enter Tryz.func169, Tryz.ntmps169
  go_wp2_with fail
  refine HF.out.mono ?_
  rintro e w1 ⟨rfl, rfl⟩
  have HR := Lib.hid (inRange_any lb A1 n1 c1 A2 n2 c2 cap par lA len lc 6 0 0 nm W0 (by omega) (by omega) HI.out)
  go_wp2_with fail
  refine HR.out.mono ?_
  rintro e w2 ⟨rfl, hb2⟩
  have HB2 := Lib.hid (HB.out.trans (hb2.mono HB.out.size))
  clear hb2
  go_wp2
  go_ret
  exact ⟨rfl, HB2.out⟩

set_option maxRecDepth 100000 in
set_option maxHeartbeats 4000000 in
theorem checkInstr_7 (lb : ByteArray) (A1 : Option Addr) (n1 c1 : Nat) (A2 : Option Addr) (n2 c2 : Nat) (cap : Int) (par : Bool) (lA : Option Addr) (len lc : Nat) (nm : ByteArray) (w : World) (h : InR w A1 n1 c1 len 7 0 0) (hn : nm.toList = []) :
    Calls Tryz.prog 169 #[.agg #[.string lb, .slice A1 n1 c1, .slice A2 n2 c2], .agg #[.int .i64 cap, .bool par, .slice lA len lc], .agg #[.int .i64 7, .int .i64 0, .int .i64 0, .string nm]] w fun e w' => e = .returned (.int .i64 0) ∧ Below w.heap.size w w' := by
  obtain ⟨W0, hW0⟩ : ∃ W0, ((w.alloc (.cells #[.string lb, .slice A1 n1 c1, .slice A2 n2 c2] 31)).alloc (.cells #[.int .i64 cap, .bool par, .slice lA len lc] 52)).alloc (.cells #[.int .i64 7, .int .i64 0, .int .i64 0, .string nm] 90) = W0 := ⟨_, rfl⟩
  have hB0 : Below w.heap.size w W0 := by subst hW0; exact (((Below.refl _ _).alloc (Nat.le_refl _) _).alloc (by simp) _).alloc (by simp; omega) _
  have hz0 : w.heap.size + 3 = W0.heap.size := by subst hW0; simp
  have x0 : W0.cell? ⟨w.heap.size, 0, none⟩ = some (.string lb) := by subst hW0; go_simp
  have x1 : W0.cell? ⟨w.heap.size, 1, none⟩ = some (.slice A1 n1 c1) := by subst hW0; go_simp
  have x2 : W0.cell? ⟨w.heap.size, 2, none⟩ = some (.slice A2 n2 c2) := by subst hW0; go_simp
  have y0 : W0.cell? ⟨w.heap.size + 1, 0, none⟩ = some (.int .i64 cap) := by subst hW0; go_simp
  have y1 : W0.cell? ⟨w.heap.size + 1, 1, none⟩ = some (.bool par) := by subst hW0; go_simp
  have y2 : W0.cell? ⟨w.heap.size + 1, 2, none⟩ = some (.slice lA len lc) := by subst hW0; go_simp
  have z0 : W0.cell? ⟨w.heap.size + 1 + 1, 0, none⟩ = some (.int .i64 7) := by subst hW0; go_simp
  have z1 : W0.cell? ⟨w.heap.size + 1 + 1, 1, none⟩ = some (.int .i64 0) := by subst hW0; go_simp
  have z2 : W0.cell? ⟨w.heap.size + 1 + 1, 2, none⟩ = some (.int .i64 0) := by subst hW0; go_simp
  have z3 : W0.cell? ⟨w.heap.size + 1 + 1, 3, none⟩ = some (.string nm) := by subst hW0; go_simp
  have HF := Lib.hid (fields_int 7 false false false (by omega) (by omega) rfl rfl rfl W0)
  have HI := Lib.hid (h.keep hB0)
  have HB := Lib.hid hB0
  clear h hB0
  go_enter Tryz.func169, Tryz.ntmps169
  go_wp2_with fail
  refine HF.out.mono ?_
  rintro e w1 ⟨rfl, rfl⟩
  have HR := Lib.hid (inRange_any lb A1 n1 c1 A2 n2 c2 cap par lA len lc 7 0 0 nm W0 (by omega) (by omega) HI.out)
  go_wp2_with fail
  refine HR.out.mono ?_
  rintro e w2 ⟨rfl, hb2⟩
  have HB2 := Lib.hid (HB.out.trans (hb2.mono HB.out.size))
  clear hb2
  go_wp2
  go_ret
  exact ⟨rfl, HB2.out⟩

set_option maxRecDepth 100000 in
set_option maxHeartbeats 4000000 in
theorem checkInstr_8 (lb : ByteArray) (A1 : Option Addr) (n1 c1 : Nat) (A2 : Option Addr) (n2 c2 : Nat) (cap : Int) (par : Bool) (lA : Option Addr) (len lc : Nat) (a : Int) (nm : ByteArray) (w : World) (h : InR w A1 n1 c1 len 8 a 0) (hn : nm.toList = []) :
    Calls Tryz.prog 169 #[.agg #[.string lb, .slice A1 n1 c1, .slice A2 n2 c2], .agg #[.int .i64 cap, .bool par, .slice lA len lc], .agg #[.int .i64 8, .int .i64 a, .int .i64 0, .string nm]] w fun e w' => e = .returned (.int .i64 0) ∧ Below w.heap.size w w' := by
  obtain ⟨W0, hW0⟩ : ∃ W0, ((w.alloc (.cells #[.string lb, .slice A1 n1 c1, .slice A2 n2 c2] 31)).alloc (.cells #[.int .i64 cap, .bool par, .slice lA len lc] 52)).alloc (.cells #[.int .i64 8, .int .i64 a, .int .i64 0, .string nm] 90) = W0 := ⟨_, rfl⟩
  have hB0 : Below w.heap.size w W0 := by subst hW0; exact (((Below.refl _ _).alloc (Nat.le_refl _) _).alloc (by simp) _).alloc (by simp; omega) _
  have hz0 : w.heap.size + 3 = W0.heap.size := by subst hW0; simp
  have x0 : W0.cell? ⟨w.heap.size, 0, none⟩ = some (.string lb) := by subst hW0; go_simp
  have x1 : W0.cell? ⟨w.heap.size, 1, none⟩ = some (.slice A1 n1 c1) := by subst hW0; go_simp
  have x2 : W0.cell? ⟨w.heap.size, 2, none⟩ = some (.slice A2 n2 c2) := by subst hW0; go_simp
  have y0 : W0.cell? ⟨w.heap.size + 1, 0, none⟩ = some (.int .i64 cap) := by subst hW0; go_simp
  have y1 : W0.cell? ⟨w.heap.size + 1, 1, none⟩ = some (.bool par) := by subst hW0; go_simp
  have y2 : W0.cell? ⟨w.heap.size + 1, 2, none⟩ = some (.slice lA len lc) := by subst hW0; go_simp
  have z0 : W0.cell? ⟨w.heap.size + 1 + 1, 0, none⟩ = some (.int .i64 8) := by subst hW0; go_simp
  have z1 : W0.cell? ⟨w.heap.size + 1 + 1, 1, none⟩ = some (.int .i64 a) := by subst hW0; go_simp
  have z2 : W0.cell? ⟨w.heap.size + 1 + 1, 2, none⟩ = some (.int .i64 0) := by subst hW0; go_simp
  have z3 : W0.cell? ⟨w.heap.size + 1 + 1, 3, none⟩ = some (.string nm) := by subst hW0; go_simp
  have HF := Lib.hid (fields_int 8 true false false (by omega) (by omega) rfl rfl rfl W0)
  have HI := Lib.hid (h.keep hB0)
  have HB := Lib.hid hB0
  clear h hB0
  go_enter Tryz.func169, Tryz.ntmps169
  go_wp2_with fail
  refine HF.out.mono ?_
  rintro e w1 ⟨rfl, rfl⟩
  have HR := Lib.hid (inRange_any lb A1 n1 c1 A2 n2 c2 cap par lA len lc 8 a 0 nm W0 (by omega) (by omega) HI.out)
  go_wp2_with fail
  refine HR.out.mono ?_
  rintro e w2 ⟨rfl, hb2⟩
  have HB2 := Lib.hid (HB.out.trans (hb2.mono HB.out.size))
  clear hb2
  go_wp2
  go_ret
  exact ⟨rfl, HB2.out⟩

set_option maxRecDepth 100000 in
set_option maxHeartbeats 4000000 in
theorem checkInstr_9 (lb : ByteArray) (A1 : Option Addr) (n1 c1 : Nat) (A2 : Option Addr) (n2 c2 : Nat) (cap : Int) (par : Bool) (lA : Option Addr) (len lc : Nat) (a : Int) (nm : ByteArray) (w : World) (h : InR w A1 n1 c1 len 9 a 0) (hn : nm.toList = []) :
    Calls Tryz.prog 169 #[.agg #[.string lb, .slice A1 n1 c1, .slice A2 n2 c2], .agg #[.int .i64 cap, .bool par, .slice lA len lc], .agg #[.int .i64 9, .int .i64 a, .int .i64 0, .string nm]] w fun e w' => e = .returned (.int .i64 0) ∧ Below w.heap.size w w' := by
  obtain ⟨W0, hW0⟩ : ∃ W0, ((w.alloc (.cells #[.string lb, .slice A1 n1 c1, .slice A2 n2 c2] 31)).alloc (.cells #[.int .i64 cap, .bool par, .slice lA len lc] 52)).alloc (.cells #[.int .i64 9, .int .i64 a, .int .i64 0, .string nm] 90) = W0 := ⟨_, rfl⟩
  have hB0 : Below w.heap.size w W0 := by subst hW0; exact (((Below.refl _ _).alloc (Nat.le_refl _) _).alloc (by simp) _).alloc (by simp; omega) _
  have hz0 : w.heap.size + 3 = W0.heap.size := by subst hW0; simp
  have x0 : W0.cell? ⟨w.heap.size, 0, none⟩ = some (.string lb) := by subst hW0; go_simp
  have x1 : W0.cell? ⟨w.heap.size, 1, none⟩ = some (.slice A1 n1 c1) := by subst hW0; go_simp
  have x2 : W0.cell? ⟨w.heap.size, 2, none⟩ = some (.slice A2 n2 c2) := by subst hW0; go_simp
  have y0 : W0.cell? ⟨w.heap.size + 1, 0, none⟩ = some (.int .i64 cap) := by subst hW0; go_simp
  have y1 : W0.cell? ⟨w.heap.size + 1, 1, none⟩ = some (.bool par) := by subst hW0; go_simp
  have y2 : W0.cell? ⟨w.heap.size + 1, 2, none⟩ = some (.slice lA len lc) := by subst hW0; go_simp
  have z0 : W0.cell? ⟨w.heap.size + 1 + 1, 0, none⟩ = some (.int .i64 9) := by subst hW0; go_simp
  have z1 : W0.cell? ⟨w.heap.size + 1 + 1, 1, none⟩ = some (.int .i64 a) := by subst hW0; go_simp
  have z2 : W0.cell? ⟨w.heap.size + 1 + 1, 2, none⟩ = some (.int .i64 0) := by subst hW0; go_simp
  have z3 : W0.cell? ⟨w.heap.size + 1 + 1, 3, none⟩ = some (.string nm) := by subst hW0; go_simp
  have HF := Lib.hid (fields_int 9 true false false (by omega) (by omega) rfl rfl rfl W0)
  have HI := Lib.hid (h.keep hB0)
  have HB := Lib.hid hB0
  clear h hB0
  go_enter Tryz.func169, Tryz.ntmps169
  go_wp2_with fail
  refine HF.out.mono ?_
  rintro e w1 ⟨rfl, rfl⟩
  have HR := Lib.hid (inRange_any lb A1 n1 c1 A2 n2 c2 cap par lA len lc 9 a 0 nm W0 (by omega) (by omega) HI.out)
  go_wp2_with fail
  refine HR.out.mono ?_
  rintro e w2 ⟨rfl, hb2⟩
  have HB2 := Lib.hid (HB.out.trans (hb2.mono HB.out.size))
  clear hb2
  go_wp2
  go_ret
  exact ⟨rfl, HB2.out⟩

set_option maxRecDepth 100000 in
set_option maxHeartbeats 4000000 in
theorem checkInstr_10 (lb : ByteArray) (A1 : Option Addr) (n1 c1 : Nat) (A2 : Option Addr) (n2 c2 : Nat) (cap : Int) (par : Bool) (lA : Option Addr) (len lc : Nat) (ch : UInt8) (w : World) (h : InR w A1 n1 c1 len 10 0 0) (hch : decide (0 ≤ Lib.indexByte [43, 45, 42, 61, 60] ch) = true) :
    Calls Tryz.prog 169 #[.agg #[.string lb, .slice A1 n1 c1, .slice A2 n2 c2], .agg #[.int .i64 cap, .bool par, .slice lA len lc], .agg #[.int .i64 10, .int .i64 0, .int .i64 0, .string ⟨#[ch]⟩]] w fun e w' => e = .returned (.int .i64 0) ∧ Below w.heap.size w w' := by
  obtain ⟨W0, hW0⟩ : ∃ W0, ((w.alloc (.cells #[.string lb, .slice A1 n1 c1, .slice A2 n2 c2] 31)).alloc (.cells #[.int .i64 cap, .bool par, .slice lA len lc] 52)).alloc (.cells #[.int .i64 10, .int .i64 0, .int .i64 0, .string ⟨#[ch]⟩] 90) = W0 := ⟨_, rfl⟩
  have hB0 : Below w.heap.size w W0 := by subst hW0; exact (((Below.refl _ _).alloc (Nat.le_refl _) _).alloc (by simp) _).alloc (by simp; omega) _
  have hz0 : w.heap.size + 3 = W0.heap.size := by subst hW0; simp
  have x0 : W0.cell? ⟨w.heap.size, 0, none⟩ = some (.string lb) := by subst hW0; go_simp
  have x1 : W0.cell? ⟨w.heap.size, 1, none⟩ = some (.slice A1 n1 c1) := by subst hW0; go_simp
  have x2 : W0.cell? ⟨w.heap.size, 2, none⟩ = some (.slice A2 n2 c2) := by subst hW0; go_simp
  have y0 : W0.cell? ⟨w.heap.size + 1, 0, none⟩ = some (.int .i64 cap) := by subst hW0; go_simp
  have y1 : W0.cell? ⟨w.heap.size + 1, 1, none⟩ = some (.bool par) := by subst hW0; go_simp
  have y2 : W0.cell? ⟨w.heap.size + 1, 2, none⟩ = some (.slice lA len lc) := by subst hW0; go_simp
  have z0 : W0.cell? ⟨w.heap.size + 1 + 1, 0, none⟩ = some (.int .i64 10) := by subst hW0; go_simp
  have z1 : W0.cell? ⟨w.heap.size + 1 + 1, 1, none⟩ = some (.int .i64 0) := by subst hW0; go_simp
  have z2 : W0.cell? ⟨w.heap.size + 1 + 1, 2, none⟩ = some (.int .i64 0) := by subst hW0; go_simp
  have z3 : W0.cell? ⟨w.heap.size + 1 + 1, 3, none⟩ = some (.string ⟨#[ch]⟩) := by subst hW0; go_simp
  have HF := Lib.hid (fields_int 10 false false true (by omega) (by omega) rfl rfl rfl W0)
  have HI := Lib.hid (h.keep hB0)
  have HB := Lib.hid hB0
  clear h hB0
  go_enter Tryz.func169, Tryz.ntmps169
  go_wp2_with fail
  refine HF.out.mono ?_
  rintro e w1 ⟨rfl, rfl⟩
  have HC := Lib.hid (contains_one ⟨#[43, 45, 42, 61, 60]⟩ ch W0)
  simp only at HC
  rw [hch] at HC
  go_wp2_with fail
  refine HC.out.mono ?_
  rintro e w1 ⟨rfl, rfl⟩
  have HR := Lib.hid (inRange_any lb A1 n1 c1 A2 n2 c2 cap par lA len lc 10 0 0 ⟨#[ch]⟩ W0 (by omega) (by omega) HI.out)
  go_wp2_with fail
  refine HR.out.mono ?_
  rintro e w2 ⟨rfl, hb2⟩
  have HB2 := Lib.hid (HB.out.trans (hb2.mono HB.out.size))
  clear hb2
  go_wp2
  go_ret
  exact ⟨rfl, HB2.out⟩

set_option maxRecDepth 100000 in
set_option maxHeartbeats 4000000 in
theorem checkInstr_11 (lb : ByteArray) (A1 : Option Addr) (n1 c1 : Nat) (A2 : Option Addr) (n2 c2 : Nat) (cap : Int) (par : Bool) (lA : Option Addr) (len lc : Nat) (nm : ByteArray) (w : World) (h : InR w A1 n1 c1 len 11 0 0) (hn : nm.toList = []) :
    Calls Tryz.prog 169 #[.agg #[.string lb, .slice A1 n1 c1, .slice A2 n2 c2], .agg #[.int .i64 cap, .bool par, .slice lA len lc], .agg #[.int .i64 11, .int .i64 0, .int .i64 0, .string nm]] w fun e w' => e = .returned (.int .i64 0) ∧ Below w.heap.size w w' := by
  obtain ⟨W0, hW0⟩ : ∃ W0, ((w.alloc (.cells #[.string lb, .slice A1 n1 c1, .slice A2 n2 c2] 31)).alloc (.cells #[.int .i64 cap, .bool par, .slice lA len lc] 52)).alloc (.cells #[.int .i64 11, .int .i64 0, .int .i64 0, .string nm] 90) = W0 := ⟨_, rfl⟩
  have hB0 : Below w.heap.size w W0 := by subst hW0; exact (((Below.refl _ _).alloc (Nat.le_refl _) _).alloc (by simp) _).alloc (by simp; omega) _
  have hz0 : w.heap.size + 3 = W0.heap.size := by subst hW0; simp
  have x0 : W0.cell? ⟨w.heap.size, 0, none⟩ = some (.string lb) := by subst hW0; go_simp
  have x1 : W0.cell? ⟨w.heap.size, 1, none⟩ = some (.slice A1 n1 c1) := by subst hW0; go_simp
  have x2 : W0.cell? ⟨w.heap.size, 2, none⟩ = some (.slice A2 n2 c2) := by subst hW0; go_simp
  have y0 : W0.cell? ⟨w.heap.size + 1, 0, none⟩ = some (.int .i64 cap) := by subst hW0; go_simp
  have y1 : W0.cell? ⟨w.heap.size + 1, 1, none⟩ = some (.bool par) := by subst hW0; go_simp
  have y2 : W0.cell? ⟨w.heap.size + 1, 2, none⟩ = some (.slice lA len lc) := by subst hW0; go_simp
  have z0 : W0.cell? ⟨w.heap.size + 1 + 1, 0, none⟩ = some (.int .i64 11) := by subst hW0; go_simp
  have z1 : W0.cell? ⟨w.heap.size + 1 + 1, 1, none⟩ = some (.int .i64 0) := by subst hW0; go_simp
  have z2 : W0.cell? ⟨w.heap.size + 1 + 1, 2, none⟩ = some (.int .i64 0) := by subst hW0; go_simp
  have z3 : W0.cell? ⟨w.heap.size + 1 + 1, 3, none⟩ = some (.string nm) := by subst hW0; go_simp
  have HF := Lib.hid (fields_int 11 false false false (by omega) (by omega) rfl rfl rfl W0)
  have HI := Lib.hid (h.keep hB0)
  have HB := Lib.hid hB0
  clear h hB0
  go_enter Tryz.func169, Tryz.ntmps169
  go_wp2_with fail
  refine HF.out.mono ?_
  rintro e w1 ⟨rfl, rfl⟩
  have HR := Lib.hid (inRange_any lb A1 n1 c1 A2 n2 c2 cap par lA len lc 11 0 0 nm W0 (by omega) (by omega) HI.out)
  go_wp2_with fail
  refine HR.out.mono ?_
  rintro e w2 ⟨rfl, hb2⟩
  have HB2 := Lib.hid (HB.out.trans (hb2.mono HB.out.size))
  clear hb2
  go_wp2
  go_ret
  exact ⟨rfl, HB2.out⟩

set_option maxRecDepth 100000 in
set_option maxHeartbeats 4000000 in
theorem checkInstr_12 (lb : ByteArray) (A1 : Option Addr) (n1 c1 : Nat) (A2 : Option Addr) (n2 c2 : Nat) (cap : Int) (par : Bool) (lA : Option Addr) (len lc : Nat) (nm : ByteArray) (w : World) (h : InR w A1 n1 c1 len 12 0 0) (hn : nm.toList = []) :
    Calls Tryz.prog 169 #[.agg #[.string lb, .slice A1 n1 c1, .slice A2 n2 c2], .agg #[.int .i64 cap, .bool par, .slice lA len lc], .agg #[.int .i64 12, .int .i64 0, .int .i64 0, .string nm]] w fun e w' => e = .returned (.int .i64 0) ∧ Below w.heap.size w w' := by
  obtain ⟨W0, hW0⟩ : ∃ W0, ((w.alloc (.cells #[.string lb, .slice A1 n1 c1, .slice A2 n2 c2] 31)).alloc (.cells #[.int .i64 cap, .bool par, .slice lA len lc] 52)).alloc (.cells #[.int .i64 12, .int .i64 0, .int .i64 0, .string nm] 90) = W0 := ⟨_, rfl⟩
  have hB0 : Below w.heap.size w W0 := by subst hW0; exact (((Below.refl _ _).alloc (Nat.le_refl _) _).alloc (by simp) _).alloc (by simp; omega) _
  have hz0 : w.heap.size + 3 = W0.heap.size := by subst hW0; simp
  have x0 : W0.cell? ⟨w.heap.size, 0, none⟩ = some (.string lb) := by subst hW0; go_simp
  have x1 : W0.cell? ⟨w.heap.size, 1, none⟩ = some (.slice A1 n1 c1) := by subst hW0; go_simp
  have x2 : W0.cell? ⟨w.heap.size, 2, none⟩ = some (.slice A2 n2 c2) := by subst hW0; go_simp
  have y0 : W0.cell? ⟨w.heap.size + 1, 0, none⟩ = some (.int .i64 cap) := by subst hW0; go_simp
  have y1 : W0.cell? ⟨w.heap.size + 1, 1, none⟩ = some (.bool par) := by subst hW0; go_simp
  have y2 : W0.cell? ⟨w.heap.size + 1, 2, none⟩ = some (.slice lA len lc) := by subst hW0; go_simp
  have z0 : W0.cell? ⟨w.heap.size + 1 + 1, 0, none⟩ = some (.int .i64 12) := by subst hW0; go_simp
  have z1 : W0.cell? ⟨w.heap.size + 1 + 1, 1, none⟩ = some (.int .i64 0) := by subst hW0; go_simp
  have z2 : W0.cell? ⟨w.heap.size + 1 + 1, 2, none⟩ = some (.int .i64 0) := by subst hW0; go_simp
  have z3 : W0.cell? ⟨w.heap.size + 1 + 1, 3, none⟩ = some (.string nm) := by subst hW0; go_simp
  have HF := Lib.hid (fields_int 12 false false false (by omega) (by omega) rfl rfl rfl W0)
  have HI := Lib.hid (h.keep hB0)
  have HB := Lib.hid hB0
  clear h hB0
  go_enter Tryz.func169, Tryz.ntmps169
  go_wp2_with fail
  refine HF.out.mono ?_
  rintro e w1 ⟨rfl, rfl⟩
  have HR := Lib.hid (inRange_any lb A1 n1 c1 A2 n2 c2 cap par lA len lc 12 0 0 nm W0 (by omega) (by omega) HI.out)
  go_wp2_with fail
  refine HR.out.mono ?_
  rintro e w2 ⟨rfl, hb2⟩
  have HB2 := Lib.hid (HB.out.trans (hb2.mono HB.out.size))
  clear hb2
  go_wp2
  go_ret
  exact ⟨rfl, HB2.out⟩

set_option maxRecDepth 100000 in
set_option maxHeartbeats 4000000 in
theorem checkInstr_13 (lb : ByteArray) (A1 : Option Addr) (n1 c1 : Nat) (A2 : Option Addr) (n2 c2 : Nat) (cap : Int) (par : Bool) (lA : Option Addr) (len lc : Nat) (a : Int) (nm : ByteArray) (w : World) (h : InR w A1 n1 c1 len 13 a 0) (hn : nm.toList = []) :
    Calls Tryz.prog 169 #[.agg #[.string lb, .slice A1 n1 c1, .slice A2 n2 c2], .agg #[.int .i64 cap, .bool par, .slice lA len lc], .agg #[.int .i64 13, .int .i64 a, .int .i64 0, .string nm]] w fun e w' => e = .returned (.int .i64 0) ∧ Below w.heap.size w w' := by
  obtain ⟨W0, hW0⟩ : ∃ W0, ((w.alloc (.cells #[.string lb, .slice A1 n1 c1, .slice A2 n2 c2] 31)).alloc (.cells #[.int .i64 cap, .bool par, .slice lA len lc] 52)).alloc (.cells #[.int .i64 13, .int .i64 a, .int .i64 0, .string nm] 90) = W0 := ⟨_, rfl⟩
  have hB0 : Below w.heap.size w W0 := by subst hW0; exact (((Below.refl _ _).alloc (Nat.le_refl _) _).alloc (by simp) _).alloc (by simp; omega) _
  have hz0 : w.heap.size + 3 = W0.heap.size := by subst hW0; simp
  have x0 : W0.cell? ⟨w.heap.size, 0, none⟩ = some (.string lb) := by subst hW0; go_simp
  have x1 : W0.cell? ⟨w.heap.size, 1, none⟩ = some (.slice A1 n1 c1) := by subst hW0; go_simp
  have x2 : W0.cell? ⟨w.heap.size, 2, none⟩ = some (.slice A2 n2 c2) := by subst hW0; go_simp
  have y0 : W0.cell? ⟨w.heap.size + 1, 0, none⟩ = some (.int .i64 cap) := by subst hW0; go_simp
  have y1 : W0.cell? ⟨w.heap.size + 1, 1, none⟩ = some (.bool par) := by subst hW0; go_simp
  have y2 : W0.cell? ⟨w.heap.size + 1, 2, none⟩ = some (.slice lA len lc) := by subst hW0; go_simp
  have z0 : W0.cell? ⟨w.heap.size + 1 + 1, 0, none⟩ = some (.int .i64 13) := by subst hW0; go_simp
  have z1 : W0.cell? ⟨w.heap.size + 1 + 1, 1, none⟩ = some (.int .i64 a) := by subst hW0; go_simp
  have z2 : W0.cell? ⟨w.heap.size + 1 + 1, 2, none⟩ = some (.int .i64 0) := by subst hW0; go_simp
  have z3 : W0.cell? ⟨w.heap.size + 1 + 1, 3, none⟩ = some (.string nm) := by subst hW0; go_simp
  have HF := Lib.hid (fields_int 13 true false false (by omega) (by omega) rfl rfl rfl W0)
  have HI := Lib.hid (h.keep hB0)
  have HB := Lib.hid hB0
  clear h hB0
  go_enter Tryz.func169, Tryz.ntmps169
  go_wp2_with fail
  refine HF.out.mono ?_
  rintro e w1 ⟨rfl, rfl⟩
  have HR := Lib.hid (inRange_any lb A1 n1 c1 A2 n2 c2 cap par lA len lc 13 a 0 nm W0 (by omega) (by omega) HI.out)
  go_wp2_with fail
  refine HR.out.mono ?_
  rintro e w2 ⟨rfl, hb2⟩
  have HB2 := Lib.hid (HB.out.trans (hb2.mono HB.out.size))
  clear hb2
  go_wp2
  go_ret
  exact ⟨rfl, HB2.out⟩

set_option maxRecDepth 100000 in
set_option maxHeartbeats 4000000 in
theorem checkInstr_14 (lb : ByteArray) (A1 : Option Addr) (n1 c1 : Nat) (A2 : Option Addr) (n2 c2 : Nat) (cap : Int) (par : Bool) (lA : Option Addr) (len lc : Nat) (nm : ByteArray) (w : World) (h : InR w A1 n1 c1 len 14 0 0) (hn : nm.toList = []) :
    Calls Tryz.prog 169 #[.agg #[.string lb, .slice A1 n1 c1, .slice A2 n2 c2], .agg #[.int .i64 cap, .bool par, .slice lA len lc], .agg #[.int .i64 14, .int .i64 0, .int .i64 0, .string nm]] w fun e w' => e = .returned (.int .i64 0) ∧ Below w.heap.size w w' := by
  obtain ⟨W0, hW0⟩ : ∃ W0, ((w.alloc (.cells #[.string lb, .slice A1 n1 c1, .slice A2 n2 c2] 31)).alloc (.cells #[.int .i64 cap, .bool par, .slice lA len lc] 52)).alloc (.cells #[.int .i64 14, .int .i64 0, .int .i64 0, .string nm] 90) = W0 := ⟨_, rfl⟩
  have hB0 : Below w.heap.size w W0 := by subst hW0; exact (((Below.refl _ _).alloc (Nat.le_refl _) _).alloc (by simp) _).alloc (by simp; omega) _
  have hz0 : w.heap.size + 3 = W0.heap.size := by subst hW0; simp
  have x0 : W0.cell? ⟨w.heap.size, 0, none⟩ = some (.string lb) := by subst hW0; go_simp
  have x1 : W0.cell? ⟨w.heap.size, 1, none⟩ = some (.slice A1 n1 c1) := by subst hW0; go_simp
  have x2 : W0.cell? ⟨w.heap.size, 2, none⟩ = some (.slice A2 n2 c2) := by subst hW0; go_simp
  have y0 : W0.cell? ⟨w.heap.size + 1, 0, none⟩ = some (.int .i64 cap) := by subst hW0; go_simp
  have y1 : W0.cell? ⟨w.heap.size + 1, 1, none⟩ = some (.bool par) := by subst hW0; go_simp
  have y2 : W0.cell? ⟨w.heap.size + 1, 2, none⟩ = some (.slice lA len lc) := by subst hW0; go_simp
  have z0 : W0.cell? ⟨w.heap.size + 1 + 1, 0, none⟩ = some (.int .i64 14) := by subst hW0; go_simp
  have z1 : W0.cell? ⟨w.heap.size + 1 + 1, 1, none⟩ = some (.int .i64 0) := by subst hW0; go_simp
  have z2 : W0.cell? ⟨w.heap.size + 1 + 1, 2, none⟩ = some (.int .i64 0) := by subst hW0; go_simp
  have z3 : W0.cell? ⟨w.heap.size + 1 + 1, 3, none⟩ = some (.string nm) := by subst hW0; go_simp
  have HF := Lib.hid (fields_int 14 false false false (by omega) (by omega) rfl rfl rfl W0)
  have HI := Lib.hid (h.keep hB0)
  have HB := Lib.hid hB0
  clear h hB0
  go_enter Tryz.func169, Tryz.ntmps169
  go_wp2_with fail
  refine HF.out.mono ?_
  rintro e w1 ⟨rfl, rfl⟩
  have HR := Lib.hid (inRange_any lb A1 n1 c1 A2 n2 c2 cap par lA len lc 14 0 0 nm W0 (by omega) (by omega) HI.out)
  go_wp2_with fail
  refine HR.out.mono ?_
  rintro e w2 ⟨rfl, hb2⟩
  have HB2 := Lib.hid (HB.out.trans (hb2.mono HB.out.size))
  clear hb2
  go_wp2
  go_ret
  exact ⟨rfl, HB2.out⟩

set_option maxRecDepth 100000 in
set_option maxHeartbeats 4000000 in
theorem checkInstr_15 (lb : ByteArray) (A1 : Option Addr) (n1 c1 : Nat) (A2 : Option Addr) (n2 c2 : Nat) (cap : Int) (par : Bool) (lA : Option Addr) (len lc : Nat) (a : Int) (nm : ByteArray) (w : World) (h : InR w A1 n1 c1 len 15 a 0) (hn : nm.toList = []) :
    Calls Tryz.prog 169 #[.agg #[.string lb, .slice A1 n1 c1, .slice A2 n2 c2], .agg #[.int .i64 cap, .bool par, .slice lA len lc], .agg #[.int .i64 15, .int .i64 a, .int .i64 0, .string nm]] w fun e w' => e = .returned (.int .i64 0) ∧ Below w.heap.size w w' := by
  obtain ⟨W0, hW0⟩ : ∃ W0, ((w.alloc (.cells #[.string lb, .slice A1 n1 c1, .slice A2 n2 c2] 31)).alloc (.cells #[.int .i64 cap, .bool par, .slice lA len lc] 52)).alloc (.cells #[.int .i64 15, .int .i64 a, .int .i64 0, .string nm] 90) = W0 := ⟨_, rfl⟩
  have hB0 : Below w.heap.size w W0 := by subst hW0; exact (((Below.refl _ _).alloc (Nat.le_refl _) _).alloc (by simp) _).alloc (by simp; omega) _
  have hz0 : w.heap.size + 3 = W0.heap.size := by subst hW0; simp
  have x0 : W0.cell? ⟨w.heap.size, 0, none⟩ = some (.string lb) := by subst hW0; go_simp
  have x1 : W0.cell? ⟨w.heap.size, 1, none⟩ = some (.slice A1 n1 c1) := by subst hW0; go_simp
  have x2 : W0.cell? ⟨w.heap.size, 2, none⟩ = some (.slice A2 n2 c2) := by subst hW0; go_simp
  have y0 : W0.cell? ⟨w.heap.size + 1, 0, none⟩ = some (.int .i64 cap) := by subst hW0; go_simp
  have y1 : W0.cell? ⟨w.heap.size + 1, 1, none⟩ = some (.bool par) := by subst hW0; go_simp
  have y2 : W0.cell? ⟨w.heap.size + 1, 2, none⟩ = some (.slice lA len lc) := by subst hW0; go_simp
  have z0 : W0.cell? ⟨w.heap.size + 1 + 1, 0, none⟩ = some (.int .i64 15) := by subst hW0; go_simp
  have z1 : W0.cell? ⟨w.heap.size + 1 + 1, 1, none⟩ = some (.int .i64 a) := by subst hW0; go_simp
  have z2 : W0.cell? ⟨w.heap.size + 1 + 1, 2, none⟩ = some (.int .i64 0) := by subst hW0; go_simp
  have z3 : W0.cell? ⟨w.heap.size + 1 + 1, 3, none⟩ = some (.string nm) := by subst hW0; go_simp
  have HF := Lib.hid (fields_int 15 true false false (by omega) (by omega) rfl rfl rfl W0)
  have HI := Lib.hid (h.keep hB0)
  have HB := Lib.hid hB0
  clear h hB0
  go_enter Tryz.func169, Tryz.ntmps169
  go_wp2_with fail
  refine HF.out.mono ?_
  rintro e w1 ⟨rfl, rfl⟩
  have HR := Lib.hid (inRange_any lb A1 n1 c1 A2 n2 c2 cap par lA len lc 15 a 0 nm W0 (by omega) (by omega) HI.out)
  go_wp2_with fail
  refine HR.out.mono ?_
  rintro e w2 ⟨rfl, hb2⟩
  have HB2 := Lib.hid (HB.out.trans (hb2.mono HB.out.size))
  clear hb2
  go_wp2
  go_ret
  exact ⟨rfl, HB2.out⟩

set_option maxRecDepth 100000 in
set_option maxHeartbeats 4000000 in
theorem checkInstr_16 (lb : ByteArray) (A1 : Option Addr) (n1 c1 : Nat) (A2 : Option Addr) (n2 c2 : Nat) (cap : Int) (par : Bool) (lA : Option Addr) (len lc : Nat) (a : Int) (b : Int) (nm : ByteArray) (w : World) (h : InR w A1 n1 c1 len 16 a b) (hn : nm.toList = []) :
    Calls Tryz.prog 169 #[.agg #[.string lb, .slice A1 n1 c1, .slice A2 n2 c2], .agg #[.int .i64 cap, .bool par, .slice lA len lc], .agg #[.int .i64 16, .int .i64 a, .int .i64 b, .string nm]] w fun e w' => e = .returned (.int .i64 0) ∧ Below w.heap.size w w' := by
  obtain ⟨W0, hW0⟩ : ∃ W0, ((w.alloc (.cells #[.string lb, .slice A1 n1 c1, .slice A2 n2 c2] 31)).alloc (.cells #[.int .i64 cap, .bool par, .slice lA len lc] 52)).alloc (.cells #[.int .i64 16, .int .i64 a, .int .i64 b, .string nm] 90) = W0 := ⟨_, rfl⟩
  have hB0 : Below w.heap.size w W0 := by subst hW0; exact (((Below.refl _ _).alloc (Nat.le_refl _) _).alloc (by simp) _).alloc (by simp; omega) _
  have hz0 : w.heap.size + 3 = W0.heap.size := by subst hW0; simp
  have x0 : W0.cell? ⟨w.heap.size, 0, none⟩ = some (.string lb) := by subst hW0; go_simp
  have x1 : W0.cell? ⟨w.heap.size, 1, none⟩ = some (.slice A1 n1 c1) := by subst hW0; go_simp
  have x2 : W0.cell? ⟨w.heap.size, 2, none⟩ = some (.slice A2 n2 c2) := by subst hW0; go_simp
  have y0 : W0.cell? ⟨w.heap.size + 1, 0, none⟩ = some (.int .i64 cap) := by subst hW0; go_simp
  have y1 : W0.cell? ⟨w.heap.size + 1, 1, none⟩ = some (.bool par) := by subst hW0; go_simp
  have y2 : W0.cell? ⟨w.heap.size + 1, 2, none⟩ = some (.slice lA len lc) := by subst hW0; go_simp
  have z0 : W0.cell? ⟨w.heap.size + 1 + 1, 0, none⟩ = some (.int .i64 16) := by subst hW0; go_simp
  have z1 : W0.cell? ⟨w.heap.size + 1 + 1, 1, none⟩ = some (.int .i64 a) := by subst hW0; go_simp
  have z2 : W0.cell? ⟨w.heap.size + 1 + 1, 2, none⟩ = some (.int .i64 b) := by subst hW0; go_simp
  have z3 : W0.cell? ⟨w.heap.size + 1 + 1, 3, none⟩ = some (.string nm) := by subst hW0; go_simp
  have HF := Lib.hid (fields_int 16 true true false (by omega) (by omega) rfl rfl rfl W0)
  have HI := Lib.hid (h.keep hB0)
  have HB := Lib.hid hB0
  clear h hB0
  go_enter Tryz.func169, Tryz.ntmps169
  go_wp2_with fail
  refine HF.out.mono ?_
  rintro e w1 ⟨rfl, rfl⟩
  have HR := Lib.hid (inRange_any lb A1 n1 c1 A2 n2 c2 cap par lA len lc 16 a b nm W0 (by omega) (by omega) HI.out)
  go_wp2_with fail
  refine HR.out.mono ?_
  rintro e w2 ⟨rfl, hb2⟩
  have HB2 := Lib.hid (HB.out.trans (hb2.mono HB.out.size))
  clear hb2
  go_wp2
  go_ret
  exact ⟨rfl, HB2.out⟩

theorem checkInstr_any (lb : ByteArray) (A1 : Option Addr) (n1 c1 : Nat) (A2 : Option Addr) (n2 c2 : Nat) (cap : Int) (par : Bool) (lA : Option Addr) (len lc : Nat) (E : Nat) (x : Ins) (w : World) (hE : InsW E x) (h : InR w A1 n1 c1 len x.op x.a x.b) :
    Calls Tryz.prog 169 #[.agg #[.string lb, .slice A1 n1 c1, .slice A2 n2 c2], .agg #[.int .i64 cap, .bool par, .slice lA len lc], .agg #[.int .i64 x.op, .int .i64 x.a, .int .i64 x.b, .string x.nm]] w fun e w' => e = .returned (.int .i64 0) ∧ Below w.heap.size w w' := by
  obtain ⟨j, a, b, nm⟩ := x
  have fa := hE.fa
  have fb := hE.fb
  have fn := hE.fn
  have n4 := hE.n4
  have n10 := hE.n10
  have h01 := hE.op
  clear hE
  simp only at fa fb fn n4 n10 h01 h ⊢
  have hem : (⟨#[]⟩ : ByteArray).toList = [] := by rw [Lib.toList_data]
  rcases (show j = 1 ∨ j = 2 ∨ j = 3 ∨ j = 4 ∨ j = 5 ∨ j = 6 ∨ j = 7 ∨ j = 8 ∨ j = 9 ∨ j = 10 ∨ j = 11 ∨ j = 12 ∨ j = 13 ∨ j = 14 ∨ j = 15 ∨ j = 16 by omega) with rfl | rfl | rfl | rfl | rfl | rfl | rfl | rfl | rfl | rfl | rfl | rfl | rfl | rfl | rfl | rfl
  · obtain rfl := fb rfl
    obtain rfl := fn rfl
    exact checkInstr_1 lb A1 n1 c1 A2 n2 c2 cap par lA len lc a ⟨#[]⟩ w h hem
  · obtain rfl := fb rfl
    obtain rfl := fn rfl
    exact checkInstr_2 lb A1 n1 c1 A2 n2 c2 cap par lA len lc a ⟨#[]⟩ w h hem
  · obtain rfl := fb rfl
    obtain rfl := fn rfl
    exact checkInstr_3 lb A1 n1 c1 A2 n2 c2 cap par lA len lc a ⟨#[]⟩ w h hem
  · obtain rfl := fb rfl
    exact checkInstr_4 lb A1 n1 c1 A2 n2 c2 cap par lA len lc a nm w h (n4 rfl)
  · obtain rfl := fb rfl
    obtain rfl := fn rfl
    exact checkInstr_5 lb A1 n1 c1 A2 n2 c2 cap par lA len lc a ⟨#[]⟩ w h hem
  · obtain rfl := fa rfl
    obtain rfl := fb rfl
    obtain rfl := fn rfl
    exact checkInstr_6 lb A1 n1 c1 A2 n2 c2 cap par lA len lc  ⟨#[]⟩ w h hem
  · obtain rfl := fa rfl
    obtain rfl := fb rfl
    obtain rfl := fn rfl
    exact checkInstr_7 lb A1 n1 c1 A2 n2 c2 cap par lA len lc  ⟨#[]⟩ w h hem
  · obtain rfl := fb rfl
    obtain rfl := fn rfl
    exact checkInstr_8 lb A1 n1 c1 A2 n2 c2 cap par lA len lc a ⟨#[]⟩ w h hem
  · obtain rfl := fb rfl
    obtain rfl := fn rfl
    exact checkInstr_9 lb A1 n1 c1 A2 n2 c2 cap par lA len lc a ⟨#[]⟩ w h hem
  · obtain rfl := fa rfl
    obtain rfl := fb rfl
    have ho := n10 rfl
    unfold opB at ho
    simp only [Bool.and_eq_true] at ho
    obtain ⟨ch, rfl⟩ := size_one (of_decide_eq_true ho.1)
    exact checkInstr_10 lb A1 n1 c1 A2 n2 c2 cap par lA len lc ch w h ho.2
  · obtain rfl := fa rfl
    obtain rfl := fb rfl
    obtain rfl := fn rfl
    exact checkInstr_11 lb A1 n1 c1 A2 n2 c2 cap par lA len lc  ⟨#[]⟩ w h hem
  · obtain rfl := fa rfl
    obtain rfl := fb rfl
    obtain rfl := fn rfl
    exact checkInstr_12 lb A1 n1 c1 A2 n2 c2 cap par lA len lc  ⟨#[]⟩ w h hem
  · obtain rfl := fb rfl
    obtain rfl := fn rfl
    exact checkInstr_13 lb A1 n1 c1 A2 n2 c2 cap par lA len lc a ⟨#[]⟩ w h hem
  · obtain rfl := fa rfl
    obtain rfl := fb rfl
    obtain rfl := fn rfl
    exact checkInstr_14 lb A1 n1 c1 A2 n2 c2 cap par lA len lc  ⟨#[]⟩ w h hem
  · obtain rfl := fb rfl
    obtain rfl := fn rfl
    exact checkInstr_15 lb A1 n1 c1 A2 n2 c2 cap par lA len lc a ⟨#[]⟩ w h hem
  · obtain rfl := fn rfl
    exact checkInstr_16 lb A1 n1 c1 A2 n2 c2 cap par lA len lc a b ⟨#[]⟩ w h hem
end Go.Proofs.YtlcfoiapkblheaaGreatDoor
