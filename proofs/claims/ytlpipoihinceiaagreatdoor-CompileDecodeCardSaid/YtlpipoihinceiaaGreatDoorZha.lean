/- compile.checkInstr, ref28.instr: at any instruction (printed by gen_xcb.py) -/
import Derived.Test.YtlpipoihinceiaaGreatDoorXca
import Derived.Test.YtlpipoihinceiaaGreatDoorZhd
import Derived.Test.YtlpipoihinceiaaGreatDoorGkd
import Derived.Test.YtlpipoihinceiaaGreatDoorGkj
import Derived.Test.YtlpipoihinceiaaGreatDoorGkk
import Derived.Deep.RegionHeld3
namespace Go.Proofs.YtlpipoihinceiaaGreatDoor
open Go.RowKit Go.Proofs Go.Shelf

def C1B (j a b : Int) (nm : ByteArray) : Bool := ((!fldA j && !(a == 0)) || (!fldB j && !(b == 0))) || (!fldN j && !nm.toList.isEmpty)
def C2B (j : Int) (nm : ByteArray) : Bool := ((j == 4) && !labelB nm) || ((j == 10) && !opB nm)
/-- The code of an instruction's check. -/
def insE (bl : List Blk) (len : Nat) (j a b : Int) (nm : ByteArray) : Int :=
  if knO j = false then 9 else if C1B j a b nm = true then 1 else if C2B j nm = true then 6 else if rngB bl len j a b = false then 2 else 0
theorem ParAt.keep {w w' : World} {A : Option Addr} {c : Nat} {bl : List Blk} (h : ParAt w A c bl) (hb : Below w.heap.size w w') : ParAt w' A c bl :=
  ⟨h.1, h.2.1, fun k b e => by
    obtain ⟨g, o, e1, e2⟩ := h.2.2 k b e
    exact ⟨g, o, e1, (hb.cell (World.block_lt_of_cell? w ⟨g, o + k * 3 + 1, none⟩ e2)).trans e2⟩⟩

set_option maxRecDepth 100000 in
set_option maxHeartbeats 8000000 in
theorem checkInstr_gen (lb : ByteArray) (A1 : Option Addr) (c1 : Nat) (bl : List Blk) (A2 : Option Addr) (n2 c2 : Nat) (cap : Int) (par : Bool) (lA : Option Addr) (len lc : Nat) (j a b : Int) (nm : ByteArray) (w : World) (h : ParAt w A1 c1 bl) :
    Calls Tryz.prog 155 #[.agg #[.string lb, .slice A1 bl.length c1, .slice A2 n2 c2], .agg #[.int .i64 cap, .bool par, .slice lA len lc], .agg #[.int .i64 j, .int .i64 a, .int .i64 b, .string nm]] w fun e w' => e = .returned (.int .i64 (insE bl len j a b nm)) ∧ Below w.heap.size w w' := by
  obtain ⟨W0, hW0⟩ : ∃ W0, ((w.alloc (.cells #[.string lb, .slice A1 bl.length c1, .slice A2 n2 c2] 62)).alloc (.cells #[.int .i64 cap, .bool par, .slice lA len lc] 133)).alloc (.cells #[.int .i64 j, .int .i64 a, .int .i64 b, .string nm] 130) = W0 := ⟨_, rfl⟩
  have hB0 : Below w.heap.size w W0 := by subst hW0; exact (((Below.refl _ _).alloc (Nat.le_refl _) _).alloc (by simp) _).alloc (by simp; omega) _
  have hz0 : w.heap.size + 3 = W0.heap.size := by subst hW0; simp
  have x0 : W0.cell? ⟨w.heap.size, 0, none⟩ = some (.string lb) := by subst hW0; go_simp
  have x1 : W0.cell? ⟨w.heap.size, 1, none⟩ = some (.slice A1 bl.length c1) := by subst hW0; go_simp
  have x2 : W0.cell? ⟨w.heap.size, 2, none⟩ = some (.slice A2 n2 c2) := by subst hW0; go_simp
  have y0 : W0.cell? ⟨w.heap.size + 1, 0, none⟩ = some (.int .i64 cap) := by subst hW0; go_simp
  have y1 : W0.cell? ⟨w.heap.size + 1, 1, none⟩ = some (.bool par) := by subst hW0; go_simp
  have y2 : W0.cell? ⟨w.heap.size + 1, 2, none⟩ = some (.slice lA len lc) := by subst hW0; go_simp
  have z0 : W0.cell? ⟨w.heap.size + 1 + 1, 0, none⟩ = some (.int .i64 j) := by subst hW0; go_simp
  have z1 : W0.cell? ⟨w.heap.size + 1 + 1, 1, none⟩ = some (.int .i64 a) := by subst hW0; go_simp
  have z2 : W0.cell? ⟨w.heap.size + 1 + 1, 2, none⟩ = some (.int .i64 b) := by subst hW0; go_simp
  have z3 : W0.cell? ⟨w.heap.size + 1 + 1, 3, none⟩ = some (.string nm) := by subst hW0; go_simp
  have HF := Lib.hid (fields_gen j W0)
  have HP := Lib.hid (h.keep hB0)
  have HB := Lib.hid hB0
  have HZ := Lib.hid hz0
  clear h hB0 hz0
  obtain ⟨fa, Ha⟩ : ∃ q, Hid (fldA j = q) := ⟨_, Lib.hid rfl⟩
  obtain ⟨fb, Hb⟩ : ∃ q, Hid (fldB j = q) := ⟨_, Lib.hid rfl⟩
  obtain ⟨fn, Hn⟩ : ∃ q, Hid (fldN j = q) := ⟨_, Lib.hid rfl⟩
  obtain ⟨C1, HC1⟩ : ∃ q, Hid (C1B j a b nm = q) := ⟨_, Lib.hid rfl⟩
  obtain ⟨C2, HC2⟩ : ∃ q, Hid (C2B j nm = q) := ⟨_, Lib.hid rfl⟩
  obtain ⟨RG, HRG⟩ : ∃ q, Hid (rngB bl len j a b = q) := ⟨_, Lib.hid rfl⟩
  rw [Ha.out, Hb.out, Hn.out] at HF
  obtain ⟨kn, Hk⟩ : ∃ q, Hid (knO j = q) := ⟨_, Lib.hid rfl⟩
  rw [Hk.out] at HF
  go_enter Tryz.func155, Tryz.ntmps155
  go_wp2_with fail
  refine HF.out.mono ?_
  rintro e w1 ⟨rfl, rfl⟩
  cases kn with
  | false =>
    go_wp2
    go_ret
    exact ⟨by rw [insE, if_pos Hk.out]; rfl, HB.out⟩
  | true =>
    go_upto_region 4 with fail
    go_cut [45] (fun s45 wx => s45 = .bool C1 ∧ wx = W0)
    case first =>
      obtain ⟨az, haz⟩ : ∃ q, (a == 0) = q := ⟨_, rfl⟩
      obtain ⟨bz, hbz⟩ : ∃ q, (b == 0) = q := ⟨_, rfl⟩
      have haz' : (a != 0) = !az := by rw [← haz]; rfl
      have hbz' : (b != 0) = !bz := by rw [← hbz]; rfl
      have HAZ := Lib.hid haz
      have HBZ := Lib.hid hbz
      cases fa <;> cases fb <;> cases fn <;> cases az <;> cases bz
      all_goals (
        simp only [Bool.not_true, Bool.not_false] at haz' hbz'
        go_wp2
        all_goals (
          go_meet
          refine ⟨?_, rfl⟩
          rw [← HC1.out, C1B, Ha.out, Hb.out, Hn.out, HAZ.out, HBZ.out]
          (first | rfl | simp)))
    case rest =>
    obtain ⟨rfl, hw⟩ := hcut
    have hw2 := hw.symm
    clear hw
    subst hw2
    cases C1 with
    | true =>
      go_wp2
      go_ret
      exact ⟨by rw [insE, if_neg (by rw [Hk.out]; decide), if_pos HC1.out]; rfl, HB.out⟩
    | false =>
    obtain ⟨D1, HD1⟩ : ∃ q, Hid (((j == 4) && !labelB nm) = q) := ⟨_, Lib.hid rfl⟩
    obtain ⟨D2, HD2⟩ : ∃ q, Hid (((j == 10) && !opB nm) = q) := ⟨_, Lib.hid rfl⟩
    have HC3 := Lib.hid (show C2B j nm = (D1 || D2) by rw [← HD1.out, ← HD2.out]; rfl)
    go_upto_region 6 with fail
    go_cut [54] (fun s54 wy => s54 = .bool D1 ∧ Below W0.heap.size W0 wy)
    case first =>
      by_cases h4 : j = 4
      · have j4 : (j == 4) = true := by simpa using h4
        have HL := Lib.hid (label_any nm W0)
        have H4 := Lib.hid h4
        clear h4
        go_wp2_with fail
        refine HL.out.mono ?_
        rintro e w1 ⟨rfl, hb1⟩
        have HX := Lib.hid hb1
        clear hb1
        go_wp2
        go_meet
        exact ⟨by rw [← HD1.out, H4.out]; rfl, HX.out⟩
      · have j4 : (j == 4) = false := by simpa using h4
        go_wp2
        go_meet
        exact ⟨by rw [← HD1.out, j4]; rfl, Below.refl _ _⟩
    case rest =>
    obtain ⟨rfl, hb1⟩ := hcut
    have HB1 := Lib.hid (HB.out.trans (hb1.mono (by have := HZ.out; omega)))
    have HP1 := Lib.hid (HP.out.keep hb1)
    have hz0 := HZ.out
    have x0' := (hb1.cell (p := ⟨w.heap.size, 0, none⟩) (by show w.heap.size < W0.heap.size; omega)).trans x0
    have x1' := (hb1.cell (p := ⟨w.heap.size, 1, none⟩) (by show w.heap.size < W0.heap.size; omega)).trans x1
    have x2' := (hb1.cell (p := ⟨w.heap.size, 2, none⟩) (by show w.heap.size < W0.heap.size; omega)).trans x2
    have y0' := (hb1.cell (p := ⟨w.heap.size + 1, 0, none⟩) (by show w.heap.size + 1 < W0.heap.size; omega)).trans y0
    have y1' := (hb1.cell (p := ⟨w.heap.size + 1, 1, none⟩) (by show w.heap.size + 1 < W0.heap.size; omega)).trans y1
    have y2' := (hb1.cell (p := ⟨w.heap.size + 1, 2, none⟩) (by show w.heap.size + 1 < W0.heap.size; omega)).trans y2
    have z0' := (hb1.cell (p := ⟨w.heap.size + 1 + 1, 0, none⟩) (by show w.heap.size + 1 + 1 < W0.heap.size; omega)).trans z0
    have z1' := (hb1.cell (p := ⟨w.heap.size + 1 + 1, 1, none⟩) (by show w.heap.size + 1 + 1 < W0.heap.size; omega)).trans z1
    have z2' := (hb1.cell (p := ⟨w.heap.size + 1 + 1, 2, none⟩) (by show w.heap.size + 1 + 1 < W0.heap.size; omega)).trans z2
    have z3' := (hb1.cell (p := ⟨w.heap.size + 1 + 1, 3, none⟩) (by show w.heap.size + 1 + 1 < W0.heap.size; omega)).trans z3
    clear hz0 x0 x1 x2 y0 y1 y2 z0 z1 z2 z3 hW0
    have HB2 := Lib.hid hb1
    clear hb1
    cases D1 with
    | true =>
      go_wp2
      go_ret
      exact ⟨by rw [insE, if_neg (by rw [Hk.out]; decide), if_neg (by rw [HC1.out]; decide), if_pos (by rw [HC3.out]; rfl)]; rfl, HB1.out⟩
    | false =>
    go_upto_region 8 with fail
    go_cut [69] (fun s69 wz => s69 = .bool D2 ∧ wz = wc)
    case first =>
      by_cases h10 : j = 10
      · have j10 : (j == 10) = true := by simpa using h10
        have H10 := Lib.hid h10
        clear h10
        by_cases hs : nm.size = 1
        · obtain ⟨ch, rfl⟩ := size_one hs
          have HC := Lib.hid (contains_one ⟨#[43, 45, 42, 61, 60]⟩ ch wc)
          simp only at HC
          clear hs
          go_wp2_with fail
          refine HC.out.mono ?_
          rintro e w1 ⟨rfl, rfl⟩
          go_wp2
          go_meet
          exact ⟨by rw [← HD2.out, H10.out]; rfl, rfl⟩
        · have s1 : ((nm.size : Int) == 1) = false := by simp; omega
          have s2 : ((nm.size : Int) != 1) = true := by simp; omega
          have HS := Lib.hid hs
          clear hs
          go_wp2
          go_meet
          exact ⟨by rw [← HD2.out, H10.out, opB, decide_eq_false HS.out]; rfl, rfl⟩
      · have j10 : (j == 10) = false := by simpa using h10
        go_wp2
        go_meet
        exact ⟨by rw [← HD2.out, j10]; rfl, rfl⟩
    case rest =>
    obtain ⟨rfl, rfl⟩ := hcut
    cases D2 with
    | true =>
      go_wp2
      go_ret
      exact ⟨by rw [insE, if_neg (by rw [Hk.out]; decide), if_neg (by rw [HC1.out]; decide), if_pos (by rw [HC3.out]; rfl)]; rfl, HB1.out⟩
    | false =>
    have HR := Lib.hid (inRange_gen lb A1 c1 bl A2 n2 c2 cap par lA len lc j a b nm wc HP1.out)
    go_wp2_with fail
    refine HR.out.mono ?_
    rintro e w2 ⟨rfl, hb2⟩
    have HB3 := Lib.hid (HB1.out.trans (hb2.mono HB1.out.size))
    clear hb2
    rw [HRG.out]
    cases RG with
    | true =>
      go_wp2
      go_ret
      exact ⟨by rw [insE, if_neg (by rw [Hk.out]; decide), if_neg (by rw [HC1.out]; decide), if_neg (by rw [HC3.out]; decide), if_neg (by rw [HRG.out]; decide)]; rfl, HB3.out⟩
    | false =>
      go_wp2
      go_ret
      exact ⟨by rw [insE, if_neg (by rw [Hk.out]; decide), if_neg (by rw [HC1.out]; decide), if_neg (by rw [HC3.out]; decide), if_pos HRG.out]; rfl, HB3.out⟩

set_option maxRecDepth 100000 in
set_option maxHeartbeats 8000000 in
theorem instr28_gen (A1 : Option Addr) (c1 : Nat) (bl : List Blk) (len : Nat) (j a b : Int) (nm : ByteArray) (w : World) (h : ParAt w A1 c1 bl) (hnm : nm.size ≤ 9223372036854775807) :
    Calls Tryz.prog 156 #[.agg #[.int .i64 j, .int .i64 a, .int .i64 b, .string nm], .int .i64 len, .slice A1 bl.length c1] w fun e w' => e = .returned (.int .i64 (insE bl len j a b nm)) ∧ Below w.heap.size w w' := by
  obtain ⟨W0, hW0⟩ : ∃ W0, w.alloc (.cells #[.int .i64 j, .int .i64 a, .int .i64 b, .string nm] 130) = W0 := ⟨_, rfl⟩
  have hB0 : Below w.heap.size w W0 := by subst hW0; exact (Below.refl _ _).alloc (Nat.le_refl _) _
  have hz0 : w.heap.size + 1 = W0.heap.size := by subst hW0; simp
  have z0 : W0.cell? ⟨w.heap.size, 0, none⟩ = some (.int .i64 j) := by subst hW0; go_simp
  have z1 : W0.cell? ⟨w.heap.size, 1, none⟩ = some (.int .i64 a) := by subst hW0; go_simp
  have z2 : W0.cell? ⟨w.heap.size, 2, none⟩ = some (.int .i64 b) := by subst hW0; go_simp
  have z3 : W0.cell? ⟨w.heap.size, 3, none⟩ = some (.string nm) := by subst hW0; go_simp
  have HF := Lib.hid (fields28_any j W0)
  have HP := Lib.hid (h.keep hB0)
  have HB := Lib.hid hB0
  have HZ := Lib.hid hz0
  have HNM := Lib.hid hnm
  clear h hB0 hz0 hnm
  obtain ⟨fa, Ha⟩ : ∃ q, Hid (fldA j = q) := ⟨_, Lib.hid rfl⟩
  obtain ⟨fb, Hb⟩ : ∃ q, Hid (fldB j = q) := ⟨_, Lib.hid rfl⟩
  obtain ⟨fn, Hn⟩ : ∃ q, Hid (fldN j = q) := ⟨_, Lib.hid rfl⟩
  obtain ⟨C1, HC1⟩ : ∃ q, Hid (C1B j a b nm = q) := ⟨_, Lib.hid rfl⟩
  obtain ⟨C2, HC2⟩ : ∃ q, Hid (C2B j nm = q) := ⟨_, Lib.hid rfl⟩
  obtain ⟨RG, HRG⟩ : ∃ q, Hid (rngB bl len j a b = q) := ⟨_, Lib.hid rfl⟩
  rw [Ha.out, Hb.out, Hn.out] at HF
  obtain ⟨kn, Hk⟩ : ∃ q, Hid (knO j = q) := ⟨_, Lib.hid rfl⟩
  go_enter Tryz.func156, Tryz.ntmps156
  go_upto_region 1 with fail
  go_cut [17] (fun s17 wx => s17 = .bool (!kn) ∧ wx = W0)
  case first =>
    by_cases h1 : j < 1
    · have H1 := Lib.hid h1
      clear h1
      have d1 : decide (j < 1) = true := decide_eq_true H1.out
      go_wp2
      go_meet
      exact ⟨by rw [← Hk.out, knO, decide_eq_false (by have := H1.out; omega)]; rfl, rfl⟩
    · by_cases h2 : 16 < j
      · have H2 := Lib.hid h2
        have d1 : decide (j < 1) = false := decide_eq_false h1
        have d2 : decide (16 < j) = true := decide_eq_true h2
        clear h1 h2
        go_wp2
        go_meet
        exact ⟨by rw [← Hk.out, knO, decide_eq_false (p := j ≤ 16) (by have := H2.out; omega), Bool.and_false]; rfl, rfl⟩
      · have d1 : decide (j < 1) = false := decide_eq_false h1
        have d2 : decide (16 < j) = false := decide_eq_false h2
        have H1 := Lib.hid h1
        have H2 := Lib.hid h2
        clear h1 h2
        go_wp2
        go_meet
        exact ⟨by rw [← Hk.out, knO, decide_eq_true (by have := H1.out; omega), decide_eq_true (by have := H2.out; omega)]; rfl, rfl⟩
  case rest =>
  obtain ⟨rfl, hw⟩ := hcut
  have hw2 := hw.symm
  clear hw
  subst hw2
  cases kn with
  | false =>
    go_wp2
    go_ret
    exact ⟨by rw [insE, if_pos Hk.out]; rfl, HB.out⟩
  | true =>
    go_wp2_with fail
    refine HF.out.mono ?_
    rintro e w1 ⟨rfl, rfl⟩
    go_upto_region 4 with fail
    go_cut [49] (fun s49 wx => s49 = .bool C1 ∧ wx = W0)
    case first =>
      obtain ⟨az, haz⟩ : ∃ q, (a == 0) = q := ⟨_, rfl⟩
      obtain ⟨bz, hbz⟩ : ∃ q, (b == 0) = q := ⟨_, rfl⟩
      have haz' : (a != 0) = !az := by rw [← haz]; rfl
      have hbz' : (b != 0) = !bz := by rw [← hbz]; rfl
      have HAZ := Lib.hid haz
      have HBZ := Lib.hid hbz
      cases fa <;> cases fb <;> cases fn <;> cases az <;> cases bz
      all_goals (
        simp only [Bool.not_true, Bool.not_false] at haz' hbz'
        go_wp2
        all_goals (
          go_meet
          refine ⟨?_, rfl⟩
          rw [← HC1.out, C1B, Ha.out, Hb.out, Hn.out, HAZ.out, HBZ.out]
          (first | rfl | simp)))
    case rest =>
    obtain ⟨rfl, hw⟩ := hcut
    have hw2 := hw.symm
    clear hw
    subst hw2
    cases C1 with
    | true =>
      go_wp2
      go_ret
      exact ⟨by rw [insE, if_neg (by rw [Hk.out]; decide), if_pos HC1.out]; rfl, HB.out⟩
    | false =>
    go_upto_region 6 with fail
    go_cut [70] (fun s70 wy => s70 = .bool C2 ∧ Below W0.heap.size W0 wy)
    case first =>
      by_cases h4 : j = 4
      · have j4 : (j == 4) = true := by simpa using h4
        have j10 : (j == 10) = false := by simp; omega
        have HL := Lib.hid (Label20_any nm W0 HNM.out)
        have H4 := Lib.hid (show C2 = !labelB nm by rw [← HC2.out, C2B, j4, j10]; simp)
        clear h4
        generalize labelB nm = lb at HL H4
        cases lb
        all_goals (
          go_wp2_with fail
          refine HL.out.mono ?_
          rintro e w1 ⟨rfl, rfl⟩
          go_wp2
          go_meet
          exact ⟨by rw [H4.out]; rfl, Below.refl _ _⟩)
      · have j4 : (j == 4) = false := by simpa using h4
        clear h4
        by_cases h10 : j = 10
        · have j10 : (j == 10) = true := by simpa using h10
          clear h10
          have H10 := Lib.hid (show C2 = !hasS opsS nm by rw [← HC2.out, C2B, j4, j10, ops_has]; simp)
          have HH := Lib.hid (has21_any opsS nm _ _ _ (slS_ops W0))
          rw [show opsS.length = 5 from rfl] at HH
          have HX := Lib.hid ((Below.refl W0.heap.size W0).alloc (Nat.le_refl _) (.cells #[.string ⟨#[43]⟩, .string ⟨#[45]⟩, .string ⟨#[42]⟩, .string ⟨#[61]⟩, .string ⟨#[60]⟩] 9))
          generalize hasS opsS nm = hp at HH H10
          have hzX : w.heap.size < W0.heap.size := by have := HZ.out; omega
          go_wp2_with fail
          refine HH.out.mono ?_
          rintro e w2 ⟨rfl, rfl⟩
          go_wp2
          go_meet
          exact ⟨by rw [H10.out]; (first | done | rfl), HX.out⟩
        · have j10 : (j == 10) = false := by simpa using h10
          clear h10
          have H10 := Lib.hid (show C2 = false by rw [← HC2.out, C2B, j4, j10]; simp)
          go_wp2
          go_meet
          exact ⟨by rw [H10.out], Below.refl _ _⟩
    case rest =>
    obtain ⟨rfl, hb1⟩ := hcut
    have HB1 := Lib.hid (HB.out.trans (hb1.mono (by have := HZ.out; omega)))
    have HP1 := Lib.hid (HP.out.keep hb1)
    have hz0 := HZ.out
    have z0' := (hb1.cell (p := ⟨w.heap.size, 0, none⟩) (by show w.heap.size < W0.heap.size; omega)).trans z0
    have z1' := (hb1.cell (p := ⟨w.heap.size, 1, none⟩) (by show w.heap.size < W0.heap.size; omega)).trans z1
    have z2' := (hb1.cell (p := ⟨w.heap.size, 2, none⟩) (by show w.heap.size < W0.heap.size; omega)).trans z2
    have z3' := (hb1.cell (p := ⟨w.heap.size, 3, none⟩) (by show w.heap.size < W0.heap.size; omega)).trans z3
    clear hz0 z0 z1 z2 z3 hW0 hb1
    cases C2 with
    | true =>
      go_wp2
      go_ret
      exact ⟨by rw [insE, if_neg (by rw [Hk.out]; decide), if_neg (by rw [HC1.out]; decide), if_pos HC2.out]; rfl, HB1.out⟩
    | false =>
    have HR := Lib.hid (ranged28_gen A1 c1 bl len j a b nm wc HP1.out)
    go_wp2_with fail
    refine HR.out.mono ?_
    rintro e w2 ⟨rfl, hb2⟩
    have HB3 := Lib.hid (HB1.out.trans (hb2.mono HB1.out.size))
    clear hb2
    rw [HRG.out]
    cases RG with
    | true =>
      go_wp2
      go_ret
      exact ⟨by rw [insE, if_neg (by rw [Hk.out]; decide), if_neg (by rw [HC1.out]; decide), if_neg (by rw [HC2.out]; decide), if_neg (by rw [HRG.out]; decide)]; rfl, HB3.out⟩
    | false =>
      go_wp2
      go_ret
      exact ⟨by rw [insE, if_neg (by rw [Hk.out]; decide), if_neg (by rw [HC1.out]; decide), if_neg (by rw [HC2.out]; decide), if_pos HRG.out]; rfl, HB3.out⟩
end Go.Proofs.YtlpipoihinceiaaGreatDoor
/- compile.checkBlock, ref28.block: at any block -/
namespace Go.Proofs.YtlpipoihinceiaaGreatDoor
open Go.RowKit Go.Proofs Go.Shelf

/-- Instructions in memory. -/
def InsC (W : World) (lA : Option Addr) (lc : Nat) (l : List Ins) : Prop :=
  l.length ≤ lc ∧ lc ≤ 9223372036854775807 ∧ (∀ x ∈ l, x.nm.size ≤ 9223372036854775807) ∧ ∀ k x, l[k]? = some x → ∃ lg o, lA = some ⟨lg, o, none⟩ ∧ W.cell? ⟨lg, o + k * 4, none⟩ = some (.int .i64 x.op) ∧ W.cell? ⟨lg, o + k * 4 + 1, none⟩ = some (.int .i64 x.a) ∧ W.cell? ⟨lg, o + k * 4 + 2, none⟩ = some (.int .i64 x.b) ∧ W.cell? ⟨lg, o + k * 4 + 3, none⟩ = some (.string x.nm)
theorem InsC.keep {W X : World} {lA : Option Addr} {lc : Nat} {l : List Ins} (h : InsC W lA lc l) (hb : Below W.heap.size W X) : InsC X lA lc l :=
  ⟨h.1, h.2.1, h.2.2.1, fun k x hx => by
    obtain ⟨lg, o, e1, e4, e5, e6, e7⟩ := h.2.2.2 k x hx
    have hl : lg < W.heap.size := World.block_lt_of_cell? W ⟨lg, o + k * 4, none⟩ e4
    exact ⟨lg, o, e1, (hb.cell hl).trans e4, (hb.cell hl).trans e5, (hb.cell hl).trans e6, (hb.cell hl).trans e7⟩⟩
/-- Blocks in memory. -/
def BlkC (W : World) (A1 : Option Addr) (c1 : Nat) (bl : List Blk) : Prop :=
  bl.length ≤ c1 ∧ c1 ≤ 9223372036854775807 ∧ ∀ (k : Nat) (b : Blk), bl[k]? = some b → ∃ g o, A1 = some ⟨g, o, none⟩ ∧ W.cell? ⟨g, o + k * 3, none⟩ = some (.int .i64 b.cap) ∧ W.cell? ⟨g, o + k * 3 + 1, none⟩ = some (.bool b.par) ∧ ∃ lA lc, W.cell? ⟨g, o + k * 3 + 2, none⟩ = some (.slice lA b.l.length lc) ∧ InsC W lA lc b.l
theorem BlkC.keep {W X : World} {A1 : Option Addr} {c1 : Nat} {bl : List Blk} (h : BlkC W A1 c1 bl) (hb : Below W.heap.size W X) : BlkC X A1 c1 bl := ⟨h.1, h.2.1, fun k b hk => by
  obtain ⟨g, o, e1, e4, e5, lA, lc, e6, e7⟩ := h.2.2 k b hk
  have hl : g < W.heap.size := World.block_lt_of_cell? W ⟨g, o + k * 3, none⟩ e4
  exact ⟨g, o, e1, (hb.cell hl).trans e4, (hb.cell hl).trans e5, lA, lc, (hb.cell hl).trans e6, e7.keep hb⟩⟩
theorem BlkC.par {W : World} {A1 : Option Addr} {c1 : Nat} {bl : List Blk} (h : BlkC W A1 c1 bl) : ParAt W A1 c1 bl := ⟨h.1, h.2.1, fun k b hk => by
  obtain ⟨g, o, e1, e4, e5, _⟩ := h.2.2 k b hk
  exact ⟨g, o, e1, e5⟩⟩

/-- The first code that is not zero. -/
def frstE {α : Type} (f : α → Int) : List α → Int
  | [] => 0
  | x :: r => if f x = 0 then frstE f r else f x
theorem frstE_skip {α : Type} (f : α → Int) {l : List α} {j : Nat} {x : α} (hx : l[j]? = some x) (h : f x = 0) : frstE f (l.drop j) = frstE f (l.drop (j + 1)) := by
  have hj := (List.getElem?_eq_some_iff.1 hx).1
  have he : l[j] = x := (List.getElem?_eq_some_iff.1 hx).2
  rw [List.drop_eq_getElem_cons hj, frstE, he, if_pos h]
theorem frstE_stop {α : Type} (f : α → Int) {l : List α} {j : Nat} {x : α} (hx : l[j]? = some x) (h : f x ≠ 0) : frstE f (l.drop j) = f x := by
  have hj := (List.getElem?_eq_some_iff.1 hx).1
  have he : l[j] = x := (List.getElem?_eq_some_iff.1 hx).2
  rw [List.drop_eq_getElem_cons hj, frstE, he, if_neg h]
theorem frstE_end {α : Type} (f : α → Int) (l : List α) : frstE f (l.drop l.length) = 0 := by
  rw [List.drop_length]
  rfl
def insX (bl : List Blk) (len : Nat) (x : Ins) : Int := insE bl len x.op x.a x.b x.nm
def lastRet (l : List Ins) : Bool := match l[l.length - 1]? with
  | some x => x.op == 7
  | none => false
/-- The code of a block's check. -/
def blkE (bl : List Blk) (b : Blk) : Int :=
  if (decide (b.cap < 0) || decide (400 < b.cap)) = true then 2 else if lastRet b.l = false then 1 else frstE (insX bl b.l.length) b.l

set_option maxRecDepth 100000 in
set_option maxHeartbeats 8000000 in
theorem checkBlock_gen (lb : ByteArray) (A1 : Option Addr) (c1 : Nat) (A2 : Option Addr) (n2 c2 : Nat) (bl : List Blk) (b : Blk) (lA : Option Addr) (lc : Nat) (w : World) (hp : BlkC w A1 c1 bl) (hl : InsC w lA lc b.l) :
    Calls Tryz.prog 107 #[.agg #[.string lb, .slice A1 bl.length c1, .slice A2 n2 c2], .agg #[.int .i64 b.cap, .bool b.par, .slice lA b.l.length lc]] w fun e w' => e = .returned (.int .i64 (blkE bl b)) ∧ Below w.heap.size w w' := by
  obtain ⟨cap, par, l⟩ := b
  simp only at hl ⊢
  obtain ⟨N, HN⟩ : ∃ Q, Hid (l.length = Q) := ⟨_, Lib.hid rfl⟩
  obtain ⟨n1, HN1⟩ : ∃ Q, Hid (bl.length = Q) := ⟨_, Lib.hid rfl⟩
  obtain ⟨V, HV⟩ : ∃ Q, Hid (blkE bl ⟨cap, par, l⟩ = Q) := ⟨_, Lib.hid rfl⟩
  have hN0 := hl.1
  have hN1 := hl.2.1
  rw [HV.out, HN1.out, HN.out]
  rw [HN.out] at hN0
  obtain ⟨W0, hW0⟩ : ∃ W0, (w.alloc (.cells #[.string lb, .slice A1 n1 c1, .slice A2 n2 c2] 62)).alloc (.cells #[.int .i64 cap, .bool par, .slice lA N lc] 133) = W0 := ⟨_, rfl⟩
  have hB0 : Below w.heap.size w W0 := by subst hW0; exact ((Below.refl _ _).alloc (Nat.le_refl _) _).alloc (by simp) _
  have hz0 : w.heap.size + 2 = W0.heap.size := by subst hW0; simp
  have hx0 : W0.heap[w.heap.size]? = some (.cells #[.string lb, .slice A1 n1 c1, .slice A2 n2 c2] 62 (0, 0)) := by
    rw [← hW0, Below.heap_alloc _ _ _ (by simp)]
    exact heap_alloc_new w _
  have hx1 : W0.heap[w.heap.size + 1]? = some (.cells #[.int .i64 cap, .bool par, .slice lA N lc] 133 (0, 0)) := by
    rw [← hW0]
    have := heap_alloc_new (w.alloc (.cells #[.string lb, .slice A1 n1 c1, .slice A2 n2 c2] 62)) (.cells #[.int .i64 cap, .bool par, .slice lA N lc] 133)
    simpa using this
  have HC : Hid (∀ X, Below W0.heap.size W0 X → X.cell? ⟨w.heap.size, 0, none⟩ = some (.string lb) ∧ X.cell? ⟨w.heap.size, 1, none⟩ = some (.slice A1 n1 c1) ∧ X.cell? ⟨w.heap.size, 2, none⟩ = some (.slice A2 n2 c2) ∧ X.cell? ⟨w.heap.size + 1, 0, none⟩ = some (.int .i64 cap) ∧ X.cell? ⟨w.heap.size + 1, 1, none⟩ = some (.bool par) ∧ X.cell? ⟨w.heap.size + 1, 2, none⟩ = some (.slice lA N lc)) := fun X hX => by
    have h0 := (hX.block w.heap.size (by omega)).trans hx0
    have h1 := (hX.block (w.heap.size + 1) (by omega)).trans hx1
    exact ⟨cell_of_row X _ 0 _ _ (0, 0) h0, cell_of_row X _ 1 _ _ (0, 0) h0, cell_of_row X _ 2 _ _ (0, 0) h0, cell_of_row X _ 0 _ _ (0, 0) h1, cell_of_row X _ 1 _ _ (0, 0) h1, cell_of_row X _ 2 _ _ (0, 0) h1⟩
  obtain ⟨x0, x1, x2, y0, y1, y2⟩ := HC.out W0 (Below.refl _ _)
  have HL := Lib.hid (And.intro hl (And.intro hp hB0))
  clear hl hp hB0 hx0 hx1
  cases hc1 : decide (cap < 0) with
  | true =>
    have HX := Lib.hid (show V = 2 by rw [← HV.out, blkE, if_pos (by rw [hc1]; rfl)])
    go_enter Tryz.func107, Tryz.ntmps107
    go_wp2
    go_ret
    exact ⟨by rw [HX.out]; rfl, HL.out.2.2⟩
  | false =>
  cases hc2 : decide (400 < cap) with
  | true =>
    have HX := Lib.hid (show V = 2 by rw [← HV.out, blkE, if_pos (by rw [hc1, hc2]; rfl)])
    go_enter Tryz.func107, Tryz.ntmps107
    go_wp2
    go_ret
    exact ⟨by rw [HX.out]; rfl, HL.out.2.2⟩
  | false =>
  have HV2 := Lib.hid (show V = if lastRet l = false then 1 else frstE (insX bl l.length) l by rw [← HV.out, blkE, if_neg (by rw [hc1, hc2]; decide)])
  cases N with
  | zero =>
    have HX := Lib.hid (show V = 1 by rw [HV2.out, if_pos (by rw [lastRet, List.getElem?_eq_none (by have := HN.out; omega)])])
    go_enter Tryz.func107, Tryz.ntmps107
    go_wp2
    go_ret
    exact ⟨by rw [HX.out]; rfl, HL.out.2.2⟩
  | succ M =>
  obtain ⟨xl, hM3⟩ : ∃ xl, l[M]? = some xl := ⟨_, List.getElem?_eq_getElem (by rw [HN.out]; omega)⟩
  obtain ⟨lg, o, rfl, q0, _⟩ := HL.out.1.2.2.2 _ _ hM3
  have HLR := Lib.hid (show lastRet l = (xl.op == 7) by rw [lastRet, HN.out, Nat.add_sub_cancel, hM3])
  have q0' := (HL.out.2.2.cell (World.block_lt_of_cell? w ⟨lg, o + M * 4, none⟩ q0)).trans q0
  clear q0 hM3
  generalize xl.op = lop at q0' HLR
  have hw1 : IntKind.i64.wrap ((M : Int) + 1 - 1) = M := by rw [show ((M : Int) + 1 - 1) = M by omega]; exact IntWalk.i64_in _ (by omega)
  have hj0 : (0 : Int) ≤ (M : Int) := by omega
  have hj1 : (M : Int) < (M : Int) + 1 := by omega
  cases hop : lop == 7 with
  | false =>
    have hop' : (lop != 7) = true := by rw [bne, hop]; rfl
    have HX := Lib.hid (show V = 1 by rw [HV2.out, if_pos (by rw [HLR.out, hop])])
    go_enter Tryz.func107, Tryz.ntmps107
    go_wp2
    go_ret
    exact ⟨by rw [HX.out]; rfl, HL.out.2.2⟩
  | true =>
  obtain rfl : lop = 7 := by simpa using hop
  have HX := Lib.hid (show V = frstE (insX bl l.length) l by rw [HV2.out, if_neg (by rw [HLR.out]; decide)])
  clear hop HV2 HLR HV
  go_enter Tryz.func107, Tryz.ntmps107
  go_wp2_with fail
  clear q0' x0 x1 x2 y0 y1 y2 hw1 hj0 hj1 hc1 hc2
  go_loopg [6, 7, 35] (M + 1) (fun g _ _ ct wr => ∃ j : Nat, g = M + 1 - j ∧ j ≤ M + 1 ∧ ct = .int .i64 j ∧ Below W0.heap.size W0 wr ∧ V = frstE (insX bl l.length) (l.drop j))
  case atStart => exact ⟨0, rfl, by omega, rfl, Below.refl _ _, by rw [HX.out]; rfl⟩
  case round =>
    obtain ⟨j, HG, hj, rfl, hBr, hVj⟩ := hrel
    have HVJ := Lib.hid hVj
    clear hVj
    have hzr := hBr.size
    by_cases hlt : j < M + 1
    · have hlt' : j < l.length := by rw [HN.out]; exact hlt
      have hj3 : l[j]? = some l[j] := List.getElem?_eq_getElem hlt'
      have hbw := HL.out.2.2.trans (hBr.mono (by omega))
      obtain ⟨lg', o', hlA, f0, f1, f2, f3⟩ := (HL.out.1.keep hbw).2.2.2 _ _ hj3
      simp only [Option.some.injEq, Addr.mk.injEq, and_true] at hlA
      obtain ⟨rfl, rfl⟩ := hlA
      obtain ⟨x0, x1, x2, y0, y1, y2⟩ := HC.out wr hBr
      have HJ3 := Lib.hid hj3
      generalize l[j] = x at f0 f1 f2 f3 HJ3
      obtain ⟨W3, hW3⟩ : ∃ W3, wr.alloc (.cells #[.int .i64 x.op, .int .i64 x.a, .int .i64 x.b, .string x.nm] 130) = W3 := ⟨_, rfl⟩
      have hB3 : Below wr.heap.size wr W3 := by rw [← hW3]; exact (Below.refl _ _).alloc (Nat.le_refl _) _
      have hB03 : Below W0.heap.size W0 W3 := hBr.trans (hB3.mono hzr)
      have hx3 : W3.heap[wr.heap.size]? = some (.cells #[.int .i64 x.op, .int .i64 x.a, .int .i64 x.b, .string x.nm] 130 (0, 0)) := by rw [← hW3]; exact heap_alloc_new wr _
      have g0 := cell_of_row W3 wr.heap.size 0 _ _ (0, 0) hx3
      have g1 := cell_of_row W3 wr.heap.size 1 _ _ (0, 0) hx3
      have g2 := cell_of_row W3 wr.heap.size 2 _ _ (0, 0) hx3
      have g3 := cell_of_row W3 wr.heap.size 3 _ _ (0, 0) hx3
      simp at g0 g1 g2 g3
      obtain ⟨x0', x1', x2', y0', y1', y2'⟩ := HC.out W3 hB03
      have hci := checkInstr_gen lb A1 c1 bl A2 n2 c2 cap par (some ⟨lg, o, none⟩) l.length lc x.op x.a x.b x.nm W3 ((HL.out.2.1.par).keep (HL.out.2.2.trans (hB03.mono (by omega))))
      obtain ⟨E, HE⟩ : ∃ q, Hid (insX bl l.length x = q) := ⟨_, Lib.hid rfl⟩
      rw [show insE bl l.length x.op x.a x.b x.nm = E from HE.out, HN.out, HN1.out] at hci
      have HCI := Lib.hid hci
      have HF := Lib.hid (And.intro HG hB03)
      clear hci hB3 hB03 hx3 hbw hBr HG hj3
      have i1 : (j : Int) < (M : Int) + 1 := by omega
      go_wp2_with fail
      refine HCI.out.mono ?_
      rintro e w4 ⟨rfl, hb4⟩
      have HB4 := Lib.hid (HF.out.2.trans (hb4.mono HF.out.2.size))
      clear hb4
      cases he : E == 0 with
      | true =>
        obtain rfl : E = 0 := by simpa using he
        clear he
        go_wp2
        go_roundg (M + 1 - (j + 1))
        case measure => rw [HF.out.1]; omega
        case rel => exact ⟨j + 1, rfl, by omega, by go_num, HB4.out, by rw [HVJ.out]; exact frstE_skip _ HJ3.out HE.out⟩
      | false =>
        have he' : (E != 0) = true := by rw [bne, he]; rfl
        have HR := Lib.hid (show V = E by rw [HVJ.out, ← HE.out]; exact frstE_stop _ HJ3.out (by rw [HE.out]; simpa using he))
        go_wp2
        go_ret
        exact ⟨by rw [HR.out]; rfl, HL.out.2.2.trans (HB4.out.mono (by omega))⟩
    · obtain rfl : j = M + 1 := by omega
      have HB := Lib.hid (HL.out.2.2.trans (hBr.mono (by omega)))
      have HR := Lib.hid (show V = 0 by rw [HVJ.out, ← HN.out]; exact frstE_end _ _)
      clear hBr HG
      go_wp2
      go_ret
      exact ⟨by rw [HR.out]; rfl, HB.out⟩
end Go.Proofs.YtlpipoihinceiaaGreatDoor
/- ref28.block: at any block -/
namespace Go.Proofs.YtlpipoihinceiaaGreatDoor
open Go.RowKit Go.Proofs Go.Shelf

set_option maxRecDepth 100000 in
set_option maxHeartbeats 8000000 in
theorem block28_gen (A1 : Option Addr) (c1 : Nat) (bl : List Blk) (b : Blk) (lA : Option Addr) (lc : Nat) (w : World) (hp : BlkC w A1 c1 bl) (hl : InsC w lA lc b.l) :
    Calls Tryz.prog 108 #[.agg #[.int .i64 b.cap, .bool b.par, .slice lA b.l.length lc], .slice A1 bl.length c1] w fun e w' => e = .returned (.int .i64 (blkE bl b)) ∧ Below w.heap.size w w' := by
  obtain ⟨cap, par, l⟩ := b
  simp only at hl ⊢
  obtain ⟨N, HN⟩ : ∃ Q, Hid (l.length = Q) := ⟨_, Lib.hid rfl⟩
  obtain ⟨n1, HN1⟩ : ∃ Q, Hid (bl.length = Q) := ⟨_, Lib.hid rfl⟩
  obtain ⟨V, HV⟩ : ∃ Q, Hid (blkE bl ⟨cap, par, l⟩ = Q) := ⟨_, Lib.hid rfl⟩
  have hN0 := hl.1
  have hN1 := hl.2.1
  rw [HV.out, HN1.out, HN.out]
  rw [HN.out] at hN0
  obtain ⟨W0, hW0⟩ : ∃ W0, w.alloc (.cells #[.int .i64 cap, .bool par, .slice lA N lc] 133) = W0 := ⟨_, rfl⟩
  have hB0 : Below w.heap.size w W0 := by subst hW0; exact (Below.refl _ _).alloc (Nat.le_refl _) _
  have hz0 : w.heap.size + 1 = W0.heap.size := by subst hW0; simp
  have hx0 : W0.heap[w.heap.size]? = some (.cells #[.int .i64 cap, .bool par, .slice lA N lc] 133 (0, 0)) := by rw [← hW0]; exact heap_alloc_new w _
  have HC : Hid (∀ X, Below W0.heap.size W0 X → X.cell? ⟨w.heap.size, 0, none⟩ = some (.int .i64 cap) ∧ X.cell? ⟨w.heap.size, 1, none⟩ = some (.bool par) ∧ X.cell? ⟨w.heap.size, 2, none⟩ = some (.slice lA N lc)) := fun X hX => by
    have h0 := (hX.block w.heap.size (by omega)).trans hx0
    exact ⟨cell_of_row X _ 0 _ _ (0, 0) h0, cell_of_row X _ 1 _ _ (0, 0) h0, cell_of_row X _ 2 _ _ (0, 0) h0⟩
  obtain ⟨y0, y1, y2⟩ := HC.out W0 (Below.refl _ _)
  have HL := Lib.hid (And.intro hl (And.intro hp hB0))
  clear hl hp hB0 hx0
  cases hc1 : decide (cap < 0) with
  | true =>
    have HX := Lib.hid (show V = 2 by rw [← HV.out, blkE, if_pos (by rw [hc1]; rfl)])
    go_enter Tryz.func108, Tryz.ntmps108
    go_wp2
    go_ret
    exact ⟨by rw [HX.out]; rfl, HL.out.2.2⟩
  | false =>
  cases hc2 : decide (400 < cap) with
  | true =>
    have HX := Lib.hid (show V = 2 by rw [← HV.out, blkE, if_pos (by rw [hc1, hc2]; rfl)])
    go_enter Tryz.func108, Tryz.ntmps108
    go_wp2
    go_ret
    exact ⟨by rw [HX.out]; rfl, HL.out.2.2⟩
  | false =>
  have HV2 := Lib.hid (show V = if lastRet l = false then 1 else frstE (insX bl l.length) l by rw [← HV.out, blkE, if_neg (by rw [hc1, hc2]; decide)])
  cases N with
  | zero =>
    have HX := Lib.hid (show V = 1 by rw [HV2.out, if_pos (by rw [lastRet, List.getElem?_eq_none (by have := HN.out; omega)])])
    go_enter Tryz.func108, Tryz.ntmps108
    go_wp2
    go_ret
    exact ⟨by rw [HX.out]; rfl, HL.out.2.2⟩
  | succ M =>
  obtain ⟨xl, hM3⟩ : ∃ xl, l[M]? = some xl := ⟨_, List.getElem?_eq_getElem (by rw [HN.out]; omega)⟩
  obtain ⟨lg, o, rfl, q0, _⟩ := HL.out.1.2.2.2 _ _ hM3
  have HLR := Lib.hid (show lastRet l = (xl.op == 7) by rw [lastRet, HN.out, Nat.add_sub_cancel, hM3])
  have q0' := (HL.out.2.2.cell (World.block_lt_of_cell? w ⟨lg, o + M * 4, none⟩ q0)).trans q0
  clear q0 hM3
  generalize xl.op = lop at q0' HLR
  have hw1 : IntKind.i64.wrap ((M : Int) + 1 - 1) = M := by rw [show ((M : Int) + 1 - 1) = M by omega]; exact IntWalk.i64_in _ (by omega)
  have hj0 : (0 : Int) ≤ (M : Int) := by omega
  have hj1 : (M : Int) < (M : Int) + 1 := by omega
  cases hop : lop == 7 with
  | false =>
    have hop' : (lop != 7) = true := by rw [bne, hop]; rfl
    have HX := Lib.hid (show V = 1 by rw [HV2.out, if_pos (by rw [HLR.out, hop])])
    go_enter Tryz.func108, Tryz.ntmps108
    go_wp2
    go_ret
    exact ⟨by rw [HX.out]; rfl, HL.out.2.2⟩
  | true =>
  obtain rfl : lop = 7 := by simpa using hop
  have HX := Lib.hid (show V = frstE (insX bl l.length) l by rw [HV2.out, if_neg (by rw [HLR.out]; decide)])
  clear hop HV2 HLR HV
  go_enter Tryz.func108, Tryz.ntmps108
  go_wp2_with fail
  clear q0' y0 y1 y2 hw1 hj0 hj1 hc1 hc2
  go_loopg [6, 7] (M + 1) (fun g ct _ wr => ∃ j : Nat, g = M + 1 - j ∧ j ≤ M + 1 ∧ ct = .int .i64 j ∧ Below W0.heap.size W0 wr ∧ V = frstE (insX bl l.length) (l.drop j))
  case atStart => exact ⟨0, rfl, by omega, rfl, Below.refl _ _, by rw [HX.out]; rfl⟩
  case round =>
    obtain ⟨j, HG, hj, rfl, hBr, hVj⟩ := hrel
    have HVJ := Lib.hid hVj
    clear hVj
    have hzr := hBr.size
    by_cases hlt : j < M + 1
    · have hlt' : j < l.length := by rw [HN.out]; exact hlt
      have hj3 : l[j]? = some l[j] := List.getElem?_eq_getElem hlt'
      have hbw := HL.out.2.2.trans (hBr.mono (by omega))
      obtain ⟨lg', o', hlA, f0, f1, f2, f3⟩ := (HL.out.1.keep hbw).2.2.2 _ _ hj3
      simp only [Option.some.injEq, Addr.mk.injEq, and_true] at hlA
      obtain ⟨rfl, rfl⟩ := hlA
      obtain ⟨y0, y1, y2⟩ := HC.out wr hBr
      have HJ3 := Lib.hid hj3
      generalize l[j] = x at f0 f1 f2 f3 HJ3
      have hns := HL.out.1.2.2.1 x (List.mem_of_getElem? HJ3.out)
      have hci := instr28_gen A1 c1 bl l.length x.op x.a x.b x.nm wr ((HL.out.2.1.par).keep (HL.out.2.2.trans (hBr.mono (by omega)))) hns
      obtain ⟨E, HE⟩ : ∃ q, Hid (insX bl l.length x = q) := ⟨_, Lib.hid rfl⟩
      rw [show insE bl l.length x.op x.a x.b x.nm = E from HE.out, HN.out, HN1.out] at hci
      have HCI := Lib.hid hci
      have HF := Lib.hid (And.intro HG hBr)
      clear hci hbw hBr HG hj3 hns
      have i1 : (j : Int) < (M : Int) + 1 := by omega
      go_wp2_with fail
      refine HCI.out.mono ?_
      rintro e w4 ⟨rfl, hb4⟩
      have HB4 := Lib.hid (HF.out.2.trans (hb4.mono HF.out.2.size))
      clear hb4
      cases he : E == 0 with
      | true =>
        obtain rfl : E = 0 := by simpa using he
        clear he
        go_wp2
        go_roundg (M + 1 - (j + 1))
        case measure => rw [HF.out.1]; omega
        case rel => exact ⟨j + 1, rfl, by omega, by go_num, HB4.out, by rw [HVJ.out]; exact frstE_skip _ HJ3.out HE.out⟩
      | false =>
        have he' : (E != 0) = true := by rw [bne, he]; rfl
        have HR := Lib.hid (show V = E by rw [HVJ.out, ← HE.out]; exact frstE_stop _ HJ3.out (by rw [HE.out]; simpa using he))
        go_wp2
        go_ret
        exact ⟨by rw [HR.out]; rfl, HL.out.2.2.trans (HB4.out.mono (by omega))⟩
    · obtain rfl : j = M + 1 := by omega
      have HB := Lib.hid (HL.out.2.2.trans (hBr.mono (by omega)))
      have HR := Lib.hid (show V = 0 by rw [HVJ.out, ← HN.out]; exact frstE_end _ _)
      clear hBr HG
      go_wp2
      go_ret
      exact ⟨by rw [HR.out]; rfl, HB.out⟩
end Go.Proofs.YtlpipoihinceiaaGreatDoor
/- compile.Check: at any code (printed by gen_xce.py) -/
namespace Go.Proofs.YtlpipoihinceiaaGreatDoor
open Go.RowKit Go.Proofs Go.Shelf

/-- Declarations of code in memory. -/
def DecC (W : World) (A2 : Option Addr) (c2 : Nat) (ds : List (Int × Int × Int)) : Prop :=
  ds.length ≤ c2 ∧ c2 ≤ 9223372036854775807 ∧ ∀ (j : Nat) (t : Int × Int × Int), ds[j]? = some t → ∃ g o, A2 = some ⟨g, o, none⟩ ∧ W.cell? ⟨g, o + j * 3, none⟩ = some (.int .i64 t.1) ∧ W.cell? ⟨g, o + j * 3 + 1, none⟩ = some (.int .i64 t.2.1) ∧ W.cell? ⟨g, o + j * 3 + 2, none⟩ = some (.int .i64 t.2.2)
theorem DecC.keep {W X : World} {A2 : Option Addr} {c2 : Nat} {ds : List (Int × Int × Int)} (h : DecC W A2 c2 ds) (hb : Below W.heap.size W X) : DecC X A2 c2 ds := ⟨h.1, h.2.1, fun j t hj => by
  obtain ⟨g, o, e1, e4, e5, e6⟩ := h.2.2 j t hj
  have hl : g < W.heap.size := World.block_lt_of_cell? W ⟨g, o + j * 3, none⟩ e4
  exact ⟨g, o, e1, (hb.cell hl).trans e4, (hb.cell hl).trans e5, (hb.cell hl).trans e6⟩⟩
def badB (bl : List Blk) (k : Int) : Bool := if k < 0 then true else match bl[k.toNat]? with
  | some b => !(b.cap == 0) || b.par
  | none => true
def decE (bl : List Blk) (p : Int) (t : Int × Int × Int) : Int :=
  if (decide (t.1 < 1) || decide (999999 < t.1)) = true then 2 else if decide (t.1 ≤ p) = true then 10 else if ((t.2.1 == 1) || (t.2.1 == 2) || (t.2.1 == 3)) = false then 9 else if badB bl t.2.2 = true then 2 else 0
def decsE (bl : List Blk) : Int → List (Int × Int × Int) → Int
  | _, [] => 0
  | p, t :: r => if decE bl p t = 0 then decsE bl t.1 r else decE bl p t
def pv (ds : List (Int × Int × Int)) : Nat → Int
  | 0 => 0
  | q + 1 => match ds[q]? with
    | some t => t.1
    | none => 0
theorem decsE_skip (bl : List Blk) {ds : List (Int × Int × Int)} {q : Nat} {t : Int × Int × Int} (hx : ds[q]? = some t) (h : decE bl (pv ds q) t = 0) : decsE bl (pv ds q) (ds.drop q) = decsE bl (pv ds (q + 1)) (ds.drop (q + 1)) := by
  have hj := (List.getElem?_eq_some_iff.1 hx).1
  have he : ds[q] = t := (List.getElem?_eq_some_iff.1 hx).2
  have h1 : pv ds (q + 1) = t.1 := by simp only [pv, hx]
  rw [List.drop_eq_getElem_cons hj, decsE, he, if_pos h, h1]
theorem decsE_stop (bl : List Blk) {ds : List (Int × Int × Int)} {q : Nat} {t : Int × Int × Int} {v : Int} (hx : ds[q]? = some t) (h : decE bl (pv ds q) t = v) (hv : v ≠ 0) : decsE bl (pv ds q) (ds.drop q) = v := by
  have hj := (List.getElem?_eq_some_iff.1 hx).1
  have he : ds[q] = t := (List.getElem?_eq_some_iff.1 hx).2
  rw [List.drop_eq_getElem_cons hj, decsE, he, if_neg (by rw [h]; exact hv), h]
theorem decsE_end (bl : List Blk) (p : Int) (ds : List (Int × Int × Int)) : decsE bl p (ds.drop ds.length) = 0 := by
  rw [List.drop_length]
  rfl
/-- The code of the check of code. -/
def codeE (lb : ByteArray) (bl : List Blk) (ds : List (Int × Int × Int)) : Int :=
  if labelB lb = false then 6 else if frstE (blkE bl) bl = 0 then decsE bl 0 ds else frstE (blkE bl) bl

theorem decE_a {bl : List Blk} {p tid tk tb : Int} (h : (decide (tid < 1) || decide (999999 < tid)) = true) : decE bl p (tid, tk, tb) = 2 := by rw [decE, if_pos h]
theorem decE_b {bl : List Blk} {p tid tk tb : Int} (h1 : decide (tid < 1) = false) (h2 : decide (999999 < tid) = false) (h3 : decide (tid ≤ p) = true) : decE bl p (tid, tk, tb) = 10 := by rw [decE, if_neg (by simp only [h1, h2]; decide), if_pos h3]
theorem decE_c {bl : List Blk} {p tid tk tb : Int} (h1 : decide (tid < 1) = false) (h2 : decide (999999 < tid) = false) (h3 : decide (tid ≤ p) = false) (h4 : ((tk == 1) || (tk == 2) || (tk == 3)) = false) : decE bl p (tid, tk, tb) = 9 := by rw [decE, if_neg (by simp only [h1, h2]; decide), if_neg (by simp only [h3]; decide), if_pos h4]
theorem decE_d {bl : List Blk} {p tid tk tb : Int} (h1 : decide (tid < 1) = false) (h2 : decide (999999 < tid) = false) (h3 : decide (tid ≤ p) = false) (h4 : ((tk == 1) || (tk == 2) || (tk == 3)) = true) (h5 : badB bl tb = true) : decE bl p (tid, tk, tb) = 2 := by rw [decE, if_neg (by simp only [h1, h2]; decide), if_neg (by simp only [h3]; decide), if_neg (by simp only [h4]; decide), if_pos h5]
theorem decE_z {bl : List Blk} {p tid tk tb : Int} (h1 : decide (tid < 1) = false) (h2 : decide (999999 < tid) = false) (h3 : decide (tid ≤ p) = false) (h4 : ((tk == 1) || (tk == 2) || (tk == 3)) = true) (h5 : badB bl tb = false) : decE bl p (tid, tk, tb) = 0 := by rw [decE, if_neg (by simp only [h1, h2]; decide), if_neg (by simp only [h3]; decide), if_neg (by simp only [h4]; decide), if_neg (by rw [h5]; decide)]
theorem badB_neg {bl : List Blk} {k : Int} (h : k < 0) : badB bl k = true := by rw [badB, if_pos h]
theorem badB_big {bl : List Blk} {k : Int} (h : (bl.length : Int) ≤ k) : badB bl k = true := by
  rw [badB]
  split
  · rfl
  · rw [List.getElem?_eq_none (by omega)]
theorem badB_at {bl : List Blk} {k : Nat} {b : Blk} (h : bl[k]? = some b) : badB bl (k : Int) = (!(b.cap == 0) || b.par) := by
  rw [badB, if_neg (by omega), Int.toNat_natCast, h]

set_option maxRecDepth 100000 in
set_option maxHeartbeats 16000000 in
theorem cCheck_gen (lb : ByteArray) (bl : List Blk) (ds : List (Int × Int × Int)) (A1 : Option Addr) (c1 : Nat) (A2 : Option Addr) (c2 : Nat) (w : World) (hp : BlkC w A1 c1 bl) (hd : DecC w A2 c2 ds) :
    Calls Tryz.prog 41 #[.agg #[.string lb, .slice A1 bl.length c1, .slice A2 ds.length c2]] w fun e w' => e = .returned (.int .i64 (codeE lb bl ds)) ∧ Below w.heap.size w w' := by
  obtain ⟨N1, HN1⟩ : ∃ Q, Hid (bl.length = Q) := ⟨_, Lib.hid rfl⟩
  obtain ⟨N2, HN2⟩ : ∃ Q, Hid (ds.length = Q) := ⟨_, Lib.hid rfl⟩
  obtain ⟨V, HV⟩ : ∃ Q, Hid (codeE lb bl ds = Q) := ⟨_, Lib.hid rfl⟩
  obtain ⟨F, HF⟩ : ∃ Q, Hid (frstE (blkE bl) bl = Q) := ⟨_, Lib.hid rfl⟩
  have hb1 := hp.1
  have hb2 := hp.2.1
  have hd1 := hd.1
  have hd2 := hd.2.1
  rw [HV.out, HN1.out, HN2.out]
  rw [HN1.out] at hb1
  rw [HN2.out] at hd1
  obtain ⟨W0, hW0⟩ : ∃ W0, w.alloc (.cells #[.string lb, .slice A1 N1 c1, .slice A2 N2 c2] 62) = W0 := ⟨_, rfl⟩
  have hB0 : Below w.heap.size w W0 := by rw [← hW0]; exact (Below.refl _ _).alloc (Nat.le_refl _) _
  have hz0 : w.heap.size + 1 = W0.heap.size := by rw [← hW0]; simp
  have hx0 : W0.heap[w.heap.size]? = some (.cells #[.string lb, .slice A1 N1 c1, .slice A2 N2 c2] 62 (0, 0)) := by rw [← hW0]; exact heap_alloc_new w _
  have HC : Hid (∀ X, Below W0.heap.size W0 X → Below w.heap.size w X ∧ X.cell? ⟨w.heap.size, 0, none⟩ = some (.string lb) ∧ X.cell? ⟨w.heap.size, 1, none⟩ = some (.slice A1 N1 c1) ∧ X.cell? ⟨w.heap.size, 2, none⟩ = some (.slice A2 N2 c2)) := Lib.hid fun X hX => by
    have h0 := (hX.block w.heap.size (by omega)).trans hx0
    exact ⟨hB0.trans (hX.mono (by omega)), cell_of_row X _ 0 _ _ (0, 0) h0, cell_of_row X _ 1 _ _ (0, 0) h0, cell_of_row X _ 2 _ _ (0, 0) h0⟩
  obtain ⟨_, x0, x1, x2⟩ := HC.out W0 (Below.refl _ _)
  have HL := Lib.hid (label_any lb W0)
  have HVV := Lib.hid (And.intro hp hd)
  clear hp hd hB0 hx0
  obtain ⟨LB, HLB⟩ : ∃ Q, Hid (labelB lb = Q) := ⟨_, Lib.hid rfl⟩
  rw [HLB.out] at HL
  go_enter Tryz.func41, Tryz.ntmps41
  go_wp2_with fail
  refine HL.out.mono ?_
  rintro e w1 ⟨rfl, hb1'⟩
  have HB1 := Lib.hid hb1'
  clear x0 x1 x2 hW0
  obtain ⟨hbw1, x0, x1, x2⟩ := HC.out w1 hb1'
  have HBW1 := Lib.hid hbw1
  clear hb1' hbw1
  cases LB with
  | false =>
    have HR := Lib.hid (show V = 6 by rw [← HV.out, codeE, if_pos HLB.out])
    go_wp2
    go_ret
    exact ⟨by rw [HR.out]; rfl, HBW1.out⟩
  | true =>
  have HV2 := Lib.hid (show V = if F = 0 then decsE bl 0 ds else F by rw [← HV.out, codeE, if_neg (by rw [HLB.out]; decide), HF.out])
  go_wp2_with fail
  clear x0 x1 x2
  go_loopg [4, 5, 15] N1 (fun g _ _ ct wr => ∃ j : Nat, g = N1 - j ∧ j ≤ N1 ∧ ct = .int .i64 j ∧ Below W0.heap.size W0 wr ∧ F = frstE (blkE bl) (bl.drop j))
  case atStart => exact ⟨0, rfl, by omega, rfl, HB1.out, by rw [← HF.out]; rfl⟩
  case round =>
    obtain ⟨j, HG, hj, rfl, hBr, hFj⟩ := hrel
    have HFJ := Lib.hid hFj
    clear hFj
    have hzr := hBr.size
    obtain ⟨hbw, x0, x1, x2⟩ := HC.out wr hBr
    by_cases hlt : j < N1
    · obtain ⟨b, hj3⟩ : ∃ b, bl[j]? = some b := ⟨_, List.getElem?_eq_getElem (by rw [HN1.out]; exact hlt)⟩
      obtain ⟨g, o, rfl, f0, f1, lA, lc, f2, hic⟩ := (HVV.out.1.keep hbw).2.2 _ _ hj3
      have HJ3 := Lib.hid hj3
      obtain ⟨W3, hW3⟩ : ∃ W3, wr.alloc (.cells #[.int .i64 b.cap, .bool b.par, .slice lA b.l.length lc] 133) = W3 := ⟨_, rfl⟩
      have hB3 : Below wr.heap.size wr W3 := by rw [← hW3]; exact (Below.refl _ _).alloc (Nat.le_refl _) _
      have hB03 : Below W0.heap.size W0 W3 := hBr.trans (hB3.mono hzr)
      have hx3 : W3.heap[wr.heap.size]? = some (.cells #[.int .i64 b.cap, .bool b.par, .slice lA b.l.length lc] 133 (0, 0)) := by rw [← hW3]; exact heap_alloc_new wr _
      have g0 := cell_of_row W3 wr.heap.size 0 _ _ (0, 0) hx3
      have g1 := cell_of_row W3 wr.heap.size 1 _ _ (0, 0) hx3
      have g2 := cell_of_row W3 wr.heap.size 2 _ _ (0, 0) hx3
      simp at g0 g1 g2
      obtain ⟨hbw3, x0', x1', x2'⟩ := HC.out W3 hB03
      have hcb := checkBlock_gen lb _ c1 A2 N2 c2 bl b lA lc W3 (HVV.out.1.keep hbw3) (hic.keep hB3)
      obtain ⟨E, HEE⟩ : ∃ q, Hid (blkE bl b = q) := ⟨_, Lib.hid rfl⟩
      rw [HEE.out, HN1.out] at hcb
      have HCB := Lib.hid hcb
      have HE := Lib.hid (And.intro HG hB03)
      clear hcb hic hB3 hB03 hx3 hbw hbw3 hBr HG hj3
      have i1 : (j : Int) < (N1 : Int) := by omega
      go_wp2_with fail
      refine HCB.out.mono ?_
      rintro e w4 ⟨rfl, hb4⟩
      have HB4 := Lib.hid (HE.out.2.trans (hb4.mono HE.out.2.size))
      clear hb4
      cases he : E == 0 with
      | true =>
        obtain rfl : E = 0 := by simpa using he
        clear he
        go_wp2
        go_roundg (N1 - (j + 1))
        case measure => rw [HE.out.1]; omega
        case rel => exact ⟨j + 1, rfl, by omega, by go_num, HB4.out, by rw [HFJ.out]; exact frstE_skip _ HJ3.out HEE.out⟩
      | false =>
        have he' : (E != 0) = true := by rw [bne, he]; rfl
        have HFE := Lib.hid (show F = E by rw [HFJ.out, ← HEE.out]; exact frstE_stop _ HJ3.out (by rw [HEE.out]; simpa using he))
        have HR := Lib.hid (show V = E by rw [HV2.out, if_neg (by rw [HFE.out]; simpa using he), HFE.out])
        go_wp2
        go_ret
        exact ⟨by rw [HR.out]; rfl, (HC.out _ HB4.out).1⟩
    · have hjN : N1 = j := by omega
      subst hjN
      have HB := Lib.hid hBr
      have HFE := Lib.hid (show F = 0 by rw [HFJ.out, ← HN1.out]; exact frstE_end _ _)
      have HV3 := Lib.hid (show V = decsE bl 0 ds by rw [HV2.out, if_pos HFE.out])
      clear hBr HG hbw
      go_wp2_with fail
      clear x0 x1 x2
      go_loopg [6, 7, 29, 34, 43, 58, 72] N2 (fun g _ _ ct _ _ _ _ wr => ∃ q : Nat, g = N2 - q ∧ q ≤ N2 ∧ ct = .int .i64 q ∧ Below W0.heap.size W0 wr ∧ V = decsE bl (pv ds q) (ds.drop q))
      case atStart => exact ⟨0, rfl, by omega, rfl, HB.out, by rw [HV3.out]; rfl⟩
      case round =>
        obtain ⟨q, HG, hq, rfl, hBr, hVj⟩ := hrel
        have HVJ := Lib.hid hVj
        clear hVj
        have hzr := hBr.size
        obtain ⟨hbw, x0, x1, x2⟩ := HC.out wr hBr
        by_cases hlt : q < N2
        · obtain ⟨t, hj3⟩ : ∃ t, ds[q]? = some t := ⟨_, List.getElem?_eq_getElem (by rw [HN2.out]; exact hlt)⟩
          obtain ⟨tid, tk, tb⟩ := t
          obtain ⟨dg, dof, rfl, f0, f1, f2⟩ := (HVV.out.2.keep hbw).2.2 _ _ hj3
          simp only at f0 f1 f2
          have HT := Lib.hid hj3
          obtain ⟨W3, hW3⟩ : ∃ W3, wr.alloc (.cells #[.int .i64 tid, .int .i64 tk, .int .i64 tb] 135) = W3 := ⟨_, rfl⟩
          have hB3 : Below wr.heap.size wr W3 := by rw [← hW3]; exact (Below.refl _ _).alloc (Nat.le_refl _) _
          have hB03 : Below W0.heap.size W0 W3 := hBr.trans (hB3.mono hzr)
          have hx3 : W3.heap[wr.heap.size]? = some (.cells #[.int .i64 tid, .int .i64 tk, .int .i64 tb] 135 (0, 0)) := by rw [← hW3]; exact heap_alloc_new wr _
          have g0 := cell_of_row W3 wr.heap.size 0 _ _ (0, 0) hx3
          have g1 := cell_of_row W3 wr.heap.size 1 _ _ (0, 0) hx3
          have g2 := cell_of_row W3 wr.heap.size 2 _ _ (0, 0) hx3
          simp at g0 g1 g2
          obtain ⟨hbw3, x0', x1', x2'⟩ := HC.out W3 hB03
          have HPB := Lib.hid (HVV.out.1.keep hbw3)
          have HPD := Lib.hid (HVV.out.2.keep hbw3)
          have HE := Lib.hid (And.intro HG hB03)
          have HB := Lib.hid hbw3
          have HZ3 := Lib.hid (show wr.heap.size < W3.heap.size by rw [← hW3]; simp)
          have i1 : (q : Int) < (N2 : Int) := by omega
          clear hB3 hB03 hx3 hbw hbw3 hBr HG hj3
          cases d1 : decide (tid < 1) with
          | true =>
            have HR := Lib.hid (show V = 2 by rw [HVJ.out]; exact decsE_stop bl HT.out (decE_a (by rw [d1]; rfl)) (by decide))
            go_wp2
            go_ret
            exact ⟨by rw [HR.out]; rfl, HB.out⟩
          | false =>
          cases d2 : decide (999999 < tid) with
          | true =>
            have HR := Lib.hid (show V = 2 by rw [HVJ.out]; exact decsE_stop bl HT.out (decE_a (by rw [d1, d2]; rfl)) (by decide))
            go_wp2
            go_ret
            exact ⟨by rw [HR.out]; rfl, HB.out⟩
          | false =>
          obtain ⟨LEB, HLEB⟩ : ∃ x, Hid (decide (tid ≤ pv ds q) = x) := ⟨_, Lib.hid rfl⟩
          obtain ⟨KK, HKK⟩ : ∃ x, Hid (((tk == 1) || (tk == 2) || (tk == 3)) = x) := ⟨_, Lib.hid rfl⟩
          obtain ⟨BB, HBB⟩ : ∃ x, Hid (badB bl tb = x) := ⟨_, Lib.hid rfl⟩
          have D1 := Lib.hid d1
          have D2 := Lib.hid d2
          go_upto_region 15 with fail
          go_cut [43] (fun sa wx => sa = .bool LEB ∧ Below W0.heap.size W0 wx ∧ Below W3.heap.size W3 wx)
          case first =>
            by_cases hq0 : q = 0
            · have HQ0 := Lib.hid hq0
              have z1 : decide ((0 : Int) < (q : Int)) = false := decide_eq_false (by omega)
              have z2 : decide (0 < q) = false := decide_eq_false (by omega)
              have LF := Lib.hid (show LEB = false by rw [← HLEB.out, HQ0.out]; exact decide_eq_false (by have := of_decide_eq_false D1.out; show ¬ tid ≤ 0; omega))
              clear hq0 d1 d2
              go_quiet (fail)
              go_wp2
              go_meet
              exact ⟨by rw [LF.out], below_drewN HE.out.2 _, below_drewN (Below.refl _ _) _⟩
            · obtain ⟨r, hqr⟩ : ∃ r, q = r + 1 := ⟨q - 1, by omega⟩
              obtain ⟨pt, hpt⟩ : ∃ x, ds[r]? = some x := ⟨_, List.getElem?_eq_getElem (by rw [HN2.out]; omega)⟩
              obtain ⟨pid, pk, pb⟩ := pt
              obtain ⟨dg', do', hdg, p0, _⟩ := HPD.out.2.2 r _ hpt
              simp only [Option.some.injEq, Addr.mk.injEq, and_true] at hdg
              obtain ⟨rfl, rfl⟩ := hdg
              simp only at p0
              have HPV := Lib.hid (show pv ds q = pid by rw [hqr]; simp only [pv, hpt])
              clear hpt
              have z1 : decide ((0 : Int) < (q : Int)) = true := decide_eq_true (by omega)
              have z2 : decide (0 < q) = true := decide_eq_true (by omega)
              have hw1 : IntKind.i64.wrap ((q : Int) - 1) = r := by rw [show ((q : Int) - 1) = r by omega]; exact IntWalk.i64_in _ (by omega)
              have hj0 : (0 : Int) ≤ (r : Int) := by omega
              have hj1 : (r : Int) < (N2 : Int) := by omega
              have hle : decide (tid ≤ pid) = LEB := by rw [← HLEB.out, HPV.out]
              clear hq0 d1 d2 hqr
              go_quiet (fail)
              go_wp2
              go_meet
              exact ⟨rfl, below_drewN HE.out.2 _, below_drewN (Below.refl _ _) _⟩
          case rest =>
          obtain ⟨rfl, hbA, hbB⟩ := hcut
          clear x0' x1' x2' d1 d2
          obtain ⟨hbw', x0', x1', x2'⟩ := HC.out wc hbA
          have g0' := (hbB.cell (p := ⟨wr.heap.size, 0, none⟩) HZ3.out).trans g0
          have g1' := (hbB.cell (p := ⟨wr.heap.size, 1, none⟩) HZ3.out).trans g1
          have g2' := (hbB.cell (p := ⟨wr.heap.size, 2, none⟩) HZ3.out).trans g2
          have HPB' := Lib.hid (HVV.out.1.keep hbw')
          have HA := Lib.hid hbA
          have HBW := Lib.hid hbw'
          clear g0 g1 g2 f0 f1 f2 hbA hbB hbw' x0 x1 x2 hW3
          cases LEB with
          | true =>
            have HR := Lib.hid (show V = 10 by rw [HVJ.out]; exact decsE_stop bl HT.out (decE_b D1.out D2.out HLEB.out) (by decide))
            go_wp2
            go_ret
            exact ⟨by rw [HR.out]; rfl, HBW.out⟩
          | false =>
          go_upto_region 17 with fail
          go_cut [58] (fun sb wy => sb = .bool (!KK) ∧ wy = wc)
          case first =>
            obtain ⟨q1, h1⟩ : ∃ x, (tk == 1) = x := ⟨_, rfl⟩
            obtain ⟨q2, h2⟩ : ∃ x, (tk == 2) = x := ⟨_, rfl⟩
            obtain ⟨q3, h3⟩ : ∃ x, (tk == 3) = x := ⟨_, rfl⟩
            have h1' : (tk != 1) = !q1 := by rw [← h1]; rfl
            have h2' : (tk != 2) = !q2 := by rw [← h2]; rfl
            have h3' : (tk != 3) = !q3 := by rw [← h3]; rfl
            have KF := Lib.hid (show KK = (q1 || q2 || q3) by rw [← HKK.out, h1, h2, h3])
            cases q1 <;> cases q2 <;> cases q3
            all_goals (
              simp only [Bool.not_true, Bool.not_false] at h1' h2' h3'
              go_wp2
              go_meet
              exact ⟨by rw [KF.out]; rfl, rfl⟩)
          case rest =>
          obtain ⟨rfl, hw⟩ := hcut
          subst hw
          cases KK with
          | false =>
            have HR := Lib.hid (show V = 9 by rw [HVJ.out]; exact decsE_stop bl HT.out (decE_c D1.out D2.out HLEB.out HKK.out) (by decide))
            go_wp2
            go_ret
            exact ⟨by rw [HR.out]; rfl, HBW.out⟩
          | true =>
          go_upto_region 19 with fail
          go_cut [72] (fun sc wz => sc = .bool BB ∧ wz = wc)
          case first =>
            by_cases t0 : tb < 0
            · have HBT := Lib.hid (show BB = true by rw [← HBB.out]; exact badB_neg t0)
              have t0' : decide (tb < 0) = true := decide_eq_true t0
              clear t0
              go_wp2
              go_meet
              exact ⟨by rw [HBT.out], rfl⟩
            by_cases t1 : (N1 : Int) ≤ tb
            · have HBT := Lib.hid (show BB = true by rw [← HBB.out]; exact badB_big (by rw [HN1.out]; exact t1))
              have t0' : decide (tb < 0) = false := decide_eq_false t0
              have t1' : decide ((N1 : Int) ≤ tb) = true := decide_eq_true t1
              clear t0 t1
              go_wp2
              go_meet
              exact ⟨by rw [HBT.out], rfl⟩
            obtain ⟨k, hkk⟩ : ∃ k : Nat, tb = (k : Int) := Int.eq_ofNat_of_zero_le (show 0 ≤ tb by omega)
            obtain ⟨b, hb⟩ : ∃ b, bl[k]? = some b := ⟨_, List.getElem?_eq_getElem (by rw [HN1.out]; omega)⟩
            have HBD := Lib.hid (show BB = (!(b.cap == 0) || b.par) by rw [← HBB.out, hkk]; exact badB_at hb)
            obtain ⟨bg, bo, rfl, k0, k1, _⟩ := HPB'.out.2.2 _ _ hb
            clear hb
            generalize b.cap = bc at k0 HBD
            generalize b.par = bp at k1 HBD
            have s0 : (0 : Int) ≤ tb := by omega
            have s1 : tb < (N1 : Int) := by omega
            have s2 : decide (tb < 0) = false := decide_eq_false t0
            have s3 : decide ((N1 : Int) ≤ tb) = false := decide_eq_false t1
            have s4 : tb.toNat = k := by omega
            clear t0 t1 hkk
            obtain ⟨cz, hc⟩ : ∃ x, (bc == 0) = x := ⟨_, rfl⟩
            have hc' : (bc != 0) = !cz := by rw [← hc]; rfl
            rw [hc] at HBD
            cases cz <;> cases bp
            all_goals (
              simp only [Bool.not_true, Bool.not_false] at hc'
              go_wp2
              go_meet
              exact ⟨by rw [HBD.out]; rfl, rfl⟩)
          case rest =>
          obtain ⟨rfl, hw⟩ := hcut
          subst hw
          cases BB with
          | true =>
            have HR := Lib.hid (show V = 2 by rw [HVJ.out]; exact decsE_stop bl HT.out (decE_d D1.out D2.out HLEB.out HKK.out HBB.out) (by decide))
            go_wp2
            go_ret
            exact ⟨by rw [HR.out]; rfl, HBW.out⟩
          | false =>
            have HR := Lib.hid (show V = decsE bl (pv ds (q + 1)) (ds.drop (q + 1)) by rw [HVJ.out]; exact decsE_skip bl HT.out (decE_z D1.out D2.out HLEB.out HKK.out HBB.out))
            go_wp2
            go_roundg (N2 - (q + 1))
            case measure => rw [HE.out.1]; omega
            case rel => exact ⟨q + 1, rfl, by omega, by go_num, HA.out, HR.out⟩
        · obtain rfl : q = N2 := by omega
          have HB2 := Lib.hid hbw
          have HR := Lib.hid (show V = 0 by rw [HVJ.out, ← HN2.out]; exact decsE_end _ _ _)
          clear hBr HG hbw
          go_wp2
          go_ret
          exact ⟨by rw [HR.out]; rfl, HB2.out⟩
end Go.Proofs.YtlpipoihinceiaaGreatDoor
/- ref28.Check: at any code (printed by gen_xce.py) -/
namespace Go.Proofs.YtlpipoihinceiaaGreatDoor
open Go.RowKit Go.Proofs Go.Shelf

set_option maxRecDepth 100000 in
set_option maxHeartbeats 16000000 in
theorem Check28_gen (lb : ByteArray) (bl : List Blk) (ds : List (Int × Int × Int)) (A1 : Option Addr) (c1 : Nat) (A2 : Option Addr) (c2 : Nat) (w : World) (hp : BlkC w A1 c1 bl) (hd : DecC w A2 c2 ds) (hlb : lb.size ≤ 9223372036854775807) :
    Calls Tryz.prog 42 #[.agg #[.string lb, .slice A1 bl.length c1, .slice A2 ds.length c2]] w fun e w' => e = .returned (.int .i64 (codeE lb bl ds)) ∧ Below w.heap.size w w' := by
  obtain ⟨N1, HN1⟩ : ∃ Q, Hid (bl.length = Q) := ⟨_, Lib.hid rfl⟩
  obtain ⟨N2, HN2⟩ : ∃ Q, Hid (ds.length = Q) := ⟨_, Lib.hid rfl⟩
  obtain ⟨V, HV⟩ : ∃ Q, Hid (codeE lb bl ds = Q) := ⟨_, Lib.hid rfl⟩
  obtain ⟨F, HF⟩ : ∃ Q, Hid (frstE (blkE bl) bl = Q) := ⟨_, Lib.hid rfl⟩
  have hb1 := hp.1
  have hb2 := hp.2.1
  have hd1 := hd.1
  have hd2 := hd.2.1
  rw [HV.out, HN1.out, HN2.out]
  rw [HN1.out] at hb1
  rw [HN2.out] at hd1
  obtain ⟨W0, hW0⟩ : ∃ W0, w.alloc (.cells #[.string lb, .slice A1 N1 c1, .slice A2 N2 c2] 62) = W0 := ⟨_, rfl⟩
  have hB0 : Below w.heap.size w W0 := by rw [← hW0]; exact (Below.refl _ _).alloc (Nat.le_refl _) _
  have hz0 : w.heap.size + 1 = W0.heap.size := by rw [← hW0]; simp
  have hx0 : W0.heap[w.heap.size]? = some (.cells #[.string lb, .slice A1 N1 c1, .slice A2 N2 c2] 62 (0, 0)) := by rw [← hW0]; exact heap_alloc_new w _
  have HC : Hid (∀ X, Below W0.heap.size W0 X → Below w.heap.size w X ∧ X.cell? ⟨w.heap.size, 0, none⟩ = some (.string lb) ∧ X.cell? ⟨w.heap.size, 1, none⟩ = some (.slice A1 N1 c1) ∧ X.cell? ⟨w.heap.size, 2, none⟩ = some (.slice A2 N2 c2)) := Lib.hid fun X hX => by
    have h0 := (hX.block w.heap.size (by omega)).trans hx0
    exact ⟨hB0.trans (hX.mono (by omega)), cell_of_row X _ 0 _ _ (0, 0) h0, cell_of_row X _ 1 _ _ (0, 0) h0, cell_of_row X _ 2 _ _ (0, 0) h0⟩
  obtain ⟨_, x0, x1, x2⟩ := HC.out W0 (Below.refl _ _)
  have HL := Lib.hid (Label20_any lb W0 hlb)
  have HVV := Lib.hid (And.intro hp hd)
  clear hp hd hB0 hx0 hlb
  obtain ⟨LB, HLB⟩ : ∃ Q, Hid (labelB lb = Q) := ⟨_, Lib.hid rfl⟩
  rw [HLB.out] at HL
  go_enter Tryz.func42, Tryz.ntmps42
  go_wp2_with fail
  refine HL.out.mono ?_
  rintro e w1 ⟨rfl, rfl⟩
  have HB1 := Lib.hid (Below.refl W0.heap.size W0)
  have HBW1 := Lib.hid (HC.out W0 (Below.refl _ _)).1
  cases LB with
  | false =>
    have HR := Lib.hid (show V = 6 by rw [← HV.out, codeE, if_pos HLB.out])
    go_wp2
    go_ret
    exact ⟨by rw [HR.out]; rfl, HBW1.out⟩
  | true =>
  have HV2 := Lib.hid (show V = if F = 0 then decsE bl 0 ds else F by rw [← HV.out, codeE, if_neg (by rw [HLB.out]; decide), HF.out])
  go_wp2_with fail
  clear x0 x1 x2
  go_loopg [3, 4] N1 (fun g ct _ wr => ∃ j : Nat, g = N1 - j ∧ j ≤ N1 ∧ ct = .int .i64 j ∧ Below W0.heap.size W0 wr ∧ F = frstE (blkE bl) (bl.drop j))
  case atStart => exact ⟨0, rfl, by omega, rfl, HB1.out, by rw [← HF.out]; rfl⟩
  case round =>
    obtain ⟨j, HG, hj, rfl, hBr, hFj⟩ := hrel
    have HFJ := Lib.hid hFj
    clear hFj
    have hzr := hBr.size
    obtain ⟨hbw, x0, x1, x2⟩ := HC.out wr hBr
    by_cases hlt : j < N1
    · obtain ⟨b, hj3⟩ : ∃ b, bl[j]? = some b := ⟨_, List.getElem?_eq_getElem (by rw [HN1.out]; exact hlt)⟩
      obtain ⟨g, o, rfl, f0, f1, lA, lc, f2, hic⟩ := (HVV.out.1.keep hbw).2.2 _ _ hj3
      have HJ3 := Lib.hid hj3
      obtain ⟨E, HEE⟩ : ∃ q, Hid (blkE bl b = q) := ⟨_, Lib.hid rfl⟩
      have HS : Hid (∀ X, Below W0.heap.size W0 X → Below wr.heap.size wr X → X.cell? ⟨w.heap.size, 1, none⟩ = some (.slice (some ⟨g, o, none⟩) N1 c1) ∧ X.cell? ⟨g, o + j * 3, none⟩ = some (.int .i64 b.cap) ∧ X.cell? ⟨g, o + j * 3 + 1, none⟩ = some (.bool b.par) ∧ X.cell? ⟨g, o + j * 3 + 2, none⟩ = some (.slice lA b.l.length lc)) := Lib.hid fun X hX hY => by
        have hl : g < wr.heap.size := World.block_lt_of_cell? wr ⟨g, o + j * 3, none⟩ f0
        exact ⟨(HC.out X hX).2.2.1, (hY.cell hl).trans f0, (hY.cell hl).trans f1, (hY.cell hl).trans f2⟩
      have HCB : Hid (∀ X, Below W0.heap.size W0 X → Below wr.heap.size wr X → Calls Tryz.prog 108 #[.agg #[.int .i64 b.cap, .bool b.par, .slice lA b.l.length lc], .slice (some ⟨g, o, none⟩) N1 c1] X fun e Y => e = .returned (.int .i64 E) ∧ Below W0.heap.size W0 Y ∧ Below wr.heap.size wr Y) := Lib.hid fun X hX hY => by
        have := block28_gen (some ⟨g, o, none⟩) c1 bl b lA lc X (HVV.out.1.keep (hbw.trans (hY.mono (by have := hbw.size; omega)))) (hic.keep hY)
        rw [HEE.out, HN1.out] at this
        refine this.mono ?_
        rintro e Y ⟨rfl, hb⟩
        exact ⟨rfl, hX.trans (hb.mono hX.size), hY.trans (hb.mono hY.size)⟩
      have HE := Lib.hid (And.intro HG hBr)
      have i1 : (j : Int) < (N1 : Int) := by omega
      have hbZ := Below.refl wr.heap.size wr
      have hbY := hBr
      clear hic hbw HG hj3
      go_upto_region 6 with fail
      go_cut [4] (fun s4 wx => s4 = .int .i64 E ∧ Below W0.heap.size W0 wx)
      case first =>
        go_region_held3 (fun W => W.cell? ⟨w.heap.size, 1, none⟩ = some (.slice (some ⟨g, o, none⟩) N1 c1) ∧ W.cell? ⟨g, o + j * 3, none⟩ = some (.int .i64 b.cap) ∧ W.cell? ⟨g, o + j * 3 + 1, none⟩ = some (.bool b.par) ∧ W.cell? ⟨g, o + j * 3 + 2, none⟩ = some (.slice lA b.l.length lc))
          (exact HS.out _ (by repeat (first | with_reducible exact hb6 | with_reducible exact hbY | with_reducible refine Below.drew ?_)) (by repeat (first | with_reducible exact hc6 | with_reducible exact hbZ | with_reducible refine Below.drew ?_)))
          (first | (go_at_call 108; (with_reducible refine Calls.mono (HCB.out _ ?_ ?_) ?_); (focus (repeat (first | with_reducible exact hbY | with_reducible refine Below.drew ?_))); (focus (repeat (first | with_reducible exact hbZ | with_reducible refine Below.drew ?_))); rintro e w6 ⟨rfl, hb6, hc6⟩))
        all_goals (
          go_wp2_with fail
          go_meet
          exact ⟨rfl, by repeat (first | with_reducible exact hb6 | with_reducible refine Below.drew ?_)⟩)
      case rest =>
      obtain ⟨rfl, hb4⟩ := hcut
      have HB4 := Lib.hid hb4
      clear hb4 hbZ hbY x0 x1 x2 f0 f1 f2
      cases he : E == 0 with
      | true =>
        obtain rfl : E = 0 := by simpa using he
        clear he
        go_wp2
        go_roundg (N1 - (j + 1))
        case measure => rw [HE.out.1]; omega
        case rel => exact ⟨j + 1, rfl, by omega, by go_num, HB4.out, by rw [HFJ.out]; exact frstE_skip _ HJ3.out HEE.out⟩
      | false =>
        have he' : (E != 0) = true := by rw [bne, he]; rfl
        have HFE := Lib.hid (show F = E by rw [HFJ.out, ← HEE.out]; exact frstE_stop _ HJ3.out (by rw [HEE.out]; simpa using he))
        have HR := Lib.hid (show V = E by rw [HV2.out, if_neg (by rw [HFE.out]; simpa using he), HFE.out])
        go_wp2
        go_ret
        exact ⟨by rw [HR.out]; rfl, (HC.out _ HB4.out).1⟩
    · have hjN : N1 = j := by omega
      subst hjN
      have HB := Lib.hid hBr
      have HFE := Lib.hid (show F = 0 by rw [HFJ.out, ← HN1.out]; exact frstE_end _ _)
      have HV3 := Lib.hid (show V = decsE bl 0 ds by rw [HV2.out, if_pos HFE.out])
      clear hBr HG hbw
      go_wp2_with fail
      clear x0 x1 x2
      go_loopg [5, 6] N2 (fun g ct _ wr => ∃ q : Nat, g = N2 - q ∧ q ≤ N2 ∧ ct = .int .i64 q ∧ Below W0.heap.size W0 wr ∧ V = decsE bl (pv ds q) (ds.drop q))
      case atStart => exact ⟨0, rfl, by omega, rfl, HB.out, by rw [HV3.out]; rfl⟩
      case round =>
        obtain ⟨q, HG, hq, rfl, hBr, hVj⟩ := hrel
        have HVJ := Lib.hid hVj
        clear hVj
        have hzr := hBr.size
        obtain ⟨hbw, x0, x1, x2⟩ := HC.out wr hBr
        by_cases hlt : q < N2
        · obtain ⟨t, hj3⟩ : ∃ t, ds[q]? = some t := ⟨_, List.getElem?_eq_getElem (by rw [HN2.out]; exact hlt)⟩
          obtain ⟨tid, tk, tb⟩ := t
          obtain ⟨dg, dof, rfl, f0, f1, f2⟩ := (HVV.out.2.keep hbw).2.2 _ _ hj3
          simp only at f0 f1 f2
          have HT := Lib.hid hj3
          obtain ⟨W3, hW3⟩ : ∃ W3, wr.alloc (.cells #[.int .i64 tid, .int .i64 tk, .int .i64 tb] 135) = W3 := ⟨_, rfl⟩
          have hB3 : Below wr.heap.size wr W3 := by rw [← hW3]; exact (Below.refl _ _).alloc (Nat.le_refl _) _
          have hB03 : Below W0.heap.size W0 W3 := hBr.trans (hB3.mono hzr)
          have hx3 : W3.heap[wr.heap.size]? = some (.cells #[.int .i64 tid, .int .i64 tk, .int .i64 tb] 135 (0, 0)) := by rw [← hW3]; exact heap_alloc_new wr _
          have g0 := cell_of_row W3 wr.heap.size 0 _ _ (0, 0) hx3
          have g1 := cell_of_row W3 wr.heap.size 1 _ _ (0, 0) hx3
          have g2 := cell_of_row W3 wr.heap.size 2 _ _ (0, 0) hx3
          simp at g0 g1 g2
          obtain ⟨hbw3, x0', x1', x2'⟩ := HC.out W3 hB03
          have HPB := Lib.hid (HVV.out.1.keep hbw3)
          have HPD := Lib.hid (HVV.out.2.keep hbw3)
          have HE := Lib.hid (And.intro HG hB03)
          have HB := Lib.hid hbw3
          have HZ3 := Lib.hid (show wr.heap.size < W3.heap.size by rw [← hW3]; simp)
          have i1 : (q : Int) < (N2 : Int) := by omega
          clear hB3 hB03 hx3 hbw hbw3 hBr HG hj3
          cases d1 : decide (tid < 1) with
          | true =>
            have HR := Lib.hid (show V = 2 by rw [HVJ.out]; exact decsE_stop bl HT.out (decE_a (by rw [d1]; rfl)) (by decide))
            go_wp2
            go_ret
            exact ⟨by rw [HR.out]; rfl, HB.out⟩
          | false =>
          cases d2 : decide (999999 < tid) with
          | true =>
            have HR := Lib.hid (show V = 2 by rw [HVJ.out]; exact decsE_stop bl HT.out (decE_a (by rw [d1, d2]; rfl)) (by decide))
            go_wp2
            go_ret
            exact ⟨by rw [HR.out]; rfl, HB.out⟩
          | false =>
          obtain ⟨LEB, HLEB⟩ : ∃ x, Hid (decide (tid ≤ pv ds q) = x) := ⟨_, Lib.hid rfl⟩
          obtain ⟨KK, HKK⟩ : ∃ x, Hid (((tk == 1) || (tk == 2) || (tk == 3)) = x) := ⟨_, Lib.hid rfl⟩
          obtain ⟨BB, HBB⟩ : ∃ x, Hid (badB bl tb = x) := ⟨_, Lib.hid rfl⟩
          have D1 := Lib.hid d1
          have D2 := Lib.hid d2
          go_upto_region 15 with fail
          go_cut [62] (fun sa wx => sa = .bool LEB ∧ Below W0.heap.size W0 wx ∧ Below W3.heap.size W3 wx)
          case first =>
            by_cases hq0 : q = 0
            · have HQ0 := Lib.hid hq0
              have z1 : decide ((0 : Int) < (q : Int)) = false := decide_eq_false (by omega)
              have z2 : decide (0 < q) = false := decide_eq_false (by omega)
              have LF := Lib.hid (show LEB = false by rw [← HLEB.out, HQ0.out]; exact decide_eq_false (by have := of_decide_eq_false D1.out; show ¬ tid ≤ 0; omega))
              clear hq0 d1 d2
              go_quiet (fail)
              go_wp2
              go_meet
              exact ⟨by rw [LF.out], below_drewN HE.out.2 _, below_drewN (Below.refl _ _) _⟩
            · obtain ⟨r, hqr⟩ : ∃ r, q = r + 1 := ⟨q - 1, by omega⟩
              obtain ⟨pt, hpt⟩ : ∃ x, ds[r]? = some x := ⟨_, List.getElem?_eq_getElem (by rw [HN2.out]; omega)⟩
              obtain ⟨pid, pk, pb⟩ := pt
              obtain ⟨dg', do', hdg, p0, _⟩ := HPD.out.2.2 r _ hpt
              simp only [Option.some.injEq, Addr.mk.injEq, and_true] at hdg
              obtain ⟨rfl, rfl⟩ := hdg
              simp only at p0
              have HPV := Lib.hid (show pv ds q = pid by rw [hqr]; simp only [pv, hpt])
              clear hpt
              have z1 : decide ((0 : Int) < (q : Int)) = true := decide_eq_true (by omega)
              have z2 : decide (0 < q) = true := decide_eq_true (by omega)
              have hw1 : IntKind.i64.wrap ((q : Int) - 1) = r := by rw [show ((q : Int) - 1) = r by omega]; exact IntWalk.i64_in _ (by omega)
              have hj0 : (0 : Int) ≤ (r : Int) := by omega
              have hj1 : (r : Int) < (N2 : Int) := by omega
              have hle : decide (tid ≤ pid) = LEB := by rw [← HLEB.out, HPV.out]
              clear hq0 d1 d2 hqr
              go_quiet (fail)
              go_wp2
              go_meet
              exact ⟨rfl, below_drewN HE.out.2 _, below_drewN (Below.refl _ _) _⟩
          case rest =>
          obtain ⟨rfl, hbA, hbB⟩ := hcut
          clear x0' x1' x2' d1 d2
          obtain ⟨hbw', x0', x1', x2'⟩ := HC.out wc hbA
          have g0' := (hbB.cell (p := ⟨wr.heap.size, 0, none⟩) HZ3.out).trans g0
          have g1' := (hbB.cell (p := ⟨wr.heap.size, 1, none⟩) HZ3.out).trans g1
          have g2' := (hbB.cell (p := ⟨wr.heap.size, 2, none⟩) HZ3.out).trans g2
          have HPB' := Lib.hid (HVV.out.1.keep hbw')
          have HA := Lib.hid hbA
          have HBW := Lib.hid hbw'
          clear g0 g1 g2 f0 f1 f2 hbA hbB hbw' x0 x1 x2 hW3
          cases LEB with
          | true =>
            have HR := Lib.hid (show V = 10 by rw [HVJ.out]; exact decsE_stop bl HT.out (decE_b D1.out D2.out HLEB.out) (by decide))
            go_wp2
            go_ret
            exact ⟨by rw [HR.out]; rfl, HBW.out⟩
          | false =>
          go_upto_region 17 with fail
          go_cut [70] (fun sb wy => sb = .bool (!KK) ∧ wy = wc)
          case first =>
            by_cases hlo : tk < 1
            · have l1 : decide (tk < 1) = true := decide_eq_true hlo
              have KF := Lib.hid (show KK = false by rw [← HKK.out]; simp; omega)
              clear hlo
              go_wp2
              go_meet
              exact ⟨by rw [KF.out]; rfl, rfl⟩
            · by_cases hhi : 3 < tk
              · have l1 : decide (tk < 1) = false := decide_eq_false hlo
                have l2 : decide (3 < tk) = true := decide_eq_true hhi
                have KF := Lib.hid (show KK = false by rw [← HKK.out]; simp; omega)
                clear hlo hhi
                go_wp2
                go_meet
                exact ⟨by rw [KF.out]; rfl, rfl⟩
              · have l1 : decide (tk < 1) = false := decide_eq_false hlo
                have l2 : decide (3 < tk) = false := decide_eq_false hhi
                have KF := Lib.hid (show KK = true by rw [← HKK.out]; simp; omega)
                clear hlo hhi
                go_wp2
                go_meet
                exact ⟨by rw [KF.out]; rfl, rfl⟩
          case rest =>
          obtain ⟨rfl, hw⟩ := hcut
          subst hw
          cases KK with
          | false =>
            have HR := Lib.hid (show V = 9 by rw [HVJ.out]; exact decsE_stop bl HT.out (decE_c D1.out D2.out HLEB.out HKK.out) (by decide))
            go_wp2
            go_ret
            exact ⟨by rw [HR.out]; rfl, HBW.out⟩
          | true =>
          go_upto_region 19 with fail
          go_cut [100] (fun sc wz => sc = .bool BB ∧ wz = wc)
          case first =>
            by_cases t0 : tb < 0
            · have HBT := Lib.hid (show BB = true by rw [← HBB.out]; exact badB_neg t0)
              have t0' : decide (tb < 0) = true := decide_eq_true t0
              clear t0
              go_wp2
              go_meet
              exact ⟨by rw [HBT.out], rfl⟩
            by_cases t1 : (N1 : Int) ≤ tb
            · have HBT := Lib.hid (show BB = true by rw [← HBB.out]; exact badB_big (by rw [HN1.out]; exact t1))
              have t0' : decide (tb < 0) = false := decide_eq_false t0
              have t1' : decide ((N1 : Int) ≤ tb) = true := decide_eq_true t1
              clear t0 t1
              go_wp2
              go_meet
              exact ⟨by rw [HBT.out], rfl⟩
            obtain ⟨k, hkk⟩ : ∃ k : Nat, tb = (k : Int) := Int.eq_ofNat_of_zero_le (show 0 ≤ tb by omega)
            obtain ⟨b, hb⟩ : ∃ b, bl[k]? = some b := ⟨_, List.getElem?_eq_getElem (by rw [HN1.out]; omega)⟩
            have HBD := Lib.hid (show BB = (!(b.cap == 0) || b.par) by rw [← HBB.out, hkk]; exact badB_at hb)
            obtain ⟨bg, bo, rfl, k0, k1, _⟩ := HPB'.out.2.2 _ _ hb
            clear hb
            generalize b.cap = bc at k0 HBD
            generalize b.par = bp at k1 HBD
            have s0 : (0 : Int) ≤ tb := by omega
            have s1 : tb < (N1 : Int) := by omega
            have s2 : decide (tb < 0) = false := decide_eq_false t0
            have s3 : decide ((N1 : Int) ≤ tb) = false := decide_eq_false t1
            have s4 : tb.toNat = k := by omega
            clear t0 t1 hkk
            obtain ⟨cz, hc⟩ : ∃ x, (bc == 0) = x := ⟨_, rfl⟩
            have hc' : (bc != 0) = !cz := by rw [← hc]; rfl
            rw [hc] at HBD
            cases cz <;> cases bp
            all_goals (
              simp only [Bool.not_true, Bool.not_false] at hc'
              go_wp2
              go_meet
              exact ⟨by rw [HBD.out]; rfl, rfl⟩)
          case rest =>
          obtain ⟨rfl, hw⟩ := hcut
          subst hw
          cases BB with
          | true =>
            have HR := Lib.hid (show V = 2 by rw [HVJ.out]; exact decsE_stop bl HT.out (decE_d D1.out D2.out HLEB.out HKK.out HBB.out) (by decide))
            go_wp2
            go_ret
            exact ⟨by rw [HR.out]; rfl, HBW.out⟩
          | false =>
            have HR := Lib.hid (show V = decsE bl (pv ds (q + 1)) (ds.drop (q + 1)) by rw [HVJ.out]; exact decsE_skip bl HT.out (decE_z D1.out D2.out HLEB.out HKK.out HBB.out))
            go_wp2
            go_roundg (N2 - (q + 1))
            case measure => rw [HE.out.1]; omega
            case rel => exact ⟨q + 1, rfl, by omega, by go_num, HA.out, HR.out⟩
        · obtain rfl : q = N2 := by omega
          have HB2 := Lib.hid hbw
          have HR := Lib.hid (show V = 0 by rw [HVJ.out, ← HN2.out]; exact decsE_end _ _ _)
          clear hBr HG hbw
          go_wp2
          go_ret
          exact ⟨by rw [HR.out]; rfl, HB2.out⟩
end Go.Proofs.YtlpipoihinceiaaGreatDoor
/- ref28.GreatBlocks, Great -/
namespace Go.Proofs.YtlpipoihinceiaaGreatDoor
open Go.RowKit Go.Proofs Go.Shelf

def bigI (x : Ins) : Bool := decide (120 < (x.nm.size : Int))
def bigK (b : Blk) : Bool := decide (100 < (b.l.length : Int)) || b.l.any bigI
/-- What ref28.GreatBlocks answers. -/
def grtB (bl : List Blk) : Bool := decide (60 < (bl.length : Int)) || bl.any bigK
def grtC (lb : ByteArray) (bl : List Blk) (n : Nat) : Bool := (decide (120 < (lb.size : Int)) || decide (20 < (n : Int))) || grtB bl
theorem any_skip {α : Type} (f : α → Bool) {l : List α} {j : Nat} {x : α} (hx : l[j]? = some x) (h : f x = false) : (l.drop j).any f = (l.drop (j + 1)).any f := by
  have hj := (List.getElem?_eq_some_iff.1 hx).1
  have he : l[j] = x := (List.getElem?_eq_some_iff.1 hx).2
  rw [List.drop_eq_getElem_cons hj, List.any_cons, he, h, Bool.false_or]
theorem any_stop {α : Type} (f : α → Bool) {l : List α} {j : Nat} {x : α} (hx : l[j]? = some x) (h : f x = true) : (l.drop j).any f = true := by
  have hj := (List.getElem?_eq_some_iff.1 hx).1
  have he : l[j] = x := (List.getElem?_eq_some_iff.1 hx).2
  rw [List.drop_eq_getElem_cons hj, List.any_cons, he, h, Bool.true_or]

set_option maxRecDepth 100000 in
set_option maxHeartbeats 4000000 in
theorem GreatBlocks28_any (A1 : Option Addr) (c1 : Nat) (bl : List Blk) (w : World) (hp : BlkC w A1 c1 bl) :
    Calls Tryz.prog 97 #[.slice A1 bl.length c1] w fun e w' => e = .returned (.bool (grtB bl)) ∧ w = w' := by
  obtain ⟨N, HN⟩ : ∃ Q, Hid (bl.length = Q) := ⟨_, Lib.hid rfl⟩
  obtain ⟨V, HV⟩ : ∃ Q, Hid (grtB bl = Q) := ⟨_, Lib.hid rfl⟩
  have hn1 := hp.1
  have hn2 := hp.2.1
  rw [HV.out, HN.out]
  rw [HN.out] at hn1
  have HP := Lib.hid hp
  clear hp
  cases h60 : decide (60 < (N : Int)) with
  | true =>
    have HR := Lib.hid (show V = true by rw [← HV.out, grtB, HN.out, h60]; rfl)
    go_enter Tryz.func97, Tryz.ntmps97
    go_wp2
    go_ret
    exact ⟨by rw [HR.out]; rfl, rfl⟩
  | false =>
  have HV2 := Lib.hid (show V = bl.any bigK by rw [← HV.out, grtB, HN.out, h60]; rfl)
  go_enter Tryz.func97, Tryz.ntmps97
  go_wp2_with fail
  clear h60
  go_loopg [3, 4] N (fun g ct _ wr => ∃ j : Nat, g = N - j ∧ j ≤ N ∧ ct = .int .i64 j ∧ w = wr ∧ V = (bl.drop j).any bigK)
  case atStart => exact ⟨0, rfl, by omega, rfl, rfl, by rw [HV2.out]; rfl⟩
  case round =>
    obtain ⟨j, HG, hj, rfl, rfl, hVj⟩ := hrel
    have HVJ := Lib.hid hVj
    clear hVj
    by_cases hlt : j < N
    · obtain ⟨b, hb⟩ : ∃ b, bl[j]? = some b := ⟨_, List.getElem?_eq_getElem (by rw [HN.out]; exact hlt)⟩
      obtain ⟨g, o, rfl, f0, f1, lA, lc, f2, hic⟩ := HP.out.2.2 _ _ hb
      obtain ⟨M, HM⟩ : ∃ Q, Hid (b.l.length = Q) := ⟨_, Lib.hid rfl⟩
      have hm1 := hic.1
      have hm2 := hic.2.1
      rw [HM.out] at f2 hm1
      have HI := Lib.hid hic
      have HJ3 := Lib.hid hb
      have HG' := Lib.hid HG
      have i1 : (j : Int) < (N : Int) := by omega
      clear hb hic HG
      cases h100 : decide (100 < (M : Int)) with
      | true =>
        have HR := Lib.hid (show V = true by rw [HVJ.out]; exact any_stop _ HJ3.out (by rw [bigK, HM.out, h100]; rfl))
        go_wp2
        go_ret
        exact ⟨by rw [HR.out]; rfl, rfl⟩
      | false =>
      have HKB := Lib.hid (show bigK b = b.l.any bigI by rw [bigK, HM.out, h100]; rfl)
      go_wp2_with fail
      clear h100
      go_loopg [4] M (fun g ct wr => ∃ q : Nat, g = M - q ∧ q ≤ M ∧ ct = .int .i64 q ∧ w = wr ∧ bigK b = (b.l.drop q).any bigI)
      case atStart => exact ⟨0, rfl, by omega, rfl, rfl, by rw [HKB.out]; rfl⟩
      case round =>
        obtain ⟨q, HG, hq, rfl, rfl, hKq⟩ := hrel
        have HKQ := Lib.hid hKq
        clear hKq
        by_cases hlq : q < M
        · obtain ⟨x, hx⟩ : ∃ x, b.l[q]? = some x := ⟨_, List.getElem?_eq_getElem (by rw [HM.out]; exact hlq)⟩
          obtain ⟨lg, lo, rfl, _, _, _, e3⟩ := HI.out.2.2.2 _ _ hx
          have HX3 := Lib.hid hx
          have HGQ := Lib.hid HG
          have i2 : (q : Int) < (M : Int) := by omega
          clear hx HG
          cases h120 : decide (120 < (x.nm.size : Int)) with
          | true =>
            have HR := Lib.hid (show V = true by rw [HVJ.out]; exact any_stop _ HJ3.out (by rw [HKQ.out]; exact any_stop _ HX3.out h120))
            go_wp2
            go_ret
            exact ⟨by rw [HR.out]; rfl, rfl⟩
          | false =>
            have HR := Lib.hid (show bigK b = (b.l.drop (q + 1)).any bigI by rw [HKQ.out]; exact any_skip _ HX3.out h120)
            go_wp2
            go_roundg (M - (q + 1))
            case measure => rw [HGQ.out]; omega
            case rel => exact ⟨q + 1, rfl, by omega, by go_num, rfl, HR.out⟩
        · obtain rfl : q = M := by omega
          have HR := Lib.hid (show V = (bl.drop (j + 1)).any bigK by rw [HVJ.out]; exact any_skip _ HJ3.out (by rw [HKQ.out, ← HM.out, List.drop_length]; rfl))
          clear HG
          go_wp2
          go_roundg (N - (j + 1))
          case measure => rw [HG'.out]; omega
          case rel => exact ⟨j + 1, rfl, by omega, by go_num, rfl, HR.out⟩
    · obtain rfl : j = N := by omega
      have HR := Lib.hid (show V = false by rw [HVJ.out, ← HN.out, List.drop_length]; rfl)
      clear HG
      go_wp2
      go_ret
      exact ⟨by rw [HR.out]; rfl, rfl⟩
set_option maxRecDepth 100000 in
set_option maxHeartbeats 4000000 in
theorem Great28_any (lb : ByteArray) (A1 : Option Addr) (c1 : Nat) (bl : List Blk) (A2 : Option Addr) (n2 c2 : Nat) (w : World) (hp : BlkC w A1 c1 bl) :
    Calls Tryz.prog 38 #[.agg #[.string lb, .slice A1 bl.length c1, .slice A2 n2 c2]] w fun e w' => e = .returned (.bool (grtC lb bl n2)) ∧ Below w.heap.size w w' := by
  obtain ⟨V, HV⟩ : ∃ Q, Hid (grtC lb bl n2 = Q) := ⟨_, Lib.hid rfl⟩
  obtain ⟨N, HN⟩ : ∃ Q, Hid (bl.length = Q) := ⟨_, Lib.hid rfl⟩
  rw [HV.out, HN.out]
  obtain ⟨W0, hW0⟩ : ∃ W0, w.alloc (.cells #[.string lb, .slice A1 N c1, .slice A2 n2 c2] 62) = W0 := ⟨_, rfl⟩
  have hB0 : Below w.heap.size w W0 := by rw [← hW0]; exact (Below.refl _ _).alloc (Nat.le_refl _) _
  have HB := Lib.hid hB0
  have x0 : W0.cell? ⟨w.heap.size, 0, none⟩ = some (.string lb) := by subst hW0; go_simp
  have x1 : W0.cell? ⟨w.heap.size, 1, none⟩ = some (.slice A1 N c1) := by subst hW0; go_simp
  have x2 : W0.cell? ⟨w.heap.size, 2, none⟩ = some (.slice A2 n2 c2) := by subst hW0; go_simp
  have hg := GreatBlocks28_any A1 c1 bl W0 (hp.keep hB0)
  rw [HN.out] at hg
  obtain ⟨G, HG⟩ : ∃ Q, Hid (grtB bl = Q) := ⟨_, Lib.hid rfl⟩
  rw [HG.out] at hg
  have HGR := Lib.hid hg
  clear hg hB0 hp
  cases h1 : decide (120 < (lb.size : Int)) with
  | true =>
    have HR := Lib.hid (show V = true by rw [← HV.out, grtC, h1]; rfl)
    go_enter Tryz.func38, Tryz.ntmps38
    go_wp2
    go_ret
    exact ⟨by rw [HR.out]; rfl, HB.out⟩
  | false =>
  cases h2 : decide (20 < (n2 : Int)) with
  | true =>
    have HR := Lib.hid (show V = true by rw [← HV.out, grtC, h1, h2]; rfl)
    go_enter Tryz.func38, Tryz.ntmps38
    go_wp2
    go_ret
    exact ⟨by rw [HR.out]; rfl, HB.out⟩
  | false =>
    have HR := Lib.hid (show V = G by rw [← HV.out, grtC, h1, h2, HG.out]; rfl)
    go_enter Tryz.func38, Tryz.ntmps38
    go_wp2_with fail
    refine HGR.out.mono ?_
    rintro e w1 ⟨rfl, rfl⟩
    go_wp2
    go_ret
    exact ⟨by rw [HR.out]; rfl, HB.out⟩
end Go.Proofs.YtlpipoihinceiaaGreatDoor
