/- ref24.Bound at a dotted name -/
import Derived.Test.YtacjjkbkhpdhnaaGreatDoorZmg
import Derived.Test.YtacjjkbkhpdhnaaGreatDoorZqd
import Derived.Deep.DeepCutAuto
import Derived.Deep.Onto
import Derived.Deep.RegionLaw
import Derived.Deep.RegionHeld3
import Derived.BigQuiet
import Derived.Deep.QuietTactic
namespace Go.Proofs.YtacjjkbkhpdhnaaGreatDoor
open Go Go.RowKit Go.Proofs Go.Shelf

set_option maxRecDepth 100000 in
set_option maxHeartbeats 16000000 in
theorem boundDot_any (n m : ByteArray) (i d : Int) (A : Option Addr) (l c : Nat) (uses : List ByteArray) (uA : Option Addr) (uc : Nat) (ds : List Dc) (dA : Option Addr) (dc : Nat) (known : List If) (kA : Option Addr) (kc : Nat) (sc : List ByteArray) (bA : Option Addr) (bc : Nat) (w : World)
    (hu : SlS w w.heap.size uA uc uses) (hd : SlD w w.heap.size dA dc ds) (hk : SlI w w.heap.size kA kc known) (hb : SlS w w.heap.size bA bc sc) (hkn : ∀ x ∈ known, ∀ s ∈ x.sigs, s.name.size ≤ 9223372036854775807) (hus : ∀ u ∈ uses, u.size ≤ 9223372036854775807) :
    Calls Tryz.prog 71 #[.agg #[.int .i64 4, .string n, .string m, .int .i64 i, .int .i64 d, .slice A l c], .agg #[.slice uA uses.length uc, .slice dA ds.length dc], .slice kA known.length kc, .slice bA sc.length bc] w (BdL (gBound ds uses known ⟨4, n, m, i, d⟩ sc) w) := by
  obtain ⟨ND, HND⟩ : ∃ Q, Hid (ds.length = Q) := ⟨_, Lib.hid rfl⟩
  obtain ⟨NU, HNU⟩ : ∃ Q, Hid (uses.length = Q) := ⟨_, Lib.hid rfl⟩
  obtain ⟨NK, HNK⟩ : ∃ Q, Hid (known.length = Q) := ⟨_, Lib.hid rfl⟩
  obtain ⟨NB, HNB⟩ : ∃ Q, Hid (sc.length = Q) := ⟨_, Lib.hid rfl⟩
  obtain ⟨W0, hW0⟩ : ∃ W0, ((w.alloc (.cells #[.int .i64 4, .string n, .string m, .int .i64 i, .int .i64 d, .slice A l c] 28)).alloc (.cells #[.slice uA NU uc, .slice dA ND dc] 40)).alloc (.cells #[.int .i64 0, .string ⟨#[]⟩, .string ⟨#[]⟩, .int .i64 0, .int .i64 0, .slice none 0 0] 28) = W0 := ⟨_, rfl⟩
  have hz0 : w.heap.size + 1 + 1 < W0.heap.size := by rw [← hW0]; simp
  have hB0 : Below w.heap.size w W0 := by rw [← hW0]; exact (((Below.refl _ _).alloc (Nat.le_refl _) _).alloc (by simp) _).alloc (by simp; omega) _
  have hx0 : W0.heap[w.heap.size]? = some (.cells #[.int .i64 4, .string n, .string m, .int .i64 i, .int .i64 d, .slice A l c] 28 (0, 0)) := by rw [← hW0]; exact (Below.heap_alloc _ _ _ (by simp; omega)).trans ((Below.heap_alloc _ _ _ (by simp)).trans (heap_alloc_new w _))
  have hm0 : W0.heap[w.heap.size + 1]? = some (.cells #[.slice uA NU uc, .slice dA ND dc] 40 (0, 0)) := by
    rw [← hW0]
    refine (Below.heap_alloc _ _ _ (by simp)).trans ?_
    have h := heap_alloc_new (w.alloc (.cells #[.int .i64 4, .string n, .string m, .int .i64 i, .int .i64 d, .slice A l c] 28)) (.cells #[.slice uA NU uc, .slice dA ND dc] 40)
    simpa using h
  have hy0 : W0.heap[w.heap.size + 1 + 1]? = some (.cells #[.int .i64 0, .string ⟨#[]⟩, .string ⟨#[]⟩, .int .i64 0, .int .i64 0, .slice none 0 0] 28 (0, 0)) := by
    have h := heap_alloc_new ((w.alloc (.cells #[.int .i64 4, .string n, .string m, .int .i64 i, .int .i64 d, .slice A l c] 28)).alloc (.cells #[.slice uA NU uc, .slice dA ND dc] 40)) (.cells #[.int .i64 0, .string ⟨#[]⟩, .string ⟨#[]⟩, .int .i64 0, .int .i64 0, .slice none 0 0] 28)
    rw [hW0] at h
    simpa using h
  have HC : Hid (∀ X, Below W0.heap.size W0 X → Below w.heap.size w X ∧ w.heap.size + 1 + 1 < X.heap.size ∧ X.heap[w.heap.size + 1 + 1]? = some (.cells #[.int .i64 0, .string ⟨#[]⟩, .string ⟨#[]⟩, .int .i64 0, .int .i64 0, .slice none 0 0] 28 (0, 0)) ∧ X.cell? ⟨w.heap.size, 0, none⟩ = some (.int .i64 4) ∧ X.cell? ⟨w.heap.size, 1, none⟩ = some (.string n) ∧ X.cell? ⟨w.heap.size, 2, none⟩ = some (.string m) ∧ X.cell? ⟨w.heap.size, 3, none⟩ = some (.int .i64 i) ∧ X.cell? ⟨w.heap.size, 4, none⟩ = some (.int .i64 d) ∧ X.cell? ⟨w.heap.size, 5, none⟩ = some (.slice A l c) ∧ X.cell? ⟨w.heap.size + 1, 0, none⟩ = some (.slice uA NU uc) ∧ X.cell? ⟨w.heap.size + 1, 1, none⟩ = some (.slice dA ND dc)) := fun X hX => by
    have hx := (hX.block w.heap.size (by omega)).trans hx0
    have hm := (hX.block (w.heap.size + 1) (by omega)).trans hm0
    exact ⟨hB0.trans (hX.mono (by omega)), Nat.lt_of_lt_of_le hz0 hX.size, (hX.block _ hz0).trans hy0, cell_of_row X _ 0 _ _ (0, 0) hx, cell_of_row X _ 1 _ _ (0, 0) hx, cell_of_row X _ 2 _ _ (0, 0) hx, cell_of_row X _ 3 _ _ (0, 0) hx, cell_of_row X _ 4 _ _ (0, 0) hx, cell_of_row X _ 5 _ _ (0, 0) hx, cell_of_row X _ 0 _ _ (0, 0) hm, cell_of_row X _ 1 _ _ (0, 0) hm⟩
  have HSl := Lib.hid (show ∀ X, Below w.heap.size w X → SlS X X.heap.size uA uc uses ∧ SlI X X.heap.size kA kc known ∧ SlS X X.heap.size bA bc sc from fun X hX => ⟨hu.keep hX.size fun p hp => hX.cell hp, hk.below hX, hb.keep hX.size fun p hp => hX.cell hp⟩)
  have hdl := hd.1
  have hdl2 := hd.2.1
  have hul := hu.1
  have hul2 := hu.2.1
  unfold maxLen at hdl2 hul2
  rw [HND.out] at hdl
  rw [HNU.out] at hul
  have HDw := Lib.hid hd
  rw [HND.out, HNU.out, HNK.out, HNB.out]
  obtain ⟨Q, HQ⟩ : ∃ Q, Hid (gBound ds uses known ⟨4, n, m, i, d⟩ sc = Q) := ⟨_, Lib.hid rfl⟩
  rw [HQ.out]
  have HKN := Lib.hid hkn
  have HUS := Lib.hid hus
  have HU0 := Lib.hid hu
  have HGN := Lib.hid (show Q = (match dotF uses known n m with | none => ((21 : Int), noNx) | some p => (0, ⟨5, p.1, ⟨#[]⟩, p.2, 0⟩)) by
    rw [← HQ.out]
    unfold gBound
    rw [if_neg (show ¬ ((4 : Int) = 3 ∧ hasN sc n = false) from fun h => absurd h.1 (by decide)), if_pos (show (4 : Int) = 4 from rfl)]
    rfl)
  clear hu hd hk hb hB0 hx0 hm0 hy0 hkn hus
  obtain ⟨_, _, _, e0, e1, e2, e3, e4, e5, m0, m1⟩ := HC.out W0 (Below.refl _ _)
  go_enter Tryz.func71, Tryz.ntmps71
  go_wp2_with fail
  clear hW0 e0 e1 e2 e3 e4 e5 m0 m1
  go_loopg [11, 12, 13, 14] NU (fun gg ct _ _ _ wr => ∃ j : Nat, gg = NU - j ∧ j ≤ NU ∧ ct = .int .i64 j ∧ Hid (dotF uses known n m = dotF (uses.drop j) known n m) ∧ Below W0.heap.size W0 wr)
  case atStart => exact ⟨0, rfl, by omega, rfl, Lib.hid rfl, Below.refl _ _⟩
  case round =>
    obtain ⟨j, HG, hj, rfl, HA, hB⟩ := hrel
    obtain ⟨hBw, hzr, hr, e0, e1, e2, e3, e4, e5, m0, m1⟩ := HC.out wr hB
    by_cases hlt : j < NU
    rotate_left
    · have HQ2 := Lib.hid (show Q = (21, noNx) by rw [HGN.out, HA.out, List.drop_of_length_le (by rw [HNU.out]; omega)]; rfl)
      have i2 : decide ((j : Int) < (NU : Int)) = false := decide_eq_false (by omega)
      have i3 : decide (j < NU) = false := decide_eq_false (by omega)
      have HBx := Lib.hid hBw
      clear HA hBw hB
      have HS := Lib.hid (six_set hr (.int .i64 4) (.string n) (.string m) (.int .i64 i) (.int .i64 d) (.slice A l c))
      obtain ⟨y0, y1, y2, y3, y4, y5, z0, z1, z2, z3, z4, z5⟩ := row6 hr
      go_wp2
      obtain ⟨W9, hW9, s0, s1, s2, s3, s4, s5, hBf, hsz, hbk⟩ := out6 HS.out HBx.out (show w.heap.size ≤ w.heap.size + 1 + 1 by omega)
      rw [hW9]
      refine bodyPost_ret (v := .tuple #[.agg #[.int .i64 4, .string n, .string m, .int .i64 i, .int .i64 d, .slice A l c], .bool false]) (by simp [results, Tryz.results71, go_sem, s0, s1, s2, s3, s4, s5]) rfl ?_
      exact BdL.err hBf HQ2.out (by decide)
    have hlt' : j < uses.length := by rw [HNU.out]; exact hlt
    have hj0 : uses[j]? = some uses[j] := List.getElem?_eq_getElem hlt'
    obtain ⟨ub, uo, rfl, hub, huc⟩ := HU0.out.2.2 (by intro e; rw [e] at hlt'; simp at hlt')
    have hucj := huc j _ hj0
    have hstep := dotF_drop (known := known) (n := n) (m := m) hj0
    have hsz := HUS.out uses[j] (List.getElem_mem hlt')
    generalize uses[j] = u at hucj hstep hsz
    clear hj0 hlt' huc
    have HUc := Lib.hid (show ∀ X : World, Below w.heap.size w X → X.cell? ⟨ub, uo + j, none⟩ = some (.string u) from fun X hX => (hX.cell (p := ⟨ub, uo + j, none⟩) hub).trans hucj)
    have u0 := HUc.out wr hBw
    clear hucj
    have j0 : (0 : Int) ≤ (j : Int) := by omega
    have j1 : (j : Int) < (NU : Int) := by omega
    have HFc := Lib.hid (face24_any known u kA kc wr (HSl.out wr hBw).2.1)
    rw [HNK.out] at HFc
    obtain ⟨fo, Hfo⟩ : ∃ q, Hid (faceO known u = q) := ⟨_, Lib.hid rfl⟩
    obtain ⟨fx, Hfx⟩ : ∃ q, Hid (fo.getD noIf = q) := ⟨_, Lib.hid rfl⟩
    obtain ⟨fb, Hfb⟩ : ∃ q, Hid (fo.isSome = q) := ⟨_, Lib.hid rfl⟩
    have HSi := Lib.hid (show sigsOf known u = fx.sigs by unfold sigsOf; rw [Hfo.out, Hfx.out])
    have HSG := Lib.hid (show ∀ X : World, Below w.heap.size w X → SlG X X.heap.size fx.sA fx.sc fx.sigs from fun X hX => by
      have h := (HSl.out X hX).2.1
      rw [← Hfx.out, ← Hfo.out]
      cases hf : faceO known u with
      | none => exact SlG.nil _ _ _ _ (by decide)
      | some y =>
        obtain ⟨q, hq⟩ := List.getElem?_of_mem (List.mem_of_find?_eq_some hf)
        obtain ⟨_, _, _, _, _, _, hsg⟩ := h.at_ hq
        exact hsg)
    have HSz := Lib.hid (show ∀ s ∈ fx.sigs, s.name.size ≤ 9223372036854775807 from fun s hs => by
      rw [← Hfx.out, ← Hfo.out] at hs
      cases hf : faceO known u with
      | none => rw [hf] at hs; exact absurd hs (by simp [noIf])
      | some y => rw [hf] at hs; exact HKN.out y (List.mem_of_find?_eq_some hf) s hs)
    rw [Hfo.out, Hfx.out, Hfb.out] at HFc
    obtain ⟨fl, fA, fc, fs⟩ := fx
    simp only [If.cells] at HFc HSG HSz HSi
    rw [HSi.out] at hstep
    obtain ⟨NS, HNS⟩ : ∃ q, Hid (fs.length = q) := ⟨_, Lib.hid rfl⟩
    rw [HNS.out] at HFc
    have HB := Lib.hid hB
    have HAl := Lib.hid (show ∀ (X : World) (nd : Nat), Calls Tryz.prog 15 #[.string u] (X.drewN nd) fun e Y => e = .returned (.string (aliasB u)) ∧ Y = X.drewN nd from fun X nd => alias24_q u X nd hsz)
    clear hB hBw hr
    go_wp2_with fail
    refine HFc.out.mono ?_
    rintro e w1 ⟨rfl, hb1⟩
    obtain ⟨W2, hW2⟩ : ∃ q, w1.alloc (.cells #[.string fl, .slice fA NS fc] 55) = q := ⟨_, rfl⟩
    have hb2 : Below W0.heap.size W0 W2 := by rw [← hW2]; exact (HB.out.trans (hb1.mono HB.out.size)).alloc (HB.out.trans (hb1.mono HB.out.size)).size _
    have hx2 : W2.heap[w1.heap.size]? = some (.cells #[.string fl, .slice fA NS fc] 55 (0, 0)) := by rw [← hW2]; exact heap_alloc_new _ _
    have hl2 : w1.heap.size < W2.heap.size := by rw [← hW2]; simp
    have HC2 := Lib.hid (show ∀ X, Below W2.heap.size W2 X → Below W0.heap.size W0 X ∧ X.cell? ⟨w1.heap.size, 1, none⟩ = some (.slice fA NS fc) ∧ SlG X X.heap.size fA fc fs ∧ X.cell? ⟨ub, uo + j, none⟩ = some (.string u) from fun X hX => by
      have h1 := hb2.trans (hX.mono hb2.size)
      exact ⟨h1, cell_of_row X _ 1 _ _ (0, 0) ((hX.block _ hl2).trans hx2), HSG.out X (HC.out X h1).1, HUc.out X (HC.out X h1).1⟩)
    obtain ⟨_, _, hg2, _⟩ := HC2.out W2 (Below.refl _ _)
    have gc1 := hg2.1
    have gc2 := hg2.2.1
    unfold maxLen at gc2
    rw [HNS.out] at gc1
    obtain ⟨ab, Hab⟩ : ∃ q, Hid (((aliasB u).toList == n.toList) = q) := ⟨_, Lib.hid rfl⟩
    obtain ⟨ub', Hub⟩ : ∃ q, Hid (aliasB u = q) := ⟨_, Lib.hid rfl⟩
    rw [Hab.out] at hstep
    rw [Hub.out] at HAl Hab
    have hab := Hab.out
    clear hb1 hb2 hx2 hl2 hg2 e0 e1 e2 e3 e4 e5 m0 m1 HFc u0
    go_wp2_with fail
    clear hW2
    go_loopg [14] NS (fun gg ct wr => ∃ k : Nat, gg = NS - k ∧ k ≤ NS ∧ ct = .int .i64 k ∧ Hid (sigO fs (fun s => s.name.toList == m.toList) = sigO (fs.drop k) (fun s => s.name.toList == m.toList)) ∧ Below W2.heap.size W2 wr)
    case atStart => exact ⟨0, rfl, by omega, rfl, Lib.hid rfl, Below.refl _ _⟩
    case round =>
      obtain ⟨k, HGk, hkk, rfl, HAk, hBk⟩ := hrel
      have HBk := Lib.hid hBk
      obtain ⟨hB0, f1, hsg, u0⟩ := HC2.out wr hBk
      obtain ⟨hBw, hzr, hr, e0, e1, e2, e3, e4, e5, m0, m1⟩ := HC.out wr hB0
      by_cases hlk : k < NS
      rotate_left
      · have HF := Lib.hid (show dotF uses known n m = dotF (uses.drop (j + 1)) known n m by
          rw [HA.out, hstep, HAk.out, List.drop_of_length_le (by rw [HNS.out]; omega)]
          cases ab <;> rfl)
        have HB5 := Lib.hid hB0
        have i2 : decide ((k : Int) < (NS : Int)) = false := decide_eq_false (by omega)
        have i3 : decide (k < NS) = false := decide_eq_false (by omega)
        clear hstep HA HAk hBk hB0 hsg hBw hr
        go_wp2_with fail
        go_quiet (fail)
        go_wp2
        go_roundg (NU - (j + 1))
        case measure => rw [HG]; omega
        case rel => exact ⟨j + 1, rfl, by omega, by go_num, HF, below_drewN HB5.out _⟩
      have i1 : (k : Int) < (NS : Int) := by omega
      have k0 : (0 : Int) ≤ (k : Int) := by omega
      cases ab with
      | false =>
        have HF := Lib.hid (show dotF uses known n m = dotF (uses.drop (j + 1)) known n m by
          rw [HA.out, hstep]
          rfl)
        have HB5 := Lib.hid hB0
        clear hstep HA HAk hBk hB0 hsg hBw hr
        go_wp2_with fail
        go_quiet ((go_at_call 15; with_reducible exact Calls.quiet_of_same (HAl.out _ _)))
        go_wp2
        go_roundg (NU - (j + 1))
        case measure => rw [HG]; omega
        case rel => exact ⟨j + 1, rfl, by omega, by go_num, HF, below_drewN HB5.out _⟩
      | true =>
      go_upto_region 14 with fail
      go_cut [100] (fun s wx => s = .bool true ∧ ∃ nd, wx = wr.drewN nd)
      case first =>
        clear hstep HA HAk hBk hB0 hsg hBw hr
        go_quiet ((go_at_call 15; with_reducible exact Calls.quiet_of_same (HAl.out _ _)))
        go_wp2
        go_meet
        exact ⟨rfl, _, rfl⟩
      case rest =>
      obtain ⟨h100, nd, hnd⟩ := hcut
      subst h100
      obtain ⟨W6, rfl⟩ : ∃ q, q = wc := ⟨_, rfl⟩
      have hb6 : Below W2.heap.size W2 W6 := by rw [hnd]; exact below_drewN HBk.out nd
      clear hnd e0 e1 e2 e3 e4 e5 m0 m1 f1 u0 hsg hBk hB0 hBw hr hzr
      obtain ⟨hB6, f1, hsg, u0⟩ := HC2.out W6 hb6
      obtain ⟨hBw, hzr, hr, e0, e1, e2, e3, e4, e5, m0, m1⟩ := HC.out W6 hB6
      have hlk' : k < fs.length := by rw [HNS.out]; exact hlk
      have hx0 : fs[k]? = some fs[k] := List.getElem?_eq_getElem hlk'
      obtain ⟨b, o, rfl, hbb, d0, d1, d2, d3, d4, d5⟩ := hsg.at_ hx0
      have hsk := sigO_drop' (p := fun s => s.name.toList == m.toList) hx0
      have hsz2 := HSz.out fs[k] (List.getElem_mem hlk')
      generalize fs[k] = x at d0 d1 d2 d3 d4 d5 hsk hsz2
      have HCo := Lib.hid (show ∀ X : World, Calls Tryz.prog 114 #[.agg #[.int .i64 x.id, .string x.name, .int .i64 x.vars, .int .i64 x.kind, .int .i64 x.var, .slice x.tA x.tn x.tc]] X fun e Y => e = .returned (.bool (sgB x)) ∧ Below X.heap.size X Y from fun X => counts24_any x hsz2 X)
      obtain ⟨cb, Hcb⟩ : ∃ q, Hid (sgB x = q) := ⟨_, Lib.hid rfl⟩
      obtain ⟨ib, Hib⟩ : ∃ q, Hid ((x.name.toList == m.toList) = q) := ⟨_, Lib.hid rfl⟩
      rw [Hcb.out] at HCo
      simp only [Hcb.out, Hib.out] at hsk
      have hlw : w1.heap.size < W6.heap.size := World.block_lt_of_cell? W6 _ f1
      have HKY := Lib.hid (show ∀ Y : World, Below W6.heap.size W6 Y → Y.cell? ⟨w1.heap.size, 1, none⟩ = some (.slice (some ⟨b, o, none⟩) NS fc) ∧ Y.cell? ⟨b, o + k * 6, none⟩ = some (.int .i64 x.id) ∧ Below W2.heap.size W2 Y from fun Y hY => ⟨(hY.cell (p := ⟨w1.heap.size, 1, none⟩) hlw).trans f1, (hY.cell (p := ⟨b, _, none⟩) hbb).trans d0, hb6.trans (hY.mono hb6.size)⟩)
      have HSX := Lib.hid (show ∀ X : World, Below W6.heap.size W6 X → X.cell? ⟨w1.heap.size, 1, none⟩ = some (.slice (some ⟨b, o, none⟩) NS fc) ∧ X.cell? ⟨b, o + k * 6, none⟩ = some (.int .i64 x.id) ∧ X.cell? ⟨b, o + k * 6 + 1, none⟩ = some (.string x.name) ∧ X.cell? ⟨b, o + k * 6 + 2, none⟩ = some (.int .i64 x.vars) ∧ X.cell? ⟨b, o + k * 6 + 3, none⟩ = some (.int .i64 x.kind) ∧ X.cell? ⟨b, o + k * 6 + 4, none⟩ = some (.int .i64 x.var) ∧ X.cell? ⟨b, o + k * 6 + 5, none⟩ = some (.slice x.tA x.tn x.tc) ∧ X.cell? ⟨w.heap.size, 2, none⟩ = some (.string m) from fun X hX => by
        have q : ∀ (u q : Nat) (v : Value), u < W6.heap.size → W6.cell? ⟨u, q, none⟩ = some v → X.cell? ⟨u, q, none⟩ = some v := fun u q v hu h => (hX.cell (p := ⟨u, q, none⟩) hu).trans h
        exact ⟨q _ _ _ hlw f1, q _ _ _ hbb d0, q _ _ _ hbb d1, q _ _ _ hbb d2, q _ _ _ hbb d3, q _ _ _ hbb d4, q _ _ _ hbb d5, q _ _ _ (by omega) e2⟩)
      have hI := Hib.out
      clear hx0 hlk' hsz2 hB6 hBw hb6 hr hzr hlw hbb
      go_upto_region 16 with fail
      go_cut [119] (fun s119 wx => s119 = .bool (cb && ib) ∧ Below W6.heap.size W6 wx)
      case first =>
          have HBD := Lib.hid (below_drewK (Below.refl W6.heap.size W6))
          cases cb with
          | true =>
            refine wp_region_held_drew (S := fun X => X.cell? ⟨w1.heap.size, 1, none⟩ = some (.slice (some ⟨b, o, none⟩) NS fc) ∧ X.cell? ⟨b, o + k * 6, none⟩ = some (.int .i64 x.id) ∧ X.cell? ⟨b, o + k * 6 + 1, none⟩ = some (.string x.name) ∧ X.cell? ⟨b, o + k * 6 + 2, none⟩ = some (.int .i64 x.vars) ∧ X.cell? ⟨b, o + k * 6 + 3, none⟩ = some (.int .i64 x.kind) ∧ X.cell? ⟨b, o + k * 6 + 4, none⟩ = some (.int .i64 x.var) ∧ X.cell? ⟨b, o + k * 6 + 5, none⟩ = some (.slice x.tA x.tn x.tc) ∧ X.cell? ⟨w.heap.size, 2, none⟩ = some (.string m)) (by kernel_rfl) (HSX.out _ HBD.out) (fun hHeld => ?_)
            refine wpAnyH_take (i := 0) (oi := { dst := some 103, op := Op.fieldAddr 55 (Operand.tmp 12) 1, type := 0, pos := "ref.go:187", after := #[], guard := none }) (v := ?v1) rfl (by kernel_rfl) (by kernel_rfl) (by kernel_rfl) (fun _ _ _ h => h) (Or.inl ⟨by rfl, ?hy1⟩) (by assumption) ?_
            case hy1 => (intro w hSw; (try dsimp only at hSw); first | (go_simp; done) | (go_simp; with_reducible rfl))
            try simp only [Act.put, List.setIfInBounds_toArray, List.set_cons_zero, List.set_cons_succ]
            refine wpAnyH_take (i := 1) (oi := { dst := some 104, op := Op.load 53 (Operand.tmp 103), type := 53, pos := "ref.go:187", after := #[{ on := 0, ground := Ground.data }], guard := none }) (v := ?v2) rfl (by kernel_rfl) (by kernel_rfl) (by kernel_rfl) (fun _ _ _ h => h) (Or.inl ⟨by rfl, ?hy2⟩) (by assumption) ?_
            case hy2 => (intro w hSw; (try dsimp only at hSw); first | (go_simp; done) | (go_simp; with_reducible rfl))
            try simp only [Act.put, List.setIfInBounds_toArray, List.set_cons_zero, List.set_cons_succ]
            refine wpAnyH_take (i := 2) (oi := { dst := some 105, op := Op.move (Operand.tmp 14), type := 3, pos := "ref.go:187", after := #[], guard := none }) (v := ?v3) rfl (by kernel_rfl) (by kernel_rfl) (by kernel_rfl) (fun _ _ _ h => h) (Or.inl ⟨by rfl, ?hy3⟩) (by assumption) ?_
            case hy3 => (intro w hSw; (try dsimp only at hSw); first | (go_simp; done) | (go_simp; with_reducible rfl))
            try simp only [Act.put, List.setIfInBounds_toArray, List.set_cons_zero, List.set_cons_succ]
            refine wpAnyH_take (i := 3) (oi := { dst := some 106, op := Op.indexAddr 53 (Operand.tmp 104) (Operand.tmp 105), type := 0, pos := "ref.go:187", after := #[{ on := 1, ground := Ground.data }, { on := 2, ground := Ground.data }], guard := none }) (v := ?v4) rfl (by kernel_rfl) (by kernel_rfl) (by kernel_rfl) (fun _ _ _ h => h) (Or.inl ⟨by rfl, ?hy4⟩) (by assumption) ?_
            case hy4 => (intro w hSw; (try dsimp only at hSw); first | (go_simp; done) | (go_simp; with_reducible rfl))
            try simp only [Act.put, List.setIfInBounds_toArray, List.set_cons_zero, List.set_cons_succ]
            refine wpAnyH_take (i := 4) (oi := { dst := some 107, op := Op.load 100 (Operand.tmp 106), type := 100, pos := "ref.go:187", after := #[{ on := 3, ground := Ground.data }], guard := none }) (v := ?v5) rfl (by kernel_rfl) (by kernel_rfl) (by kernel_rfl) (fun _ _ _ h => h) (Or.inl ⟨by rfl, ?hy5⟩) (by assumption) ?_
            case hy5 => (intro w hSw; (try dsimp only at hSw); first | (go_simp; done) | (go_simp; with_reducible rfl))
            try simp only [Act.put, List.setIfInBounds_toArray, List.set_cons_zero, List.set_cons_succ]
            refine wpAnyH_ready (rs := [5]) (by kernel_rfl) (by simp) ?_
            refine AllReadyH.cons rfl (fun K hK => ?_) AllReadyH.nil
            go_simp
            refine (HCo.out _).mono ?_
            rintro e w3 ⟨rfl, hb3⟩
            have hbb : Below W6.heap.size W6 w3 := HBD.out.trans (hb3.mono (Nat.le_refl _))
            go_wp2_with fail
            refine hK.out _ _ (HSX.out _ hbb) (fun hHeld3 => ?_)
            clear hK K hHeld
            try simp only [Act.put, List.setIfInBounds_toArray, List.set_cons_zero, List.set_cons_succ]
            refine wpAnyH_take (i := 6) (oi := { dst := some 109, op := Op.move (Operand.tmp 108), type := 4, pos := "ref.go:187", after := #[{ on := 5, ground := Ground.data }, { on := 5, ground := Ground.chain }], guard := none }) (v := ?v6) rfl (by kernel_rfl) (by kernel_rfl) (by kernel_rfl) (fun _ _ _ h => h) (Or.inl ⟨by rfl, ?hy6⟩) (by assumption) ?_
            case hy6 => (intro w hSw; (try dsimp only at hSw); first | (go_simp; done) | (go_simp; with_reducible rfl))
            try simp only [Act.put, List.setIfInBounds_toArray, List.set_cons_zero, List.set_cons_succ]
            refine wpAnyH_take (i := 7) (oi := { dst := some 110, op := Op.fieldAddr 55 (Operand.tmp 12) 1, type := 0, pos := "ref.go:187", after := #[{ on := 6, ground := Ground.guard }], guard := some (6, true) }) (v := ?v7) rfl (by kernel_rfl) (by kernel_rfl) (by kernel_rfl) (fun _ _ _ h => h) (Or.inl ⟨by rfl, ?hy7⟩) (by assumption) ?_
            case hy7 => (intro w hSw; (try dsimp only at hSw); first | (go_simp; done) | (go_simp; with_reducible rfl))
            try simp only [Act.put, List.setIfInBounds_toArray, List.set_cons_zero, List.set_cons_succ]
            refine wpAnyH_take (i := 8) (oi := { dst := some 111, op := Op.load 53 (Operand.tmp 110), type := 53, pos := "ref.go:187", after := #[{ on := 7, ground := Ground.data }, { on := 6, ground := Ground.guard }], guard := some (6, true) }) (v := ?v8) rfl (by kernel_rfl) (by kernel_rfl) (by kernel_rfl) (fun _ _ _ h => h) (Or.inl ⟨by rfl, ?hy8⟩) (by assumption) ?_
            case hy8 => (intro w hSw; (try dsimp only at hSw); first | (go_simp; done) | (go_simp; with_reducible rfl))
            try simp only [Act.put, List.setIfInBounds_toArray, List.set_cons_zero, List.set_cons_succ]
            refine wpAnyH_take (i := 9) (oi := { dst := some 112, op := Op.move (Operand.tmp 14), type := 3, pos := "ref.go:187", after := #[{ on := 6, ground := Ground.guard }], guard := some (6, true) }) (v := ?v9) rfl (by kernel_rfl) (by kernel_rfl) (by kernel_rfl) (fun _ _ _ h => h) (Or.inl ⟨by rfl, ?hy9⟩) (by assumption) ?_
            case hy9 => (intro w hSw; (try dsimp only at hSw); first | (go_simp; done) | (go_simp; with_reducible rfl))
            try simp only [Act.put, List.setIfInBounds_toArray, List.set_cons_zero, List.set_cons_succ]
            refine wpAnyH_take (i := 10) (oi := { dst := some 113, op := Op.indexAddr 53 (Operand.tmp 111) (Operand.tmp 112), type := 0, pos := "ref.go:187", after := #[{ on := 8, ground := Ground.data }, { on := 9, ground := Ground.data }, { on := 6, ground := Ground.guard }], guard := some (6, true) }) (v := ?v10) rfl (by kernel_rfl) (by kernel_rfl) (by kernel_rfl) (fun _ _ _ h => h) (Or.inl ⟨by rfl, ?hy10⟩) (by assumption) ?_
            case hy10 => (intro w hSw; (try dsimp only at hSw); first | (go_simp; done) | (go_simp; with_reducible rfl))
            try simp only [Act.put, List.setIfInBounds_toArray, List.set_cons_zero, List.set_cons_succ]
            refine wpAnyH_take (i := 11) (oi := { dst := some 114, op := Op.fieldAddr 100 (Operand.tmp 113) 1, type := 0, pos := "ref.go:187", after := #[{ on := 10, ground := Ground.data }, { on := 6, ground := Ground.guard }], guard := some (6, true) }) (v := ?v11) rfl (by kernel_rfl) (by kernel_rfl) (by kernel_rfl) (fun _ _ _ h => h) (Or.inl ⟨by rfl, ?hy11⟩) (by assumption) ?_
            case hy11 => (intro w hSw; (try dsimp only at hSw); first | (go_simp; done) | (go_simp; with_reducible rfl))
            try simp only [Act.put, List.setIfInBounds_toArray, List.set_cons_zero, List.set_cons_succ]
            refine wpAnyH_take (i := 12) (oi := { dst := some 115, op := Op.load 9 (Operand.tmp 114), type := 9, pos := "ref.go:187", after := #[{ on := 11, ground := Ground.data }, { on := 6, ground := Ground.guard }], guard := some (6, true) }) (v := ?v12) rfl (by kernel_rfl) (by kernel_rfl) (by kernel_rfl) (fun _ _ _ h => h) (Or.inl ⟨by rfl, ?hy12⟩) (by assumption) ?_
            case hy12 => (intro w hSw; (try dsimp only at hSw); first | (go_simp; done) | (go_simp; with_reducible rfl))
            try simp only [Act.put, List.setIfInBounds_toArray, List.set_cons_zero, List.set_cons_succ]
            refine wpAnyH_take (i := 13) (oi := { dst := some 116, op := Op.fieldAddr 28 (Operand.tmp 4) 2, type := 0, pos := "ref.go:187", after := #[{ on := 6, ground := Ground.guard }], guard := some (6, true) }) (v := ?v13) rfl (by kernel_rfl) (by kernel_rfl) (by kernel_rfl) (fun _ _ _ h => h) (Or.inl ⟨by rfl, ?hy13⟩) (by assumption) ?_
            case hy13 => (intro w hSw; (try dsimp only at hSw); first | (go_simp; done) | (go_simp; with_reducible rfl))
            try simp only [Act.put, List.setIfInBounds_toArray, List.set_cons_zero, List.set_cons_succ]
            refine wpAnyH_take (i := 14) (oi := { dst := some 117, op := Op.load 9 (Operand.tmp 116), type := 9, pos := "ref.go:187", after := #[{ on := 13, ground := Ground.data }, { on := 6, ground := Ground.guard }], guard := some (6, true) }) (v := ?v14) rfl (by kernel_rfl) (by kernel_rfl) (by kernel_rfl) (fun _ _ _ h => h) (Or.inl ⟨by rfl, ?hy14⟩) (by assumption) ?_
            case hy14 => (intro w hSw; (try dsimp only at hSw); first | (go_simp; done) | (go_simp; with_reducible rfl))
            try simp only [Act.put, List.setIfInBounds_toArray, List.set_cons_zero, List.set_cons_succ]
            refine wpAnyH_take (i := 15) (oi := { dst := some 118, op := Op.binOp BinOp.eql 9 (Operand.tmp 115) (Operand.tmp 117) 9, type := 4, pos := "ref.go:187", after := #[{ on := 12, ground := Ground.data }, { on := 14, ground := Ground.data }, { on := 6, ground := Ground.guard }], guard := some (6, true) }) (v := ?v15) rfl (by kernel_rfl) (by kernel_rfl) (by kernel_rfl) (fun _ _ _ h => h) (Or.inl ⟨by rfl, ?hy15⟩) (by assumption) ?_
            case hy15 => (intro w hSw; (try dsimp only at hSw); first | (go_simp; done) | (go_simp; with_reducible rfl))
            try simp only [Act.put, List.setIfInBounds_toArray, List.set_cons_zero, List.set_cons_succ]
            refine wpAnyH_take (i := 16) (oi := { dst := some 119, op := Op.pick (Operand.tmp 109) (Operand.tmp 118) (Operand.const (Value.bool false)), type := 4, pos := "ref.go:187", after := #[{ on := 6, ground := Ground.data }, { on := 15, ground := Ground.data }], guard := none }) (v := ?v16) rfl (by kernel_rfl) (by kernel_rfl) (by kernel_rfl) (fun _ _ _ h => h) (Or.inl ⟨by rfl, ?hy16⟩) (by assumption) ?_
            case hy16 => (intro w hSw; (try dsimp only at hSw); first | (go_simp; done) | (go_simp; with_reducible rfl))
            try simp only [Act.put, List.setIfInBounds_toArray, List.set_cons_zero, List.set_cons_succ]
            refine wpAnyH_done (by kernel_rfl) ?_ _
            (try go_wp2)
            go_meet
            exact ⟨by first | rfl | rw [hI] | simp [hI], hbb⟩
          | false =>
            refine wp_region_held_drew (S := fun X => X.cell? ⟨w1.heap.size, 1, none⟩ = some (.slice (some ⟨b, o, none⟩) NS fc) ∧ X.cell? ⟨b, o + k * 6, none⟩ = some (.int .i64 x.id) ∧ X.cell? ⟨b, o + k * 6 + 1, none⟩ = some (.string x.name) ∧ X.cell? ⟨b, o + k * 6 + 2, none⟩ = some (.int .i64 x.vars) ∧ X.cell? ⟨b, o + k * 6 + 3, none⟩ = some (.int .i64 x.kind) ∧ X.cell? ⟨b, o + k * 6 + 4, none⟩ = some (.int .i64 x.var) ∧ X.cell? ⟨b, o + k * 6 + 5, none⟩ = some (.slice x.tA x.tn x.tc) ∧ X.cell? ⟨w.heap.size, 2, none⟩ = some (.string m)) (by kernel_rfl) (HSX.out _ HBD.out) (fun hHeld => ?_)
            refine wpAnyH_take (i := 0) (oi := { dst := some 103, op := Op.fieldAddr 55 (Operand.tmp 12) 1, type := 0, pos := "ref.go:187", after := #[], guard := none }) (v := ?v17) rfl (by kernel_rfl) (by kernel_rfl) (by kernel_rfl) (fun _ _ _ h => h) (Or.inl ⟨by rfl, ?hy17⟩) (by assumption) ?_
            case hy17 => (intro w hSw; (try dsimp only at hSw); first | (go_simp; done) | (go_simp; with_reducible rfl))
            try simp only [Act.put, List.setIfInBounds_toArray, List.set_cons_zero, List.set_cons_succ]
            refine wpAnyH_take (i := 1) (oi := { dst := some 104, op := Op.load 53 (Operand.tmp 103), type := 53, pos := "ref.go:187", after := #[{ on := 0, ground := Ground.data }], guard := none }) (v := ?v18) rfl (by kernel_rfl) (by kernel_rfl) (by kernel_rfl) (fun _ _ _ h => h) (Or.inl ⟨by rfl, ?hy18⟩) (by assumption) ?_
            case hy18 => (intro w hSw; (try dsimp only at hSw); first | (go_simp; done) | (go_simp; with_reducible rfl))
            try simp only [Act.put, List.setIfInBounds_toArray, List.set_cons_zero, List.set_cons_succ]
            refine wpAnyH_take (i := 2) (oi := { dst := some 105, op := Op.move (Operand.tmp 14), type := 3, pos := "ref.go:187", after := #[], guard := none }) (v := ?v19) rfl (by kernel_rfl) (by kernel_rfl) (by kernel_rfl) (fun _ _ _ h => h) (Or.inl ⟨by rfl, ?hy19⟩) (by assumption) ?_
            case hy19 => (intro w hSw; (try dsimp only at hSw); first | (go_simp; done) | (go_simp; with_reducible rfl))
            try simp only [Act.put, List.setIfInBounds_toArray, List.set_cons_zero, List.set_cons_succ]
            refine wpAnyH_take (i := 3) (oi := { dst := some 106, op := Op.indexAddr 53 (Operand.tmp 104) (Operand.tmp 105), type := 0, pos := "ref.go:187", after := #[{ on := 1, ground := Ground.data }, { on := 2, ground := Ground.data }], guard := none }) (v := ?v20) rfl (by kernel_rfl) (by kernel_rfl) (by kernel_rfl) (fun _ _ _ h => h) (Or.inl ⟨by rfl, ?hy20⟩) (by assumption) ?_
            case hy20 => (intro w hSw; (try dsimp only at hSw); first | (go_simp; done) | (go_simp; with_reducible rfl))
            try simp only [Act.put, List.setIfInBounds_toArray, List.set_cons_zero, List.set_cons_succ]
            refine wpAnyH_take (i := 4) (oi := { dst := some 107, op := Op.load 100 (Operand.tmp 106), type := 100, pos := "ref.go:187", after := #[{ on := 3, ground := Ground.data }], guard := none }) (v := ?v21) rfl (by kernel_rfl) (by kernel_rfl) (by kernel_rfl) (fun _ _ _ h => h) (Or.inl ⟨by rfl, ?hy21⟩) (by assumption) ?_
            case hy21 => (intro w hSw; (try dsimp only at hSw); first | (go_simp; done) | (go_simp; with_reducible rfl))
            try simp only [Act.put, List.setIfInBounds_toArray, List.set_cons_zero, List.set_cons_succ]
            refine wpAnyH_ready (rs := [5]) (by kernel_rfl) (by simp) ?_
            refine AllReadyH.cons rfl (fun K hK => ?_) AllReadyH.nil
            go_simp
            refine (HCo.out _).mono ?_
            rintro e w3 ⟨rfl, hb3⟩
            have hbb : Below W6.heap.size W6 w3 := HBD.out.trans (hb3.mono (Nat.le_refl _))
            go_wp2_with fail
            refine hK.out _ _ (HSX.out _ hbb) (fun hHeld3 => ?_)
            clear hK K hHeld
            try simp only [Act.put, List.setIfInBounds_toArray, List.set_cons_zero, List.set_cons_succ]
            refine wpAnyH_take (i := 6) (oi := { dst := some 109, op := Op.move (Operand.tmp 108), type := 4, pos := "ref.go:187", after := #[{ on := 5, ground := Ground.data }, { on := 5, ground := Ground.chain }], guard := none }) (v := ?v22) rfl (by kernel_rfl) (by kernel_rfl) (by kernel_rfl) (fun _ _ _ h => h) (Or.inl ⟨by rfl, ?hy22⟩) (by assumption) ?_
            case hy22 => (intro w hSw; (try dsimp only at hSw); first | (go_simp; done) | (go_simp; with_reducible rfl))
            try simp only [Act.put, List.setIfInBounds_toArray, List.set_cons_zero, List.set_cons_succ]
            refine wpAnyH_take (i := 7) (oi := { dst := some 110, op := Op.fieldAddr 55 (Operand.tmp 12) 1, type := 0, pos := "ref.go:187", after := #[{ on := 6, ground := Ground.guard }], guard := some (6, true) }) (v := undef) rfl (by kernel_rfl) (by kernel_rfl) (by kernel_rfl) (fun _ _ _ h => h) (Or.inr ⟨by rfl, rfl⟩) (by assumption) ?_
            try simp only [Act.put, List.setIfInBounds_toArray, List.set_cons_zero, List.set_cons_succ]
            refine wpAnyH_take (i := 8) (oi := { dst := some 111, op := Op.load 53 (Operand.tmp 110), type := 53, pos := "ref.go:187", after := #[{ on := 7, ground := Ground.data }, { on := 6, ground := Ground.guard }], guard := some (6, true) }) (v := undef) rfl (by kernel_rfl) (by kernel_rfl) (by kernel_rfl) (fun _ _ _ h => h) (Or.inr ⟨by rfl, rfl⟩) (by assumption) ?_
            try simp only [Act.put, List.setIfInBounds_toArray, List.set_cons_zero, List.set_cons_succ]
            refine wpAnyH_take (i := 9) (oi := { dst := some 112, op := Op.move (Operand.tmp 14), type := 3, pos := "ref.go:187", after := #[{ on := 6, ground := Ground.guard }], guard := some (6, true) }) (v := undef) rfl (by kernel_rfl) (by kernel_rfl) (by kernel_rfl) (fun _ _ _ h => h) (Or.inr ⟨by rfl, rfl⟩) (by assumption) ?_
            try simp only [Act.put, List.setIfInBounds_toArray, List.set_cons_zero, List.set_cons_succ]
            refine wpAnyH_take (i := 10) (oi := { dst := some 113, op := Op.indexAddr 53 (Operand.tmp 111) (Operand.tmp 112), type := 0, pos := "ref.go:187", after := #[{ on := 8, ground := Ground.data }, { on := 9, ground := Ground.data }, { on := 6, ground := Ground.guard }], guard := some (6, true) }) (v := undef) rfl (by kernel_rfl) (by kernel_rfl) (by kernel_rfl) (fun _ _ _ h => h) (Or.inr ⟨by rfl, rfl⟩) (by assumption) ?_
            try simp only [Act.put, List.setIfInBounds_toArray, List.set_cons_zero, List.set_cons_succ]
            refine wpAnyH_take (i := 11) (oi := { dst := some 114, op := Op.fieldAddr 100 (Operand.tmp 113) 1, type := 0, pos := "ref.go:187", after := #[{ on := 10, ground := Ground.data }, { on := 6, ground := Ground.guard }], guard := some (6, true) }) (v := undef) rfl (by kernel_rfl) (by kernel_rfl) (by kernel_rfl) (fun _ _ _ h => h) (Or.inr ⟨by rfl, rfl⟩) (by assumption) ?_
            try simp only [Act.put, List.setIfInBounds_toArray, List.set_cons_zero, List.set_cons_succ]
            refine wpAnyH_take (i := 12) (oi := { dst := some 115, op := Op.load 9 (Operand.tmp 114), type := 9, pos := "ref.go:187", after := #[{ on := 11, ground := Ground.data }, { on := 6, ground := Ground.guard }], guard := some (6, true) }) (v := undef) rfl (by kernel_rfl) (by kernel_rfl) (by kernel_rfl) (fun _ _ _ h => h) (Or.inr ⟨by rfl, rfl⟩) (by assumption) ?_
            try simp only [Act.put, List.setIfInBounds_toArray, List.set_cons_zero, List.set_cons_succ]
            refine wpAnyH_take (i := 13) (oi := { dst := some 116, op := Op.fieldAddr 28 (Operand.tmp 4) 2, type := 0, pos := "ref.go:187", after := #[{ on := 6, ground := Ground.guard }], guard := some (6, true) }) (v := undef) rfl (by kernel_rfl) (by kernel_rfl) (by kernel_rfl) (fun _ _ _ h => h) (Or.inr ⟨by rfl, rfl⟩) (by assumption) ?_
            try simp only [Act.put, List.setIfInBounds_toArray, List.set_cons_zero, List.set_cons_succ]
            refine wpAnyH_take (i := 14) (oi := { dst := some 117, op := Op.load 9 (Operand.tmp 116), type := 9, pos := "ref.go:187", after := #[{ on := 13, ground := Ground.data }, { on := 6, ground := Ground.guard }], guard := some (6, true) }) (v := undef) rfl (by kernel_rfl) (by kernel_rfl) (by kernel_rfl) (fun _ _ _ h => h) (Or.inr ⟨by rfl, rfl⟩) (by assumption) ?_
            try simp only [Act.put, List.setIfInBounds_toArray, List.set_cons_zero, List.set_cons_succ]
            refine wpAnyH_take (i := 15) (oi := { dst := some 118, op := Op.binOp BinOp.eql 9 (Operand.tmp 115) (Operand.tmp 117) 9, type := 4, pos := "ref.go:187", after := #[{ on := 12, ground := Ground.data }, { on := 14, ground := Ground.data }, { on := 6, ground := Ground.guard }], guard := some (6, true) }) (v := undef) rfl (by kernel_rfl) (by kernel_rfl) (by kernel_rfl) (fun _ _ _ h => h) (Or.inr ⟨by rfl, rfl⟩) (by assumption) ?_
            try simp only [Act.put, List.setIfInBounds_toArray, List.set_cons_zero, List.set_cons_succ]
            refine wpAnyH_take (i := 16) (oi := { dst := some 119, op := Op.pick (Operand.tmp 109) (Operand.tmp 118) (Operand.const (Value.bool false)), type := 4, pos := "ref.go:187", after := #[{ on := 6, ground := Ground.data }, { on := 15, ground := Ground.data }], guard := none }) (v := ?v23) rfl (by kernel_rfl) (by kernel_rfl) (by kernel_rfl) (fun _ _ _ h => h) (Or.inl ⟨by rfl, ?hy23⟩) (by assumption) ?_
            case hy23 => (intro w hSw; (try dsimp only at hSw); first | (go_simp; done) | (go_simp; with_reducible rfl))
            try simp only [Act.put, List.setIfInBounds_toArray, List.set_cons_zero, List.set_cons_succ]
            refine wpAnyH_done (by kernel_rfl) ?_ _
            (try go_wp2)
            go_meet
            exact ⟨by first | rfl | rw [hI] | simp [hI], hbb⟩
      case rest =>
      obtain ⟨rfl, hbc⟩ := hcut
      obtain ⟨W7, rfl⟩ : ∃ X, X = wc := ⟨_, rfl⟩
      obtain ⟨q1, q2, hB7⟩ := HKY.out W7 hbc
      have HB7 := Lib.hid hB7
      clear e0 e1 e2 e3 e4 e5 m0 m1 f1 d0 d1 d2 d3 d4 d5 u0 hbc hB7 HCo
      obtain ⟨hB7', _, _, u0⟩ := HC2.out W7 HB7.out
      obtain ⟨hBw7, hz7, hr7, _, _, _, _, _, _, m0, _⟩ := HC.out W7 hB7'
      cases hcb : (cb && ib) with
      | false =>
        rw [hcb] at hsk
        have HS2 := Lib.hid (show sigO fs (fun s => s.name.toList == m.toList) = sigO (fs.drop (k + 1)) (fun s => s.name.toList == m.toList) by rw [HAk.out, hsk, if_neg (by decide)])
        clear hsk HAk hcb hB7' hBw7 hr7
        go_wp2
        go_roundg (NS - (k + 1))
        case measure => omega
        case rel => exact ⟨k + 1, rfl, by omega, by go_num, HS2, HB7.out⟩
      | true =>
        rw [hcb] at hsk
        have HQ2 := Lib.hid (show Q = (0, ⟨5, u, ⟨#[]⟩, x.id, 0⟩) by rw [HGN.out, HA.out, hstep, HAk.out, hsk]; rfl)
        have HBx := Lib.hid hBw7
        clear hsk HAk hcb hB7' hBw7 hstep HA
        have HS := Lib.hid (six_set hr7 (.int .i64 5) (.string u) (.string ⟨#[]⟩) (.int .i64 x.id) (.int .i64 0) (.slice none 0 0))
        obtain ⟨y0, y1, y2, y3, y4, y5, z0, z1, z2, z3, z4, z5⟩ := row6 hr7
        clear hr7
        go_upto_region 17 with fail
        go_region_law (fail)
        all_goals (
          (try go_wp2)
          obtain ⟨W9, hW9, s0, s1, s2, s3, s4, s5, hBf, hsz, hbk⟩ := out6 HS.out HBx.out (show w.heap.size ≤ w.heap.size + 1 + 1 by omega)
          rw [hW9]
          refine bodyPost_ret (v := .tuple #[.agg #[.int .i64 5, .string u, .string ⟨#[]⟩, .int .i64 x.id, .int .i64 0, .slice none 0 0], .bool true]) (by simp [results, Tryz.results71, go_sem, s0, s1, s2, s3, s4, s5]) rfl ?_
          first | exact BdL.ok hBf HQ2.out | exact BdL.ok (below_drewK hBf) HQ2.out)
end Go.Proofs.YtacjjkbkhpdhnaaGreatDoor
