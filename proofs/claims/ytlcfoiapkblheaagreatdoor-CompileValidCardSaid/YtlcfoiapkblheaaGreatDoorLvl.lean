/- law28.CompileValid -/
import Derived.Test.YtlcfoiapkblheaaGreatDoorVck
import Derived.Test.YtlcfoiapkblheaaGreatDoorGkl
import Derived.Test.YtlcfoiapkblheaaGreatDoorAwm
namespace Go.Proofs.YtlcfoiapkblheaaGreatDoor
open Go.RowKit Go.Proofs Go.Shelf

set_option maxRecDepth 100000 in
set_option maxHeartbeats 20000000 in
theorem lawValid_any (label : ByteArray) (uses : List ByteArray) (uA : Option Addr) (uc : Nat) (decls : List Dc) (dA : Option Addr) (dc : Nat) (w : World) (hu : SlS w w.heap.size uA uc uses) (hd : SlD w w.heap.size dA dc decls) :
    Calls Tryz.prog 11 #[.agg #[.string label, .slice uA uses.length uc, .slice dA decls.length dc]] w fun e w' => e = .returned (.bool true) ∧ Below w.heap.size w w' := by
  obtain ⟨N, HN⟩ : ∃ Q, Hid (decls.length = Q) := ⟨_, Lib.hid rfl⟩
  obtain ⟨NU, HNU⟩ : ∃ Q, Hid (uses.length = Q) := ⟨_, Lib.hid rfl⟩
  obtain ⟨W0, hW0⟩ : ∃ W0, w.alloc (.cells #[.string label, .slice uA NU uc, .slice dA N dc] 25) = W0 := ⟨_, rfl⟩
  have hzw : w.heap.size < W0.heap.size := by subst hW0; simp
  have hB0 : Below w.heap.size w W0 := by subst hW0; exact (Below.refl _ _).alloc (Nat.le_refl _) _
  have hx0 : W0.heap[w.heap.size]? = some (.cells #[.string label, .slice uA NU uc, .slice dA N dc] 25 (0, 0)) := by rw [← hW0]; exact heap_alloc_new w _
  have HC : Hid (∀ X, Below W0.heap.size W0 X → Below w.heap.size w X ∧ w.heap.size < X.heap.size ∧ SlS X X.heap.size uA uc uses ∧ SlD X X.heap.size dA dc decls ∧ X.cell? ⟨w.heap.size, 0, none⟩ = some (.string label) ∧ X.cell? ⟨w.heap.size, 1, none⟩ = some (.slice uA NU uc) ∧ X.cell? ⟨w.heap.size, 2, none⟩ = some (.slice dA N dc)) := fun X hX => by
    have hx := (hX.block w.heap.size (by omega)).trans hx0
    have hb := hB0.trans (hX.mono (by omega))
    exact ⟨hb, Nat.lt_of_lt_of_le hzw hX.size, hu.keep (by have := hb.size; omega) (fun p hp => hb.cell hp), hd.keep (by have := hb.size; omega) (fun p hp => hb.cell hp), cell_of_row X w.heap.size 0 _ _ (0, 0) hx, cell_of_row X w.heap.size 1 _ _ (0, 0) hx, cell_of_row X w.heap.size 2 _ _ (0, 0) hx⟩
  have hdl := hd.1
  have hdl2 := hd.2.1
  unfold maxLen at hdl2
  rw [HNU.out]
  rw [HN.out] at hdl ⊢
  obtain ⟨_, _, hsa, hda, y0, y1, y2⟩ := HC.out W0 (Below.refl _ _)
  have hgr := great24_any label uses uA uc decls dA dc W0 hsa hda
  obtain ⟨G, HG⟩ : ∃ Q, Hid (greatM label uses decls = Q) := ⟨_, Lib.hid rfl⟩
  rw [HNU.out, HN.out, HG.out] at hgr
  have HGR := Lib.hid hgr
  clear hgr hu hd hB0 hx0 hsa hda
  go_enter Tryz.func11, Tryz.ntmps11
  go_wp2_with fail
  refine HGR.out.mono ?_
  rintro e w1 ⟨rfl, hb1⟩
  have HB1 := Lib.hid hb1
  clear hb1 y0 y1 y2 hW0 HGR
  cases G
  rotate_left
  · have HA := Lib.hid (awake28_any w1)
    have hz1 := (HC.out w1 HB1.out).1
    have HZ := Lib.hid hz1
    clear hz1
    go_wp2_with fail
    refine HA.out.mono ?_
    rintro e w2 ⟨rfl, hb2⟩
    have HB2 := Lib.hid hb2
    clear hb2
    go_wp2
    go_ret
    exact ⟨rfl, HZ.out.trans (HB2.out.mono HZ.out.size)⟩
  obtain ⟨_, _, hs1, hd1, y0, y1, y2⟩ := HC.out w1 HB1.out
  have hmo := module_any label uses uA uc decls dA dc w1 hs1 hd1
  rw [HNU.out, HN.out] at hmo
  have HMO := Lib.hid hmo
  clear hmo hs1 hd1
  go_wp2_with fail
  refine HMO.out.mono ?_
  rintro e w2 ⟨lb, bv, dv, rfl, hb2, hcs⟩
  clear HMO y0 y1 y2
  have hb12 := HB1.out.trans (hb2.mono HB1.out.size)
  obtain ⟨hB2, hz2, hs2, hd2, y0, y1, y2⟩ := HC.out w2 hb12
  obtain ⟨er, Her⟩ : ∃ Q, Hid (modE label uses decls = Q) := ⟨_, Lib.hid rfl⟩
  rw [Her.out] at hcs ⊢
  have HB2 := Lib.hid (And.intro hb12 hB2)
  clear hb2 hb12 hB2
  by_cases he : er = 0
  rotate_left
  · have he' : (er != 0) = true := by simpa using he
    obtain ⟨_, rfl, rfl, rfl⟩ := hcs.resolve_left fun h => he h.1
    have HA := Lib.hid (awake28_any (w2.alloc (.cells #[.string ⟨#[]⟩, .slice none 0 0, .slice none 0 0] 31)))
    clear hcs hs2 hd2 y0 y1 y2
    go_wp2_with fail
    refine HA.out.mono ?_
    rintro e w3 ⟨rfl, hb3⟩
    have HB3 := Lib.hid hb3
    clear hb3
    go_wp2
    go_ret
    exact ⟨rfl, (HB2.out.2.alloc HB2.out.2.size _).trans (HB3.out.mono (by have := HB2.out.2.size; simp; omega))⟩
  subst he
  obtain ⟨_, hlb, hco⟩ := hcs.resolve_right fun h => h.1 rfl
  have hlb2 := hlb.symm
  subst hlb2
  obtain ⟨hbA, hcA⟩ := hco.at_
  obtain ⟨bA, bc, rfl, hbl⟩ := hbA.form
  obtain ⟨vA, vc, rfl, hvl⟩ := hcA.form
  have hcv := mod_valid Her.out
  have hpc := hbA.par
  have hdcl := hcA.dec
  clear hcs hco hbA hcA
  generalize (modGo label 0 decls).1 = bl at hbl hcv hpc ⊢
  generalize (modGo label 0 decls).2 = ds at hvl hcv hdcl ⊢
  obtain ⟨NB, HNB⟩ : ∃ Q, Hid (bl.length = Q) := ⟨_, Lib.hid rfl⟩
  have hdn : ds.length = N := hcv.len.trans HN.out
  obtain ⟨W3, hW3⟩ : ∃ W3, w2.alloc (.cells #[.string label, .slice bA NB bc, .slice vA N vc] 31) = W3 := ⟨_, rfl⟩
  have hB3 : Below w2.heap.size w2 W3 := by rw [← hW3]; exact (Below.refl _ _).alloc (Nat.le_refl _) _
  have hz3 : w2.heap.size < W3.heap.size := by rw [← hW3]; simp
  have hc3 : W3.heap[w2.heap.size]? = some (.cells #[.string label, .slice bA NB bc, .slice vA N vc] 31 (0, 0)) := by rw [← hW3]; exact heap_alloc_new w2 _
  have hck := cCheck_any label bl ds decls bA bc vA vc W3 hcv (hpc.keep hB3) hbl (hdcl.keep hB3) hvl
  rw [HNB.out] at hck hbl ⊢
  rw [hdn] at hck hvl ⊢
  have HCK := Lib.hid hck
  have hB03 : Below W0.heap.size W0 W3 := HB2.out.1.trans (hB3.mono HB2.out.1.size)
  have HS : Hid (∀ X, Below W3.heap.size W3 X → Below w.heap.size w X ∧ X.cell? ⟨w2.heap.size, 0, none⟩ = some (.string label) ∧ X.cell? ⟨w2.heap.size, 1, none⟩ = some (.slice bA NB bc) ∧ X.cell? ⟨w2.heap.size, 2, none⟩ = some (.slice vA N vc) ∧ X.cell? ⟨w.heap.size, 0, none⟩ = some (.string label) ∧ X.cell? ⟨w.heap.size, 2, none⟩ = some (.slice dA N dc) ∧ SlD X X.heap.size dA dc decls ∧ DecCells X vA vc ds) := fun X hX => by
    have h0 := (hX.block w2.heap.size hz3).trans hc3
    have hX0 := hB03.trans (hX.mono hB03.size)
    obtain ⟨q1, _, _, q2, q3, _, q4⟩ := HC.out X hX0
    exact ⟨q1, cell_of_row X _ 0 _ _ (0, 0) h0, cell_of_row X _ 1 _ _ (0, 0) h0, cell_of_row X _ 2 _ _ (0, 0) h0, q3, q4, q2, hdcl.keep (hB3.trans (hX.mono (Nat.le_of_lt hz3)))⟩
  have HV := Lib.hid hcv
  obtain ⟨_, c0, c1, c2, m0, m2, _, _⟩ := HS.out W3 (Below.refl _ _)
  clear hcv hpc hdcl hck hc3 hB3 hB03 hd2 hs2 y0 y1 y2
  go_wp2_with fail
  refine HCK.out.mono ?_
  rintro e w4 ⟨rfl, hb4⟩
  have HB4 := Lib.hid hb4
  clear c0 c1 c2 m0 m2 hW3
  obtain ⟨_, c0, c1, c2, m0, m2, _, _⟩ := HS.out w4 hb4
  clear hb4
  go_wp2_with fail
  clear c0 c1 c2 m0 m2
  go_loopg [5, 6, 50] N (fun g _ _ ct wr => ∃ j : Nat, g = N - j ∧ j ≤ N ∧ ct = .int .i64 j ∧ Below W3.heap.size W3 wr)
  case atStart => exact ⟨0, rfl, by omega, rfl, HB4.out⟩
  case round =>
    obtain ⟨j, HGm, hj, rfl, hBr⟩ := hrel
    have hzr := hBr.size
    obtain ⟨hbw, c0, c1, c2, m0, m2, hsd, hdc⟩ := HS.out wr hBr
    by_cases hlt : j < N
    · have hlt' : j < ds.length := by rw [hdn]; exact hlt
      have hj3 : ds[j]? = some ds[j] := List.getElem?_eq_getElem hlt'
      obtain ⟨dg, rfl, e2, e3, f0, f1, f2⟩ := hdc _ _ hj3
      rw [hdn] at e2
      obtain ⟨x, b, hx, ei, ek, _, _, hzero, hb, _, _⟩ := HV.out.dec _ _ hj3
      have hrise := fun t' (h : ds[j - 1]? = some t') (hq : 0 < j) => (HV.out.rise (j - 1) t' ds[j] h (by rw [Nat.sub_add_cancel hq]; exact hj3)).2
      have HRI := Lib.hid hrise
      clear hrise
      generalize ds[j] = t at f0 f1 f2 ei ek hzero hb HRI hj3
      obtain ⟨tid, tk, tb⟩ := t
      simp only at f0 f1 f2 ei ek hzero hb HRI
      subst ei ek
      obtain ⟨W5, hW5⟩ : ∃ W5, wr.alloc (.cells #[.int .i64 x.id, .int .i64 x.kind, .int .i64 tb] 80) = W5 := ⟨_, rfl⟩
      have hB5 : Below wr.heap.size wr W5 := by rw [← hW5]; exact (Below.refl _ _).alloc (Nat.le_refl _) _
      have hB35 : Below W3.heap.size W3 W5 := hBr.trans (hB5.mono hzr)
      have hx5 : W5.heap[wr.heap.size]? = some (.cells #[.int .i64 x.id, .int .i64 x.kind, .int .i64 tb] 80 (0, 0)) := by rw [← hW5]; exact heap_alloc_new wr _
      have g0 := cell_of_row W5 wr.heap.size 0 _ _ (0, 0) hx5
      have g1 := cell_of_row W5 wr.heap.size 1 _ _ (0, 0) hx5
      have g2 := cell_of_row W5 wr.heap.size 2 _ _ (0, 0) hx5
      simp at g0 g1 g2
      obtain ⟨_, c0', c1', c2', m0', m2', hsd5, hdc5⟩ := HS.out W5 hB35
      obtain ⟨xb, xo, rfl, hxb, d0, d1, d2, d3, d4, d5, d6, d7, d8, d9, d10, _⟩ := hsd5.cells_at (wr := W5) (fun p hp => rfl) hx
      clear d2 d3 d4 d5 d6 d7 d8 d9 d10 hsd hsd5
      have HPR := Lib.hid hdc5
      have HE := Lib.hid (And.intro HGm hB35)
      have i1 : (j : Int) < (N : Int) := by omega
      clear hB5 hB35 hx5 hbw hBr HGm hj3 hb hdc hdc5 hx
      cases j with
      | zero =>
        obtain rfl := hzero rfl
        clear hzero
        simp only [Nat.zero_mul, Nat.add_zero] at d0 d1
        rw [show ((0 : Nat) : Int) = (0 : Int) from rfl] at hW5 g2 f2
        have HW5 := Lib.hid hW5
        clear hW5
        go_wp2_with fail
        rw [HW5.out]
        go_quiet (fail)
        go_wp2
        go_roundg (N - (0 + 1))
        case measure => rw [HE.out.1]; omega
        case rel => exact ⟨0 + 1, rfl, by omega, by go_num, below_drewN HE.out.2 _⟩
      | succ q =>
        have hk3 : ds[q]? = some ds[q] := List.getElem?_eq_getElem (by rw [hdn]; omega)
        obtain ⟨dg', hdg, _, _, _, _, p2⟩ := HPR.out q _ hk3
        simp only [Option.some.injEq, Addr.mk.injEq, and_true] at hdg
        subst hdg
        have hlti := HRI.out _ hk3 (by omega)
        clear hk3 hzero
        generalize ds[q] = pt at p2 hlti
        obtain ⟨pid, pk, pb⟩ := pt
        simp only at p2 hlti
        have hp1 : (0 : Int) < (q : Int) + 1 := by omega
        have hp2 : (((q : Int) + 1) == 0) = false := by simp; omega
        have hw1 : IntKind.i64.wrap ((q : Int) + 1 - 1) = q := by rw [show ((q : Int) + 1 - 1) = q by omega]; exact IntWalk.i64_in _ (by omega)
        have hj0 : (0 : Int) ≤ (q : Int) := by omega
        have hj1 : (q : Int) < (N : Int) := by omega
        have hle' : decide ((tb : Int) ≤ (pb : Int)) = false := by simp; omega
        go_wp2_with fail
        go_quiet (fail)
        go_wp2
        go_roundg (N - (q + 1 + 1))
        case measure => rw [HE.out.1]; omega
        case rel => exact ⟨q + 1 + 1, rfl, by omega, by go_num, below_drewN HE.out.2 _⟩
    · have HBA := Lib.hid hbw
      have HA := Lib.hid (awake28_any wr)
      have hjN : j = N := by omega
      clear hbw hBr HGm hsd hdc
      go_wp2_with fail
      refine HA.out.mono ?_
      rintro e w5 ⟨rfl, hb5⟩
      have HB5 := Lib.hid (HBA.out.trans (hb5.mono HBA.out.size))
      clear hb5
      go_wp2
      go_ret
      exact ⟨rfl, HB5.out⟩
end Go.Proofs.YtlcfoiapkblheaaGreatDoor
