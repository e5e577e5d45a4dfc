/- ref24.Number -/
import Derived.Test.YtacjjkbkhpdhnaaGreatDoorSrd
import Derived.Test.YtacjjkbkhpdhnaaGreatDoorZna
import Derived.Test.YtacjjkbkhpdhnaaGreatDoorNmp
import Derived.Test.YtacjjkbkhpdhnaaGreatDoorZqg
namespace Go.Proofs.YtacjjkbkhpdhnaaGreatDoor
open Go Go.RowKit Go.Proofs Go.Shelf

theorem newsSl {w : World} {B : Nat} {A : Option Addr} {c : Nat} {l : List Dc} (h : SlD w B A c l) : (A = none → l.length = 0) ∧ ∀ ad, A = some ad → ∀ q u, (dcC l)[q]? = some u → w.cell? (ad.add q) = some u := by
  refine ⟨fun e => ?_, fun ad e j u hu => ?_⟩
  · subst e
    cases l with
    | nil => rfl
    | cons x r =>
      obtain ⟨_, _, e, _⟩ := h.2.2 (by simp)
      cases e
  · obtain ⟨k, x, q, h1, h2, rfl⟩ := dcC_back l j u hu
    obtain ⟨b, o, e', hb, hcell⟩ := h.2.2 (by intro e; subst e; simp at h1)
    rw [e] at e'
    cases e'
    have h3 := (hcell k x h1).1 q u h2
    unfold Addr.add
    by_cases h0 : k * 11 + q = 0
    · rw [if_pos h0]
      rw [Nat.add_assoc, h0] at h3
      simpa using h3
    · rw [if_neg h0]
      rw [Nat.add_assoc] at h3
      exact h3
theorem OwnD.row {W : World} {A : Option Addr} {c : Nat} {l : List Dc} (h : OwnD W A c l) (hne : l ≠ []) : ∃ g, A = some ⟨g, 0, none⟩ ∧ g < W.heap.size ∧ l.length ≤ c ∧ c ≤ maxLen ∧ RowD W g l := by
  rcases h.cells with ⟨h0, _⟩ | ⟨g, rfl, hg, h1, h2, _⟩
  · exact absurd h0 hne
  · exact ⟨g, rfl, hg, h1, by unfold maxLen; omega, RowD.of_own (cap := c) h⟩

set_option maxRecDepth 100000 in
set_option maxHeartbeats 16000000 in
theorem number24S_any (u : List ByteArray) (uA : Option Addr) (uc : Nat) (ds : List Dc) (dA : Option Addr) (dc : Nat) (u' : List ByteArray) (oA : Option Addr) (oc : Nat) (old : List Dc) (pA : Option Addr) (pc : Nat) (w : World) (hu : SlS w w.heap.size uA uc u) (hd : SlD w w.heap.size dA dc ds) (hus : ∀ s ∈ u, s.size ≤ 1000) (hsh : ∀ x ∈ ds, x.Sht) (hu' : SlS w w.heap.size oA oc u') (hp : SlD w w.heap.size pA pc old) (hus' : ∀ s ∈ u', s.size ≤ 1000) (hsh' : ∀ x ∈ old, x.Sht) (hnz : ∀ x ∈ ds, (nameOf x).size ≤ 1000) :
    Calls Tryz.prog 35 #[.agg #[.slice uA u.length uc, .slice dA ds.length dc], .agg #[.slice oA u'.length oc, .slice pA old.length pc]] w (NumR u uA uc ds u' old w) := by
  obtain ⟨i0, hi, hz0, hz1, hz2⟩ := info_parts Tryz.infoDecl
  obtain ⟨NU, HNU⟩ : ∃ Q, Hid (u.length = Q) := ⟨_, Lib.hid rfl⟩
  obtain ⟨ND, HND⟩ : ∃ Q, Hid (ds.length = Q) := ⟨_, Lib.hid rfl⟩
  obtain ⟨NO, HNO⟩ : ∃ Q, Hid (u'.length = Q) := ⟨_, Lib.hid rfl⟩
  obtain ⟨NP, HNP⟩ : ∃ Q, Hid (old.length = Q) := ⟨_, Lib.hid rfl⟩
  obtain ⟨W0, hW0⟩ : ∃ W0, ((w.alloc (.cells #[.slice uA NU uc, .slice dA ND dc] 40)).alloc (.cells #[.slice oA NO oc, .slice pA NP pc] 40)).alloc (.cells #[.slice none 0 0, .slice none 0 0] 40) = W0 := ⟨_, rfl⟩
  have hb0 : Below w.heap.size w W0 := by rw [← hW0]; exact (((Below.refl _ _).alloc (Nat.le_refl _) _).alloc (by simp) _).alloc (by simp; omega) _
  have hzW : w.heap.size + 1 + 1 < W0.heap.size := by rw [← hW0]; simp
  have hr2 : W0.heap[w.heap.size]? = some (.cells #[.slice uA NU uc, .slice dA ND dc] 40 (0, 0)) := by rw [← hW0]; exact (Below.heap_alloc _ _ _ (by simp; omega)).trans ((Below.heap_alloc _ _ _ (by simp)).trans (heap_alloc_new w _))
  have hr3 : W0.heap[w.heap.size + 1]? = some (.cells #[.slice oA NO oc, .slice pA NP pc] 40 (0, 0)) := by
    rw [← hW0]
    refine (Below.heap_alloc _ _ _ (by simp)).trans ?_
    have h := heap_alloc_new (w.alloc (.cells #[.slice uA NU uc, .slice dA ND dc] 40)) (.cells #[.slice oA NO oc, .slice pA NP pc] 40)
    simpa using h
  have hr4 : W0.heap[w.heap.size + 1 + 1]? = some (.cells #[.slice none 0 0, .slice none 0 0] 40 (0, 0)) := by
    have h := heap_alloc_new ((w.alloc (.cells #[.slice uA NU uc, .slice dA ND dc] 40)).alloc (.cells #[.slice oA NO oc, .slice pA NP pc] 40)) (.cells #[.slice none 0 0, .slice none 0 0] 40)
    rw [hW0] at h
    simpa using h
  have hul1 := hu.1
  have hul2 := hu.2.1
  have hdl1 := hd.1
  have hdl2 := hd.2.1
  have hol1 := hu'.1
  have hol2 := hu'.2.1
  have hpl1 := hp.1
  have hpl2 := hp.2.1
  unfold maxLen at hul2 hdl2 hol2 hpl2
  rw [HNU.out] at hul1
  rw [HND.out] at hdl1
  rw [HNO.out] at hol1
  rw [HNP.out] at hpl1
  have HX := Lib.hid (show ∀ X : World, Below W0.heap.size W0 X → Below w.heap.size w X ∧ SlS X X.heap.size uA uc u ∧ SlD X X.heap.size dA dc ds ∧ SlS X X.heap.size oA oc u' ∧ SlD X X.heap.size pA pc old ∧ X.heap[w.heap.size]? = some (.cells #[.slice uA NU uc, .slice dA ND dc] 40 (0, 0)) ∧ X.heap[w.heap.size + 1]? = some (.cells #[.slice oA NO oc, .slice pA NP pc] 40 (0, 0)) ∧ X.heap[w.heap.size + 1 + 1]? = some (.cells #[.slice none 0 0, .slice none 0 0] 40 (0, 0)) ∧ w.heap.size + 1 + 1 < X.heap.size from fun X hX => by
    have h1 := hb0.trans (hX.mono hb0.size)
    have h2 := hX.size
    exact ⟨h1, hu.keep h1.size (fun p hp => h1.cell hp), hd.keep h1.size (fun p hp => h1.cell hp), hu'.keep h1.size (fun p hp => h1.cell hp), hp.keep h1.size (fun p hp => h1.cell hp), (hX.block _ (by omega)).trans hr2, (hX.block _ (by omega)).trans hr3, (hX.block _ (by omega)).trans hr4, by omega⟩)
  have HD := Lib.hid (And.intro hd (And.intro hp (And.intro hnz hzW)))
  obtain ⟨E1, HE1⟩ : ∃ Q, Hid (srcDE u ds = Q) := ⟨_, Lib.hid rfl⟩
  obtain ⟨E2, HE2⟩ : ∃ Q, Hid (srcDE u' old = Q) := ⟨_, Lib.hid rfl⟩
  have HC1 := Lib.hid (show ∀ X, Below W0.heap.size W0 X → Calls Tryz.prog 36 #[.agg #[.slice uA NU uc, .slice dA ND dc]] X fun e w' => e = .returned (.int .i64 E1) ∧ Below X.heap.size X w' from fun X hX => by
    have h := checkSource21_any u uA uc ds dA dc X (HX.out X hX).2.1 (HX.out X hX).2.2.1 hus hsh
    rwa [HNU.out, HND.out, HE1.out] at h)
  have HC2 := Lib.hid (show ∀ X, Below W0.heap.size W0 X → Calls Tryz.prog 36 #[.agg #[.slice oA NO oc, .slice pA NP pc]] X fun e w' => e = .returned (.int .i64 E2) ∧ Below X.heap.size X w' from fun X hX => by
    have h := checkSource21_any u' oA oc old pA pc X (HX.out X hX).2.2.2.1 (HX.out X hX).2.2.2.2.1 hus' hsh'
    rwa [HNO.out, HNP.out, HE2.out] at h)
  obtain ⟨EE, HEE⟩ : ∃ Q, Hid (nbrE u ds u' old = Q) := ⟨_, Lib.hid rfl⟩
  have HDE := Lib.hid (show EE = if E1 ≠ 0 then E1 else E2 by rw [← HEE.out]; unfold nbrE; rw [HE1.out, HE2.out])
  obtain ⟨_, _, _, _, _, ha2, ha3, _, _⟩ := HX.out W0 (Below.refl _ _)
  have x0 : W0.cell? ⟨w.heap.size, 0, none⟩ = some (.slice uA NU uc) := cell_of_row W0 _ 0 _ _ (0, 0) ha2
  have x1 : W0.cell? ⟨w.heap.size, 1, none⟩ = some (.slice dA ND dc) := cell_of_row W0 _ 1 _ _ (0, 0) ha2
  unfold NumR
  rw [HEE.out, HNU.out, HND.out, HNO.out, HNP.out]
  clear hu hd hus hsh hu' hp hus' hsh' hnz hb0 hr2 hr3 hr4 ha2 ha3 hzW
  go_enter Tryz.func35, Tryz.ntmps35
  go_wp2_with fail
  refine (HC1.out _ (Below.refl _ _)).mono ?_
  rintro e w1 ⟨rfl, hb1⟩
  clear x0 x1 hW0
  by_cases he1 : E1 = 0
  rotate_left
  · have HR := Lib.hid (show EE = E1 from HDE.out.trans (if_pos he1))
    have HE0 := Lib.hid he1
    have he1' : (E1 != 0) = true := by simpa using he1
    obtain ⟨hBx, _, _, _, _, _, _, hr, _⟩ := HX.out w1 hb1
    clear he1 hb1
    have HS := Lib.hid (pair_set hr (.slice none 0 0) (.slice none 0 0))
    obtain ⟨y0, y1, z0, z1⟩ := row2 hr
    have HBx := Lib.hid hBx
    clear hr hBx
    go_wp2
    obtain ⟨W9, hW9, s0, s1, hBf, hsz, hbk⟩ := out2 HS.out HBx.out (show w.heap.size ≤ w.heap.size + 1 + 1 by omega)
    rw [hW9]
    refine bodyPost_ret (v := .tuple #[.agg #[.slice none 0 0, .slice none 0 0], .int .i64 E1]) (by simp [results, Tryz.results35, go_sem, s0, s1]) rfl ?_
    exact ⟨hBf, .inl ⟨by rw [HR.out]; exact HE0.out, by rw [HR.out]⟩⟩
  subst he1
  have HDE2 := Lib.hid (HDE.out.trans (if_neg (by simp)))
  obtain ⟨_, _, _, _, _, ha2, ha3, _, _⟩ := HX.out w1 hb1
  have x0 : w1.cell? ⟨w.heap.size + 1, 0, none⟩ = some (.slice oA NO oc) := cell_of_row w1 _ 0 _ _ (0, 0) ha3
  have x1 : w1.cell? ⟨w.heap.size + 1, 1, none⟩ = some (.slice pA NP pc) := cell_of_row w1 _ 1 _ _ (0, 0) ha3
  have HK2 := Lib.hid (HC2.out w1 hb1)
  have HB1 := Lib.hid hb1
  clear hb1 ha2 ha3
  go_wp2_with fail
  refine HK2.out.mono ?_
  rintro e w2 ⟨rfl, hb2⟩
  have HB2 := Lib.hid (HB1.out.trans (hb2.mono HB1.out.size))
  clear x0 x1 hb2 HK2
  by_cases he2 : E2 = 0
  rotate_left
  · have HE0 := Lib.hid he2
    have he2' : (E2 != 0) = true := by simpa using he2
    obtain ⟨hBx, _, _, _, _, _, _, hr, _⟩ := HX.out w2 HB2.out
    clear he2
    have HS := Lib.hid (pair_set hr (.slice none 0 0) (.slice none 0 0))
    obtain ⟨y0, y1, z0, z1⟩ := row2 hr
    have HBx := Lib.hid hBx
    clear hr hBx
    go_wp2
    obtain ⟨W9, hW9, s0, s1, hBf, hsz, hbk⟩ := out2 HS.out HBx.out (show w.heap.size ≤ w.heap.size + 1 + 1 by omega)
    rw [hW9]
    refine bodyPost_ret (v := .tuple #[.agg #[.slice none 0 0, .slice none 0 0], .int .i64 E2]) (by simp [results, Tryz.results35, go_sem, s0, s1]) rfl ?_
    exact ⟨hBf, .inl ⟨by rw [HDE2.out]; exact HE0.out, by rw [HDE2.out]⟩⟩
  subst he2
  obtain ⟨_, _, hl1, hs1⟩ := srcDE_parts HE1.out
  obtain ⟨_, _, hl2, hs2⟩ := srcDE_parts HE2.out
  have HV1 := Lib.hid (sdsE_mem hs1)
  have HV2 := Lib.hid (sdsE_mem hs2)
  have HI1 := Lib.hid (show ∀ x ∈ ds, x.names ≠ [] ∧ 0 ≤ x.id ∧ x.id ≤ 999999 from fun x hx => by
    obtain ⟨a, b, _, c, _, _⟩ := sdE_parts (HV1.out x hx)
    exact ⟨fun h => by unfold dnE at c; rw [h] at c; simp at c, a, b⟩)
  have HI2 := Lib.hid (show ∀ x ∈ old, x.names ≠ [] ∧ 0 ≤ x.id ∧ x.id ≤ 999999 from fun x hx => by
    obtain ⟨a, b, _, c, _, _⟩ := sdE_parts (HV2.out x hx)
    exact ⟨fun h => by unfold dnE at c; rw [h] at c; simp at c, a, b⟩)
  rw [HND.out] at hl1
  rw [HNP.out] at hl2
  clear hs1 hs2
  obtain ⟨i1, Hi1⟩ : ∃ q, Hid (ds.map Dc.id = q) := ⟨_, Lib.hid rfl⟩
  obtain ⟨i2, Hi2⟩ : ∃ q, Hid (old.map Dc.id = q) := ⟨_, Lib.hid rfl⟩
  obtain ⟨_, _, hsd, _, _, ha2, _, _, _⟩ := HX.out w2 HB2.out
  have x1 : w2.cell? ⟨w.heap.size, 1, none⟩ = some (.slice dA ND dc) := cell_of_row w2 _ 1 _ _ (0, 0) ha2
  have hrow := World.ownsRow_lit (base := w2.heap.size) (e := 63) (size := 11) w2 #[] 0 (Nat.le_refl _) (by simp) rfl
  have HW := Lib.hid hrow
  have hba : Below w2.heap.size w2 (w2.alloc (.cells #[] 63)) := (Below.refl _ _).alloc (Nat.le_refl _) _
  have HNw := Lib.hid (newsSl (hsd.keep (w' := w2.alloc (.cells #[] 63)) hba.size (fun p hp => hba.cell hp)))
  have HL := Lib.hid (show (dcC ds).length = ND * 11 by rw [dcC_length, HND.out])
  have HA0 := Lib.hid (show dA = none → ND = 0 from fun h => by rw [← HND.out]; exact HNw.out.1 h)
  have HM := Lib.hid (And.intro (show 0 + ND ≤ maxLen by unfold maxLen; omega) (show (0 + ND) * 136 ≤ 140737488355328 by omega))
  have HBa := Lib.hid hba
  have x1' : (w2.alloc (.cells #[] 63)).cell? ⟨w.heap.size, 1, none⟩ = some (.slice dA ND dc) := (hba.cell (p := ⟨w.heap.size, 1, none⟩) (World.block_lt_of_cell? w2 _ x1)).trans x1
  clear hrow hba hsd ha2
  go_wp2_with (at_builtin; refine wpList_append_own_any _ rfl (.tmp 22) (.tmp 24) 23 rfl w2.heap.size 63 i0 _ 11 136 Tryz.underlying23 hi hz0 hz1 hz2 rfl (Nat.succ_pos 10) _ 0 [] rfl HW.out dA ND dc (dcC ds) rfl HL.out HA0.out HNw.out.2 (dcC_one _) HM.out.1 HM.out.2 HBa.out.size ?_; intro v1 w1' hown1 hg1)
  have hb7 : Below w2.heap.size w2 w1' := HBa.out.grown hg1 HBa.out.size (fun q hq => (HW.out.lt q hq).1)
  have hown2 : w1'.ownsRow w2.heap.size 63 11 v1 ds.length (dcC ds) := by
    rw [HND.out]
    simpa using hown1
  have hlo : ∀ q, v1.ownBlock = some q → w2.heap.size ≤ q ∧ q < w1'.heap.size := fun q hq => hown2.lt q hq
  obtain ⟨A1, c1, rfl, ho1⟩ := OwnD.of hown2
  rw [HND.out] at hlo ⊢
  have HB7 := Lib.hid (HB2.out.trans (hb7.mono HB2.out.size))
  have HO1 := Lib.hid (And.intro ho1 hlo)
  have HbW := Lib.hid HB2.out.size
  obtain ⟨w7, rfl⟩ : ∃ q, q = w1' := ⟨_, rfl⟩
  clear x1 x1' hown1 hg1 hb7 hown2 hlo ho1
  by_cases hN0 : ND = 0
  · have hd0 := List.length_eq_zero_iff.1 (HND.out.trans hN0)
    have HEl := Lib.hid (show ([] : List Dc).length = ND from hN0.symm)
    have HGo := Lib.hid (show NGo old i1 ds [] i1 by rw [hd0]; exact ⟨rfl, rfl⟩)
    have hcm : c1 ≤ maxLen := by
      have h := HO1.out.1.cells
      rcases h with ⟨_, _, h⟩ | ⟨_, _, _, _, h, _⟩
      · rw [h]; decide
      · unfold maxLen; omega
    have HSl := Lib.hid (show SlD w7 w7.heap.size A1 c1 [] from ⟨Nat.zero_le _, hcm, fun h => absurd rfl h⟩)
    have HBL := HB7
    have jz : decide ((0 : Int) < (ND : Int)) = false := by simp; omega
    have jz2 : decide (0 < ND) = false := decide_eq_false (by omega)
    clear hd0 hN0 hcm
    go_wp2_with fail
    refine wp_loop_rounds 1 ?_
    rw [rounds_succ]
    have hsoL := fun (X : World) (hX : Below w7.heap.size w7 X) => sorted24_any [] A1 c1 X (HSl.out.keep hX.size (fun p hp => hX.cell hp)) (by rw [HEl.out]; omega)
    simp only [HEl.out] at hsoL
    have HSo := Lib.hid hsoL
    have HRr := Lib.hid (show ∀ X : World, Below w7.heap.size w7 X → Below w.heap.size w X ∧ X.heap[w.heap.size + 1 + 1]? = some (.cells #[.slice none 0 0, .slice none 0 0] 40 (0, 0)) ∧ X.cell? ⟨w.heap.size, 0, none⟩ = some (.slice uA NU uc) from fun X hX => by
      obtain ⟨h1, _, _, _, _, h2, _, h3, _⟩ := HX.out X (HBL.out.trans (hX.mono HBL.out.size))
      exact ⟨h1, h3, cell_of_row X _ 0 _ _ (0, 0) h2⟩)
    have HSY := Lib.hid (show ∀ (X : World) (v0 v1 : Value), Below w7.heap.size w7 X → ((X.setCell ⟨w.heap.size + 1 + 1, 0, none⟩ v0).setCell ⟨w.heap.size + 1 + 1, 1, none⟩ v1).cell? ⟨w.heap.size, 0, none⟩ = some (.slice uA NU uc) from fun X v0 v1 hX => (World.cell?_setCell_other _ _ _ _ (by intro e; simp only [Addr.mk.injEq] at e; omega)).trans ((World.cell?_setCell_other _ _ _ _ (by intro e; simp only [Addr.mk.injEq] at e; omega)).trans (HRr.out X hX).2.2))
    have HZL := Lib.hid (show w.heap.size + 1 + 1 < w7.heap.size from (HX.out w7 HBL.out).2.2.2.2.2.2.2.2)
    clear hsoL
    go_wp2_with fail
    go_region_held3 (fun X => X.cell? ⟨w.heap.size, 0, none⟩ = some (.slice uA NU uc))
      (first | exact (HRr.out _ (below_drewK (Below.refl _ _))).2.2 | exact (HRr.out _ hbb).2.2 | exact HSY.out _ _ _ hbb)
      (first | (go_at_call 90; refine (HSo.out _ (below_drewK (Below.refl _ _))).mono ?_; rintro e w9 ⟨sA, sc, fs, rfl, hsrt, hown9, hsA, hb9⟩; have hbb : Below w7.heap.size w7 w9 := (below_drewK (Below.refl w7.heap.size w7)).trans (hb9.mono (Nat.le_refl _)); obtain ⟨hBx, hr, x0⟩ := HRr.out w9 hbb; obtain ⟨y0, y1, z0, z1⟩ := row2 hr))
    all_goals (
      have HS := Lib.hid (pair_set hr (.slice uA NU uc) (.slice sA fs.length sc))
      have HBx := Lib.hid hBx
      have HF9 := Lib.hid (And.intro hsrt (And.intro hown9 (show ∀ g o s, sA = some ⟨g, o, s⟩ → w.heap.size + 1 + 1 < g from fun g o s h => by have h1 := hsA g o s h; have h2 := HZL.out; have h3 : w7.drew.heap.size = w7.heap.size := rfl; omega)))
      clear hr hBx hsrt hown9 hsA hb9 hbb
      (try go_wp2)
      obtain ⟨W9, hW9, s0, s1, hBf, hsz, hbk⟩ := out2 HS.out HBx.out (show w.heap.size ≤ w.heap.size + 1 + 1 by omega)
      rw [hW9]
      refine bodyPost_ret (v := .tuple #[.agg #[.slice uA NU uc, .slice sA fs.length sc], .int .i64 0]) (by simp [results, Tryz.results35, go_sem, s0, s1]) rfl ?_
      have hfl : fs.length = ND := HF9.out.1.1.length_eq.trans HEl.out
      refine ⟨hBf, .inr ⟨HDE2.out, sA, sc, fs, ⟨[], i1, by rw [Hi1.out]; exact HGo.out, HF9.out.1⟩, hfl, ?_, by rw [hfl]⟩⟩
      have hokF : ∀ e ∈ fs, e.Ok w w.heap.size := fun e he => by
        obtain ⟨x, hx, i, rfl⟩ := HGo.out.mem e (HF9.out.1.1.subset he)
        have h : x.Ok w w.heap.size := sld_ok HD.out.1 hx
        exact ⟨h.1, h.2⟩
      by_cases hfe : fs = []
      · subst hfe
        have hc := HF9.out.2.1.cells
        refine ⟨Nat.zero_le _, ?_, fun h => absurd rfl h⟩
        rcases hc with ⟨_, _, rfl⟩ | ⟨_, _, _, _, hc, _⟩
        · decide
        · unfold maxLen; omega
      · obtain ⟨g9, rfl, hg9, hl9, hm9, hrw9⟩ := HF9.out.2.1.row hfe
        have hne9 : g9 ≠ w.heap.size + 1 + 1 := by have h1 := HF9.out.2.2 g9 _ _ rfl; omega
        exact (hrw9.keep (hbk g9 hne9)).sld (by rw [hsz]; exact hg9) hBf hokF hl9 hm9)
  obtain ⟨gb, rfl, hgz, hcc1, hcc2, hrw⟩ := HO1.out.1.row (fun h => hN0 (by rw [← HND.out, h]; rfl))
  rw [HND.out] at hcc1
  have HGw := Lib.hid (show W0.heap.size ≤ gb from by have h1 := (HO1.out.2 gb rfl).1; have h2 := HbW.out; omega)
  have HRw := Lib.hid (And.intro hrw hgz)
  have HCc := Lib.hid (And.intro hcc1 hcc2)
  clear hrw hgz
  have HEq0 := Lib.hid (show ∀ i : Int, 1 ≤ i → (i ∈ i1 ↔ i ∈ (([] : List Dc) ++ ds.drop 0).map Dc.id) from fun i _ => by rw [← Hi1.out]; simp)
  go_wp2_with fail
  go_loopg [9] ND (fun g ct wr => ∃ (k : Nat) (es : List Dc) (L : List Int), g = ND - k ∧ k ≤ ND ∧ ct = .int .i64 k ∧ Hid (NGo old i1 (ds.take k) es L) ∧ Hid (∀ i : Int, 1 ≤ i → (i ∈ L ↔ i ∈ (es ++ ds.drop k).map Dc.id)) ∧ Below W0.heap.size W0 wr ∧ RowD wr gb (es ++ ds.drop k) ∧ gb < wr.heap.size)
  case atStart => exact ⟨0, [], i1, rfl, by omega, rfl, Lib.hid ⟨rfl, rfl⟩, HEq0, HB7.out, HRw.out.1, HRw.out.2⟩
  case round =>
  obtain ⟨k, es, L, HG, hk, rfl, hgo, hLe, hB, hrow, hgz⟩ := hrel
  have hesl : es.length = k := by rw [hgo.out.len, List.length_take, HND.out]; omega
  by_cases hlt : k < ND
  · have hlt' : k < ds.length := by rw [HND.out]; exact hlt
    obtain ⟨x, hx⟩ : ∃ x, ds[k]? = some x := ⟨_, List.getElem?_eq_getElem hlt'⟩
    have hdr : ds.drop k = x :: ds.drop (k + 1) := by
      obtain ⟨h1, h2⟩ := List.getElem?_eq_some_iff.1 hx
      rw [List.drop_eq_getElem_cons h1, h2]
    have htk : ds.take (k + 1) = ds.take k ++ [x] := by
      obtain ⟨h1, h2⟩ := List.getElem?_eq_some_iff.1 hx
      rw [List.take_succ_eq_append_getElem h1, h2]
    have hat : (es ++ ds.drop k)[k]? = some x := by
      rw [hdr, List.getElem?_append_right (by omega), hesl, Nat.sub_self]
      rfl
    have hxm := List.mem_of_getElem? hx
    have e0 : wr.cell? ⟨gb, k * 11, none⟩ = some (.int .i64 x.id) := (hrow k x hat 0 _ rfl).1
    have f0 : wr.frozen? ⟨gb, k * 11, none⟩ = false := (hrow k x hat 0 (.int .i64 x.id) rfl).2
    have k0 : (0 : Int) ≤ (k : Int) := by omega
    have k1 : (k : Int) < (ND : Int) := by omega
    by_cases h0 : x.id = 0
    rotate_left
    · have h0' : (x.id == 0) = false := by simpa using h0
      have HN := Lib.hid (hgo.out.snoc (x := x) (x' := x) (L2 := L) (.inl ⟨h0, rfl, rfl⟩))
      rw [← htk] at HN
      have hes2 : (es ++ [x]) ++ ds.drop (k + 1) = es ++ ds.drop k := by rw [List.append_assoc, List.singleton_append, ← hdr]
      have HRo := Lib.hid (show RowD wr gb ((es ++ [x]) ++ ds.drop (k + 1)) by rw [hes2]; exact hrow)
      have HLe2 := Lib.hid (show ∀ i : Int, 1 ≤ i → (i ∈ L ↔ i ∈ ((es ++ [x]) ++ ds.drop (k + 1)).map Dc.id) by rw [hes2]; exact hLe.out)
      have HT := Lib.hid (And.intro hB hgz)
      clear hgo hLe hB hrow hgz hdr htk hat hx f0 hes2
      go_wp2
      go_roundg (ND - (k + 1))
      case measure => rw [HG]; omega
      case rel => exact ⟨k + 1, es ++ [x], L, rfl, by omega, by go_num, HN, HLe2, HT.out.1, HRo.out, HT.out.2⟩
    obtain ⟨hne, hir⟩ := HI1.out x hxm
    have xok := sld_ok HD.out.1 hxm
    have hnz := HD.out.2.2.1 x hxm
    have hokL : ∀ e ∈ es ++ ds.drop k, e.Ok w w.heap.size := fun e he => by
      rcases List.mem_append.1 he with he | he
      · obtain ⟨y, hy, i, rfl⟩ := hgo.out.mem e he
        have h : y.Ok w w.heap.size := sld_ok HD.out.1 (List.mem_of_mem_take hy)
        exact ⟨h.1, h.2⟩
      · exact sld_ok HD.out.1 (List.mem_of_mem_drop he)
    have hlen : (es ++ ds.drop k).length = ND := by rw [List.length_append, List.length_drop, HND.out, hesl]; omega
    have HNum := Lib.hid (show ∀ X : World, Below wr.heap.size wr X → Calls Tryz.prog 89 #[.agg #[.int .i64 x.id, .int .i64 x.kind, .bool x.pub, .slice x.nA x.names.length x.nc, .bool x.doubt, .int .i64 x.k, .string x.n, .string x.m, .int .i64 x.i, .int .i64 x.d, .slice x.A x.s.len x.c], .slice (some ⟨gb, 0, none⟩) ND c1, .slice pA NP pc] X (fun e w' => ∃ r, e = .returned (.int .i64 r) ∧ Hid (NumP old (nameOf x) L r) ∧ Below X.heap.size X w') from fun X hX => by
      obtain ⟨hBX, _, _, _, hspX, _, _, _, _⟩ := HX.out X (hB.trans (hX.mono hB.size))
      have h := number24_any x (es ++ ds.drop k) (some ⟨gb, 0, none⟩) c1 old pA pc X (xok.1.keep hBX.size fun p hp => hBX.cell hp) hne hnz ((hrow.keep (hX.block gb hgz)).sld (Nat.lt_of_lt_of_le hgz hX.size) hBX hokL (by rw [hlen]; exact HCc.out.1) HCc.out.2) hspX (fun y hy => (HI2.out y hy).1) (by
        rw [List.length_append, List.length_map, List.length_map, hlen, HNP.out]
        omega)
      rw [hlen, HNP.out] at h
      simp only [Dc.cells] at h
      exact h.mono fun e w' ⟨r, h1, h2, h3⟩ => ⟨r, h1, Lib.hid (NumP.congr (fun y hy => (HI2.out y hy).2.1) (fun i hi => (hLe.out i hi).symm) h2.out), h3⟩)
    have HSX := Lib.hid (show ∀ X : World, Below wr.heap.size wr X → X.cell? ⟨gb, k * 11, none⟩ = some (.int .i64 x.id) ∧ X.cell? ⟨gb, k * 11 + 1, none⟩ = some (.int .i64 x.kind) ∧ X.cell? ⟨gb, k * 11 + 2, none⟩ = some (.bool x.pub) ∧ X.cell? ⟨gb, k * 11 + 3, none⟩ = some (.slice x.nA x.names.length x.nc) ∧ X.cell? ⟨gb, k * 11 + 4, none⟩ = some (.bool x.doubt) ∧ X.cell? ⟨gb, k * 11 + 5, none⟩ = some (.int .i64 x.k) ∧ X.cell? ⟨gb, k * 11 + 6, none⟩ = some (.string x.n) ∧ X.cell? ⟨gb, k * 11 + 7, none⟩ = some (.string x.m) ∧ X.cell? ⟨gb, k * 11 + 8, none⟩ = some (.int .i64 x.i) ∧ X.cell? ⟨gb, k * 11 + 9, none⟩ = some (.int .i64 x.d) ∧ X.cell? ⟨gb, k * 11 + 10, none⟩ = some (.slice x.A x.s.len x.c) ∧ X.cell? ⟨w.heap.size + 1, 1, none⟩ = some (.slice pA NP pc) from fun X hX => by
      have h3 := (HX.out X (hB.trans (hX.mono hB.size))).2.2.2.2.2.2.1
      have q : ∀ (t : Nat) (v : Value), x.cells[t]? = some v → X.cell? ⟨gb, k * 11 + t, none⟩ = some v := fun t v h => (hX.cell (p := ⟨gb, _, none⟩) hgz).trans (hrow k x hat t v h).1
      exact ⟨q 0 _ rfl, q 1 _ rfl, q 2 _ rfl, q 3 _ rfl, q 4 _ rfl, q 5 _ rfl, q 6 _ rfl, q 7 _ rfl, q 8 _ rfl, q 9 _ rfl, q 10 _ rfl, cell_of_row X _ 1 _ _ (0, 0) h3⟩)
    have HFz := Lib.hid (show ∀ X : World, Below wr.heap.size wr X → X.frozen? ⟨gb, k * 11, none⟩ = false ∧ X.cell? ⟨gb, k * 11, none⟩ = some (.int .i64 x.id) from fun X hX => by
      have h := hX.block gb hgz
      refine ⟨?_, (World.cell?_of_block h).trans e0⟩
      rw [← f0]
      unfold World.frozen?
      rw [h])
    have HT := Lib.hid (And.intro hgo.out (And.intro hLe.out (And.intro hB (And.intro hrow (And.intro hgz (And.intro hat (And.intro hdr (And.intro htk (And.intro hesl HG)))))))))
    have h0' : (x.id == 0) = true := by simpa using h0
    have H00 := Lib.hid h0
    clear hgo hLe hB hrow hgz hat hdr htk hx xok h0 hesl hnz HG hokL hlen f0 hne hir
    go_upto_region 12 with fail
    clear h0' e0
    obtain ⟨e0, e1, e2, e3, e4, e5, e6, e7, e8, e9, e10, e11⟩ := HSX.out wr.drew (below_drewK (Below.refl _ _))
    refine wp_region_held_drew (S := fun _ => True) (by kernel_rfl) trivial (fun _ => ?_)
    refine wpAnyH_take (i := 0) (oi := { dst := some 38, op := Op.move (Operand.tmp 8), type := 23, pos := "ref.go:152", after := #[], guard := none }) (v := ?v1) rfl (by kernel_rfl) (by kernel_rfl) (by kernel_rfl) (fun _ _ _ h => h) (Or.inl ⟨by rfl, ?hy1⟩) trivial ?_
    case hy1 => (intro w hSw; (try dsimp only at hSw); first | (go_simp; done) | (go_simp; with_reducible rfl))
    try simp only [Act.put, List.setIfInBounds_toArray, List.set_cons_zero, List.set_cons_succ]
    refine wpAnyH_take (i := 1) (oi := { dst := some 39, op := Op.move (Operand.tmp 9), type := 3, pos := "ref.go:152", after := #[], guard := none }) (v := ?v2) rfl (by kernel_rfl) (by kernel_rfl) (by kernel_rfl) (fun _ _ _ h => h) (Or.inl ⟨by rfl, ?hy2⟩) trivial ?_
    case hy2 => (intro w hSw; (try dsimp only at hSw); first | (go_simp; done) | (go_simp; with_reducible rfl))
    try simp only [Act.put, List.setIfInBounds_toArray, List.set_cons_zero, List.set_cons_succ]
    refine wpAnyH_take (i := 2) (oi := { dst := some 40, op := Op.move (Operand.tmp 8), type := 23, pos := "ref.go:152", after := #[], guard := none }) (v := ?v3) rfl (by kernel_rfl) (by kernel_rfl) (by kernel_rfl) (fun _ _ _ h => h) (Or.inl ⟨by rfl, ?hy3⟩) trivial ?_
    case hy3 => (intro w hSw; (try dsimp only at hSw); first | (go_simp; done) | (go_simp; with_reducible rfl))
    try simp only [Act.put, List.setIfInBounds_toArray, List.set_cons_zero, List.set_cons_succ]
    refine wpAnyH_take (i := 3) (oi := { dst := some 41, op := Op.move (Operand.tmp 9), type := 3, pos := "ref.go:152", after := #[], guard := none }) (v := ?v4) rfl (by kernel_rfl) (by kernel_rfl) (by kernel_rfl) (fun _ _ _ h => h) (Or.inl ⟨by rfl, ?hy4⟩) trivial ?_
    case hy4 => (intro w hSw; (try dsimp only at hSw); first | (go_simp; done) | (go_simp; with_reducible rfl))
    try simp only [Act.put, List.setIfInBounds_toArray, List.set_cons_zero, List.set_cons_succ]
    refine wpAnyH_take (i := 4) (oi := { dst := some 42, op := Op.indexAddr 23 (Operand.tmp 40) (Operand.tmp 41), type := 0, pos := "ref.go:152", after := #[{ on := 2, ground := Ground.data }, { on := 3, ground := Ground.data }], guard := none }) (v := ?v5) rfl (by kernel_rfl) (by kernel_rfl) (by kernel_rfl) (fun _ _ _ h => h) (Or.inl ⟨by rfl, ?hy5⟩) trivial ?_
    case hy5 => (intro w hSw; (try dsimp only at hSw); first | (go_simp; done) | (go_simp; with_reducible rfl))
    try simp only [Act.put, List.setIfInBounds_toArray, List.set_cons_zero, List.set_cons_succ]
    refine wpAnyH_take (i := 6) (oi := { dst := some 44, op := Op.move (Operand.tmp 8), type := 23, pos := "ref.go:152", after := #[], guard := none }) (v := ?v6) rfl (by kernel_rfl) (by kernel_rfl) (by kernel_rfl) (fun _ _ _ h => h) (Or.inl ⟨by rfl, ?hy6⟩) trivial ?_
    case hy6 => (intro w hSw; (try dsimp only at hSw); first | (go_simp; done) | (go_simp; with_reducible rfl))
    try simp only [Act.put, List.setIfInBounds_toArray, List.set_cons_zero, List.set_cons_succ]
    refine wpAnyH_take (i := 7) (oi := { dst := some 45, op := Op.fieldAddr 40 (Operand.tmp 3) 1, type := 0, pos := "ref.go:152", after := #[], guard := none }) (v := ?v7) rfl (by kernel_rfl) (by kernel_rfl) (by kernel_rfl) (fun _ _ _ h => h) (Or.inl ⟨by rfl, ?hy7⟩) trivial ?_
    case hy7 => (intro w hSw; (try dsimp only at hSw); first | (go_simp; done) | (go_simp; with_reducible rfl))
    try simp only [Act.put, List.setIfInBounds_toArray, List.set_cons_zero, List.set_cons_succ]
    refine wpAnyH_ready (rs := [5, 8]) (by kernel_rfl) (by simp) ?_
    refine AllReadyH.cons rfl (fun K hK => ?_) (AllReadyH.cons rfl (fun K hK => ?_) AllReadyH.nil)
    · go_simp
      refine hK.out _ _ trivial (fun _ => ?_)
      clear hK K
      try simp only [Act.put, List.setIfInBounds_toArray, List.set_cons_zero, List.set_cons_succ]
      refine wpAnyH_ready (rs := [8]) (by kernel_rfl) (by simp) ?_
      refine AllReadyH.cons rfl (fun K hK => ?_) AllReadyH.nil
      go_simp
      refine hK.out _ _ trivial (fun _ => ?_)
      clear hK K
      try simp only [Act.put, List.setIfInBounds_toArray, List.set_cons_zero, List.set_cons_succ]
      refine wpAnyH_ready (rs := [9]) (by kernel_rfl) (by simp) ?_
      refine AllReadyH.cons rfl (fun K hK => ?_) AllReadyH.nil
      go_simp
      refine (HNum.out _ (below_drewK (Below.refl _ _))).mono ?_
      rintro e w3 ⟨r, rfl, hnp, hb3⟩
      have hbb : Below wr.heap.size wr w3 := (below_drewK (Below.refl wr.heap.size wr)).trans (hb3.mono (Nat.le_refl _))
      have hf3 : w3.frozen? ⟨gb, k * 11, none⟩ = false := (HFz.out _ hbb).1
      have hc3 : w3.cell? ⟨gb, k * 11, none⟩ = some (.int .i64 x.id) := (HFz.out _ hbb).2
      go_wp2_with fail
      refine hK.out _ _ trivial (fun _ => ?_)
      clear hK K
      try simp only [Act.put, List.setIfInBounds_toArray, List.set_cons_zero, List.set_cons_succ]
      refine wpAnyH_take (i := 10) (oi := { dst := some 48, op := Op.indexAddr 23 (Operand.tmp 38) (Operand.tmp 39), type := 0, pos := "ref.go:152", after := #[{ on := 0, ground := Ground.data }, { on := 1, ground := Ground.data }, { on := 0, ground := Ground.phase }, { on := 1, ground := Ground.phase }, { on := 2, ground := Ground.phase }, { on := 3, ground := Ground.phase }, { on := 4, ground := Ground.phase }, { on := 5, ground := Ground.phase }, { on := 6, ground := Ground.phase }, { on := 7, ground := Ground.phase }, { on := 8, ground := Ground.phase }, { on := 9, ground := Ground.phase }], guard := none }) (v := ?v8) rfl (by kernel_rfl) (by kernel_rfl) (by kernel_rfl) (fun _ _ _ h => h) (Or.inl ⟨by rfl, ?hy8⟩) trivial ?_
      case hy8 => (intro w hSw; (try dsimp only at hSw); first | (go_simp; done) | (go_simp; with_reducible rfl))
      try simp only [Act.put, List.setIfInBounds_toArray, List.set_cons_zero, List.set_cons_succ]
      refine wpAnyH_take (i := 11) (oi := { dst := some 49, op := Op.fieldAddr 63 (Operand.tmp 48) 0, type := 0, pos := "ref.go:152", after := #[{ on := 10, ground := Ground.data }, { on := 0, ground := Ground.phase }, { on := 1, ground := Ground.phase }, { on := 2, ground := Ground.phase }, { on := 3, ground := Ground.phase }, { on := 4, ground := Ground.phase }, { on := 5, ground := Ground.phase }, { on := 6, ground := Ground.phase }, { on := 7, ground := Ground.phase }, { on := 8, ground := Ground.phase }, { on := 9, ground := Ground.phase }], guard := none }) (v := ?v9) rfl (by kernel_rfl) (by kernel_rfl) (by kernel_rfl) (fun _ _ _ h => h) (Or.inl ⟨by rfl, ?hy9⟩) trivial ?_
      case hy9 => (intro w hSw; (try dsimp only at hSw); first | (go_simp; done) | (go_simp; with_reducible rfl))
      try simp only [Act.put, List.setIfInBounds_toArray, List.set_cons_zero, List.set_cons_succ]
      refine wpAnyH_ready (rs := [12]) (by kernel_rfl) (by simp) ?_
      refine AllReadyH.cons rfl (fun K hK => ?_) AllReadyH.nil
      go_simp
      refine hK.out _ _ trivial (fun _ => ?_)
      clear hK K
      try simp only [Act.put, List.setIfInBounds_toArray, List.set_cons_zero, List.set_cons_succ]
      refine wpAnyH_done (by kernel_rfl) ?_ _
      have hup := UpdD.of (b := gb) (o := k * 11) (v := .int .i64 r) hbb
      clear hf3 hc3 hbb hb3
      generalize w3.setCell ⟨gb, k * 11, none⟩ (.int .i64 r) = W5 at hup ⊢
      clear e0 e1 e2 e3 e4 e5 e6 e7 e8 e9 e10 e11
      obtain ⟨hgo, hLe, hB, hrow, hgz, hat, hdr, htk, hesl, HG⟩ := HT.out
      have hgw := HGw.out
      have hk5 : ∀ q, q ≠ gb → q < wr.heap.size → W5.heap[q]? = wr.heap[q]? := fun q hq hz => (hup.2.2.2.2 q hz).trans (heap_setCell_other _ _ _ _ (by simpa using hq))
      have hrow5 : RowD W5 gb ((es ++ [{ x with id := r }]) ++ ds.drop (k + 1)) := by
        have h := (hrow.set hat r).keep (hup.2.2.2.2 gb hgz)
        rw [hdr, set_mid hesl] at h
        exact h
      have hB5 : Below W0.heap.size W0 W5 := ⟨hup.1.trans hB.os, hup.2.1.trans hB.tape, hup.2.2.1.trans hB.output, Nat.le_trans hB.size hup.2.2.2.1, fun q hq => (hk5 q (by omega) (by have := hB.size; omega)).trans (hB.block q hq)⟩
      have HN := Lib.hid (hgo.snoc (x := x) (x' := { x with id := r }) (L2 := L ++ [r]) (.inr ⟨H00.out, r, hnp.out, rfl, rfl⟩))
      rw [← htk] at HN
      have HLe2 := Lib.hid (show ∀ i : Int, 1 ≤ i → (i ∈ L ++ [r] ↔ i ∈ ((es ++ [{ x with id := r }]) ++ ds.drop (k + 1)).map Dc.id) from fun i hi => by
        have h := hLe i hi
        rw [hdr] at h
        have hx0 : i ≠ x.id := by have := H00.out; omega
        simp only [List.map_append, List.map_cons, List.mem_append, List.mem_cons, List.map_nil, List.not_mem_nil, or_false] at h ⊢
        rw [h]
        constructor
        · rintro ((h1 | h1 | h1) | h1)
          · exact .inl (.inl h1)
          · exact absurd h1 hx0
          · exact .inr h1
          · exact .inl (.inr h1)
        · rintro ((h1 | h1) | h1)
          · exact .inl (.inl h1)
          · exact .inr h1
          · exact .inl (.inr (.inr h1)))
      have HT5 := Lib.hid (And.intro hB5 (And.intro hrow5 (And.intro (Nat.lt_of_lt_of_le hgz hup.2.2.2.1) HG)))
      clear hnp hup hgo hLe hB hrow hgz hat hdr htk hesl HG hk5 hrow5 hB5 hgw
      go_wp2_with fail
      go_roundg (ND - (k + 1))
      case measure => rw [HT5.out.2.2.2]; omega
      case rel => exact ⟨k + 1, es ++ [{ x with id := r }], L ++ [r], rfl, by omega, by go_num, HN, HLe2, HT5.out.1, HT5.out.2.1, HT5.out.2.2.1⟩
    · go_simp
      refine hK.out _ _ trivial (fun _ => ?_)
      clear hK K
      try simp only [Act.put, List.setIfInBounds_toArray, List.set_cons_zero, List.set_cons_succ]
      refine wpAnyH_ready (rs := [5]) (by kernel_rfl) (by simp) ?_
      refine AllReadyH.cons rfl (fun K hK => ?_) AllReadyH.nil
      go_simp
      refine hK.out _ _ trivial (fun _ => ?_)
      clear hK K
      try simp only [Act.put, List.setIfInBounds_toArray, List.set_cons_zero, List.set_cons_succ]
      refine wpAnyH_ready (rs := [9]) (by kernel_rfl) (by simp) ?_
      refine AllReadyH.cons rfl (fun K hK => ?_) AllReadyH.nil
      go_simp
      refine (HNum.out _ (below_drewK (Below.refl _ _))).mono ?_
      rintro e w3 ⟨r, rfl, hnp, hb3⟩
      have hbb : Below wr.heap.size wr w3 := (below_drewK (Below.refl wr.heap.size wr)).trans (hb3.mono (Nat.le_refl _))
      have hf3 : w3.frozen? ⟨gb, k * 11, none⟩ = false := (HFz.out _ hbb).1
      have hc3 : w3.cell? ⟨gb, k * 11, none⟩ = some (.int .i64 x.id) := (HFz.out _ hbb).2
      go_wp2_with fail
      refine hK.out _ _ trivial (fun _ => ?_)
      clear hK K
      try simp only [Act.put, List.setIfInBounds_toArray, List.set_cons_zero, List.set_cons_succ]
      refine wpAnyH_take (i := 10) (oi := { dst := some 48, op := Op.indexAddr 23 (Operand.tmp 38) (Operand.tmp 39), type := 0, pos := "ref.go:152", after := #[{ on := 0, ground := Ground.data }, { on := 1, ground := Ground.data }, { on := 0, ground := Ground.phase }, { on := 1, ground := Ground.phase }, { on := 2, ground := Ground.phase }, { on := 3, ground := Ground.phase }, { on := 4, ground := Ground.phase }, { on := 5, ground := Ground.phase }, { on := 6, ground := Ground.phase }, { on := 7, ground := Ground.phase }, { on := 8, ground := Ground.phase }, { on := 9, ground := Ground.phase }], guard := none }) (v := ?v10) rfl (by kernel_rfl) (by kernel_rfl) (by kernel_rfl) (fun _ _ _ h => h) (Or.inl ⟨by rfl, ?hy10⟩) trivial ?_
      case hy10 => (intro w hSw; (try dsimp only at hSw); first | (go_simp; done) | (go_simp; with_reducible rfl))
      try simp only [Act.put, List.setIfInBounds_toArray, List.set_cons_zero, List.set_cons_succ]
      refine wpAnyH_take (i := 11) (oi := { dst := some 49, op := Op.fieldAddr 63 (Operand.tmp 48) 0, type := 0, pos := "ref.go:152", after := #[{ on := 10, ground := Ground.data }, { on := 0, ground := Ground.phase }, { on := 1, ground := Ground.phase }, { on := 2, ground := Ground.phase }, { on := 3, ground := Ground.phase }, { on := 4, ground := Ground.phase }, { on := 5, ground := Ground.phase }, { on := 6, ground := Ground.phase }, { on := 7, ground := Ground.phase }, { on := 8, ground := Ground.phase }, { on := 9, ground := Ground.phase }], guard := none }) (v := ?v11) rfl (by kernel_rfl) (by kernel_rfl) (by kernel_rfl) (fun _ _ _ h => h) (Or.inl ⟨by rfl, ?hy11⟩) trivial ?_
      case hy11 => (intro w hSw; (try dsimp only at hSw); first | (go_simp; done) | (go_simp; with_reducible rfl))
      try simp only [Act.put, List.setIfInBounds_toArray, List.set_cons_zero, List.set_cons_succ]
      refine wpAnyH_ready (rs := [12]) (by kernel_rfl) (by simp) ?_
      refine AllReadyH.cons rfl (fun K hK => ?_) AllReadyH.nil
      go_simp
      refine hK.out _ _ trivial (fun _ => ?_)
      clear hK K
      try simp only [Act.put, List.setIfInBounds_toArray, List.set_cons_zero, List.set_cons_succ]
      refine wpAnyH_done (by kernel_rfl) ?_ _
      have hup := UpdD.of (b := gb) (o := k * 11) (v := .int .i64 r) hbb
      clear hf3 hc3 hbb hb3
      generalize w3.setCell ⟨gb, k * 11, none⟩ (.int .i64 r) = W5 at hup ⊢
      clear e0 e1 e2 e3 e4 e5 e6 e7 e8 e9 e10 e11
      obtain ⟨hgo, hLe, hB, hrow, hgz, hat, hdr, htk, hesl, HG⟩ := HT.out
      have hgw := HGw.out
      have hk5 : ∀ q, q ≠ gb → q < wr.heap.size → W5.heap[q]? = wr.heap[q]? := fun q hq hz => (hup.2.2.2.2 q hz).trans (heap_setCell_other _ _ _ _ (by simpa using hq))
      have hrow5 : RowD W5 gb ((es ++ [{ x with id := r }]) ++ ds.drop (k + 1)) := by
        have h := (hrow.set hat r).keep (hup.2.2.2.2 gb hgz)
        rw [hdr, set_mid hesl] at h
        exact h
      have hB5 : Below W0.heap.size W0 W5 := ⟨hup.1.trans hB.os, hup.2.1.trans hB.tape, hup.2.2.1.trans hB.output, Nat.le_trans hB.size hup.2.2.2.1, fun q hq => (hk5 q (by omega) (by have := hB.size; omega)).trans (hB.block q hq)⟩
      have HN := Lib.hid (hgo.snoc (x := x) (x' := { x with id := r }) (L2 := L ++ [r]) (.inr ⟨H00.out, r, hnp.out, rfl, rfl⟩))
      rw [← htk] at HN
      have HLe2 := Lib.hid (show ∀ i : Int, 1 ≤ i → (i ∈ L ++ [r] ↔ i ∈ ((es ++ [{ x with id := r }]) ++ ds.drop (k + 1)).map Dc.id) from fun i hi => by
        have h := hLe i hi
        rw [hdr] at h
        have hx0 : i ≠ x.id := by have := H00.out; omega
        simp only [List.map_append, List.map_cons, List.mem_append, List.mem_cons, List.map_nil, List.not_mem_nil, or_false] at h ⊢
        rw [h]
        constructor
        · rintro ((h1 | h1 | h1) | h1)
          · exact .inl (.inl h1)
          · exact absurd h1 hx0
          · exact .inr h1
          · exact .inl (.inr h1)
        · rintro ((h1 | h1) | h1)
          · exact .inl (.inl h1)
          · exact .inr h1
          · exact .inl (.inr (.inr h1)))
      have HT5 := Lib.hid (And.intro hB5 (And.intro hrow5 (And.intro (Nat.lt_of_lt_of_le hgz hup.2.2.2.1) HG)))
      clear hnp hup hgo hLe hB hrow hgz hat hdr htk hesl HG hk5 hrow5 hB5 hgw
      go_wp2_with fail
      go_roundg (ND - (k + 1))
      case measure => rw [HT5.out.2.2.2]; omega
      case rel => exact ⟨k + 1, es ++ [{ x with id := r }], L ++ [r], rfl, by omega, by go_num, HN, HLe2, HT5.out.1, HT5.out.2.1, HT5.out.2.2.1⟩
  have hkN : ND = k := by omega
  subst hkN
  have hes : RowD wr gb es := by
    rw [List.drop_of_length_le (by rw [HND.out]; exact Nat.le_refl _), List.append_nil] at hrow
    exact hrow
  have HGo := Lib.hid (show NGo old i1 ds es L by
    have h := hgo.out
    rwa [List.take_of_length_le (by rw [HND.out]; exact Nat.le_refl _)] at h)
  have HEl := Lib.hid hesl
  have HSl := Lib.hid (show SlD wr wr.heap.size (some ⟨gb, 0, none⟩) c1 es from hes.sld hgz (HX.out wr hB).1 (fun e he => by
    obtain ⟨y, hy, i, rfl⟩ := HGo.out.mem e he
    have h : y.Ok w w.heap.size := sld_ok HD.out.1 hy
    exact ⟨h.1, h.2⟩) (by rw [hesl]; exact HCc.out.1) HCc.out.2)
  have HBL := Lib.hid hB
  have i2' : decide ((ND : Int) < (ND : Int)) = false := by simp
  have i3' : decide (ND < ND) = false := by simp
  obtain ⟨w8, rfl⟩ : ∃ q, q = wr := ⟨_, rfl⟩
  clear hgo hLe hB hrow hes hgz hesl HG
  have hsoL := fun (X : World) (hX : Below w8.heap.size w8 X) => sorted24_any es (some ⟨gb, 0, none⟩) c1 X (HSl.out.keep hX.size (fun p hp => hX.cell hp)) (by rw [HEl.out]; omega)
  simp only [HEl.out] at hsoL
  have HSo := Lib.hid hsoL
  have HRr := Lib.hid (show ∀ X : World, Below w8.heap.size w8 X → Below w.heap.size w X ∧ X.heap[w.heap.size + 1 + 1]? = some (.cells #[.slice none 0 0, .slice none 0 0] 40 (0, 0)) ∧ X.cell? ⟨w.heap.size, 0, none⟩ = some (.slice uA NU uc) from fun X hX => by
    obtain ⟨h1, _, _, _, _, h2, _, h3, _⟩ := HX.out X (HBL.out.trans (hX.mono HBL.out.size))
    exact ⟨h1, h3, cell_of_row X _ 0 _ _ (0, 0) h2⟩)
  have HSY := Lib.hid (show ∀ (X : World) (v0 v1 : Value), Below w8.heap.size w8 X → ((X.setCell ⟨w.heap.size + 1 + 1, 0, none⟩ v0).setCell ⟨w.heap.size + 1 + 1, 1, none⟩ v1).cell? ⟨w.heap.size, 0, none⟩ = some (.slice uA NU uc) from fun X v0 v1 hX => (World.cell?_setCell_other _ _ _ _ (by intro e; simp only [Addr.mk.injEq] at e; omega)).trans ((World.cell?_setCell_other _ _ _ _ (by intro e; simp only [Addr.mk.injEq] at e; omega)).trans (HRr.out X hX).2.2))
  have HZL := Lib.hid (show w.heap.size + 1 + 1 < w8.heap.size from (HX.out w8 HBL.out).2.2.2.2.2.2.2.2)
  clear hsoL
  go_wp2_with fail
  go_region_held3 (fun X => X.cell? ⟨w.heap.size, 0, none⟩ = some (.slice uA NU uc))
    (first | exact (HRr.out _ (below_drewK (Below.refl _ _))).2.2 | exact (HRr.out _ hbb).2.2 | exact HSY.out _ _ _ hbb)
    (first | (go_at_call 90; refine (HSo.out _ (below_drewK (Below.refl _ _))).mono ?_; rintro e w9 ⟨sA, sc, fs, rfl, hsrt, hown9, hsA, hb9⟩; have hbb : Below w8.heap.size w8 w9 := (below_drewK (Below.refl w8.heap.size w8)).trans (hb9.mono (Nat.le_refl _)); obtain ⟨hBx, hr, x0⟩ := HRr.out w9 hbb; obtain ⟨y0, y1, z0, z1⟩ := row2 hr))
  all_goals (
    have HS := Lib.hid (pair_set hr (.slice uA NU uc) (.slice sA fs.length sc))
    have HBx := Lib.hid hBx
    have HF9 := Lib.hid (And.intro hsrt (And.intro hown9 (show ∀ g o s, sA = some ⟨g, o, s⟩ → w.heap.size + 1 + 1 < g from fun g o s h => by have h1 := hsA g o s h; have h2 := HZL.out; have h3 : w8.drew.heap.size = w8.heap.size := rfl; omega)))
    clear hr hBx hsrt hown9 hsA hb9 hbb
    (try go_wp2)
    obtain ⟨W9, hW9, s0, s1, hBf, hsz, hbk⟩ := out2 HS.out HBx.out (show w.heap.size ≤ w.heap.size + 1 + 1 by omega)
    rw [hW9]
    refine bodyPost_ret (v := .tuple #[.agg #[.slice uA NU uc, .slice sA fs.length sc], .int .i64 0]) (by simp [results, Tryz.results35, go_sem, s0, s1]) rfl ?_
    have hfl : fs.length = ND := HF9.out.1.1.length_eq.trans HEl.out
    refine ⟨hBf, .inr ⟨HDE2.out, sA, sc, fs, ⟨es, L, by rw [Hi1.out]; exact HGo.out, HF9.out.1⟩, hfl, ?_, by rw [hfl]⟩⟩
    have hokF : ∀ e ∈ fs, e.Ok w w.heap.size := fun e he => by
      obtain ⟨x, hx, i, rfl⟩ := HGo.out.mem e (HF9.out.1.1.subset he)
      have h : x.Ok w w.heap.size := sld_ok HD.out.1 hx
      exact ⟨h.1, h.2⟩
    by_cases hfe : fs = []
    · subst hfe
      have hc := HF9.out.2.1.cells
      refine ⟨Nat.zero_le _, ?_, fun h => absurd rfl h⟩
      rcases hc with ⟨_, _, rfl⟩ | ⟨_, _, _, _, hc, _⟩
      · decide
      · unfold maxLen; omega
    · obtain ⟨g9, rfl, hg9, hl9, hm9, hrw9⟩ := HF9.out.2.1.row hfe
      have hne9 : g9 ≠ w.heap.size + 1 + 1 := by have h1 := HF9.out.2.2 g9 _ _ rfl; omega
      exact (hrw9.keep (hbk g9 hne9)).sld (by rw [hsz]; exact hg9) hBf hokF hl9 hm9)
end Go.Proofs.YtacjjkbkhpdhnaaGreatDoor
