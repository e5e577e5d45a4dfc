/- ref28.Module -/
import Derived.Test.YtlcfoiapkblheaaGreatDoorZgd
import Derived.Test.YtlcfoiapkblheaaGreatDoorMdw
import Derived.Deep.RegionHeld3
import Derived.Deep.RegionLaw
import Derived.Deep.DrawnRows
import Derived.Test.YtlcfoiapkblheaaGreatDoorAwm
namespace Go.Proofs.YtlcfoiapkblheaaGreatDoor
open Go.RowKit Go.Proofs Go.Shelf

attribute [local go_sem ↓] Go.wp_at_zero Go.wp_at_succ

set_option maxRecDepth 100000 in
set_option maxHeartbeats 8000000 in
theorem module28_any (label : ByteArray) (uses : List ByteArray) (uA : Option Addr) (uc : Nat) (decls : List Dc) (dA : Option Addr) (dc : Nat) (w : World) (hu : SlS w w.heap.size uA uc uses) (hd : SlD w w.heap.size dA dc decls) (hms : ModS label uses decls) (hcn : ∀ x ∈ decls, x.s.count ≤ 100000) :
    Calls Tryz.prog 18 #[.agg #[.string label, .slice uA uses.length uc, .slice dA decls.length dc]] w (ModQ label uses decls w) := by
  obtain ⟨i0, hi, hz0, hz1, hz2⟩ := info_parts Tryz.infoCodeDecl
  obtain ⟨i1, hj, hy0, hy1, hy2⟩ := info_parts Tryz.infoBlock
  obtain ⟨N, HN⟩ : ∃ Q, Hid (decls.length = Q) := ⟨_, Lib.hid rfl⟩
  obtain ⟨NU, HNU⟩ : ∃ Q, Hid (uses.length = Q) := ⟨_, Lib.hid rfl⟩
  obtain ⟨W0, hW0⟩ : ∃ W0, (w.alloc (.cells #[.string label, .slice uA NU uc, .slice dA N dc] 25)).alloc (.cells #[.string ⟨#[]⟩, .slice none 0 0, .slice none 0 0] 31) = W0 := ⟨_, rfl⟩
  have hzw : w.heap.size + 1 < W0.heap.size := by subst hW0; simp
  have hB0 : Below w.heap.size w W0 := by subst hW0; exact ((Below.refl _ _).alloc (Nat.le_refl _) _).alloc (by simp) _
  have hx0 : W0.heap[w.heap.size]? = some (.cells #[.string label, .slice uA NU uc, .slice dA N dc] 25 (0, 0)) := by rw [← hW0]; exact (Below.heap_alloc _ _ _ (by simp)).trans (heap_alloc_new w _)
  have hyy : W0.heap[w.heap.size + 1]? = some (.cells #[.string ⟨#[]⟩, .slice none 0 0, .slice none 0 0] 31 (0, 0)) := by
    have h := heap_alloc_new (w.alloc (.cells #[.string label, .slice uA NU uc, .slice dA N dc] 25)) (.cells #[.string ⟨#[]⟩, .slice none 0 0, .slice none 0 0] 31)
    rw [hW0] at h
    simpa using h
  have HC : Hid (∀ X, Below W0.heap.size W0 X → Below w.heap.size w X ∧ w.heap.size + 1 < X.heap.size ∧ SlS X X.heap.size uA uc uses ∧ SlD X X.heap.size dA dc decls ∧ X.cell? ⟨w.heap.size, 0, none⟩ = some (.string label) ∧ X.cell? ⟨w.heap.size, 1, none⟩ = some (.slice uA NU uc) ∧ X.cell? ⟨w.heap.size, 2, none⟩ = some (.slice dA N dc) ∧ X.heap[w.heap.size + 1]? = some (.cells #[.string ⟨#[]⟩, .slice none 0 0, .slice none 0 0] 31 (0, 0))) := fun X hX => by
    have hx := (hX.block w.heap.size (by omega)).trans hx0
    have hb := hB0.trans (hX.mono (by omega))
    exact ⟨hb, Nat.lt_of_lt_of_le hzw hX.size, hu.keep (by have := hb.size; omega) (fun p hp => hb.cell hp), hd.keep (by have := hb.size; omega) (fun p hp => hb.cell hp), cell_of_row X w.heap.size 0 _ _ (0, 0) hx, cell_of_row X w.heap.size 1 _ _ (0, 0) hx, cell_of_row X w.heap.size 2 _ _ (0, 0) hx, (hX.block _ hzw).trans hyy⟩
  have HFail : Hid (∀ X er, Below w.heap.size w X → modE label uses decls = er → er ≠ 0 → ModQ label uses decls w (.returned (.tuple #[.agg #[.string ⟨#[]⟩, .slice none 0 0, .slice none 0 0], .int .i64 er])) (((X.setCell ⟨w.heap.size + 1, 0, none⟩ (.string ⟨#[]⟩)).setCell ⟨w.heap.size + 1, 1, none⟩ (.slice none 0 0)).setCell ⟨w.heap.size + 1, 2, none⟩ (.slice none 0 0))) := by
    intro X er hb he hne
    exact ⟨_, _, _, by rw [he], ((hb.setCell (by simp) _).setCell (by simp) _).setCell (by simp) _, .inr ⟨by rw [he]; exact hne, rfl, rfl, rfl⟩⟩
  have hul := hu.1
  have hul2 := hu.2.1
  have hdl := hd.1
  have hdl2 := hd.2.1
  unfold maxLen at hul2 hdl2
  rw [HNU.out] at hul ⊢
  rw [HN.out] at hdl ⊢
  obtain ⟨E1, HE1⟩ : ∃ Q, Hid (checkE label uses decls = Q) := ⟨_, Lib.hid rfl⟩
  obtain ⟨hBa, hza, hsa, hda, y0, y1, y2, hya⟩ := HC.out W0 (Below.refl _ _)
  have hck := check24_any label uses uA uc decls dA dc W0 hsa hda hms
  rw [HNU.out, HN.out, HE1.out] at hck
  have HCK := Lib.hid hck
  have HCN := Lib.hid hcn
  clear hck hsa hda hBa hya hx0 hyy hu hd hB0 hms hcn
  go_enter Tryz.func18, Tryz.ntmps18
  go_wp2_with fail
  refine HCK.out.mono ?_
  rintro e w1 ⟨rfl, hb1⟩
  obtain ⟨hB1, hz1', hs1, hd1, x0, x1, x2, hy1'⟩ := HC.out w1 hb1
  have HB1 := Lib.hid (And.intro hb1 (And.intro hB1 hy1'))
  clear y0 y1 y2 hW0 HCK
  by_cases e1 : E1 = 0
  rotate_left
  · have e1' : (E1 != 0) = true := by simpa using e1
    have c0 := cell_of_row w1 (w.heap.size + 1) 0 _ _ (0, 0) hy1'
    have c1 := cell_of_row w1 (w.heap.size + 1) 1 _ _ (0, 0) hy1'
    have c2 := cell_of_row w1 (w.heap.size + 1) 2 _ _ (0, 0) hy1'
    simp at c0 c1 c2
    have f0 := frozen_of_row w1 (w.heap.size + 1) 0 _ _ hy1'
    have f1 := frozen_of_row w1 (w.heap.size + 1) 1 _ _ hy1'
    have f2 := frozen_of_row w1 (w.heap.size + 1) 2 _ _ hy1'
    have hts := three_set hy1' (.string ⟨#[]⟩) (.slice none 0 0) (.slice none 0 0)
    have g0 := cell_of_row _ (w.heap.size + 1) 0 _ _ (0, 0) hts
    have g1 := cell_of_row _ (w.heap.size + 1) 1 _ _ (0, 0) hts
    have g2 := cell_of_row _ (w.heap.size + 1) 2 _ _ (0, 0) hts
    simp at g0 g1 g2
    have HG := Lib.hid (And.intro g0 (And.intro g1 g2))
    have HR := Lib.hid (HFail.out w1 E1 hB1 (by rw [modE, HE1.out, if_pos e1]) e1)
    clear hts g0 g1 g2 hy1' hs1 hd1 hb1 hB1
    go_wp2
    exact bodyPost_ret (v := .tuple #[.agg #[.string ⟨#[]⟩, .slice none 0 0, .slice none 0 0], .int .i64 E1]) (by simp [results, Tryz.results18, go_sem, HG.out.1, HG.out.2.1, HG.out.2.2]) rfl HR.out
  subst e1
  obtain ⟨hlab, hlen, hval⟩ := checkE_zero HE1.out
  clear hlab
  rw [HN.out] at hlen
  obtain ⟨cf, Hcf⟩ : ∃ Q, Hid (confB [] decls = Q) := ⟨_, Lib.hid rfl⟩
  have hcf := conflict28_any label uA NU uc decls dA dc w1 hd1
  rw [HN.out, Hcf.out] at hcf
  have HCF := Lib.hid hcf
  have HVAL := Lib.hid hval
  clear hcf hval hs1 hd1 hb1 hB1 hy1'
  go_wp2_with fail
  refine HCF.out.mono ?_
  rintro e w2 ⟨rfl, hb2⟩
  have hb2' := HB1.out.1.trans (hb2.mono HB1.out.1.size)
  obtain ⟨hB2, hz2', hs2, hd2, z0, z1, z2, hy2'⟩ := HC.out w2 hb2'
  have HB2 := Lib.hid (And.intro hb2' (And.intro hB2 hy2'))
  clear x0 x1 x2 HCF hb2 hb2'
  cases cf
  rotate_left
  · have c0 := cell_of_row w2 (w.heap.size + 1) 0 _ _ (0, 0) hy2'
    have c1 := cell_of_row w2 (w.heap.size + 1) 1 _ _ (0, 0) hy2'
    have c2 := cell_of_row w2 (w.heap.size + 1) 2 _ _ (0, 0) hy2'
    simp at c0 c1 c2
    have f0 := frozen_of_row w2 (w.heap.size + 1) 0 _ _ hy2'
    have f1 := frozen_of_row w2 (w.heap.size + 1) 1 _ _ hy2'
    have f2 := frozen_of_row w2 (w.heap.size + 1) 2 _ _ hy2'
    have hts := three_set hy2' (.string ⟨#[]⟩) (.slice none 0 0) (.slice none 0 0)
    have g0 := cell_of_row _ (w.heap.size + 1) 0 _ _ (0, 0) hts
    have g1 := cell_of_row _ (w.heap.size + 1) 1 _ _ (0, 0) hts
    have g2 := cell_of_row _ (w.heap.size + 1) 2 _ _ (0, 0) hts
    simp at g0 g1 g2
    have HG := Lib.hid (And.intro g0 (And.intro g1 g2))
    have HR := Lib.hid (HFail.out w2 17 hB2 (by rw [modE, HE1.out, Hcf.out]; rfl) (by decide))
    clear hts g0 g1 g2 hy2' hs2 hd2 hB2
    go_wp2
    exact bodyPost_ret (v := .tuple #[.agg #[.string ⟨#[]⟩, .slice none 0 0, .slice none 0 0], .int .i64 17]) (by simp [results, Tryz.results18, go_sem, HG.out.1, HG.out.2.1, HG.out.2.2]) rfl HR.out
  obtain ⟨ld, Hld⟩ : ∃ Q, Hid (leadsB (decls.map Dc.id) uses decls = Q) := ⟨_, Lib.hid rfl⟩
  have hcr := leads28_any label uses uA uc decls dA dc w2 hs2 hd2 HCN.out
  rw [HNU.out, HN.out, Hld.out] at hcr
  have HCR := Lib.hid hcr
  clear hcr hs2 hd2 hB2 hy2'
  go_wp2_with fail
  refine HCR.out.mono ?_
  rintro e w3 ⟨rfl, hb3⟩
  have hb3' := HB2.out.1.trans (hb3.mono HB2.out.1.size)
  obtain ⟨hB3, hz3', hs3, hd3, v0, v1, v2, hy3'⟩ := HC.out w3 hb3'
  have HB3 := Lib.hid (And.intro hb3' (And.intro hB3 hy3'))
  clear z0 z1 z2 HCR hb3 hb3'
  cases ld
  · have c0 := cell_of_row w3 (w.heap.size + 1) 0 _ _ (0, 0) hy3'
    have c1 := cell_of_row w3 (w.heap.size + 1) 1 _ _ (0, 0) hy3'
    have c2 := cell_of_row w3 (w.heap.size + 1) 2 _ _ (0, 0) hy3'
    simp at c0 c1 c2
    have f0 := frozen_of_row w3 (w.heap.size + 1) 0 _ _ hy3'
    have f1 := frozen_of_row w3 (w.heap.size + 1) 1 _ _ hy3'
    have f2 := frozen_of_row w3 (w.heap.size + 1) 2 _ _ hy3'
    have hts := three_set hy3' (.string ⟨#[]⟩) (.slice none 0 0) (.slice none 0 0)
    have g0 := cell_of_row _ (w.heap.size + 1) 0 _ _ (0, 0) hts
    have g1 := cell_of_row _ (w.heap.size + 1) 1 _ _ (0, 0) hts
    have g2 := cell_of_row _ (w.heap.size + 1) 2 _ _ (0, 0) hts
    simp at g0 g1 g2
    have HG := Lib.hid (And.intro g0 (And.intro g1 g2))
    have HR := Lib.hid (HFail.out w3 21 hB3 (by rw [modE, HE1.out, Hcf.out, Hld.out]; rfl) (by decide))
    clear hts g0 g1 g2 hy3' hs3 hd3 hB3
    go_wp2
    exact bodyPost_ret (v := .tuple #[.agg #[.string ⟨#[]⟩, .slice none 0 0, .slice none 0 0], .int .i64 21]) (by simp [results, Tryz.results18, go_sem, HG.out.1, HG.out.2.1, HG.out.2.2]) rfl HR.out
  have HM0 := Lib.hid (show modE label uses decls = 0 by rw [modE, HE1.out, Hcf.out, Hld.out]; rfl)
  have HSM := Lib.hid (conf_sum decls [] Hcf.out)
  have HD3 := Lib.hid hd3
  clear hy3' hs3 hd3 hul hul2 hza hz1' hz2' HFail HNU v1
  obtain ⟨W4, hW4⟩ : ∃ W4, w3.alloc (.cells #[.string label, .slice none 0 0, .slice none 0 0] 31) = W4 := ⟨_, rfl⟩
  have hB4 : Below w3.heap.size w3 W4 := by rw [← hW4]; exact (Below.refl _ _).alloc (Nat.le_refl _) _
  have HMS := Lib.hid (show MdS w3.heap.size w3.heap.size label [] [] (.slice none 0 0) (.slice none 0 0) W4 from ⟨by rw [← hW4]; exact heap_alloc_new w3 _, BkAt.nil _ _, World.ownsRow_nil _ _ _ _⟩)
  have HB4 := Lib.hid (And.intro hB4 (HB3.out.1.trans (hB4.mono HB3.out.1.size)))
  have HV := Lib.hid (And.intro v0 v2)
  have HW4 := Lib.hid hW4
  clear hB4 v2 hW4
  go_wp2_with fail
  rw [HW4.out]
  clear v0 HW4
  go_loopg [6] N (fun g ct wr => MrR w3.heap.size w3.heap.size label decls w3 N g ct wr)
  case atStart => exact ⟨0, [], [], _, _, rfl, by omega, rfl, rfl, rfl, HMS.out, HB4.out.1⟩
  case round =>
    obtain ⟨j, bl, ds, bv, dv, HGm, hjN, rfl, hdl3, hgo, hMS, hBr⟩ := hrel
    have hzr := hBr.size
    obtain ⟨v0, v2⟩ := HV.out
    obtain ⟨bA, bc, rfl⟩ := hMS.2.1.form
    obtain ⟨vA, vc, rfl⟩ := own_form hMS.2.2
    obtain ⟨NB, HNB⟩ : ∃ Q, Hid (bl.length = Q) := ⟨_, Lib.hid rfl⟩
    rw [hdl3, HNB.out] at hMS
    have hC0 := HC.out wr (HB3.out.1.trans (hBr.mono HB3.out.1.size))
    obtain ⟨hBw, hzw', _, hsd, z0, _, z2, hre⟩ := hC0
    have y0 := cell_of_row wr w3.heap.size 0 _ _ (0, 0) hMS.1
    have y1 := cell_of_row wr w3.heap.size 1 _ _ (0, 0) hMS.1
    have y2 := cell_of_row wr w3.heap.size 2 _ _ (0, 0) hMS.1
    simp at y0 y1 y2
    by_cases hlt : j < N
    · have hlt' : j < decls.length := by rw [HN.out]; exact hlt
      have hj3 : decls[j]? = some decls[j] := List.getElem?_eq_getElem hlt'
      obtain ⟨b, o, rfl, hb, d0, d1, d2, d3, d4, d5, d6, d7, d8, d9, d10, hxok⟩ := HD3.out.cells_at (wr := w3) (fun p hp => rfl) hj3
      have hmem := List.mem_of_getElem? hj3
      have hv := HVAL.out _ hmem
      have hcnt := hv.cnt
      have HRB := Lib.hid (dc_rblk hv (HSM.out _ hmem) bl.length)
      have hkn := dc_kn hv (HSM.out _ hmem)
      have hdr : decls.drop j = decls[j] :: decls.drop (j + 1) := List.drop_eq_getElem_cons hlt'
      rw [hdr] at hgo
      have htot : bl.length + (blkOf (decls[j].comp label) [] 0 false bl.length).length ≤ 200000 := by
        have h1 := modGo_len label decls 0 (fun x hx => by have := (HVAL.out x hx).cnt; omega)
        rw [hgo] at h1
        simp only [modGo, List.length_append] at h1
        rw [HN.out] at h1
        omega
      have hsl := hxok.2
      clear hv hdr hj3 hxok hmem d2 d3 d4
      generalize decls[j] = x at d0 d1 d5 d6 d7 d8 d9 d10 hcnt hgo htot hsl HRB hkn
      clear hlt'
      obtain ⟨hole, HHO⟩ : ∃ q : Blk, Hid ((⟨0, false, []⟩ : Blk) = q) := ⟨_, Lib.hid rfl⟩
      obtain ⟨⟨L0, B0⟩, HL0⟩ : ∃ q, Hid (x.rcomp label [] (bl ++ [hole]).length = q) := ⟨_, Lib.hid rfl⟩
      have hrl := nodeR_len label x.k x.n x.m x.i x.d x.s (Fo.rcomp_len label x.s) [] (bl ++ [hole]).length
      have hrc : nodeR label x.k x.n x.m x.i x.d (x.s.rcomp label) [] (bl ++ [hole]).length = (L0, B0) := HL0.out
      rw [hrc] at hrl
      simp only at hrl
      obtain ⟨NL0, HNL0⟩ : ∃ q, Hid (L0.length = q) := ⟨_, Lib.hid rfl⟩
      obtain ⟨N1, HN1⟩ : ∃ q, Hid ((bl ++ [hole]).length = q) := ⟨_, Lib.hid rfl⟩
      obtain ⟨N2, HN2⟩ : ∃ q, Hid ((bl ++ [hole] ++ B0).length = q) := ⟨_, Lib.hid rfl⟩
      obtain ⟨NR, HNR⟩ : ∃ q, Hid ((joinL 0 [L0, [retI]]).length = q) := ⟨_, Lib.hid rfl⟩
      have hblk : blkOf (x.comp label) [] 0 false bl.length = ⟨0, false, joinL 0 [L0, [retI]]⟩ :: B0 := by
        have e2 : bl.length + 1 = (bl ++ [hole]).length := by simp
        rw [HRB.out]
        unfold rBlk
        rw [e2, HL0.out]
      rw [hblk] at htot
      have HBK := Lib.hid (show blkOf (x.comp label) [] 0 false NB = ⟨0, false, joinL 0 [L0, [retI]]⟩ :: B0 by rw [← HNB.out]; exact hblk)
      have hNB : NB ≤ 1000000 := by rw [← HNB.out]; omega
      have hN1 : NB + 1 = N1 := by rw [← HN1.out, List.length_append, HNB.out]; rfl
      have hN2 : NB < N2 := by rw [← HN2.out, List.length_append, List.length_append, HNB.out]; simp only [List.length_cons, List.length_nil]; omega
      have hN2b : N2 ≤ 1000001 := by rw [← HN2.out]; simp only [List.length_append, List.length_cons, List.length_nil] at htot ⊢; omega
      have hNL0 : NL0 ≤ 300000 := by rw [← HNL0.out]; omega
      have HNN := Lib.hid hN1
      have HX : Hid (∀ (X : World) (bA' : Option Addr) (bc' : Nat), Below wr.heap.size wr X → BkAt wr.heap.size X (.slice bA' N1 bc') (bl ++ [hole]) →
          Calls Tryz.prog 59 #[.agg #[.int .i64 x.k, .string x.n, .string x.m, .int .i64 x.i, .int .i64 x.d, .slice x.A x.s.len x.c], .string label, .slice none 0 0, .slice bA' N1 bc'] X (ExQ wr.heap.size L0 (bl ++ [hole] ++ B0) NL0 N2 wr)) := fun X bA' bc' hX hbk => by
        have h := ex_any label x.s x.k x.n x.m x.i x.d x.A x.c [] none 0 (bl ++ [hole]) (.slice bA' N1 bc') wr.heap.size X ⟨hsl.keep (Nat.le_trans hzr hX.size) (fun p hp => (hBr.trans (hX.mono hzr)).cell hp), hkn.1, hkn.2, SlS.nil _ _ _ _ (by simp [maxLen]), hbk, hX.size, by simp only [List.length_nil]; omega, by simp only [List.length_append, List.length_cons, List.length_nil] at htot ⊢; omega, by omega⟩
        rw [hrc] at h
        exact h.mono fun _ _ h => h.q HNL0.out HN2.out hX
      obtain ⟨BS, hb1', hb2'⟩ := hMS.2.1
      have hbl2 := hb2'.length
      rw [HNB.out] at hbl2
      rw [hbl2] at hb1'
      have HBS := Lib.hid (And.intro hb2' hbl2)
      have HNW := Lib.hid (And.intro (own_news hb1') (And.intro (bgC_one hb2') (show (bgC BS).length = NB * 3 by rw [bgC_length, hbl2])))
      have HA0 := Lib.hid (World.ownsRow_lit (base := wr.heap.size) (e := 52) (size := 3) wr #[] 0 (Nat.le_refl _) (by simp) rfl)
      have HB0 := Lib.hid ((Below.refl wr.heap.size wr).alloc (Nat.le_refl _) (.cells #[] 52))
      have HNX := Lib.hid (show ∀ ad, bA = some ad → ∀ q u, (bgC BS)[q]? = some u → (wr.alloc (.cells #[] 52)).cell? (ad.add q) = some u from (own_news (own_keep hb1' fun _ _ _ hk => HB0.out.block _ (lt_of_block hk))).2)
      have HS : Hid (∀ X, Below w3.heap.size w3 X → X.cell? ⟨w.heap.size, 0, none⟩ = some (.string label) ∧ X.cell? ⟨w.heap.size, 2, none⟩ = some (.slice (some ⟨b, o, none⟩) N dc) ∧ X.cell? ⟨b, o + j * 11 + 5, none⟩ = some (.int .i64 x.k) ∧ X.cell? ⟨b, o + j * 11 + 6, none⟩ = some (.string x.n) ∧ X.cell? ⟨b, o + j * 11 + 7, none⟩ = some (.string x.m) ∧ X.cell? ⟨b, o + j * 11 + 8, none⟩ = some (.int .i64 x.i) ∧ X.cell? ⟨b, o + j * 11 + 9, none⟩ = some (.int .i64 x.d) ∧ X.cell? ⟨b, o + j * 11 + 10, none⟩ = some (.slice x.A x.s.len x.c)) := fun X hX => by
        have hwl : w.heap.size < w3.heap.size := by omega
        exact ⟨(hX.cell (p := ⟨w.heap.size, 0, none⟩) hwl).trans v0, (hX.cell (p := ⟨w.heap.size, 2, none⟩) hwl).trans v2, (hX.cell (p := ⟨b, _, none⟩) hb).trans d5, (hX.cell (p := ⟨b, _, none⟩) hb).trans d6, (hX.cell (p := ⟨b, _, none⟩) hb).trans d7, (hX.cell (p := ⟨b, _, none⟩) hb).trans d8, (hX.cell (p := ⟨b, _, none⟩) hb).trans d9, (hX.cell (p := ⟨b, _, none⟩) hb).trans d10⟩
      have HS2 : Hid (∀ X, Below w3.heap.size w3 X → X.cell? ⟨w.heap.size, 2, none⟩ = some (.slice (some ⟨b, o, none⟩) N dc) ∧ X.cell? ⟨b, o + j * 11, none⟩ = some (.int .i64 x.id) ∧ X.cell? ⟨b, o + j * 11 + 1, none⟩ = some (.int .i64 x.kind)) := fun X hX => by
        have hwl : w.heap.size < w3.heap.size := by omega
        exact ⟨(hX.cell (p := ⟨w.heap.size, 2, none⟩) hwl).trans v2, (hX.cell (p := ⟨b, _, none⟩) hb).trans d0, (hX.cell (p := ⟨b, _, none⟩) hb).trans d1⟩
      have hcbl : w3.heap.size < wr.heap.size := lt_of_block hMS.1
      have ya : (wr.alloc (.cells #[] 52)).cell? ⟨w3.heap.size, 1, none⟩ = some (.slice bA NB bc) := (HB0.out.cell (p := ⟨w3.heap.size, 1, none⟩) hcbl).trans y1
      have HE := Lib.hid (And.intro HGm (And.intro hgo (And.intro hdl3 (And.intro hMS hBr))))
      have hji : (0 : Int) ≤ (j : Int) := by omega
      have hji1 : (j : Int) < (N : Int) := by omega
      clear HGm hgo hdl3 hMS hBr hb1' hb2' hbl2 hsl hkn hrc hrl htot hblk hN1 hsd hre hBw d0 d1 d5 d6 d7 d8 d9 d10 HRB v0 v2
      go_wp2_with (first | (at_builtin; refine wpList_append_own_any _ rfl (.tmp 36) (.tmp 38) 28 rfl wr.heap.size 52 i1 _ 3 40 Tryz.underlying28 hj hy0 hy1 hy2 rfl (by decide) _ 0 [] rfl HA0.out bA NB bc (bgC BS) rfl HNW.out.2.2 HNW.out.1.1 HNX.out HNW.out.2.1 (by unfold maxLen; omega) (by omega) (by simp) ?_; intro v1 w1' hown1 hg1; rw [Nat.zero_add, List.nil_append] at hown1; have hB1 := HB0.out.grown hg1 (by simp) (fun q hq => (HA0.out.lt q hq).1); obtain ⟨A1, c1, rfl⟩ := own_form hown1; have HO1 := Lib.hid (And.intro hown1 hB1); clear hown1 hB1 hg1) | (at_builtin; refine wpList_append_own _ rfl (.tmp 39) (.tmp 41) 28 rfl wr.heap.size 52 i1 _ 3 40 Tryz.underlying28 hj hy0 hy1 hy2 rfl (by decide) _ NB _ rfl (HO1.out.1.alloc _) ⟨w1'.heap.size, 0, none⟩ 1 1 [.int .i64 0, .bool false, .slice none 0 0] rfl rfl (cells_new _ _ _) (by simp [Value.oneCell']) (by unfold maxLen; omega) (by omega) (by have := HO1.out.2.size; simp; omega) ?_; intro v2 w2' hown2 hg2 _; rw [HNN.out] at hown2; have hB2 := (HO1.out.2.alloc HO1.out.2.size _).grown hg2 (by have := HO1.out.2.size; simp; omega) (fun q hq => (HO1.out.1.lt q hq).1); obtain ⟨A2, c2, rfl⟩ := own_form hown2; have HO2 := Lib.hid (And.intro hown2 hB2); clear hown2 hB2 hg2))
      have HW2 := Lib.hid (And.intro HO2.out.2 (show BkAt wr.heap.size w2' (.slice A2 N1 c2) (bl ++ [hole]) by rw [← HHO.out]; exact bk_push HO2.out.1 (by rw [HBS.out.2]; exact HNN.out) (HBS.out.1.below HO2.out.2)))
      have HDR := Lib.hid (And.intro HW2.out.1.drew (And.intro (HW2.out.2.below (Below.refl _ _).drew) (HE.out.2.2.2.2.trans (HW2.out.1.drew.mono hzr))))
      obtain ⟨q0, q2, q5, q6, q7, q8, q9, q10⟩ := HS.out w2' (HE.out.2.2.2.2.trans (HW2.out.1.mono hzr))
      clear y0 y1 y2 z0 z2 ya HO1 HO2 HNX HNW HA0 HB0
      go_wp2_with fail
      clear q0 q2 q5 q6 q7 q8 q9 q10
      go_region_held3 (fun X => X.cell? ⟨w.heap.size, 0, none⟩ = some (.string label) ∧ X.cell? ⟨w.heap.size, 2, none⟩ = some (.slice (some ⟨b, o, none⟩) N dc) ∧ X.cell? ⟨b, o + j * 11 + 5, none⟩ = some (.int .i64 x.k) ∧ X.cell? ⟨b, o + j * 11 + 6, none⟩ = some (.string x.n) ∧ X.cell? ⟨b, o + j * 11 + 7, none⟩ = some (.string x.m) ∧ X.cell? ⟨b, o + j * 11 + 8, none⟩ = some (.int .i64 x.i) ∧ X.cell? ⟨b, o + j * 11 + 9, none⟩ = some (.int .i64 x.d) ∧ X.cell? ⟨b, o + j * 11 + 10, none⟩ = some (.slice x.A x.s.len x.c))
        (first | exact HS.out _ (HE.out.2.2.2.2.trans (hbe.mono hzr)) | exact HS.out _ HDR.out.2.2)
        ((go_at_call 59; refine (HX.out _ A2 c2 HDR.out.1 HDR.out.2.1).mono ?_; rintro e w3' ⟨iA0, ic0, bA0, bc0, rfl, hi0, hbk0, hbe⟩))
      have HW3 := Lib.hid (And.intro hbe (And.intro hbk0 hi0))
      clear hi0 hbk0 hbe HX HDR
      go_wp2_with fail
      refine (one28_q 7 0 0 ⟨#[]⟩ w3' _ (Below.refl _ _)).mono ?_
      rintro e w4 ⟨oA, oc, rfl, ho, hB4⟩
      obtain ⟨W5, hW5⟩ : ∃ W5, w4.alloc (.cells #[.slice iA0 NL0 ic0, .slice oA 1 oc] 50) = W5 := ⟨_, rfl⟩
      have hB5 : Below w4.heap.size w4 W5 := by rw [← hW5]; exact (Below.refl _ _).alloc (Nat.le_refl _) _
      have hz5 : w4.heap.size < W5.heap.size := by rw [← hW5]; simp
      have hx5 : W5.heap[w4.heap.size]? = some (.cells #[.slice iA0 NL0 ic0, .slice oA 1 oc] 50 (0, 0)) := by rw [← hW5]; exact heap_alloc_new w4 _
      have hB35 := hB4.trans (hB5.mono hB4.size)
      have HJ := Lib.hid (join28_any [(.slice iA0 NL0 ic0, L0), (.slice oA 1 oc, [retI])] 0 w4.heap.size 2 W5 hz5 (by simp) (by omega)
        (ins_row (t := 50) hx5 (by
          intro x hx
          simp only [List.mem_cons, List.not_mem_nil, or_false] at hx
          rcases hx with rfl | rfl
          · exact HW3.out.2.2.below hB35
          · exact (ho.below hB5).low (Nat.zero_le _))) (by simp only [List.map_cons, List.map_nil, List.sum_cons, List.sum_nil, HNL0.out, List.length_singleton]; omega))
      have HB5 := Lib.hid hB35
      clear ho hB4 hB5 hx5 hB35
      go_wp2_with fail
      refine HJ.out.mono ?_
      rintro e w6 h6
      obtain ⟨qA, qc, rfl, hq6, hB6⟩ := InsP.q (N := NR) (L := joinL 0 [L0, [retI]]) (u := w3') h6 HNR.out HB5.out
      have hbk6 := HW3.out.2.1.below hB6
      obtain ⟨g, u0, u1, u2, rfl, hgn, hgs, hne, hgc1, hgc2, ⟨hc0', hc1', hc2'⟩, hf0, hf1, hf2⟩ := bk_cells hbk6 (j := NB) (by rw [HN2.out]; exact hN2)
      clear hne
      obtain ⟨W7, hW7⟩ : ∃ W7, ((w6.setCell ⟨g, NB * 3, none⟩ (.int .i64 0)).setCell ⟨g, NB * 3 + 1, none⟩ (.bool false)).setCell ⟨g, NB * 3 + 2, none⟩ (.slice qA NR qc) = W7 := ⟨_, rfl⟩
      have hf6 : BkAt wr.heap.size W7 (.slice (some ⟨g, 0, none⟩) N2 bc0) (bl ++ ⟨0, false, joinL 0 [L0, [retI]]⟩ :: B0) := by
        rw [← hW7]
        exact bk_fill (hole := hole) (by rw [List.append_assoc] at hbk6; exact hbk6) (hq6.low (Nat.zero_le _)) (by rw [HNB.out])
      have hb7 : Below wr.heap.size wr W7 := by
        rw [← hW7]
        exact below_fill (HW3.out.1.trans (hB6.mono HW3.out.1.size)) hgn
      have hcb7 := (hb7.block _ (lt_of_block HE.out.2.2.2.1.1)).trans HE.out.2.2.2.1.1
      have r1 := cell_of_row W7 w3.heap.size 1 _ _ (0, 0) hcb7
      have rf := frozen_of_row W7 w3.heap.size 1 _ _ hcb7
      simp at r1
      obtain ⟨W8, hW8⟩ : ∃ W8, W7.setCell ⟨w3.heap.size, 1, none⟩ (.slice (some ⟨g, 0, none⟩) N2 bc0) = W8 := ⟨_, rfl⟩
      have hM8 : MdS w3.heap.size w3.heap.size label (bl ++ ⟨0, false, joinL 0 [L0, [retI]]⟩ :: B0) ds (.slice (some ⟨g, 0, none⟩) N2 bc0) (.slice vA j vc) W8 := by
        rw [← hW8]
        exact ms_blocks hcb7 (hf6.low hzr) (own_keep HE.out.2.2.2.1.2.2 fun _ _ _ hk => hb7.block _ (lt_of_block hk))
      have hb8 : Below w3.heap.size w3 W8 := by
        rw [← hW8]
        exact (HE.out.2.2.2.2.trans (hb7.mono hzr)).setCell (Nat.le_refl _) _
      have s2 := cell_of_row W8 w3.heap.size 2 _ _ (0, 0) hM8.1
      simp at s2
      have hb8n : Below W8.heap.size W8 (W8.alloc (.cells #[.int .i64 x.id, .int .i64 x.kind, .int .i64 NB] 80)).drew := ((Below.refl _ _).alloc (Nat.le_refl _) _).drew
      have s3 := cell_of_row (W8.alloc (.cells #[.int .i64 x.id, .int .i64 x.kind, .int .i64 NB] 80)) w3.heap.size 2 _ _ (0, 0) (hM8.below ((Below.refl _ _).alloc (Nat.le_refl _) _)).1
      simp at s3
      have HM8 := Lib.hid (And.intro hM8 (And.intro hb8 (And.intro (hM8.below hb8n) (hb8.trans (hb8n.mono hb8.size)))))
      have i1' : (NB : Int) < (N2 : Int) := by omega
      have i0' : (0 : Int) ≤ (NB : Int) := by omega
      have hz8 := hb8.size
      have HNEW := Lib.hid (show (W8.alloc (.cells #[.int .i64 x.id, .int .i64 x.kind, .int .i64 NB] 80)).drew.heap[W8.heap.size]? = some (.cells #[.int .i64 x.id, .int .i64 x.kind, .int .i64 NB] 80 (0, 0)) from heap_alloc_new W8 _)
      obtain ⟨e2, e0, e1⟩ := HS2.out W8 hb8
      clear h6 hq6 hB6 hbk6 hW5 hgn hgs hf6 hb7 hcb7 hM8 hb8 hb8n HJ HB5
      go_wp2_with fail
      clear hc0' hc1' hc2' hf0 hf1 hf2 r1 rf hW7 hW8 HS HCN HB1 HB2 Hcf Hld HM0 HC HB4 HD3 HSM HVAL HL0 HNL0 HN1 HN2 HNR HHO HW2 HW3
      go_region_law ((refine step_append_lies _ rfl (.tmp 67) (.tmp 82) 29 rfl w3.heap.size 80 i0 _ 3 24 Tryz.underlying29 hi hz0 hz1 hz2 rfl (by omega) (.slice vA j vc) j (cdC ds) rfl (by have h := HM8.out.2.2.1.2.2; rw [HE.out.2.2.1] at h; exact h) ⟨W8.heap.size, 0, none⟩ 1 1 [.int .i64 x.id, .int .i64 x.kind, .int .i64 NB] rfl rfl (World.news_of_block (cs := #[.int .i64 x.id, .int .i64 x.kind, .int .i64 NB]) (t := 80) (fr := (0, 0)) HNEW.out) (by simp [Value.oneCell']) (by omega) (by unfold maxLen; omega) (by omega) (by simp; omega) _ rfl ?_; intro gg dcap w9 hown9 hgrow9 hat9 hlt9; have hcb9 := ms_cb HM8.out.2.2.1 hgrow9; have hc9 := cell_of_row w9 w3.heap.size 2 _ _ (0, 0) hcb9; have hf9 := frozen_of_row w9 w3.heap.size 2 _ _ hcb9; have hb9 := HM8.out.2.2.2.grown hgrow9 HM8.out.2.2.2.size (fun q hq => (HM8.out.2.2.1.2.2.lt q hq).1); clear hat9 hlt9))
      all_goals (
        have HF9 := Lib.hid (And.intro (ms_decl (x := (x.id, x.kind, NB)) HM8.out.2.2.1 hgrow9 (N := j + 1) (by rw [HE.out.2.2.1]) hown9) (hb9.setCell (p := ⟨w3.heap.size, 2, none⟩) (Nat.le_refl _) (.slice (some ⟨gg, 0, none⟩) (j + 1) dcap)))
        clear hown9 hgrow9 hcb9 hc9 hf9 hb9
        go_wp2
        go_roundg (N - (j + 1))
        case measure => rw [HE.out.1]; omega
        case rel =>
          refine ⟨j + 1, bl ++ ⟨0, false, joinL 0 [L0, [retI]]⟩ :: B0, ds ++ [(x.id, x.kind, NB)], _, _, rfl, by omega, by go_num, by simp [HE.out.2.2.1], ?_, HF9.out.1, HF9.out.2⟩
          rw [HE.out.2.1, List.length_append]
          simp only [modGo, HBK.out, List.append_assoc, List.singleton_append, HNB.out])
    · obtain rfl : j = N := by omega
      have hgo2 : modGo label 0 decls = (bl, ds) := by
        rw [hgo, List.drop_of_length_le (by rw [HN.out]; exact Nat.le_refl _)]
        simp [modGo]
      have c0 := cell_of_row _ (w.heap.size + 1) 0 _ _ (0, 0) hre
      have c1 := cell_of_row _ (w.heap.size + 1) 1 _ _ (0, 0) hre
      have c2 := cell_of_row _ (w.heap.size + 1) 2 _ _ (0, 0) hre
      have f0 := frozen_of_row _ (w.heap.size + 1) 0 _ _ hre
      have f1 := frozen_of_row _ (w.heap.size + 1) 1 _ _ hre
      have f2 := frozen_of_row _ (w.heap.size + 1) 2 _ _ hre
      have hts := three_set hre (.string label) (.slice bA NB bc) (.slice vA j vc)
      have g0 := cell_of_row _ (w.heap.size + 1) 0 _ _ (0, 0) hts
      have g1 := cell_of_row _ (w.heap.size + 1) 1 _ _ (0, 0) hts
      have g2 := cell_of_row _ (w.heap.size + 1) 2 _ _ (0, 0) hts
      simp at c0 c1 c2 g0 g1 g2
      have HG := Lib.hid (And.intro g0 (And.intro g1 g2))
      have HR : Hid (ModQ label uses decls w (.returned (.tuple #[.agg #[.string label, .slice bA NB bc, .slice vA j vc], .int .i64 0])) (((wr.setCell ⟨w.heap.size + 1, 0, none⟩ (.string label)).setCell ⟨w.heap.size + 1, 1, none⟩ (.slice bA NB bc)).setCell ⟨w.heap.size + 1, 2, none⟩ (.slice vA j vc))) := by
        have h := ms_end (a := .string label) (b := .slice bA NB bc) (c := .slice vA j vc) hMS hre
        refine ⟨label, _, _, by rw [HM0.out], ((hBw.setCell (by simp) _).setCell (by simp) _).setCell (by simp) _, .inl ⟨HM0.out, rfl, ?_⟩⟩
        rw [hgo2]
        exact h
      clear hts g0 g1 g2 hre hMS hgo hgo2 hBr HGm hsd hBw
      go_wp2
      exact bodyPost_ret (v := .tuple #[.agg #[.string label, .slice bA NB bc, .slice vA j vc], .int .i64 0]) (by simp [results, Tryz.results18, go_sem, HG.out.1, HG.out.2.1, HG.out.2.2]) rfl HR.out
end Go.Proofs.YtlcfoiapkblheaaGreatDoor
/- law28.CompileModule -/
namespace Go.Proofs.YtlcfoiapkblheaaGreatDoor
open Go.RowKit Go.Proofs Go.Shelf

/-- The code that both hand back: of a module that can be compiled, or empty. -/
def outL (label : ByteArray) (E : Int) : ByteArray := if E = 0 then label else ⟨#[]⟩
def outB (label : ByteArray) (decls : List Dc) (E : Int) : List Blk := if E = 0 then (modGo label 0 decls).1 else []
def outD (label : ByteArray) (decls : List Dc) (E : Int) : List (Int × Int × Nat) := if E = 0 then (modGo label 0 decls).2 else []
def ModZ (L : ByteArray) (Bs : List Blk) (Ds : List (Int × Int × Nat)) (nb nd : Nat) (E : Int) (w : World) (e : Ending) (w' : World) : Prop :=
  ∃ bA bc vA vc, e = .returned (.tuple #[.agg #[.string L, .slice bA nb bc, .slice vA nd vc], .int .i64 E]) ∧ BlocksAt w' (.slice bA nb bc) Bs ∧ CdAt w' (.slice vA nd vc) Ds ∧ Below w.heap.size w w'
theorem modZ_of {label lb : ByteArray} {decls : List Dc} {L : ByteArray} {Bs : List Blk} {Ds : List (Int × Int × Nat)} {nb nd : Nat} {E : Int} {w w' : World} {bv dv : Value} (h1 : outL label E = L) (h2 : outB label decls E = Bs) (h3 : outD label decls E = Ds) (h4 : Bs.length = nb) (h5 : Ds.length = nd) (hB : Below w.heap.size w w')
    (h : (E = 0 ∧ lb = label ∧ BlocksAt w' bv (modGo label 0 decls).1 ∧ CdAt w' dv (modGo label 0 decls).2) ∨ (E ≠ 0 ∧ lb = ⟨#[]⟩ ∧ bv = .slice none 0 0 ∧ dv = .slice none 0 0)) :
    ModZ L Bs Ds nb nd E w (.returned (.tuple #[.agg #[.string lb, bv, dv], .int .i64 E])) w' := by
  subst h1 h2 h3 h4 h5
  rcases h with ⟨h0, rfl, hb, hc⟩ | ⟨h0, rfl, rfl, rfl⟩
  · obtain ⟨bA, bc, rfl, _⟩ := hb.form
    obtain ⟨vA, vc, rfl, _⟩ := hc.form
    simp only [outL, outB, outD, if_pos h0]
    exact ⟨bA, bc, vA, vc, rfl, hb, hc, hB⟩
  · simp only [outL, outB, outD, if_neg h0]
    exact ⟨none, 0, none, 0, rfl, ⟨0, [], World.ownsRow_nil _ _ _ _, trivial⟩, ⟨0, World.ownsRow_nil _ _ _ _⟩, hB⟩

set_option maxRecDepth 100000 in
set_option maxHeartbeats 20000000 in
theorem lawModule_any (label : ByteArray) (uses : List ByteArray) (uA : Option Addr) (uc : Nat) (decls : List Dc) (dA : Option Addr) (dc : Nat) (w : World) (hu : SlS w w.heap.size uA uc uses) (hd : SlD w w.heap.size dA dc decls) (hcn : ∀ x ∈ decls, x.s.count ≤ 2000000) :
    Calls Tryz.prog 3 #[.agg #[.string label, .slice uA uses.length uc, .slice dA decls.length dc]] w fun e w' => e = .returned (.bool true) ∧ Below w.heap.size w w' := by
  obtain ⟨N, HN⟩ : ∃ Q, Hid (decls.length = Q) := ⟨_, Lib.hid rfl⟩
  obtain ⟨NU, HNU⟩ : ∃ Q, Hid (uses.length = Q) := ⟨_, Lib.hid rfl⟩
  obtain ⟨W0, hW0⟩ : ∃ W0, w.alloc (.cells #[.string label, .slice uA NU uc, .slice dA N dc] 25) = W0 := ⟨_, rfl⟩
  have hzw : w.heap.size < W0.heap.size := by subst hW0; simp
  have hB0 : Below w.heap.size w W0 := by subst hW0; exact (Below.refl _ _).alloc (Nat.le_refl _) _
  have hx0 : W0.heap[w.heap.size]? = some (.cells #[.string label, .slice uA NU uc, .slice dA N dc] 25 (0, 0)) := by rw [← hW0]; exact heap_alloc_new w _
  have HC : Hid (∀ X, Below W0.heap.size W0 X → Below w.heap.size w X ∧ w.heap.size < X.heap.size ∧ SlS X X.heap.size uA uc uses ∧ SlD X X.heap.size dA dc decls ∧ X.cell? ⟨w.heap.size, 0, none⟩ = some (.string label) ∧ X.cell? ⟨w.heap.size, 1, none⟩ = some (.slice uA NU uc) ∧ X.cell? ⟨w.heap.size, 2, none⟩ = some (.slice dA N dc)) := fun X hX => by
    have hx := (hX.block w.heap.size (by omega)).trans hx0
    have hb := hB0.trans (hX.mono (by omega))
    exact ⟨hb, Nat.lt_of_lt_of_le hzw hX.size, hu.keep (by have := hb.size; omega) (fun p hp => hb.cell hp), hd.keep (by have := hb.size; omega) (fun p hp => hb.cell hp), cell_of_row X w.heap.size 0 _ _ (0, 0) hx, cell_of_row X w.heap.size 1 _ _ (0, 0) hx, cell_of_row X w.heap.size 2 _ _ (0, 0) hx⟩
  have hdl := hd.1
  have hdl2 := hd.2.1
  unfold maxLen at hdl2
  rw [HNU.out]
  rw [HN.out] at hdl ⊢
  obtain ⟨_, _, hsa, hda, y0, y1, y2⟩ := HC.out W0 (Below.refl _ _)
  have hgr := great24_any label uses uA uc decls dA dc W0 hsa hda
  obtain ⟨G, HG⟩ : ∃ Q, Hid (greatM label uses decls = Q) := ⟨_, Lib.hid rfl⟩
  rw [HNU.out, HN.out, HG.out] at hgr
  have HGR := Lib.hid hgr
  have HCN := Lib.hid hcn
  clear hgr hu hd hB0 hx0 hsa hda hcn
  go_enter Tryz.func3, Tryz.ntmps3
  go_wp2_with fail
  refine HGR.out.mono ?_
  rintro e w1 ⟨rfl, hb1⟩
  have HB1 := Lib.hid hb1
  clear hb1 y0 y1 y2 hW0 HGR
  cases G
  rotate_left
  · have HA := Lib.hid (awake28_any w1)
    have HZ := Lib.hid (HC.out w1 HB1.out).1
    go_wp2_with fail
    refine HA.out.mono ?_
    rintro e w2 ⟨rfl, hb2⟩
    have HB2 := Lib.hid hb2
    clear hb2
    go_wp2
    go_ret
    exact ⟨rfl, HZ.out.trans (HB2.out.mono HZ.out.size)⟩
  obtain ⟨hms, hcn⟩ := small_mod HG.out HCN.out
  have HMS := Lib.hid (And.intro hms hcn)
  clear hms hcn
  obtain ⟨E, HEr⟩ : ∃ Q, Hid (modE label uses decls = Q) := ⟨_, Lib.hid rfl⟩
  obtain ⟨OL, HOL⟩ : ∃ Q, Hid (outL label E = Q) := ⟨_, Lib.hid rfl⟩
  obtain ⟨OB, HOB⟩ : ∃ Q, Hid (outB label decls E = Q) := ⟨_, Lib.hid rfl⟩
  obtain ⟨OD, HOD⟩ : ∃ Q, Hid (outD label decls E = Q) := ⟨_, Lib.hid rfl⟩
  obtain ⟨nb, Hnb⟩ : ∃ Q, Hid (OB.length = Q) := ⟨_, Lib.hid rfl⟩
  obtain ⟨nd, Hnd⟩ : ∃ Q, Hid (OD.length = Q) := ⟨_, Lib.hid rfl⟩
  obtain ⟨_, _, hs1, hd1, y0, y1, y2⟩ := HC.out w1 HB1.out
  have hmo := module_any label uses uA uc decls dA dc w1 hs1 hd1
  rw [HNU.out, HN.out] at hmo
  have HMO : Hid (Calls Tryz.prog 17 #[.agg #[.string label, .slice uA NU uc, .slice dA N dc]] w1 (ModZ OL OB OD nb nd E w1)) := hmo.mono fun _ _ ⟨lb, bv, dv, he, hb, h⟩ => by
    subst he
    rw [HEr.out] at h ⊢
    refine modZ_of HOL.out HOB.out HOD.out Hnb.out Hnd.out hb ?_
    rcases h with ⟨h0, h1, h2⟩ | h
    · exact .inl ⟨h0, h1, h2.at_.1, h2.at_.2⟩
    · exact .inr h
  clear hmo hs1 hd1
  go_wp2_with fail
  refine HMO.out.mono ?_
  rintro e w2 ⟨bA, bc, vA, vc, rfl, hbl, hcd, hb2⟩
  clear HMO y0 y1 y2
  obtain ⟨W3, hW3⟩ : ∃ W3, w2.alloc (.cells #[.string OL, .slice bA nb bc, .slice vA nd vc] 31) = W3 := ⟨_, rfl⟩
  have hB3 : Below w2.heap.size w2 W3 := by rw [← hW3]; exact (Below.refl _ _).alloc (Nat.le_refl _) _
  have hz3 : w2.heap.size < W3.heap.size := by rw [← hW3]; simp
  have hc3 : W3.heap[w2.heap.size]? = some (.cells #[.string OL, .slice bA nb bc, .slice vA nd vc] 31 (0, 0)) := by rw [← hW3]; exact heap_alloc_new w2 _
  have HB3 := Lib.hid ((HB1.out.trans (hb2.mono HB1.out.size)).trans (hB3.mono (HB1.out.trans (hb2.mono HB1.out.size)).size))
  have HD3 := Lib.hid (And.intro (hbl.below hB3) (And.intro (hcd.below hB3) hc3))
  clear hbl hcd hb2 hB3 hc3
  obtain ⟨_, _, hs3, hd3, y0, y1, y2⟩ := HC.out W3 HB3.out
  have hm3 := module28_any label uses uA uc decls dA dc W3 hs3 hd3 HMS.out.1 (fun x hx => by have := HMS.out.2 x hx; omega)
  rw [HNU.out, HN.out] at hm3
  have HM3 : Hid (Calls Tryz.prog 18 #[.agg #[.string label, .slice uA NU uc, .slice dA N dc]] W3 (ModZ OL OB OD nb nd E W3)) := hm3.mono fun _ _ ⟨lb, bv, dv, he, hb, h⟩ => by
    subst he
    rw [HEr.out] at h ⊢
    exact modZ_of HOL.out HOB.out HOD.out Hnb.out Hnd.out hb h
  clear hm3 hs3 hd3
  go_wp2_with fail
  refine HM3.out.mono ?_
  rintro e w4 ⟨bA2, bc2, vA2, vc2, rfl, hbl, hcd, hb4⟩
  clear HM3 y0 y1 y2 hW3
  obtain ⟨W5, hW5⟩ : ∃ W5, w4.alloc (.cells #[.string OL, .slice bA2 nb bc2, .slice vA2 nd vc2] 31) = W5 := ⟨_, rfl⟩
  have hB5 : Below w4.heap.size w4 W5 := by rw [← hW5]; exact (Below.refl _ _).alloc (Nat.le_refl _) _
  have hc5 : W5.heap[w4.heap.size]? = some (.cells #[.string OL, .slice bA2 nb bc2, .slice vA2 nd vc2] 31 (0, 0)) := by rw [← hW5]; exact heap_alloc_new w4 _
  have hb45 := hb4.trans (hB5.mono hb4.size)
  have HB5 := Lib.hid (HB3.out.trans (hb45.mono HB3.out.size))
  have hc35 := (hb45.block w2.heap.size hz3).trans HD3.out.2.2
  have s0 := cell_of_row W5 w2.heap.size 0 _ _ (0, 0) hc35
  have s1 := cell_of_row W5 w2.heap.size 1 _ _ (0, 0) hc35
  have s2 := cell_of_row W5 w2.heap.size 2 _ _ (0, 0) hc35
  have t0 := cell_of_row W5 w4.heap.size 0 _ _ (0, 0) hc5
  have t1 := cell_of_row W5 w4.heap.size 1 _ _ (0, 0) hc5
  have t2 := cell_of_row W5 w4.heap.size 2 _ _ (0, 0) hc5
  simp at s0 s1 s2 t0 t1 t2
  have HSA := Lib.hid (same_eq OL OB OD (.slice bA nb bc) (.slice bA2 nb bc2) (.slice vA nd vc) (.slice vA2 nd vc2) W5 (HD3.out.1.below hb45) (hbl.below hB5) (HD3.out.2.1.below hb45) (hcd.below hB5))
  clear hbl hcd hb4 hB5 hc5 hb45 hc35
  go_wp2_with fail
  refine HSA.out.mono ?_
  rintro e w6 ⟨rfl, hb6⟩
  have HB6 := Lib.hid (HB5.out.trans (hb6.mono HB5.out.size))
  have HA := Lib.hid (awake28_any w6)
  clear hb6 s0 s1 s2 t0 t1 t2 hW5
  have hee : (E == E) = true := by simp
  go_wp2_with fail
  refine HA.out.mono ?_
  rintro e w7 ⟨rfl, hb7⟩
  have HB7 := Lib.hid (HB6.out.trans (hb7.mono HB6.out.size))
  clear hb7 hee
  have HZ := Lib.hid (HC.out w7 HB7.out).1
  go_wp2
  go_ret
  exact ⟨rfl, HZ.out⟩
end Go.Proofs.YtlcfoiapkblheaaGreatDoor
