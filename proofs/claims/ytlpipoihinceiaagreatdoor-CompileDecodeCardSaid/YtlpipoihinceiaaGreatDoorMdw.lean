/- compile.Module -/
import Derived.Test.YtlpipoihinceiaaGreatDoorGkw
import Derived.Deep.AppendLies
import Derived.Test.YtlpipoihinceiaaGreatDoorGkx
import Derived.Deep.RegionLaw
import Derived.Deep.DrawnRows
import Derived.Deep.DeepCutAuto
namespace Go.Proofs.YtlpipoihinceiaaGreatDoor
open Go.RowKit Go.Proofs Go.Shelf

attribute [local go_sem ↓] Go.wp_at_zero Go.wp_at_succ

theorem Tryz.infoCodeDecl : (Tryz.prog.info? 135).map (fun i => (i.zero, i.size, i.bytes)) = some (some (.agg #[.int .i64 0, .int .i64 0, .int .i64 0]), 3, 24) := by kernel_rfl
theorem three_set {W : World} {b : Nat} {a0 a1 a2 : Value} {t : TypeId} (h : W.heap[b]? = some (.cells #[a0, a1, a2] t (0, 0))) (u0 u1 u2 : Value) :
    (((W.setCell ⟨b, 0, none⟩ u0).setCell ⟨b, 1, none⟩ u1).setCell ⟨b, 2, none⟩ u2).heap[b]? = some (.cells #[u0, u1, u2] t (0, 0)) := by
  have h0 := heap_setCell_same W b 0 _ t u0 h
  have h1 := heap_setCell_same _ b 1 _ t u1 h0
  have h2 := heap_setCell_same _ b 2 _ t u2 h1
  rw [h2]
  rfl

theorem cdC_length (l : List (Int × Int × Nat)) : (cdC l).length = l.length * 3 := by
  induction l with
  | nil => rfl
  | cons x l ih => simp [cdC, ih]; omega

set_option maxRecDepth 100000 in
set_option maxHeartbeats 8000000 in
theorem module_any (label : ByteArray) (uses : List ByteArray) (uA : Option Addr) (uc : Nat) (decls : List Dc) (dA : Option Addr) (dc : Nat) (w : World) (hu : SlS w w.heap.size uA uc uses) (hd : SlD w w.heap.size dA dc decls) :
    Calls Tryz.prog 90 #[.agg #[.string label, .slice uA uses.length uc, .slice dA decls.length dc]] w (ModP label uses decls w) := by
  obtain ⟨i0, hi, hz0, hz1, hz2⟩ := info_parts Tryz.infoCodeDecl
  obtain ⟨N, HN⟩ : ∃ Q, Hid (decls.length = Q) := ⟨_, Lib.hid rfl⟩
  obtain ⟨NU, HNU⟩ : ∃ Q, Hid (uses.length = Q) := ⟨_, Lib.hid rfl⟩
  obtain ⟨W0, hW0⟩ : ∃ W0, (w.alloc (.cells #[.string label, .slice uA NU uc, .slice dA N dc] 25)).alloc (.cells #[.string ⟨#[]⟩, .slice none 0 0, .slice none 0 0] 62) = W0 := ⟨_, rfl⟩
  have hzw : w.heap.size + 1 < W0.heap.size := by subst hW0; simp
  have hB0 : Below w.heap.size w W0 := by subst hW0; exact ((Below.refl _ _).alloc (Nat.le_refl _) _).alloc (by simp) _
  have hx0 : W0.heap[w.heap.size]? = some (.cells #[.string label, .slice uA NU uc, .slice dA N dc] 25 (0, 0)) := by rw [← hW0]; exact (Below.heap_alloc _ _ _ (by simp)).trans (heap_alloc_new w _)
  have hy0 : W0.heap[w.heap.size + 1]? = some (.cells #[.string ⟨#[]⟩, .slice none 0 0, .slice none 0 0] 62 (0, 0)) := by
    have h := heap_alloc_new (w.alloc (.cells #[.string label, .slice uA NU uc, .slice dA N dc] 25)) (.cells #[.string ⟨#[]⟩, .slice none 0 0, .slice none 0 0] 62)
    rw [hW0] at h
    simpa using h
  have HC : Hid (∀ X, Below W0.heap.size W0 X → Below w.heap.size w X ∧ w.heap.size + 1 < X.heap.size ∧ SlS X X.heap.size uA uc uses ∧ SlD X X.heap.size dA dc decls ∧ X.cell? ⟨w.heap.size, 0, none⟩ = some (.string label) ∧ X.cell? ⟨w.heap.size, 1, none⟩ = some (.slice uA NU uc) ∧ X.cell? ⟨w.heap.size, 2, none⟩ = some (.slice dA N dc) ∧ X.heap[w.heap.size + 1]? = some (.cells #[.string ⟨#[]⟩, .slice none 0 0, .slice none 0 0] 62 (0, 0))) := fun X hX => by
    have hx := (hX.block w.heap.size (by omega)).trans hx0
    have hb := hB0.trans (hX.mono (by omega))
    exact ⟨hb, Nat.lt_of_lt_of_le hzw hX.size, hu.keep (by have := hb.size; omega) (fun p hp => hb.cell hp), hd.keep (by have := hb.size; omega) (fun p hp => hb.cell hp), cell_of_row X w.heap.size 0 _ _ (0, 0) hx, cell_of_row X w.heap.size 1 _ _ (0, 0) hx, cell_of_row X w.heap.size 2 _ _ (0, 0) hx, (hX.block _ hzw).trans hy0⟩
  have HFail : Hid (∀ X er, Below w.heap.size w X → X.heap[w.heap.size + 1]? = some (.cells #[.string ⟨#[]⟩, .slice none 0 0, .slice none 0 0] 62 (0, 0)) → modE label uses decls = er → er ≠ 0 → ModP label uses decls w (.returned (.tuple #[.agg #[.string ⟨#[]⟩, .slice none 0 0, .slice none 0 0], .int .i64 er])) (((X.setCell ⟨w.heap.size + 1, 0, none⟩ (.string ⟨#[]⟩)).setCell ⟨w.heap.size + 1, 1, none⟩ (.slice none 0 0)).setCell ⟨w.heap.size + 1, 2, none⟩ (.slice none 0 0))) := by
    intro X er hb _ he hne
    exact ⟨_, _, _, by rw [he], ((hb.setCell (by simp) _).setCell (by simp) _).setCell (by simp) _, .inr ⟨by rw [he]; exact hne, rfl, rfl, rfl⟩⟩
  have hul := hu.1
  have hul2 := hu.2.1
  have hdl := hd.1
  have hdl2 := hd.2.1
  unfold maxLen at hul2 hdl2
  rw [HNU.out] at hul ⊢
  rw [HN.out] at hdl ⊢
  have HUD := Lib.hid (And.intro hu hd)
  clear hx0 hy0 hu hd hB0
  obtain ⟨E1, HE1⟩ : ∃ Q, Hid (checkE label uses decls = Q) := ⟨_, Lib.hid rfl⟩
  obtain ⟨hBa, hza, hsa, hda, y0, y1, y2, hya⟩ := HC.out W0 (Below.refl _ _)
  have hck := bCheck_any label uses uA uc decls dA dc W0 hsa hda
  rw [HNU.out, HN.out, HE1.out] at hck
  have HCK := Lib.hid hck
  clear hck hsa hda hBa hya
  go_enter Tryz.func90, Tryz.ntmps90
  go_wp2_with fail
  refine HCK.out.mono ?_
  rintro e w1 ⟨rfl, hb1⟩
  obtain ⟨hB1, hz1', hs1, hd1, x0, x1, x2, hy1⟩ := HC.out w1 hb1
  have HB1 := Lib.hid (And.intro hb1 (And.intro hB1 hy1))
  clear y0 y1 y2 hW0 HCK
  by_cases e1 : E1 = 0
  rotate_left
  · have e1' : (E1 != 0) = true := by simpa using e1
    have c0 := cell_of_row w1 (w.heap.size + 1) 0 _ _ (0, 0) hy1
    have c1 := cell_of_row w1 (w.heap.size + 1) 1 _ _ (0, 0) hy1
    have c2 := cell_of_row w1 (w.heap.size + 1) 2 _ _ (0, 0) hy1
    simp at c0 c1 c2
    have f0 := frozen_of_row w1 (w.heap.size + 1) 0 _ _ hy1
    have f1 := frozen_of_row w1 (w.heap.size + 1) 1 _ _ hy1
    have f2 := frozen_of_row w1 (w.heap.size + 1) 2 _ _ hy1
    have hts := three_set hy1 (.string ⟨#[]⟩) (.slice none 0 0) (.slice none 0 0)
    have g0 := cell_of_row _ (w.heap.size + 1) 0 _ _ (0, 0) hts
    have g1 := cell_of_row _ (w.heap.size + 1) 1 _ _ (0, 0) hts
    have g2 := cell_of_row _ (w.heap.size + 1) 2 _ _ (0, 0) hts
    simp at g0 g1 g2
    have HG := Lib.hid (And.intro g0 (And.intro g1 g2))
    have HR := Lib.hid (HFail.out w1 E1 hB1 hy1 (by rw [modE, HE1.out, if_pos e1]) e1)
    clear hts g0 g1 g2 hy1 hs1 hd1 hb1 hB1
    go_wp2
    exact bodyPost_ret (v := .tuple #[.agg #[.string ⟨#[]⟩, .slice none 0 0, .slice none 0 0], .int .i64 E1]) (by simp [results, Tryz.results90, go_sem, HG.out.1, HG.out.2.1, HG.out.2.2]) rfl HR.out
  subst e1
  obtain ⟨_, hlen, hval⟩ := checkE_zero HE1.out
  rw [HN.out] at hlen
  obtain ⟨cf, Hcf⟩ : ∃ Q, Hid (confB [] decls = Q) := ⟨_, Lib.hid rfl⟩
  have hcf := checkConflicts_any label uses uA uc decls dA dc w1 hd1 (strD_of hval) (by rw [HN.out]; exact hlen)
  rw [HNU.out, HN.out, Hcf.out] at hcf
  have HCF := Lib.hid hcf
  have HVAL := Lib.hid hval
  clear hcf hval hs1 hd1 hb1 hB1 hy1
  go_wp2_with fail
  refine HCF.out.mono ?_
  rintro e w2 ⟨rfl, hb2⟩
  have hb2' := HB1.out.1.trans (hb2.mono HB1.out.1.size)
  obtain ⟨hB2, hz2', hs2, hd2, z0, z1, z2, hy2⟩ := HC.out w2 hb2'
  have HB2 := Lib.hid (And.intro hb2' (And.intro hB2 hy2))
  clear x0 x1 x2 HCF hb2 hb2'
  cases cf
  rotate_left
  · have c0 := cell_of_row w2 (w.heap.size + 1) 0 _ _ (0, 0) hy2
    have c1 := cell_of_row w2 (w.heap.size + 1) 1 _ _ (0, 0) hy2
    have c2 := cell_of_row w2 (w.heap.size + 1) 2 _ _ (0, 0) hy2
    simp at c0 c1 c2
    have f0 := frozen_of_row w2 (w.heap.size + 1) 0 _ _ hy2
    have f1 := frozen_of_row w2 (w.heap.size + 1) 1 _ _ hy2
    have f2 := frozen_of_row w2 (w.heap.size + 1) 2 _ _ hy2
    have hts := three_set hy2 (.string ⟨#[]⟩) (.slice none 0 0) (.slice none 0 0)
    have g0 := cell_of_row _ (w.heap.size + 1) 0 _ _ (0, 0) hts
    have g1 := cell_of_row _ (w.heap.size + 1) 1 _ _ (0, 0) hts
    have g2 := cell_of_row _ (w.heap.size + 1) 2 _ _ (0, 0) hts
    simp at g0 g1 g2
    have HG := Lib.hid (And.intro g0 (And.intro g1 g2))
    have HR := Lib.hid (HFail.out w2 17 hB2 hy2 (by rw [modE, HE1.out, Hcf.out]; rfl) (by decide))
    clear hts g0 g1 g2 hy2 hs2 hd2 hB2
    go_wp2
    exact bodyPost_ret (v := .tuple #[.agg #[.string ⟨#[]⟩, .slice none 0 0, .slice none 0 0], .int .i64 17]) (by simp [results, Tryz.results90, go_sem, HG.out.1, HG.out.2.1, HG.out.2.2]) rfl HR.out
  obtain ⟨ld, Hld⟩ : ∃ Q, Hid (leadsB (decls.map Dc.id) uses decls = Q) := ⟨_, Lib.hid rfl⟩
  have hcr := checkRefs_any label uses uA uc decls dA dc w2 hs2 hd2 (okR_of HVAL.out) (by rw [HN.out]; exact hlen)
  rw [HNU.out, HN.out, Hld.out] at hcr
  have HCR := Lib.hid hcr
  clear hcr hs2 hd2 hB2 hy2
  go_wp2_with fail
  refine HCR.out.mono ?_
  rintro e w3 ⟨rfl, hb3⟩
  have hb3' := HB2.out.1.trans (hb3.mono HB2.out.1.size)
  obtain ⟨hB3, hz3', hs3, hd3, v0, v1, v2, hy3⟩ := HC.out w3 hb3'
  have HB3 := Lib.hid (And.intro hb3' (And.intro hB3 hy3))
  clear z0 z1 z2 HCR hb3 hb3'
  cases ld
  · have c0 := cell_of_row w3 (w.heap.size + 1) 0 _ _ (0, 0) hy3
    have c1 := cell_of_row w3 (w.heap.size + 1) 1 _ _ (0, 0) hy3
    have c2 := cell_of_row w3 (w.heap.size + 1) 2 _ _ (0, 0) hy3
    simp at c0 c1 c2
    have f0 := frozen_of_row w3 (w.heap.size + 1) 0 _ _ hy3
    have f1 := frozen_of_row w3 (w.heap.size + 1) 1 _ _ hy3
    have f2 := frozen_of_row w3 (w.heap.size + 1) 2 _ _ hy3
    have hts := three_set hy3 (.string ⟨#[]⟩) (.slice none 0 0) (.slice none 0 0)
    have g0 := cell_of_row _ (w.heap.size + 1) 0 _ _ (0, 0) hts
    have g1 := cell_of_row _ (w.heap.size + 1) 1 _ _ (0, 0) hts
    have g2 := cell_of_row _ (w.heap.size + 1) 2 _ _ (0, 0) hts
    simp at g0 g1 g2
    have HG := Lib.hid (And.intro g0 (And.intro g1 g2))
    have HR := Lib.hid (HFail.out w3 21 hB3 hy3 (by rw [modE, HE1.out, Hcf.out, Hld.out]; rfl) (by decide))
    clear hts g0 g1 g2 hy3 hs3 hd3 hB3
    go_wp2
    exact bodyPost_ret (v := .tuple #[.agg #[.string ⟨#[]⟩, .slice none 0 0, .slice none 0 0], .int .i64 21]) (by simp [results, Tryz.results90, go_sem, HG.out.1, HG.out.2.1, HG.out.2.2]) rfl HR.out
  have HM0 := Lib.hid (show modE label uses decls = 0 by rw [modE, HE1.out, Hcf.out, Hld.out]; rfl)
  have c0 := cell_of_row w3 (w.heap.size + 1) 0 _ _ (0, 0) hy3
  have HD3 := Lib.hid hd3
  clear hy3 hs3 hd3 v1 c0 hul hul2 hza hz1' hz2' HFail HNU
  obtain ⟨W4, hW4⟩ : ∃ W4, (w3.alloc (.cells #[.string label, .slice none 0 0] 190)).alloc (.cells #[.string label, .slice none 0 0, .slice none 0 0] 62) = W4 := ⟨_, rfl⟩
  have hB4 : Below w3.heap.size w3 W4 := by rw [← hW4]; exact ((Below.refl _ _).alloc (Nat.le_refl _) _).alloc (by simp) _
  have hz4 : w3.heap.size + 1 < W4.heap.size := by rw [← hW4]; simp
  have hMB4 : MdB w3.heap.size w3.heap.size (w3.heap.size + 1) label [] [] [] (.slice none 0 0) W4 := by
    refine ⟨⟨Nat.le_refl _, .slice none 0 0, ?_, World.ownsRow_nil _ _ _ _⟩, trivial, ?_, World.ownsRow_nil _ _ _ _⟩
    · rw [← hW4]; exact (Below.heap_alloc _ _ _ (by simp)).trans (heap_alloc_new w3 _)
    · have h := heap_alloc_new (w3.alloc (.cells #[.string label, .slice none 0 0] 190)) (.cells #[.string label, .slice none 0 0, .slice none 0 0] 62)
      rw [hW4] at h
      simpa using h
  have m2 : ((w3.alloc (.cells #[.string label, .slice none 0 0] 190)).alloc (.cells #[.string label, .slice none 0 0, .slice none 0 0] 62)).cell? ⟨w.heap.size, 2, none⟩ = some (.slice dA N dc) := by
    rw [hW4]
    exact (hB4.cell (by show w.heap.size < w3.heap.size; omega)).trans v2
  have v0' : (w3.alloc (.cells #[.string label, .slice none 0 0] 190)).cell? ⟨w.heap.size, 0, none⟩ = some (.string label) := (((Below.refl w3.heap.size w3).alloc (Nat.le_refl _) _).cell (by show w.heap.size < w3.heap.size; omega)).trans v0
  have HW4 := Lib.hid hW4
  clear v2 hW4
  have HMB4 := Lib.hid hMB4
  have HB4 := Lib.hid hB4
  clear hMB4 hB4
  go_wp2
  rw [HW4.out]
  clear m2 v0 v0'
  go_loopg [10, 39] N (fun g _ ct wr => MdR w3.heap.size w3.heap.size (w3.heap.size + 1) label decls w3 N g ct wr)
  case atStart => exact ⟨0, [], [], [], _, rfl, by omega, rfl, rfl, rfl, HMB4.out, HB4.out, by omega⟩
  case round =>
    obtain ⟨j, BS, bl, ds, dv, HGm, hj, rfl, hdl3, hgo, hMB, hBr, hzr⟩ := hrel
    by_cases hlt : j < N
    · have hlt' : j < decls.length := by rw [HN.out]; exact hlt
      have hj3 : decls[j]? = some decls[j] := List.getElem?_eq_getElem hlt'
      obtain ⟨b, o, rfl, hb, d0, d1, d2, d3, d4, d5, d6, d7, d8, d9, d10, hxok⟩ := HD3.out.cells_at (fun p hp => hBr.cell hp) hj3
      have hv := HVAL.out _ (List.mem_of_getElem? hj3)
      have hcnt := hv.cnt
      have hok : okC decls[j].k decls[j].s.len ∧ decls[j].s.Cok := ⟨hv.okc, hv.cok⟩
      have hdr : decls.drop j = decls[j] :: decls.drop (j + 1) := List.drop_eq_getElem_cons hlt'
      rw [hdr] at hgo
      have htot : bl.length + (blkOf (decls[j].comp label) [] 0 false bl.length).length ≤ 1000000 := by
        have h1 := modGo_len label decls 0 (fun x hx => by have := (HVAL.out x hx).cnt; omega)
        rw [hgo] at h1
        simp only [modGo, List.length_append] at h1
        rw [HN.out] at h1
        omega
      have hsl := hxok.2
      clear hv hdr hj3 hxok
      generalize decls[j] = x at d0 d1 d2 d3 d4 d5 d6 d7 d8 d9 d10 hcnt hok hgo htot hsl
      have hbl := hMB.2.1.length
      obtain ⟨nb, HNB⟩ : ∃ Q, Hid (BS.length = Q) := ⟨_, Lib.hid rfl⟩
      rw [← hbl, HNB.out] at htot hgo
      obtain ⟨blf, Hblf⟩ : ∃ Q, Hid (blkOf (x.comp label) [] 0 false nb = Q) := ⟨_, Lib.hid rfl⟩
      rw [Hblf.out] at htot
      have Hblf' : Hid (blkOf (nodeC label x.k x.n x.m x.i x.d x.A x.c x.s (x.s.comp label)) [] 0 false BS.length = blf) := by rw [HNB.out]; exact Hblf
      obtain ⟨W5, hW5⟩ : ∃ W5, wr.alloc (.cells #[.int .i64 x.id, .int .i64 x.kind, .bool x.pub, .slice x.nA x.names.length x.nc, .bool x.doubt, .int .i64 x.k, .string x.n, .string x.m, .int .i64 x.i, .int .i64 x.d, .slice x.A x.s.len x.c] 76) = W5 := ⟨_, rfl⟩
      have hB5 : Below wr.heap.size wr W5 := by rw [← hW5]; exact (Below.refl _ _).alloc (Nat.le_refl _) _
      have hz5 : wr.heap.size < W5.heap.size := by rw [← hW5]; simp
      have hx5 : W5.heap[wr.heap.size]? = some (.cells #[.int .i64 x.id, .int .i64 x.kind, .bool x.pub, .slice x.nA x.names.length x.nc, .bool x.doubt, .int .i64 x.k, .string x.n, .string x.m, .int .i64 x.i, .int .i64 x.d, .slice x.A x.s.len x.c] 76 (0, 0)) := by rw [← hW5]; exact heap_alloc_new wr _
      have hM5 := hMB.below hB5
      have hM5d : MdB w3.heap.size w3.heap.size (w3.heap.size + 1) label BS bl ds dv W5.drew := hM5.below (Below.drew (Below.refl _ _))
      have hB5d : Below w3.heap.size w3 W5.drew := (hBr.trans (hB5.mono hzr)).drew
      have f0 := cell_of_row W5 wr.heap.size 0 _ _ (0, 0) hx5
      have f1 := cell_of_row W5 wr.heap.size 1 _ _ (0, 0) hx5
      have f5 := cell_of_row W5 wr.heap.size 5 _ _ (0, 0) hx5
      have f6 := cell_of_row W5 wr.heap.size 6 _ _ (0, 0) hx5
      have f7 := cell_of_row W5 wr.heap.size 7 _ _ (0, 0) hx5
      have f8 := cell_of_row W5 wr.heap.size 8 _ _ (0, 0) hx5
      have f9 := cell_of_row W5 wr.heap.size 9 _ _ (0, 0) hx5
      have f10 := cell_of_row W5 wr.heap.size 10 _ _ (0, 0) hx5
      have f11 := cell_of_row W5 (w3.heap.size + 1) 2 _ _ (0, 0) hM5.2.2.1
      simp at f0 f1 f5 f6 f7 f8 f9 f10 f11
      have HBLK := Lib.hid (block_at (block_any label x.s) x.k x.n x.m x.i x.d x.A x.c [] none 0 0 false w3.heap.size w3.heap.size BS W5.drew nb HNB.out blf Hblf'.out (hsl.keep (Nat.le_refl _) fun p hp => hB5d.cell hp) hok.1 hok.2 (VarsAt.nil _) hM5d.1 (by omega) (by simp; omega) htot)
      have HY : Hid (∀ Y NB, MK w3.heap.size w3.heap.size label (BS ++ NB) Y → BlksAt W5.drew.heap.size Y NB blf → Kb w3.heap.size W5.drew Y → MdB w3.heap.size w3.heap.size (w3.heap.size + 1) label (BS ++ NB) (bl ++ blf) ds dv Y ∧ Below w3.heap.size w3 Y ∧ wr.heap.size < Y.heap.size ∧ Y.cell? ⟨wr.heap.size, 0, none⟩ = some (.int .i64 x.id) ∧ Y.cell? ⟨wr.heap.size, 1, none⟩ = some (.int .i64 x.kind) ∧ Y.cell? ⟨w3.heap.size + 1, 2, none⟩ = some dv ∧
          (Y.alloc (.cells #[.int .i64 x.id, .int .i64 x.kind, .int .i64 nb] 135)).cell? ⟨w3.heap.size + 1, 2, none⟩ = some dv) := by
        intro Y NB h1 h2 h3
        have hm := md_kb hM5d hB5d.size h1 h2 h3
        have hx := (h3.box (k := wr.heap.size) hx5 (by decide)).trans hx5
        have hz : W5.heap.size ≤ Y.heap.size := h3.size
        have hc := cell_of_row Y (w3.heap.size + 1) 2 _ _ (0, 0) hm.2.2.1
        exact ⟨hm, Kb.low hB5d h3 hB5d.size, by omega, cell_of_row Y wr.heap.size 0 _ _ (0, 0) hx, cell_of_row Y wr.heap.size 1 _ _ (0, 0) hx, hc, (((Below.refl Y.heap.size Y).alloc (Nat.le_refl _) _).cell (lt_of_block hm.2.2.1)).trans hc⟩
      have HE := Lib.hid (And.intro HGm (And.intro hgo (And.intro hdl3 (And.intro hbl (And.intro hzr (And.intro hlt' htot))))))
      clear HGm hgo hdl3 hbl hMB hBr hM5 hM5d hB5d hB5 hx5 hsl hok hlt'
      go_upto_region 15 with fail
      clear d0 d1 d2 d3 d4 d5 d6 d7 d8 d9 d10 HUD HE1 HB1 HB2 HB3 Hcf Hld HM0 HVAL HC HMB4 HB4 HW4 HD3 hW5 hdl hdl2 hzw Hblf'
      go_region_law (first
        | (go_simp; go_at_call 143; refine HBLK.out.mono ?_; rintro e w6 ⟨rfl, NB, hm6, hb6, hk6⟩; obtain ⟨hMB6, hB6, hz6, g0, g1, g2, g3⟩ := HY.out w6 NB hm6 hb6 hk6; have HM6 := Lib.hid (And.intro hMB6 hB6); clear hm6 hb6 hk6 hMB6 hB6)
        | (refine step_append_lies _ rfl (.tmp 44) (.tmp 55) 60 rfl w3.heap.size 135 i0 _ 3 24 Tryz.underlying60 hi hz0 hz1 hz2 rfl (by omega) dv j (cdC ds) rfl (md_own HM6.out.1 HE.out.2.2.1) ⟨w6.heap.size, 0, none⟩ 1 1 [.int .i64 x.id, .int .i64 x.kind, .int .i64 nb] rfl rfl (World.news_of_block (cs := #[.int .i64 x.id, .int .i64 x.kind, .int .i64 nb]) (t := 135) (fr := (0, 0)) (heap_alloc_new _ _)) (by simp [Value.oneCell']) (by omega) (by unfold maxLen; omega) (by omega) (by have := HE.out.2.2.2.2.1; simp; omega) _ rfl ?_; intro gg dcap w7 hown7 hgrow7 hat7 hlt7; have hcb7 := md_cb HM6.out.1 hgrow7; have hc7 := cell_of_row w7 (w3.heap.size + 1) 2 _ _ (0, 0) hcb7; have hf7 := frozen_of_row w7 (w3.heap.size + 1) 2 _ _ hcb7))
      all_goals (
        go_wp2
        go_roundg (N - (j + 1))
        case measure => rw [HE.out.1]; omega
        case rel =>
          obtain ⟨e1, e2, e3, e4, e5, e6, e7⟩ := HE.out
          exact md_rel HM6.out.1 HM6.out.2 (by omega) (by omega) e3 hlt hgrow7 hown7 e4 HNB.out Hblf.out e2 (by go_num))
    · obtain rfl : j = N := by omega
      have hgo2 : modGo label 0 decls = (bl, ds) := by
        rw [hgo, List.drop_of_length_le (by rw [HN.out]; exact Nat.le_refl _)]
        simp [modGo]
      obtain ⟨_, bv, hmk, hbo⟩ := hMB.1
      obtain ⟨bA, bcc, Hbv⟩ : ∃ A c, Hid (bv = .slice A BS.length c) := by
        obtain ⟨A, c, e⟩ := own_form hbo
        exact ⟨A, c, Lib.hid e⟩
      obtain ⟨vA, vcc, Hdv⟩ : ∃ A c, Hid (dv = .slice A ds.length c) := by
        obtain ⟨A, c, e⟩ := own_form hMB.2.2.2
        exact ⟨A, c, Lib.hid e⟩
      obtain ⟨bvn, HBVN⟩ : ∃ Q, Hid (BS.length = Q) := ⟨_, Lib.hid rfl⟩
      obtain ⟨dvn, HDVN⟩ : ∃ Q, Hid (ds.length = Q) := ⟨_, Lib.hid rfl⟩
      rw [HBVN.out] at Hbv
      rw [HDVN.out] at Hdv
      have Hbv' := Hbv.out
      have Hdv' := Hdv.out
      subst Hbv' Hdv'
      have hcb := hMB.2.2.1
      have q1 := cell_of_row wr w3.heap.size 1 _ _ (0, 0) hmk
      have q2 := cell_of_row wr (w3.heap.size + 1) 1 _ _ (0, 0) hcb
      have q3 := frozen_of_row wr (w3.heap.size + 1) 1 _ _ hcb
      have hcb2 : (wr.setCell ⟨w3.heap.size + 1, 1, none⟩ (.slice bA bvn bcc)).heap[w3.heap.size + 1]? = some (.cells #[.string label, .slice bA bvn bcc, .slice vA dvn vcc] 62 (0, 0)) := by
        rw [heap_setCell_same wr (w3.heap.size + 1) 1 _ 62 (.slice bA bvn bcc) hcb]
        rfl
      have q4 := cell_of_row _ (w3.heap.size + 1) 0 _ _ (0, 0) hcb2
      have q5 := cell_of_row _ (w3.heap.size + 1) 1 _ _ (0, 0) hcb2
      have q6 := cell_of_row _ (w3.heap.size + 1) 2 _ _ (0, 0) hcb2
      have hre := (hBr.block (w.heap.size + 1) (by omega)).trans HB3.out.2.2
      have hre2 := (Below.heap_setCell wr ⟨w3.heap.size + 1, 1, none⟩ (.slice bA bvn bcc) (w.heap.size + 1) (by simp; omega)).trans hre
      have c0 := cell_of_row _ (w.heap.size + 1) 0 _ _ (0, 0) hre2
      have c1 := cell_of_row _ (w.heap.size + 1) 1 _ _ (0, 0) hre2
      have c2 := cell_of_row _ (w.heap.size + 1) 2 _ _ (0, 0) hre2
      have f0 := frozen_of_row _ (w.heap.size + 1) 0 _ _ hre2
      have f1 := frozen_of_row _ (w.heap.size + 1) 1 _ _ hre2
      have f2 := frozen_of_row _ (w.heap.size + 1) 2 _ _ hre2
      have hts := three_set hre2 (.string label) (.slice bA bvn bcc) (.slice vA dvn vcc)
      have g0 := cell_of_row _ (w.heap.size + 1) 0 _ _ (0, 0) hts
      have g1 := cell_of_row _ (w.heap.size + 1) 1 _ _ (0, 0) hts
      have g2 := cell_of_row _ (w.heap.size + 1) 2 _ _ (0, 0) hts
      simp at c0 c1 c2 g0 g1 g2 q1 q2 q4 q5 q6
      have hbe := ((((hB3.trans (hBr.mono hB3.size)).setCell (p := ⟨w3.heap.size + 1, 1, none⟩) (by show w.heap.size ≤ w3.heap.size + 1; omega) (.slice bA bvn bcc)).setCell (p := ⟨w.heap.size + 1, 0, none⟩) (by simp) (.string label)).setCell (p := ⟨w.heap.size + 1, 1, none⟩) (by simp) (.slice bA bvn bcc)).setCell (p := ⟨w.heap.size + 1, 2, none⟩) (by simp) (.slice vA dvn vcc)
      have HG := Lib.hid (And.intro g0 (And.intro g1 g2))
      have HR : Hid (ModP label uses decls w (.returned (.tuple #[.agg #[.string label, .slice bA bvn bcc, .slice vA dvn vcc], .int .i64 0])) ((((wr.setCell ⟨w3.heap.size + 1, 1, none⟩ (.slice bA bvn bcc)).setCell ⟨w.heap.size + 1, 0, none⟩ (.string label)).setCell ⟨w.heap.size + 1, 1, none⟩ (.slice bA bvn bcc)).setCell ⟨w.heap.size + 1, 2, none⟩ (.slice vA dvn vcc))) := by
        refine ⟨label, _, _, by rw [HM0.out], hbe, .inl ⟨HM0.out, rfl, ?_⟩⟩
        rw [hgo2]
        exact md_end hMB hbo hre hB3.size
      clear hts g0 g1 g2 hbe hre hre2 hcb hcb2 hmk hbo hMB hgo hgo2 hBr HGm
      go_wp2
      exact bodyPost_ret (v := .tuple #[.agg #[.string label, .slice bA bvn bcc, .slice vA dvn vcc], .int .i64 0]) (by simp [results, Tryz.results90, go_sem, HG.out.1, HG.out.2.1, HG.out.2.2]) rfl HR.out
end Go.Proofs.YtlpipoihinceiaaGreatDoor
