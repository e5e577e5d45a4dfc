/- bind.Rename -/
import Derived.Test.YtacjjkbkhpdhnaaGreatDoorZpf
import Derived.Test.YtacjjkbkhpdhnaaGreatDoorZpa
import Derived.Deep.DeepCutAuto
import Derived.Test.YtacjjkbkhpdhnaaGreatDoorZqe
import Derived.Test.YtacjjkbkhpdhnaaGreatDoorZpj
import Derived.Deep.RegionHeld3
namespace Go.Proofs.YtacjjkbkhpdhnaaGreatDoor
open Go.RowKit Go.Proofs Go.Shelf
theorem three_set' {W : World} {b : Nat} {a0 a1 a2 : Value} {t : TypeId} (h : W.heap[b]? = some (.cells #[a0, a1, a2] t (0, 0))) (u0 u1 u2 : Value) :
    (((W.setCell ⟨b, 0, none⟩ u0).setCell ⟨b, 1, none⟩ u1).setCell ⟨b, 2, none⟩ u2).heap[b]? = some (.cells #[u0, u1, u2] t (0, 0)) := by
  have h0 := heap_setCell_same W b 0 _ t u0 h
  have h1 := heap_setCell_same _ b 1 _ t u1 h0
  have h2 := heap_setCell_same _ b 2 _ t u2 h1
  rw [h2]
  rfl
theorem setN_cells (x : Dc) (nA : Option Addr) (nc : Nat) (l : List ByteArray) : ∀ k, k ≠ 3 → ({ x with nA := nA, nc := nc, names := l } : Dc).cells[k]? = x.cells[k]?
  | 0, _ => rfl
  | 1, _ => rfl
  | 2, _ => rfl
  | 3, h => absurd rfl h
  | 4, _ => rfl
  | 5, _ => rfl
  | 6, _ => rfl
  | 7, _ => rfl
  | 8, _ => rfl
  | 9, _ => rfl
  | 10, _ => rfl
  | k + 11, _ => by
    rw [Array.getElem?_eq_none (by simp [Dc.cells]), Array.getElem?_eq_none (by simp [Dc.cells])]
theorem ren_sld {w WF : World} {decls : List Dc} {q g cap nb dc : Nat} {dA : Option Addr} {x : Dc} {name : ByteArray} (hd : SlD w w.heap.size dA dc decls) (hbF : Below w.heap.size w WF) (hx : decls[q]? = some x) (hcap : decls.length ≤ cap) (hcm : cap ≤ maxLen) (hg : g < WF.heap.size)
    (hcells : ∀ m, m < decls.length * 11 → m ≠ q * 11 + 3 → WF.cell? ⟨g, m, none⟩ = (dcC decls)[m]?) (hq : WF.cell? ⟨g, q * 11 + 3, none⟩ = some (.slice (some ⟨nb, 0, none⟩) 1 1)) (hn : WF.cell? ⟨nb, 0, none⟩ = some (.string name)) :
    SlD WF WF.heap.size (some ⟨g, 0, none⟩) cap (decls.set q { x with nA := some ⟨nb, 0, none⟩, nc := 1, names := [name] }) := by
  have hql : q < decls.length := (List.getElem?_eq_some_iff.1 hx).1
  refine ⟨by rw [List.length_set]; exact hcap, hcm, fun _ => ⟨g, 0, rfl, hg, fun j z hz => ?_⟩⟩
  have hjl : j < decls.length := by
    have := (List.getElem?_eq_some_iff.1 hz).1
    rwa [List.length_set] at this
  have hokAll : ∀ y, decls[j]? = some y → y.Ok w w.heap.size := fun y hy => by
    obtain ⟨b, o, _, _, hall⟩ := hd.2.2 (by intro e; rw [e] at hjl; simp at hjl)
    exact (hall j y hy).2
  by_cases hj : j = q
  · subst hj
    rw [List.getElem?_set_self hql] at hz
    obtain rfl := (Option.some.inj hz).symm
    refine ⟨fun k u hk => ?_, ?_, ?_⟩
    · by_cases h3 : k = 3
      · subst h3
        have : u = .slice (some ⟨nb, 0, none⟩) 1 1 := (Option.some.inj hk).symm
        rw [this, Nat.zero_add]
        exact hq
      · have hk11 : k < 11 := (Array.getElem?_eq_some_iff.1 hk).1
        rw [setN_cells x _ _ _ k h3] at hk
        rw [Nat.zero_add, hcells _ (by omega) (by omega)]
        exact dcC_at decls j x hx k u hk
    · exact ⟨by simp, by simp [maxLen], fun _ => ⟨nb, 0, rfl, World.block_lt_of_cell? WF ⟨nb, 0, none⟩ hn, fun i s hi => by
        match i, hi with
        | 0, hi =>
          simp only [List.getElem?_cons_zero, Option.some.injEq] at hi
          subst hi
          exact hn
        | i + 1, hi => simp at hi⟩⟩
    · exact (hokAll x hx).2.keep hbF.size fun p hp => hbF.cell hp
  · rw [List.getElem?_set_ne (by omega)] at hz
    refine ⟨fun k u hk => ?_, (hokAll z hz).1.keep hbF.size fun p hp => hbF.cell hp, (hokAll z hz).2.keep hbF.size fun p hp => hbF.cell hp⟩
    have hk11 : k < 11 := (Array.getElem?_eq_some_iff.1 hk).1
    rw [Nat.zero_add, hcells _ (by omega) (by omega)]
    exact dcC_at decls j z hz k u hk
theorem names_one {x : Dc} (h : x.names.length = 1) : x.names[0]'(by omega) = nameOf x := by
  obtain ⟨s, hs⟩ := List.length_eq_one_iff.1 h
  have h0 : x.names[0]? = some (nameOf x) := by
    unfold nameOf
    rw [hs]
    rfl
  exact (List.getElem?_eq_some_iff.1 h0).2
def othB (decls : List Dc) (q : Nat) (name : ByteArray) : Prop := ∃ j z, j ≠ q ∧ decls[j]? = some z ∧ z.names.length = 1 ∧ ((nameOf z).toList == name.toList) = true
def RenE (label : ByteArray) (uses : List ByteArray) (decls : List Dc) (id : Int) (name : ByteArray) (er : Int) : Prop :=
  (er = checkE label uses decls ∧ er ≠ 0) ∨ (checkE label uses decls = 0 ∧ ((nameB name = false ∧ er = 6) ∨ (nameB name = true ∧ ((idxD decls id = none ∧ er = 8) ∨ ∃ q, idxD decls id = some q ∧ ((othB decls q name ∧ er = 7) ∨ (¬ othB decls q name ∧ er = 0))))))
def RenX (label : ByteArray) (uses : List ByteArray) (uA : Option Addr) (uc : Nat) (decls : List Dc) (id : Int) (name : ByteArray) (w : World) (e : Ending) (w' : World) : Prop :=
  ∃ lb a1 n1 c1 a2 n2 c2 er, e = .returned (.tuple #[.agg #[.string lb, .slice a1 n1 c1, .slice a2 n2 c2], .int .i64 er]) ∧ Below w.heap.size w w' ∧ RenE label uses decls id name er ∧
    (er ≠ 0 → lb = ⟨#[]⟩ ∧ a1 = none ∧ n1 = 0 ∧ c1 = 0 ∧ a2 = none ∧ n2 = 0 ∧ c2 = 0) ∧
    (er = 0 → lb = label ∧ a1 = uA ∧ n1 = uses.length ∧ c1 = uc ∧ n2 = decls.length ∧ nameB name = true ∧ checkE label uses decls = 0 ∧
      ∃ q x nA, idxD decls id = some q ∧ decls[q]? = some x ∧ (∀ j z, j ≠ q → decls[j]? = some z → z.names.length = 1 → ((nameOf z).toList == name.toList) = false) ∧ SlD w' w'.heap.size a2 c2 (decls.set q { x with nA := nA, nc := 1, names := [name] }))
set_option maxRecDepth 100000 in
set_option maxHeartbeats 4000000 in
theorem renameX_any (label : ByteArray) (uses : List ByteArray) (uA : Option Addr) (uc : Nat) (decls : List Dc) (dA : Option Addr) (dc : Nat) (id : Int) (name : ByteArray) (w : World) (hu : SlS w w.heap.size uA uc uses) (hd : SlD w w.heap.size dA dc decls) :
    Calls Tryz.prog 26 #[.agg #[.string label, .slice uA uses.length uc, .slice dA decls.length dc], .int .i64 id, .string name] w (RenX label uses uA uc decls id name w) := by
  obtain ⟨N, HN⟩ : ∃ Q, Hid (decls.length = Q) := ⟨_, Lib.hid rfl⟩
  obtain ⟨NU, HNU⟩ : ∃ Q, Hid (uses.length = Q) := ⟨_, Lib.hid rfl⟩
  obtain ⟨W0, hW0⟩ : ∃ W0, ((w.alloc (.cells #[.string label, .slice uA NU uc, .slice dA N dc] 25)).alloc (.cells #[.int .i64 id] 3)).alloc (.cells #[.string ⟨#[]⟩, .slice none 0 0, .slice none 0 0] 25) = W0 := ⟨_, rfl⟩
  have hzw : w.heap.size + 1 + 1 < W0.heap.size := by subst hW0; simp
  have hB0 : Below w.heap.size w W0 := by subst hW0; exact (((Below.refl _ _).alloc (Nat.le_refl _) _).alloc (by simp) _).alloc (by simp; omega) _
  have hx0 : W0.heap[w.heap.size]? = some (.cells #[.string label, .slice uA NU uc, .slice dA N dc] 25 (0, 0)) := by rw [← hW0]; exact (Below.heap_alloc _ _ _ (by simp; omega)).trans ((Below.heap_alloc _ _ _ (by simp)).trans (heap_alloc_new w _))
  have hi0 : W0.heap[w.heap.size + 1]? = some (.cells #[.int .i64 id] 3 (0, 0)) := by
    rw [← hW0]
    refine (Below.heap_alloc _ _ _ (by simp)).trans ?_
    have h := heap_alloc_new (w.alloc (.cells #[.string label, .slice uA NU uc, .slice dA N dc] 25)) (.cells #[.int .i64 id] 3)
    simpa using h
  have hy0 : W0.heap[w.heap.size + 1 + 1]? = some (.cells #[.string ⟨#[]⟩, .slice none 0 0, .slice none 0 0] 25 (0, 0)) := by
    have h := heap_alloc_new ((w.alloc (.cells #[.string label, .slice uA NU uc, .slice dA N dc] 25)).alloc (.cells #[.int .i64 id] 3)) (.cells #[.string ⟨#[]⟩, .slice none 0 0, .slice none 0 0] 25)
    rw [hW0] at h
    simpa using h
  have HC : Hid (∀ X, Below W0.heap.size W0 X → Below w.heap.size w X ∧ w.heap.size + 1 + 1 < X.heap.size ∧ SlS X X.heap.size uA uc uses ∧ SlD X X.heap.size dA dc decls ∧ X.cell? ⟨w.heap.size, 0, none⟩ = some (.string label) ∧ X.cell? ⟨w.heap.size, 1, none⟩ = some (.slice uA NU uc) ∧ X.cell? ⟨w.heap.size, 2, none⟩ = some (.slice dA N dc) ∧ X.cell? ⟨w.heap.size + 1, 0, none⟩ = some (.int .i64 id) ∧ X.heap[w.heap.size + 1 + 1]? = some (.cells #[.string ⟨#[]⟩, .slice none 0 0, .slice none 0 0] 25 (0, 0))) := fun X hX => by
    have hx := (hX.block w.heap.size (by omega)).trans hx0
    have hi := (hX.block (w.heap.size + 1) (by omega)).trans hi0
    have hb := hB0.trans (hX.mono (by omega))
    exact ⟨hb, Nat.lt_of_lt_of_le hzw hX.size, hu.keep (by have := hb.size; omega) (fun p hp => hb.cell hp), hd.keep (by have := hb.size; omega) (fun p hp => hb.cell hp), cell_of_row X w.heap.size 0 _ _ (0, 0) hx, cell_of_row X w.heap.size 1 _ _ (0, 0) hx, cell_of_row X w.heap.size 2 _ _ (0, 0) hx, cell_of_row X (w.heap.size + 1) 0 _ _ (0, 0) hi, (hX.block _ hzw).trans hy0⟩
  have HFail : Hid (∀ (X : World) (er : Int), Below w.heap.size w X → er ≠ 0 → RenE label uses decls id name er → RenX label uses uA uc decls id name w (.returned (.tuple #[.agg #[.string ⟨#[]⟩, .slice none 0 0, .slice none 0 0], .int .i64 er])) (((X.setCell ⟨w.heap.size + 1 + 1, 0, none⟩ (.string ⟨#[]⟩)).setCell ⟨w.heap.size + 1 + 1, 1, none⟩ (.slice none 0 0)).setCell ⟨w.heap.size + 1 + 1, 2, none⟩ (.slice none 0 0))) := by
    intro X er hb hne hre
    exact ⟨_, _, _, _, _, _, _, _, rfl, ((hb.setCell (by simp; omega) _).setCell (by simp; omega) _).setCell (by simp; omega) _, hre, fun _ => ⟨rfl, rfl, rfl, rfl, rfl, rfl, rfl⟩, fun h => absurd h hne⟩
  have HROW : Hid (∀ X : World, X.heap[w.heap.size + 1 + 1]? = some (.cells #[.string ⟨#[]⟩, .slice none 0 0, .slice none 0 0] 25 (0, 0)) → ∀ u0 u1 u2 : Value, X.cell? ⟨w.heap.size + 1 + 1, 0, none⟩ = some (.string ⟨#[]⟩) ∧ X.cell? ⟨w.heap.size + 1 + 1, 1, none⟩ = some (.slice none 0 0) ∧ X.cell? ⟨w.heap.size + 1 + 1, 2, none⟩ = some (.slice none 0 0) ∧
      X.frozen? ⟨w.heap.size + 1 + 1, 0, none⟩ = false ∧ X.frozen? ⟨w.heap.size + 1 + 1, 1, none⟩ = false ∧ X.frozen? ⟨w.heap.size + 1 + 1, 2, none⟩ = false ∧
      (((X.setCell ⟨w.heap.size + 1 + 1, 0, none⟩ u0).setCell ⟨w.heap.size + 1 + 1, 1, none⟩ u1).setCell ⟨w.heap.size + 1 + 1, 2, none⟩ u2).cell? ⟨w.heap.size + 1 + 1, 0, none⟩ = some u0 ∧
      (((X.setCell ⟨w.heap.size + 1 + 1, 0, none⟩ u0).setCell ⟨w.heap.size + 1 + 1, 1, none⟩ u1).setCell ⟨w.heap.size + 1 + 1, 2, none⟩ u2).cell? ⟨w.heap.size + 1 + 1, 1, none⟩ = some u1 ∧
      (((X.setCell ⟨w.heap.size + 1 + 1, 0, none⟩ u0).setCell ⟨w.heap.size + 1 + 1, 1, none⟩ u1).setCell ⟨w.heap.size + 1 + 1, 2, none⟩ u2).cell? ⟨w.heap.size + 1 + 1, 2, none⟩ = some u2) := fun X hy u0 u1 u2 => by
    have hts := three_set' hy u0 u1 u2
    exact ⟨cell_of_row X _ 0 _ _ (0, 0) hy, cell_of_row X _ 1 _ _ (0, 0) hy, cell_of_row X _ 2 _ _ (0, 0) hy, frozen_of_row X _ 0 _ _ hy, frozen_of_row X _ 1 _ _ hy, frozen_of_row X _ 2 _ _ hy, cell_of_row _ _ 0 _ _ (0, 0) hts, cell_of_row _ _ 1 _ _ (0, 0) hts, cell_of_row _ _ 2 _ _ (0, 0) hts⟩
  have hul := hu.1
  have hul2 := hu.2.1
  have hdl := hd.1
  have hdl2 := hd.2.1
  unfold maxLen at hul2 hdl2
  rw [HNU.out] at hul ⊢
  rw [HN.out] at hdl ⊢
  have HUD := Lib.hid (And.intro hu hd)
  clear hx0 hi0 hy0 hu hd hB0
  obtain ⟨E1, HE1⟩ : ∃ Q, Hid (checkE label uses decls = Q) := ⟨_, Lib.hid rfl⟩
  obtain ⟨hBa, hza, hsa, hda, y0, y1, y2, yi, hya⟩ := HC.out W0 (Below.refl _ _)
  have hck := bCheck_any label uses uA uc decls dA dc W0 hsa hda
  rw [HNU.out, HN.out, HE1.out] at hck
  have HCK := Lib.hid hck
  clear hck hsa hda hBa hya
  go_enter Tryz.func26, Tryz.ntmps26
  go_wp2_with fail
  refine HCK.out.mono ?_
  rintro e w1 ⟨rfl, hb1⟩
  obtain ⟨hB1, hz1', hs1, hd1, x0, x1, x2, xi, hy1⟩ := HC.out w1 hb1
  have HB1 := Lib.hid (And.intro hb1 (And.intro hB1 hy1))
  clear y0 y1 y2 yi hW0 HCK
  by_cases e1 : E1 = 0
  rotate_left
  · have e1' : (E1 != 0) = true := by simpa using e1
    obtain ⟨c0, c1, c2, f0, f1, f2, g0, g1, g2⟩ := HROW.out w1 hy1 (.string ⟨#[]⟩) (.slice none 0 0) (.slice none 0 0)
    have HG := Lib.hid (And.intro g0 (And.intro g1 g2))
    have HR := Lib.hid (HFail.out w1 E1 hB1 e1 (.inl ⟨HE1.out.symm, e1⟩))
    clear g0 g1 g2 hy1 hs1 hd1 hb1 hB1
    go_wp2
    exact bodyPost_ret (v := .tuple #[.agg #[.string ⟨#[]⟩, .slice none 0 0, .slice none 0 0], .int .i64 E1]) (by simp [results, Tryz.results26, go_sem, HG.out.1, HG.out.2.1, HG.out.2.2]) rfl HR.out
  subst e1
  obtain ⟨_, hlen, _⟩ := checkE_zero HE1.out
  rw [HN.out] at hlen
  have HNM := Lib.hid (isName_any name w1)
  clear hs1 hd1 hb1 hB1 hy1
  obtain ⟨nb, Hnb⟩ : ∃ Q, Hid (nameB name = Q) := ⟨_, Lib.hid rfl⟩
  rw [Hnb.out] at HNM
  go_wp2_with fail
  refine HNM.out.mono ?_
  rintro e w2 ⟨rfl, hb2⟩
  have hb2' := HB1.out.1.trans (hb2.mono HB1.out.1.size)
  obtain ⟨hB2, hz2', hs2, hd2, z0, z1, z2, zi, hy2⟩ := HC.out w2 hb2'
  have HB2 := Lib.hid (And.intro hb2' (And.intro hB2 hy2))
  clear x0 x1 x2 xi HNM hb2 hb2'
  cases nb
  · obtain ⟨c0, c1, c2, f0, f1, f2, g0, g1, g2⟩ := HROW.out w2 hy2 (.string ⟨#[]⟩) (.slice none 0 0) (.slice none 0 0)
    have HG := Lib.hid (And.intro g0 (And.intro g1 g2))
    have HR := Lib.hid (HFail.out w2 6 hB2 (by decide) (.inr ⟨HE1.out, .inl ⟨Hnb.out, rfl⟩⟩))
    clear g0 g1 g2 hy2 hs2 hd2 hB2
    go_wp2
    exact bodyPost_ret (v := .tuple #[.agg #[.string ⟨#[]⟩, .slice none 0 0, .slice none 0 0], .int .i64 6]) (by simp [results, Tryz.results26, go_sem, HG.out.1, HG.out.2.1, HG.out.2.2]) rfl HR.out
  have hix := indexFnD_any decls id (w.heap.size + 1) dA dc w2 hd2 zi
  rw [HN.out] at hix
  have HIX := Lib.hid hix
  clear hix hs2 hd2 hB2 hy2
  go_wp2_with fail
  refine HIX.out.mono ?_
  rintro e w3 ⟨at_, rfl, hb3, hat⟩
  have hb3' := HB2.out.1.trans (hb3.mono HB2.out.1.size)
  obtain ⟨hB3, hz3', hs3, hd3, v0, v1, v2, vi, hy3⟩ := HC.out w3 hb3'
  have HB3 := Lib.hid (And.intro hb3' (And.intro hB3 (And.intro hy3 (And.intro hs3 hd3))))
  clear z0 z1 z2 zi HIX hb3 hb3'
  rcases hat with ⟨rfl, hnone⟩ | ⟨q, rfl, hq, hqi⟩
  · obtain ⟨c0, c1, c2, f0, f1, f2, g0, g1, g2⟩ := HROW.out w3 hy3 (.string ⟨#[]⟩) (.slice none 0 0) (.slice none 0 0)
    have HG := Lib.hid (And.intro g0 (And.intro g1 g2))
    have HR := Lib.hid (HFail.out w3 8 hB3 (by decide) (.inr ⟨HE1.out, .inr ⟨Hnb.out, .inl ⟨hnone, rfl⟩⟩⟩))
    clear g0 g1 g2 hy3 hs3 hd3 hB3 hnone
    go_wp2
    exact bodyPost_ret (v := .tuple #[.agg #[.string ⟨#[]⟩, .slice none 0 0, .slice none 0 0], .int .i64 8]) (by simp [results, Tryz.results26, go_sem, HG.out.1, HG.out.2.1, HG.out.2.2]) rfl HR.out
  rw [HN.out] at hq
  have HQI := Lib.hid hqi
  clear hy3 hs3 hd3 hB3 hqi
  go_wp2
  go_loopg [10, 11, 33] N (fun g _ _ ct wr => ∃ j : Nat, g = N - j ∧ j ≤ N ∧ ct = .int .i64 j ∧ (∀ i z, i < j → i ≠ q → decls[i]? = some z → z.names.length = 1 → ((nameOf z).toList == name.toList) = false) ∧ Below w3.heap.size w3 wr)
  case atStart => exact ⟨0, rfl, by omega, rfl, fun i z hi => absurd hi (by omega), Below.refl _ _⟩
  case round =>
    obtain ⟨j, HG, hj, rfl, HA, hBr⟩ := hrel
    have hzr := hBr.size
    by_cases hlt : j < N
    · have hlt' : j < decls.length := by rw [HN.out]; exact hlt
      have hj3 : decls[j]? = some decls[j] := List.getElem?_eq_getElem hlt'
      obtain ⟨b, o, rfl, hb, d0, d1, d2, d3, d4, d5, d6, d7, d8, d9, d10, hxok⟩ := HB3.out.2.2.2.2.cells_at (fun p hp => hBr.cell hp) hj3
      have HE := Lib.hid (And.intro HG (And.intro HA (And.intro hBr hj3)))
      have hnm := hxok.1
      clear HG HA hBr hj3 hxok v0 v1 v2 vi
      generalize decls[j] = x at d0 d1 d2 d3 d4 d5 d6 d7 d8 d9 d10 HE hnm
      obtain ⟨W5, hW5⟩ : ∃ W5, wr.alloc (.cells #[.int .i64 x.id, .int .i64 x.kind, .bool x.pub, .slice x.nA x.names.length x.nc, .bool x.doubt, .int .i64 x.k, .string x.n, .string x.m, .int .i64 x.i, .int .i64 x.d, .slice x.A x.s.len x.c] 63) = W5 := ⟨_, rfl⟩
      have hB5 : Below wr.heap.size wr W5 := by rw [← hW5]; exact (Below.refl _ _).alloc (Nat.le_refl _) _
      have f3 : W5.cell? ⟨wr.heap.size, 3, none⟩ = some (.slice x.nA x.names.length x.nc) := by subst hW5; go_simp
      have HB5 := Lib.hid (HE.out.2.2.1.trans (hB5.mono hzr))
      have HNX : Hid ((j ≠ q → x.names.length = 1 → ((nameOf x).toList == name.toList) = false) → ∀ i z, i < j + 1 → i ≠ q → decls[i]? = some z → z.names.length = 1 → ((nameOf z).toList == name.toList) = false) := fun h i z hi hne hz h1 => by
        by_cases hij : i = j
        · subst hij
          have : z = x := Option.some.inj (hz.symm.trans HE.out.2.2.2)
          subst this
          exact h hne h1
        · exact HE.out.2.1 i z (by omega) hne hz h1
      by_cases hjq : j = q
      · have hne : ((j : Int) != (q : Int)) = false := by simp [hjq]
        have HN2 := Lib.hid (HNX.out fun h => absurd hjq h)
        clear hjq hnm hB5
        go_wp2
        go_roundg (N - (j + 1))
        case measure => rw [HE.out.1]; omega
        case rel => exact ⟨j + 1, rfl, by omega, by go_num, HN2.out, HB5.out⟩
      · have hne : ((j : Int) != (q : Int)) = true := by simp; omega
        by_cases h1 : x.names.length = 1
        rotate_left
        · have h1' : ((x.names.length : Int) == 1) = false := by simp; omega
          have HN2 := Lib.hid (HNX.out fun _ h => absurd h h1)
          clear hjq hnm hB5 h1
          go_wp2
          go_roundg (N - (j + 1))
          case measure => rw [HE.out.1]; omega
          case rel => exact ⟨j + 1, rfl, by omega, by go_num, HN2.out, HB5.out⟩
        · have hwr : SlS W5 w3.heap.size x.nA x.nc x.names := hnm.keep (Nat.le_refl _) fun p hp => HB5.out.cell hp
          obtain ⟨nbk, no, hnA, hnb, hncell⟩ := hwr.at_ (j := 0) (by omega)
          have hnc2 := hwr.1
          have hnc3 := hwr.2.1
          unfold maxLen at hnc3
          have hnm0 : x.names[0]'(by omega) = nameOf x := names_one h1
          rw [hnm0, Nat.add_zero] at hncell
          rw [hnA] at f3
          rw [h1] at f3 hnc2
          have HN2 : Hid (((nameOf x).toList == name.toList) = false → _) := fun h => HNX.out fun _ _ => h
          rw [hnA, h1] at hW5 d3
          clear hjq hnm hB5 hwr hnm0
          have HJQ := Lib.hid (show (nameOf x).toList == name.toList → RenE label uses decls id name 7 from fun hc => .inr ⟨HE1.out, .inr ⟨Hnb.out, .inr ⟨q, HQI.out, .inl ⟨⟨j, x, by intro e; subst e; simp at hne, HE.out.2.2.2, h1, hc⟩, rfl⟩⟩⟩⟩)
          generalize nameOf x = nm at hncell HN2 HJQ
          cases hcmp : (nm.toList == name.toList)
          · have HN3 := Lib.hid (HN2.out hcmp)
            go_wp2
            go_roundg (N - (j + 1))
            case measure => rw [HE.out.1]; omega
            case rel => exact ⟨j + 1, rfl, by omega, by go_num, HN3.out, HB5.out⟩
          · have hb5' := HB3.out.1.trans (HB5.out.mono HB3.out.1.size)
            obtain ⟨hB6, _, _, _, _, _, _, _, hy6⟩ := HC.out W5 hb5'
            obtain ⟨c0, c1, c2, k0, k1, k2, g0, g1, g2⟩ := HROW.out W5 hy6 (.string ⟨#[]⟩) (.slice none 0 0) (.slice none 0 0)
            have HG := Lib.hid (And.intro g0 (And.intro g1 g2))
            have HR := Lib.hid (HFail.out W5 7 hB6 (by decide) (HJQ.out hcmp))
            clear g0 g1 g2 hy6 hB6 hb5'
            go_wp2
            exact bodyPost_ret (v := .tuple #[.agg #[.string ⟨#[]⟩, .slice none 0 0, .slice none 0 0], .int .i64 7]) (by simp [results, Tryz.results26, go_sem, HG.out.1, HG.out.2.1, HG.out.2.2]) rfl HR.out
    · obtain rfl : j = N := by omega
      have hb4 := HB3.out.1.trans (hBr.mono HB3.out.1.size)
      obtain ⟨hB4, hz4', hs4, hd4, u0, u1, u2, _, hy4⟩ := HC.out wr hb4
      obtain ⟨db, dob, rfl, _, _⟩ := hd4.2.2 (by intro e; rw [e] at HN; have := HN.out; simp at this; omega)
      have hcl := slcCloneD_any decls ⟨db, dob, none⟩ dc wr hd4 (by rw [HN.out]; exact hlen)
      rw [HN.out] at hcl
      have HCL := Lib.hid hcl
      have HB4 := Lib.hid (And.intro hb4 (And.intro hB4 (And.intro HA hd4)))
      clear hcl hs4 hd4 hy4 hB4 hb4 v0 v1 v2 vi HG HA hBr
      go_wp2_with fail
      refine HCL.out.mono ?_
      rintro e w5 ⟨v, rfl, hown, hb5⟩
      have hz5 := hb5.size
      rw [HN.out] at hown
      obtain ⟨g, cap, rfl, hcap1, hcap2⟩ := own_pos2 hown (by omega)
      have hb5' := HB4.out.1.trans (hb5.mono HB4.out.1.size)
      obtain ⟨hB5, hz5', _, _, t0, t1, t2, _, hy5⟩ := HC.out w5 hb5'
      have hxq : decls[q]? = some (decls[q]'(by rw [HN.out]; exact hq)) := List.getElem?_eq_getElem _
      have hg5 := (hown.lt g rfl)
      have hcq := (hown.cellAt (q * 11 + 3) (by omega)).trans (dcC_at decls q _ hxq 3 _ rfl)
      have hfq := hown.frozenAt (q * 11 + 3)
      obtain ⟨W6, hW6⟩ : ∃ W6, w5.alloc (.cells #[.string name] 9) = W6 := ⟨_, rfl⟩
      have hb6 : Below w5.heap.size w5 W6 := by rw [← hW6]; exact (Below.refl _ _).alloc (Nat.le_refl _) _
      have hz6 : w5.heap.size < W6.heap.size := by rw [← hW6]; simp
      have hn6 : W6.cell? ⟨w5.heap.size, 0, none⟩ = some (.string name) := by rw [← hW6]; exact cell_of_row _ w5.heap.size 0 _ _ (0, 0) (heap_alloc_new w5 _)
      have hgl : g < w5.heap.size := hg5.2
      have hgw : wr.heap.size ≤ g := hg5.1
      have hcq6 := (hb6.cell (p := ⟨g, q * 11 + 3, none⟩) hgl).trans hcq
      have hfq6 : W6.frozen? ⟨g, q * 11 + 3, none⟩ = false := (hb6.frozen (p := ⟨g, q * 11 + 3, none⟩) hgl).trans hfq
      obtain ⟨W7, hW7⟩ : ∃ W7, W6.setCell ⟨g, q * 11 + 3, none⟩ (.slice (some ⟨w5.heap.size, 0, none⟩) 1 1) = W7 := ⟨_, rfl⟩
      have hz7 : W7.heap.size = W6.heap.size := by rw [← hW7]; simp
      have hblk7 : ∀ k, k ≠ g → W7.heap[k]? = W6.heap[k]? := fun k hk => by rw [← hW7]; exact Below.heap_setCell W6 ⟨g, q * 11 + 3, none⟩ _ k hk
      have hcell7 : ∀ p : Addr, p ≠ ⟨g, q * 11 + 3, none⟩ → W7.cell? p = W6.cell? p := fun p hp => by rw [← hW7]; exact World.cell?_setCell_other W6 _ p _ (Ne.symm hp)
      have hq7 : W7.cell? ⟨g, q * 11 + 3, none⟩ = some (.slice (some ⟨w5.heap.size, 0, none⟩) 1 1) := by rw [← hW7]; exact World.cell?_setCell_same W6 _ _ hcq6
      have hy7 := (hblk7 (w.heap.size + 1 + 1) (by omega)).trans ((hb6.block _ (by omega)).trans hy5)
      have m0 := (hcell7 ⟨w.heap.size, 0, none⟩ (by intro e; injection e; omega)).trans ((hb6.cell (p := ⟨w.heap.size, 0, none⟩) (by simp; omega)).trans t0)
      have m1 := (hcell7 ⟨w.heap.size, 1, none⟩ (by intro e; injection e; omega)).trans ((hb6.cell (p := ⟨w.heap.size, 1, none⟩) (by simp; omega)).trans t1)
      obtain ⟨c0, c1, c2, k0, k1, k2, g0, g1, g2⟩ := HROW.out W7 hy7 (.string label) (.slice uA NU uc) (.slice (some ⟨g, 0, none⟩) j cap)
      obtain ⟨WF, hWF⟩ : ∃ WF, ((W7.setCell ⟨w.heap.size + 1 + 1, 0, none⟩ (.string label)).setCell ⟨w.heap.size + 1 + 1, 1, none⟩ (.slice uA NU uc)).setCell ⟨w.heap.size + 1 + 1, 2, none⟩ (.slice (some ⟨g, 0, none⟩) j cap) = WF := ⟨_, rfl⟩
      have hcellF : ∀ p : Addr, p.block ≠ w.heap.size + 1 + 1 → WF.cell? p = W7.cell? p := fun p hp => by
        rw [← hWF, World.cell?_setCell_other _ _ p _ (fun e => hp (by rw [← e])), World.cell?_setCell_other _ _ p _ (fun e => hp (by rw [← e])), World.cell?_setCell_other _ _ p _ (fun e => hp (by rw [← e]))]
      have hbF : Below w.heap.size w WF := by
        rw [← hWF]
        refine Below.setCell (Below.setCell (Below.setCell ?_ (by simp; omega) _) (by simp; omega) _) (by simp; omega) _
        rw [← hW7]
        exact Below.setCell (hB5.trans (hb6.mono (by omega))) (by simp; omega) _
      have hzF : WF.heap.size = W6.heap.size := by rw [← hWF]; simp [hz7]
      have HSLD := Lib.hid (ren_sld (name := name) HUD.out.2 hbF hxq (by rw [HN.out]; exact hcap1) (by unfold maxLen; exact hcap2) (by omega) (fun m hm hne => by
        rw [hcellF ⟨g, m, none⟩ (by simp; omega), hcell7 ⟨g, m, none⟩ (by intro e; injection e; omega), hb6.cell (p := ⟨g, m, none⟩) hgl]
        rw [HN.out] at hm
        exact hown.cellAt m hm) ((hcellF ⟨g, q * 11 + 3, none⟩ (by simp; omega)).trans hq7) ((hcellF ⟨w5.heap.size, 0, none⟩ (by simp; omega)).trans ((hcell7 ⟨w5.heap.size, 0, none⟩ (by intro e; injection e; omega)).trans hn6)))
      have HG := Lib.hid (And.intro g0 (And.intro g1 g2))
      rw [hWF] at HG
      have HR : Hid (RenX label uses uA uc decls id name w (.returned (.tuple #[.agg #[.string label, .slice uA NU uc, .slice (some ⟨g, 0, none⟩) j cap], .int .i64 0])) WF) :=
        ⟨_, _, _, _, _, _, _, _, rfl, hbF, .inr ⟨HE1.out, .inr ⟨Hnb.out, .inr ⟨q, HQI.out, .inr ⟨fun ⟨i, z, hne, hz, h1, hc⟩ => by
          rw [HB4.out.2.2.1 i z (by have := (List.getElem?_eq_some_iff.1 hz).1; rw [HN.out] at this; exact this) hne hz h1] at hc
          simp at hc, rfl⟩⟩⟩⟩, fun h => absurd rfl h, fun _ => ⟨rfl, rfl, HNU.out.symm, rfl, HN.out.symm, Hnb.out, HE1.out, q, _, _, HQI.out, hxq, fun i z hne hz h1 => HB4.out.2.2.1 i z (by have := (List.getElem?_eq_some_iff.1 hz).1; rw [HN.out] at this; exact this) hne hz h1, HSLD.out⟩⟩
      have hql : q < j := hq
      clear hown hxq hcq hfq hb6 hn6 hblk7 hcell7 hq7 hy7 hcellF hbF t0 t1 t2 hy5 hB5 hb5' hb5 g0 g1 g2 HSLD
      go_wp2
      exact bodyPost_ret (v := .tuple #[.agg #[.string label, .slice uA NU uc, .slice (some ⟨g, 0, none⟩) j cap], .int .i64 0]) (by simp [results, Tryz.results26, go_sem, HG.out.1, HG.out.2.1, HG.out.2.2]) rfl HR.out
end Go.Proofs.YtacjjkbkhpdhnaaGreatDoor
/- law24.awake, plainly -/
namespace Go.Proofs.YtacjjkbkhpdhnaaGreatDoor
open Go.RowKit Go.Proofs Go.Shelf

theorem pt_nil : ∀ {s : Fo}, s.pt = .nil → s = .nil
  | .nil, _ => rfl
  | .cons .., h => by cases h
theorem pt_cons : ∀ {s : Fo} {k : Int} {n m : ByteArray} {i d : Int} {u v : Pt}, s.pt = .cons k n m i d u v → ∃ A c s' r', s = .cons k n m i d A c s' r' ∧ s'.pt = u ∧ r'.pt = v
  | .nil, _, _, _, _, _, _, _, h => by cases h
  | .cons k n m i d A c s r, _, _, _, _, _, _, _, h => by
    cases h
    exact ⟨A, c, s, r, rfl, rfl, rfl⟩
def wS (h : Nat) : Fo := .cons 10 ⟨#[43]⟩ ⟨#[]⟩ 0 0 (some ⟨h + 1 + 1, 0, none⟩) 2 (.cons 3 ⟨#[120]⟩ ⟨#[]⟩ 0 0 none 0 .nil (.cons 3 ⟨#[121]⟩ ⟨#[]⟩ 0 0 none 0 .nil .nil)) .nil
def wD0 (h : Nat) : Dc := ⟨7, 1, false, some ⟨h + 1 + 1 + 1 + 1, 0, none⟩, 1, [⟨#[102]⟩], false, 6, ⟨#[120]⟩, ⟨#[]⟩, 0, 0, some ⟨h + 1 + 1 + 1 + 1 + 1, 0, none⟩, 1, wS h⟩
def wD1 (h : Nat) : Dc := ⟨9, 1, false, some ⟨h + 1 + 1 + 1 + 1 + 1 + 1, 0, none⟩, 1, [⟨#[121]⟩], false, 11, ⟨#[]⟩, ⟨#[]⟩, 0, 0, none, 0, .nil⟩
def wL : ByteArray := ⟨#[97, 47, 98]⟩
def wX (a1 : Option Addr) (c1 : Nat) (a2 : Option Addr) (c2 : Nat) (a3 : Option Addr) (c3 : Nat) : Fo := .cons 10 ⟨#[43]⟩ ⟨#[]⟩ 0 0 a1 c1 (.cons 3 ⟨#[120]⟩ ⟨#[]⟩ 0 0 a2 c2 .nil (.cons 5 ⟨#[]⟩ ⟨#[]⟩ 9 0 a3 c3 .nil .nil)) .nil
def wE0 (nA : Option Addr) (nc : Nat) (A : Option Addr) (c : Nat) (a1 : Option Addr) (c1 : Nat) (a2 : Option Addr) (c2 : Nat) (a3 : Option Addr) (c3 : Nat) : Dc := ⟨7, 1, false, nA, nc, [⟨#[102]⟩], false, 6, ⟨#[120]⟩, ⟨#[]⟩, 0, 0, A, c, wX a1 c1 a2 c2 a3 c3⟩
def wE1 (nA : Option Addr) (nc : Nat) (s : ByteArray) (A : Option Addr) (c : Nat) : Dc := ⟨9, 1, false, nA, nc, [s], false, 11, ⟨#[]⟩, ⟨#[]⟩, 0, 0, A, c, .nil⟩
set_option maxRecDepth 100000 in
theorem w_bind (h : Nat) : bindE wL [] [wD0 h, wD1 h] [] = 0 := by kernel_rfl
set_option maxRecDepth 100000 in
theorem w_rb0 (h : Nat) : rbD (bindG [] [wD0 h, wD1 h] []) (wD0 h) = (0, ⟨6, ⟨#[120]⟩, ⟨#[]⟩, 0, 0⟩, (wX none 0 none 0 none 0).pt) := by kernel_rfl
set_option maxRecDepth 100000 in
theorem w_rb1 (h : Nat) : rbD (bindG [] [wD0 h, wD1 h] []) (wD1 h) = (0, ⟨11, ⟨#[]⟩, ⟨#[]⟩, 0, 0⟩, .nil) := by kernel_rfl
theorem w_es {h : Nat} {es : List Dc} (hr : RbDs (bindG [] [wD0 h, wD1 h] []) [wD0 h, wD1 h] es) : ∃ n0 m0 A c a1 c1 a2 c2 a3 c3 n1 m1 B d, es = [wE0 n0 m0 A c a1 c1 a2 c2 a3 c3, wE1 n1 m1 ⟨#[121]⟩ B d] := by
  match es, hr with
  | [], hr => exact hr.elim
  | [_], hr => exact hr.2.elim
  | [x, y], ⟨hx, hy, _⟩ =>
    obtain ⟨q1, q2, q3, _, _, q6, q7, q8, q9, q10, q11, q12, q13⟩ := hx
    obtain ⟨r1, r2, r3, _, _, r6, r7, r8, r9, r10, r11, r12, r13⟩ := hy
    rw [w_rb0] at q8 q9 q10 q11 q12 q13
    rw [w_rb1] at r8 r9 r10 r11 r12 r13
    obtain ⟨xid, xkind, xpub, xnA, xnc, xnames, xdoubt, xk, xn, xm, xi, xd, xA, xc, xs⟩ := x
    obtain ⟨yid, ykind, ypub, ynA, ync, ynames, ydoubt, yk, yn, ym, yi, yd, yA, yc, ys⟩ := y
    simp only at q1 q2 q3 q6 q7 q8 q9 q10 q11 q12 q13 r1 r2 r3 r6 r7 r8 r9 r10 r11 r12 r13
    subst q1 q2 q3 q6 q7 q8 q9 q10 q11 q12 r1 r2 r3 r6 r7 r8 r9 r10 r11 r12
    obtain ⟨a1, c1, s1, t1, rfl, hs1, ht1⟩ := pt_cons q13
    obtain rfl := pt_nil ht1
    obtain ⟨a2, c2, s2, t2, rfl, hs2, ht2⟩ := pt_cons hs1
    obtain rfl := pt_nil hs2
    obtain ⟨a3, c3, s3, t3, rfl, hs3, ht3⟩ := pt_cons ht2
    obtain rfl := pt_nil hs3
    obtain rfl := pt_nil ht3
    obtain rfl := pt_nil r13
    exact ⟨xnA, xnc, xA, xc, a1, c1, a2, c2, a3, c3, ynA, ync, yA, yc, rfl⟩
  | _ :: _ :: _ :: _, hr => exact hr.2.2.elim
section
variable (n0 : Option Addr) (m0 : Nat) (A : Option Addr) (c : Nat) (a1 : Option Addr) (c1 : Nat) (a2 : Option Addr) (c2 : Nat) (a3 : Option Addr) (c3 : Nat) (n1 : Option Addr) (m1 : Nat) (B : Option Addr) (d : Nat)
theorem w_refs : refsOf (Fo.cons 6 ⟨#[120]⟩ ⟨#[]⟩ 0 0 A c (wX a1 c1 a2 c2 a3 c3) .nil).vis = [(⟨#[]⟩, 9)] := by
  have e : refL (Fo.cons 6 ⟨#[120]⟩ ⟨#[]⟩ 0 0 A c (wX a1 c1 a2 c2 a3 c3) .nil).vis = [(⟨#[]⟩, 9)] := by kernel_rfl
  unfold refsOf sortNames
  rw [e, List.mergeSort_singleton]
  rfl
set_option maxRecDepth 100000 in
theorem w_check : checkE wL [] [wE0 n0 m0 A c a1 c1 a2 c2 a3 c3, wE1 n1 m1 ⟨#[121]⟩ B d] = 0 := by kernel_rfl
theorem w_name : nameB ⟨#[120]⟩ = true := by kernel_rfl
theorem w_idx : idxD [wE0 n0 m0 A c a1 c1 a2 c2 a3 c3, wE1 n1 m1 ⟨#[121]⟩ B d] 9 = some 1 := by rfl
theorem w_oth : ¬ othB [wE0 n0 m0 A c a1 c1 a2 c2 a3 c3, wE1 n1 m1 ⟨#[121]⟩ B d] 1 ⟨#[120]⟩ := by
  rintro ⟨j, z, hj, hz, _, hc⟩
  match j, hj, hz with
  | 0, _, hz =>
    simp only [List.getElem?_cons_zero, Option.some.injEq] at hz
    subst hz
    have h0 : ((nameOf (wE0 n0 m0 A c a1 c1 a2 c2 a3 c3)).toList == (⟨#[120]⟩ : ByteArray).toList) = false := by kernel_rfl
    rw [h0] at hc
    cases hc
  | 1, hj, _ => exact hj rfl
  | j + 2, _, hz => simp at hz
theorem w_ren {er : Int} (h : RenE wL [] [wE0 n0 m0 A c a1 c1 a2 c2 a3 c3, wE1 n1 m1 ⟨#[121]⟩ B d] 9 ⟨#[120]⟩ er) : er = 0 := by
  rcases h with ⟨h1, h2⟩ | ⟨_, ⟨h1, _⟩ | ⟨_, ⟨h1, _⟩ | ⟨q, hq, ⟨h1, _⟩ | ⟨_, h1⟩⟩⟩⟩
  · rw [w_check] at h1; exact absurd h1 h2
  · rw [w_name] at h1; cases h1
  · rw [w_idx] at h1; cases h1
  · rw [w_idx] at hq; cases hq; exact (w_oth n0 m0 A c a1 c1 a2 c2 a3 c3 n1 m1 B d h1).elim
  · exact h1
set_option maxRecDepth 100000 in
theorem w_unb : unbE wL [] [wE0 n0 m0 A c a1 c1 a2 c2 a3 c3, wE1 n1 m1 ⟨#[120]⟩ B d] [] = 6 := by kernel_rfl
end
theorem w_str {x : Dc} {nm : ByteArray} (h : x.names = [nm]) (hs : nm.size ≤ maxLen) : ∀ s ∈ x.names, s.size ≤ maxLen := fun s hm => by
  rw [h, List.mem_singleton] at hm
  rw [hm]
  exact hs
end Go.Proofs.YtacjjkbkhpdhnaaGreatDoor
/- law24.awake is true -/
namespace Go.Proofs.YtacjjkbkhpdhnaaGreatDoor
open Go.RowKit Go.Proofs Go.Shelf
theorem heap_push3 (w : World) (o : Obj) (k : Nat) : (w.alloc o).heap[k]? = if k = w.heap.size then some o else w.heap[k]? := by
  by_cases h : k = w.heap.size
  · subst h
    rw [if_pos rfl]
    exact heap_alloc_new w o
  · rw [if_neg h]
    by_cases h2 : k < w.heap.size
    · exact Below.heap_alloc _ _ _ h2
    · rw [Array.getElem?_eq_none (by simp; omega), Array.getElem?_eq_none (by omega)]
theorem alloc_size3 (w : World) (o : Obj) : (w.alloc o).heap.size = w.heap.size + 1 := by simp
def wO0 : Obj := .cells #[.int .i64 3, .string ⟨#[120]⟩, .string ⟨#[]⟩, .int .i64 0, .int .i64 0, .slice none 0 0] 28
def wO1 : Obj := .cells #[.int .i64 3, .string ⟨#[121]⟩, .string ⟨#[]⟩, .int .i64 0, .int .i64 0, .slice none 0 0] 28
def wO2 : Obj := .cells #[.int .i64 3, .string ⟨#[120]⟩, .string ⟨#[]⟩, .int .i64 0, .int .i64 0, .slice none 0 0, .int .i64 3, .string ⟨#[121]⟩, .string ⟨#[]⟩, .int .i64 0, .int .i64 0, .slice none 0 0] 28
def wO3 (h : Nat) : Obj := .cells #[.int .i64 10, .string ⟨#[43]⟩, .string ⟨#[]⟩, .int .i64 0, .int .i64 0, .slice (some ⟨h + 1 + 1, 0, none⟩) 2 2] 28
def wO4 : Obj := .cells #[.string ⟨#[102]⟩] 9
def wO6 : Obj := .cells #[.string ⟨#[121]⟩] 9
def wO7 (h : Nat) : Obj := .cells #[.int .i64 7, .int .i64 1, .bool false, .slice (some ⟨h + 1 + 1 + 1 + 1, 0, none⟩) 1 1, .bool false, .int .i64 6, .string ⟨#[120]⟩, .string ⟨#[]⟩, .int .i64 0, .int .i64 0, .slice (some ⟨h + 1 + 1 + 1 + 1 + 1, 0, none⟩) 1 1,
  .int .i64 9, .int .i64 1, .bool false, .slice (some ⟨h + 1 + 1 + 1 + 1 + 1 + 1, 0, none⟩) 1 1, .bool false, .int .i64 11, .string ⟨#[]⟩, .string ⟨#[]⟩, .int .i64 0, .int .i64 0, .slice none 0 0] 63
def wO8 (h : Nat) : Obj := .cells #[.slice none 0 0, .slice (some ⟨h + 1 + 1 + 1 + 1 + 1 + 1 + 1, 0, none⟩) 2 2] 40
def wW (w : World) : World := ((((((((w.alloc wO0).alloc wO1).alloc wO2).alloc (wO3 w.heap.size)).alloc wO4).alloc (wO3 w.heap.size)).alloc wO6).alloc (wO7 w.heap.size)).alloc (wO8 w.heap.size)
theorem wW_below (w : World) : Below w.heap.size w (wW w) := by
  unfold wW
  exact (((((((((Below.refl _ _).alloc (by simp) _).alloc (by simp <;> omega) _).alloc (by simp <;> omega) _).alloc (by simp <;> omega) _).alloc (by simp <;> omega) _).alloc (by simp <;> omega) _).alloc (by simp <;> omega) _).alloc (by simp <;> omega) _).alloc (by simp <;> omega) _
theorem w_slS {X : World} {nb : Nat} {nm : ByteArray} (h : X.heap[nb]? = some (.cells #[.string nm] 9 (0, 0))) : SlS X X.heap.size (some ⟨nb, 0, none⟩) 1 [nm] := by
  refine ⟨by simp, by simp [maxLen], fun _ => ⟨_, _, rfl, (Array.getElem?_eq_some_iff.1 h).1, fun j s hj => ?_⟩⟩
  cases j with
  | succ j => simp at hj
  | zero => simp at hj; subst hj; exact cell_of_row X nb 0 _ _ (0, 0) h
theorem wW_sld (w : World) : SlD (wW w) (wW w).heap.size (some ⟨w.heap.size + 1 + 1 + 1 + 1 + 1 + 1 + 1, 0, none⟩) 2 [wD0 w.heap.size, wD1 w.heap.size] := by
  have h2 : (wW w).heap[w.heap.size + 1 + 1]? = some wO2 := by unfold wW; simp only [heap_push3, alloc_size3]; simp
  have h4 : (wW w).heap[w.heap.size + 1 + 1 + 1 + 1]? = some wO4 := by unfold wW; simp only [heap_push3, alloc_size3]; simp
  have h5 : (wW w).heap[w.heap.size + 1 + 1 + 1 + 1 + 1]? = some (wO3 w.heap.size) := by unfold wW; simp only [heap_push3, alloc_size3]; simp
  have h6 : (wW w).heap[w.heap.size + 1 + 1 + 1 + 1 + 1 + 1]? = some wO6 := by unfold wW; simp only [heap_push3, alloc_size3]; simp
  have h7 : (wW w).heap[w.heap.size + 1 + 1 + 1 + 1 + 1 + 1 + 1]? = some (wO7 w.heap.size) := by unfold wW; simp only [heap_push3, alloc_size3]; simp
  generalize wW w = X at h2 h4 h5 h6 h7
  generalize w.heap.size = h at h2 h4 h5 h6 h7
  have l2 := (Array.getElem?_eq_some_iff.1 h2).1
  have l5 := (Array.getElem?_eq_some_iff.1 h5).1
  have l7 := (Array.getElem?_eq_some_iff.1 h7).1
  have r2 := fun q => cell_of_row X (h + 1 + 1) q _ _ (0, 0) h2
  have r5 := fun q => cell_of_row X (h + 1 + 1 + 1 + 1 + 1) q _ _ (0, 0) h5
  have r7 := fun q => cell_of_row X (h + 1 + 1 + 1 + 1 + 1 + 1 + 1) q _ _ (0, 0) h7
  refine ⟨by simp, by simp [maxLen], fun _ => ⟨_, _, rfl, l7, fun j x hx => ?_⟩⟩
  match j, hx with
  | 0, hx =>
    simp only [List.getElem?_cons_zero, Option.some.injEq] at hx
    subst hx
    refine ⟨fun q v hq => ?_, w_slS h4, ?_⟩
    · have hq' : q < 11 := (Array.getElem?_eq_some_iff.1 hq).1
      rw [show 0 + 0 * 11 + q = q by omega, r7 q, ← hq]
      match q, hq' with
      | 0, _ => rfl
      | 1, _ => rfl
      | 2, _ => rfl
      | 3, _ => rfl
      | 4, _ => rfl
      | 5, _ => rfl
      | 6, _ => rfl
      | 7, _ => rfl
      | 8, _ => rfl
      | 9, _ => rfl
      | 10, _ => rfl
    · refine ⟨by simp [wD0, wS, Fo.len], by simp [wD0, maxLen], fun _ => ⟨_, _, rfl, l5, ?_⟩⟩
      refine ⟨r5 0, r5 1, r5 2, r5 3, r5 4, ⟨r5 5, by simp [Fo.len], by simp [maxLen], fun _ => ⟨_, _, rfl, l2, ?_⟩⟩, trivial⟩
      exact ⟨r2 0, r2 1, r2 2, r2 3, r2 4, ⟨r2 5, by simp [Fo.len], by simp [maxLen], fun e => absurd rfl e⟩, r2 6, r2 7, r2 8, r2 9, r2 10, ⟨r2 11, by simp [Fo.len], by simp [maxLen], fun e => absurd rfl e⟩, trivial⟩
  | 1, hx =>
    simp only [List.getElem?_cons_succ, List.getElem?_cons_zero, Option.some.injEq] at hx
    subst hx
    refine ⟨fun q v hq => ?_, w_slS h6, ?_⟩
    · have hq' : q < 11 := (Array.getElem?_eq_some_iff.1 hq).1
      rw [show 0 + 1 * 11 + q = 11 + q by omega, r7 (11 + q), ← hq]
      match q, hq' with
      | 0, _ => rfl
      | 1, _ => rfl
      | 2, _ => rfl
      | 3, _ => rfl
      | 4, _ => rfl
      | 5, _ => rfl
      | 6, _ => rfl
      | 7, _ => rfl
      | 8, _ => rfl
      | 9, _ => rfl
      | 10, _ => rfl
    · exact Fo.Sl.nil _ _ _ _ (by simp [wD1, maxLen])
  | j + 2, hx => simp at hx
theorem w_strD (h : Nat) : StrD [wD0 h, wD1 h] := by
  intro x hx s hs
  rcases List.mem_cons.1 hx with rfl | hx
  · exact w_str rfl (by simp [maxLen, ByteArray.size]) s hs
  · rw [List.mem_singleton] at hx
    subst hx
    exact w_str rfl (by simp [maxLen, ByteArray.size]) s hs
theorem w_nmIn (h : Nat) : NmIn [wD0 h, wD1 h] := by
  intro x hx
  rcases List.mem_cons.1 hx with rfl | hx
  · refine ⟨?_, ?_, ?_⟩ <;> simp [wD0, wS, Fo.Str, maxLen, ByteArray.size]
  · rw [List.mem_singleton] at hx
    subst hx
    refine ⟨?_, ?_, ?_⟩ <;> simp [wD1, Fo.Str, maxLen, ByteArray.size]
section
variable (n0 : Option Addr) (m0 : Nat) (A : Option Addr) (c : Nat) (a1 : Option Addr) (c1 : Nat) (a2 : Option Addr) (c2 : Nat) (a3 : Option Addr) (c3 : Nat) (n1 : Option Addr) (m1 : Nat) (B : Option Addr) (d : Nat)
theorem w_strE : StrD [wE0 n0 m0 A c a1 c1 a2 c2 a3 c3, wE1 n1 m1 ⟨#[120]⟩ B d] := by
  intro x hx s hs
  rcases List.mem_cons.1 hx with rfl | hx
  · exact w_str rfl (by simp [maxLen, ByteArray.size]) s hs
  · rw [List.mem_singleton] at hx
    subst hx
    exact w_str rfl (by simp [maxLen, ByteArray.size]) s hs
theorem w_nmE : NmIn [wE0 n0 m0 A c a1 c1 a2 c2 a3 c3, wE1 n1 m1 ⟨#[120]⟩ B d] := by
  intro x hx
  rcases List.mem_cons.1 hx with rfl | hx
  · refine ⟨?_, ?_, ?_⟩ <;> simp [wE0, wX, Fo.Str, maxLen, ByteArray.size]
  · rw [List.mem_singleton] at hx
    subst hx
    refine ⟨?_, ?_, ?_⟩ <;> simp [wE1, Fo.Str, maxLen, ByteArray.size]
end
theorem w_nilI (w : World) : SlI w w.heap.size none 0 [] := ⟨by simp, by simp [maxLen], fun h => absurd rfl h⟩
def WBind (w : World) (e : Ending) (w' : World) : Prop := Below w.heap.size w w' ∧ ∃ b o c n0 m0 A c0 a1 c1 a2 c2 a3 c3 n1 m1 B d, SlD w' w'.heap.size (some ⟨b, o, none⟩) c [wE0 n0 m0 A c0 a1 c1 a2 c2 a3 c3, wE1 n1 m1 ⟨#[121]⟩ B d] ∧ e = .returned (.tuple #[.agg #[.string ⟨#[97, 47, 98]⟩, .slice none 0 0, .slice (some ⟨b, o, none⟩) 2 c], .int .i64 0])
theorem w_Bind (w : World) : Calls Tryz.prog 20 #[.string ⟨#[97, 47, 98]⟩, .agg #[.slice none 0 0, .slice (some ⟨w.heap.size + 1 + 1 + 1 + 1 + 1 + 1 + 1, 0, none⟩) 2 2], .slice none 0 0] (wW w) (WBind (wW w)) := by
  have h := bBind_any wL [] none 0 [wD0 w.heap.size, wD1 w.heap.size] (some ⟨w.heap.size + 1 + 1 + 1 + 1 + 1 + 1 + 1, 0, none⟩) 2 [] none 0 (wW w) (SlS.nil _ _ _ _ (by simp [maxLen])) (wW_sld w) (w_strD _) (w_nmIn _) (w_nilI _) (by simp)
  refine Calls.mono h ?_
  rintro e w1 ⟨hb1, ⟨hE, _⟩ | ⟨_, A, c, es, hr, hl, hsd, rfl⟩⟩
  · exact absurd (w_bind _) hE
  · obtain ⟨n0, m0, A0, c0, a1, c1, a2, c2, a3, c3, n1, m1, B, d, rfl⟩ := w_es hr
    obtain ⟨b, o, rfl, _, _⟩ := hsd.2.2 (by simp)
    exact ⟨hb1, b, o, c, n0, m0, A0, c0, a1, c1, a2, c2, a3, c3, n1, m1, B, d, hsd, rfl⟩
def WRen (w : World) (e : Ending) (w' : World) : Prop := Below w.heap.size w w' ∧ ∃ A c n0 m0 A0 c0 a1 c1 a2 c2 a3 c3 n1 m1 B d, SlD w' w'.heap.size A c [wE0 n0 m0 A0 c0 a1 c1 a2 c2 a3 c3, wE1 n1 m1 ⟨#[120]⟩ B d] ∧ e = .returned (.tuple #[.agg #[.string ⟨#[97, 47, 98]⟩, .slice none 0 0, .slice A 2 c], .int .i64 0])
theorem w_Ren {w : World} {b o c : Nat} {n0 : Option Addr} {m0 : Nat} {A : Option Addr} {c0 : Nat} {a1 : Option Addr} {c1 : Nat} {a2 : Option Addr} {c2 : Nat} {a3 : Option Addr} {c3 : Nat} {n1 : Option Addr} {m1 : Nat} {B : Option Addr} {d : Nat}
    (hsd : SlD w w.heap.size (some ⟨b, o, none⟩) c [wE0 n0 m0 A c0 a1 c1 a2 c2 a3 c3, wE1 n1 m1 ⟨#[121]⟩ B d]) :
    Calls Tryz.prog 26 #[.agg #[.string ⟨#[97, 47, 98]⟩, .slice none 0 0, .slice (some ⟨b, o, none⟩) 2 c], .int .i64 9, .string ⟨#[120]⟩] w (WRen w) := by
  have h := renameX_any wL [] none 0 _ (some ⟨b, o, none⟩) c 9 ⟨#[120]⟩ w (SlS.nil _ _ _ _ (by simp [maxLen])) hsd
  refine Calls.mono h ?_
  rintro e w1 ⟨lb, p1, k1, e1, p2, k2, e2, er, rfl, hb, hre, _, h0⟩
  have her := w_ren _ _ _ _ _ _ _ _ _ _ _ _ _ _ hre
  subst her
  obtain ⟨rfl, rfl, rfl, rfl, rfl, _, _, q, x, nA, hq, hx, _, hs⟩ := h0 rfl
  rw [w_idx] at hq
  cases hq
  simp only [List.getElem?_cons_succ, List.getElem?_cons_zero, Option.some.injEq] at hx
  subst hx
  exact ⟨hb, p2, e2, n0, m0, A, c0, a1, c1, a2, c2, a3, c3, nA, 1, B, d, hs, rfl⟩
theorem w_Unb {w : World} {A : Option Addr} {c : Nat} {n0 : Option Addr} {m0 : Nat} {A0 : Option Addr} {c0 : Nat} {a1 : Option Addr} {c1 : Nat} {a2 : Option Addr} {c2 : Nat} {a3 : Option Addr} {c3 : Nat} {n1 : Option Addr} {m1 : Nat} {B : Option Addr} {d : Nat}
    (hsd : SlD w w.heap.size A c [wE0 n0 m0 A0 c0 a1 c1 a2 c2 a3 c3, wE1 n1 m1 ⟨#[120]⟩ B d]) :
    Calls Tryz.prog 24 #[.agg #[.string ⟨#[97, 47, 98]⟩, .slice none 0 0, .slice A 2 c], .slice none 0 0] w fun e w' => e = .returned (.tuple #[.agg #[.slice none 0 0, .slice none 0 0], .int .i64 6]) ∧ Below w.heap.size w w' := by
  have h := bUnbind_any wL [] none 0 _ A c [] none 0 w (SlS.nil _ _ _ _ (by simp [maxLen])) hsd (w_strE _ _ _ _ _ _ _ _ _ _ _ _ _ _) (w_nmE _ _ _ _ _ _ _ _ _ _ _ _ _ _) (w_nilI _)
  refine Calls.mono h ?_
  rintro e w1 ⟨hb, ⟨_, rfl⟩ | ⟨h0, _⟩⟩
  · rw [w_unb]
    exact ⟨rfl, hb⟩
  · rw [w_unb] at h0
    cases h0
set_option maxRecDepth 100000 in
set_option maxHeartbeats 8000000 in
theorem awake24_any (w : World) : Calls Tryz.prog 11 #[] w fun e w' => e = .returned (.bool true) ∧ Below w.heap.size w w' := by
  have HB0 := Lib.hid (wW_below w)
  go_enter Tryz.func11, Tryz.ntmps11
  go_wp2_with fail
  refine (w_Bind w).mono ?_
  obtain ⟨W0, hW0⟩ : ∃ q, wW w = q := ⟨_, rfl⟩
  rw [hW0] at HB0 ⊢
  clear hW0
  rintro e w1 ⟨hb1, b, o, c, n0, m0, A, c0, a1, c1, a2, c2, a3, c3, n1, m1, B, d, hsd, rfl⟩
  obtain ⟨W2, hW2⟩ : ∃ q, w1.alloc (.cells #[.string ⟨#[97, 47, 98]⟩, .slice none 0 0, .slice (some ⟨b, o, none⟩) 2 c] 25) = q := ⟨_, rfl⟩
  have hb2 : Below w1.heap.size w1 W2 := by rw [← hW2]; exact (Below.refl _ _).alloc (Nat.le_refl _) _
  have hz2 : w1.heap.size < W2.heap.size := by rw [← hW2]; simp
  have hm2 : W2.heap[w1.heap.size]? = some (.cells #[.string ⟨#[97, 47, 98]⟩, .slice none 0 0, .slice (some ⟨b, o, none⟩) 2 c] 25 (0, 0)) := by rw [← hW2]; exact heap_alloc_new _ _
  have hsd2 : SlD W2 W2.heap.size (some ⟨b, o, none⟩) c [wE0 n0 m0 A c0 a1 c1 a2 c2 a3 c3, wE1 n1 m1 ⟨#[121]⟩ B d] := hsd.keep hb2.size fun p hp => hb2.cell hp
  obtain ⟨b', o', hbo, hb, hall⟩ := hsd2.2.2 (by simp)
  cases hbo
  obtain ⟨hc0, hok0⟩ := hall 0 _ rfl
  have t2 : W2.cell? ⟨w1.heap.size, 2, none⟩ = some (.slice (some ⟨b, o, none⟩) 2 c) := cell_of_row W2 _ 2 _ _ (0, 0) hm2
  have d5 : W2.cell? ⟨b, o + 5, none⟩ = some (.int .i64 6) := by simpa using hc0 5 (.int .i64 6) rfl
  have d6 : W2.cell? ⟨b, o + 6, none⟩ = some (.string ⟨#[120]⟩) := by simpa using hc0 6 (.string ⟨#[120]⟩) rfl
  have d7 : W2.cell? ⟨b, o + 7, none⟩ = some (.string ⟨#[]⟩) := by simpa using hc0 7 (.string ⟨#[]⟩) rfl
  have d8 : W2.cell? ⟨b, o + 8, none⟩ = some (.int .i64 0) := by simpa using hc0 8 (.int .i64 0) rfl
  have d9 : W2.cell? ⟨b, o + 9, none⟩ = some (.int .i64 0) := by simpa using hc0 9 (.int .i64 0) rfl
  have d10 : W2.cell? ⟨b, o + 10, none⟩ = some (.slice A 1 c0) := by simpa using hc0 10 (.slice A 1 c0) rfl
  have hcap := hsd.1
  have hcap2 := hsd.2.1
  unfold maxLen at hcap2
  have hrf := refs_any 6 ⟨#[120]⟩ ⟨#[]⟩ 0 0 A c0 (wX a1 c1 a2 c2 a3 c3) W2 hok0.2 (by simp [wX, Fo.count])
  rw [w_refs] at hrf
  have HRF := Lib.hid hrf
  have HH := Lib.hid (And.intro (HB0.out.trans ((hb1.trans (hb2.mono hb1.size)).mono HB0.out.size)) (And.intro hsd2 (And.intro hm2 hz2)))
  simp only [List.length_cons, List.length_nil] at hcap
  clear hb1 hsd hb2 hsd2 hall hc0 hok0 hrf hm2
  go_wp2_with fail
  refine HRF.out.mono ?_
  rintro e w3 ⟨v, rfl, hown, hb3⟩
  obtain ⟨A3, k3, rfl⟩ := own_formR hown
  obtain ⟨W4, hW4⟩ : ∃ q, w3.alloc (.cells #[.string ⟨#[]⟩, .int .i64 9] 71) = q := ⟨_, rfl⟩
  have hb4 : Below w3.heap.size w3 W4 := by rw [← hW4]; exact (Below.refl _ _).alloc (Nat.le_refl _) _
  have hn4 : W4.heap[w3.heap.size]? = some (.cells #[.string ⟨#[]⟩, .int .i64 9] 71 (0, 0)) := by rw [← hW4]; exact heap_alloc_new _ _
  have hs1 : SlN W4 W4.heap.size A3 k3 [(⟨#[]⟩, 9)] := (SlN.of_own hown).below hb4
  have hs2 : SlN W4 W4.heap.size (some ⟨w3.heap.size, 0, none⟩) 1 [(⟨#[]⟩, 9)] := ⟨by simp, by simp [maxLen], fun _ => ⟨_, _, rfl, (Array.getElem?_eq_some_iff.1 hn4).1, fun j x hx => by
    match j, hx with
    | 0, hx =>
      simp only [List.getElem?_cons_zero, Option.some.injEq] at hx
      subst hx
      exact ⟨cell_of_row W4 _ 0 _ _ (0, 0) hn4, cell_of_row W4 _ 1 _ _ (0, 0) hn4⟩
    | j + 1, hx => simp at hx⟩⟩
  have heq := slcEqualSl_any [(⟨#[]⟩, 9)] [(⟨#[]⟩, 9)] A3 k3 (some ⟨w3.heap.size, 0, none⟩) 1 W4 hs1 hs2
  rw [decide_eq_true rfl] at heq
  have HEQ := Lib.hid heq
  have HB4 := Lib.hid (hb3.trans (hb4.mono hb3.size))
  clear hb3 hown hb4 hn4 hs1 hs2 heq t2 d5 d6 d7 d8 d9 d10
  go_wp2_with fail
  refine HEQ.out.mono ?_
  rintro e w5 ⟨rfl, nq, rfl⟩
  obtain ⟨W5, hW5⟩ : ∃ q, W4.drewN nq = q := ⟨_, rfl⟩
  have hb5 : Below W2.heap.size W2 W5 := by rw [← hW5]; exact below_drewN HB4.out nq
  rw [hW5]
  have hm5 := (hb5.block _ HH.out.2.2.2).trans HH.out.2.2.1
  have hren := w_Ren (HH.out.2.1.keep hb5.size fun p hp => hb5.cell hp)
  have HREN := Lib.hid hren
  have t0 : W5.cell? ⟨w1.heap.size, 0, none⟩ = some (.string ⟨#[97, 47, 98]⟩) := cell_of_row W5 _ 0 _ _ (0, 0) hm5
  have t1 : W5.cell? ⟨w1.heap.size, 1, none⟩ = some (.slice none 0 0) := cell_of_row W5 _ 1 _ _ (0, 0) hm5
  have t2 : W5.cell? ⟨w1.heap.size, 2, none⟩ = some (.slice (some ⟨b, o, none⟩) 2 c) := cell_of_row W5 _ 2 _ _ (0, 0) hm5
  have HB5 := Lib.hid hb5
  clear hren hm5 hb5 hW5
  go_wp2_with fail
  refine HREN.out.mono ?_
  rintro e w6 ⟨hb6, A6, c6, g0, k0, A7, e0, g1, e1, g2, e2, g3, e3, g4, e4, B5, d0, hsd6, rfl⟩
  obtain ⟨W7, hW7⟩ : ∃ q, w6.alloc (.cells #[.string ⟨#[97, 47, 98]⟩, .slice none 0 0, .slice A6 2 c6] 25) = q := ⟨_, rfl⟩
  have hb7 : Below w6.heap.size w6 W7 := by rw [← hW7]; exact (Below.refl _ _).alloc (Nat.le_refl _) _
  have hm7 : W7.heap[w6.heap.size]? = some (.cells #[.string ⟨#[97, 47, 98]⟩, .slice none 0 0, .slice A6 2 c6] 25 (0, 0)) := by rw [← hW7]; exact heap_alloc_new _ _
  have HUNB := Lib.hid (w_Unb (hsd6.keep hb7.size fun p hp => hb7.cell hp))
  have u0 : W7.cell? ⟨w6.heap.size, 0, none⟩ = some (.string ⟨#[97, 47, 98]⟩) := cell_of_row W7 _ 0 _ _ (0, 0) hm7
  have u1 : W7.cell? ⟨w6.heap.size, 1, none⟩ = some (.slice none 0 0) := cell_of_row W7 _ 1 _ _ (0, 0) hm7
  have u2 : W7.cell? ⟨w6.heap.size, 2, none⟩ = some (.slice A6 2 c6) := cell_of_row W7 _ 2 _ _ (0, 0) hm7
  have HB7 := Lib.hid (HB5.out.trans ((hb6.trans (hb7.mono hb6.size)).mono HB5.out.size))
  clear hb6 hb7 hm7 hsd6 t0 t1 t2
  go_wp2_with fail
  refine HUNB.out.mono ?_
  rintro e w8 ⟨rfl, hb8⟩
  have HB8 := Lib.hid (HB7.out.trans (hb8.mono HB7.out.size))
  clear hb8 u0 u1 u2
  go_wp2
  go_ret
  refine ⟨rfl, HH.out.1.trans (Below.mono ?_ HH.out.1.size)⟩
  exact Below.alloc HB8.out HB8.out.size _
end Go.Proofs.YtacjjkbkhpdhnaaGreatDoor
