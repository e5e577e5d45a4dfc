/- bind.Rename -/
import Derived.Test.YtdobpmbgngomlaaGreatDoorZnj
import Derived.Test.YtdobpmbgngomlaaGreatDoorZls
import Derived.Deep.DeepCutAuto
namespace Go.Proofs.YtdobpmbgngomlaaGreatDoor
open Go.RowKit Go.Proofs Go.Shelf

theorem three_set' {W : World} {b : Nat} {a0 a1 a2 : Value} {t : TypeId} (h : W.heap[b]? = some (.cells #[a0, a1, a2] t (0, 0))) (u0 u1 u2 : Value) :
    (((W.setCell ⟨b, 0, none⟩ u0).setCell ⟨b, 1, none⟩ u1).setCell ⟨b, 2, none⟩ u2).heap[b]? = some (.cells #[u0, u1, u2] t (0, 0)) := by
  have h0 := heap_setCell_same W b 0 _ t u0 h
  have h1 := heap_setCell_same _ b 1 _ t u1 h0
  have h2 := heap_setCell_same _ b 2 _ t u2 h1
  rw [h2]
  rfl
theorem setN_cells (x : Dc) (nA : Option Addr) (nc : Nat) (l : List ByteArray) : ∀ k, k ≠ 3 → ({ x with nA := nA, nc := nc, names := l } : Dc).cells[k]? = x.cells[k]?
  | 0, _ => rfl
  | 1, _ => rfl
  | 2, _ => rfl
  | 3, h => absurd rfl h
  | 4, _ => rfl
  | 5, _ => rfl
  | 6, _ => rfl
  | 7, _ => rfl
  | 8, _ => rfl
  | 9, _ => rfl
  | 10, _ => rfl
  | k + 11, _ => by
    rw [Array.getElem?_eq_none (by simp [Dc.cells]), Array.getElem?_eq_none (by simp [Dc.cells])]
/-- The cloned declarations, one of them renamed. -/
theorem ren_sld {w WF : World} {decls : List Dc} {q g cap nb dc : Nat} {dA : Option Addr} {x : Dc} {name : ByteArray} (hd : SlD w w.heap.size dA dc decls) (hbF : Below w.heap.size w WF) (hx : decls[q]? = some x) (hcap : decls.length ≤ cap) (hcm : cap ≤ maxLen) (hg : g < WF.heap.size)
    (hcells : ∀ m, m < decls.length * 11 → m ≠ q * 11 + 3 → WF.cell? ⟨g, m, none⟩ = (dcC decls)[m]?) (hq : WF.cell? ⟨g, q * 11 + 3, none⟩ = some (.slice (some ⟨nb, 0, none⟩) 1 1)) (hn : WF.cell? ⟨nb, 0, none⟩ = some (.string name)) :
    SlD WF WF.heap.size (some ⟨g, 0, none⟩) cap (decls.set q { x with nA := some ⟨nb, 0, none⟩, nc := 1, names := [name] }) := by
  have hql : q < decls.length := (List.getElem?_eq_some_iff.1 hx).1
  refine ⟨by rw [List.length_set]; exact hcap, hcm, fun _ => ⟨g, 0, rfl, hg, fun j z hz => ?_⟩⟩
  have hjl : j < decls.length := by
    have := (List.getElem?_eq_some_iff.1 hz).1
    rwa [List.length_set] at this
  have hokAll : ∀ y, decls[j]? = some y → y.Ok w w.heap.size := fun y hy => by
    obtain ⟨b, o, _, _, hall⟩ := hd.2.2 (by intro e; rw [e] at hjl; simp at hjl)
    exact (hall j y hy).2
  by_cases hj : j = q
  · subst hj
    rw [List.getElem?_set_self hql] at hz
    obtain rfl := (Option.some.inj hz).symm
    refine ⟨fun k u hk => ?_, ?_, ?_⟩
    · by_cases h3 : k = 3
      · subst h3
        have : u = .slice (some ⟨nb, 0, none⟩) 1 1 := (Option.some.inj hk).symm
        rw [this, Nat.zero_add]
        exact hq
      · have hk11 : k < 11 := (Array.getElem?_eq_some_iff.1 hk).1
        rw [setN_cells x _ _ _ k h3] at hk
        rw [Nat.zero_add, hcells _ (by omega) (by omega)]
        exact dcC_at decls j x hx k u hk
    · exact ⟨by simp, by simp [maxLen], fun _ => ⟨nb, 0, rfl, World.block_lt_of_cell? WF ⟨nb, 0, none⟩ hn, fun i s hi => by
        match i, hi with
        | 0, hi =>
          simp only [List.getElem?_cons_zero, Option.some.injEq] at hi
          subst hi
          exact hn
        | i + 1, hi => simp at hi⟩⟩
    · exact (hokAll x hx).2.keep hbF.size fun p hp => hbF.cell hp
  · rw [List.getElem?_set_ne (by omega)] at hz
    refine ⟨fun k u hk => ?_, (hokAll z hz).1.keep hbF.size fun p hp => hbF.cell hp, (hokAll z hz).2.keep hbF.size fun p hp => hbF.cell hp⟩
    have hk11 : k < 11 := (Array.getElem?_eq_some_iff.1 hk).1
    rw [Nat.zero_add, hcells _ (by omega) (by omega)]
    exact dcC_at decls j z hz k u hk

theorem names_one {x : Dc} (h : x.names.length = 1) : x.names[0]'(by omega) = nameOf x := by
  obtain ⟨s, hs⟩ := List.length_eq_one_iff.1 h
  have h0 : x.names[0]? = some (nameOf x) := by
    unfold nameOf
    rw [hs]
    rfl
  exact (List.getElem?_eq_some_iff.1 h0).2
/-- What Rename answers. -/
def RenP (label : ByteArray) (uses : List ByteArray) (uA : Option Addr) (uc : Nat) (decls : List Dc) (name : ByteArray) (w : World) (e : Ending) (w' : World) : Prop :=
  ∃ lb a1 n1 c1 a2 n2 c2 er, e = .returned (.tuple #[.agg #[.string lb, .slice a1 n1 c1, .slice a2 n2 c2], .int .i64 er]) ∧ Below w.heap.size w w' ∧
    (er = 0 → lb = label ∧ a1 = uA ∧ n1 = uses.length ∧ c1 = uc ∧ n2 = decls.length ∧ nameB name = true ∧ checkE label uses decls = 0 ∧
      ∃ q x nA, decls[q]? = some x ∧ (∀ j z, j ≠ q → decls[j]? = some z → z.names.length = 1 → ((nameOf z).toList == name.toList) = false) ∧ SlD w' w'.heap.size a2 c2 (decls.set q { x with nA := nA, nc := 1, names := [name] }))

set_option maxRecDepth 100000 in
set_option maxHeartbeats 4000000 in
theorem rename_any (label : ByteArray) (uses : List ByteArray) (uA : Option Addr) (uc : Nat) (decls : List Dc) (dA : Option Addr) (dc : Nat) (id : Int) (name : ByteArray) (w : World) (hu : SlS w w.heap.size uA uc uses) (hd : SlD w w.heap.size dA dc decls) :
    Calls Tryz.prog 31 #[.agg #[.string label, .slice uA uses.length uc, .slice dA decls.length dc], .int .i64 id, .string name] w (RenP label uses uA uc decls name w) := by
  obtain ⟨N, HN⟩ : ∃ Q, Hid (decls.length = Q) := ⟨_, Lib.hid rfl⟩
  obtain ⟨NU, HNU⟩ : ∃ Q, Hid (uses.length = Q) := ⟨_, Lib.hid rfl⟩
  obtain ⟨W0, hW0⟩ : ∃ W0, ((w.alloc (.cells #[.string label, .slice uA NU uc, .slice dA N dc] 41)).alloc (.cells #[.int .i64 id] 3)).alloc (.cells #[.string ⟨#[]⟩, .slice none 0 0, .slice none 0 0] 41) = W0 := ⟨_, rfl⟩
  have hzw : w.heap.size + 1 + 1 < W0.heap.size := by subst hW0; simp
  have hB0 : Below w.heap.size w W0 := by subst hW0; exact (((Below.refl _ _).alloc (Nat.le_refl _) _).alloc (by simp) _).alloc (by simp; omega) _
  have hx0 : W0.heap[w.heap.size]? = some (.cells #[.string label, .slice uA NU uc, .slice dA N dc] 41 (0, 0)) := by rw [← hW0]; exact (Below.heap_alloc _ _ _ (by simp; omega)).trans ((Below.heap_alloc _ _ _ (by simp)).trans (heap_alloc_new w _))
  have hi0 : W0.heap[w.heap.size + 1]? = some (.cells #[.int .i64 id] 3 (0, 0)) := by
    rw [← hW0]
    refine (Below.heap_alloc _ _ _ (by simp)).trans ?_
    have h := heap_alloc_new (w.alloc (.cells #[.string label, .slice uA NU uc, .slice dA N dc] 41)) (.cells #[.int .i64 id] 3)
    simpa using h
  have hy0 : W0.heap[w.heap.size + 1 + 1]? = some (.cells #[.string ⟨#[]⟩, .slice none 0 0, .slice none 0 0] 41 (0, 0)) := by
    have h := heap_alloc_new ((w.alloc (.cells #[.string label, .slice uA NU uc, .slice dA N dc] 41)).alloc (.cells #[.int .i64 id] 3)) (.cells #[.string ⟨#[]⟩, .slice none 0 0, .slice none 0 0] 41)
    rw [hW0] at h
    simpa using h
  have HC : Hid (∀ X, Below W0.heap.size W0 X → Below w.heap.size w X ∧ w.heap.size + 1 + 1 < X.heap.size ∧ SlS X X.heap.size uA uc uses ∧ SlD X X.heap.size dA dc decls ∧ X.cell? ⟨w.heap.size, 0, none⟩ = some (.string label) ∧ X.cell? ⟨w.heap.size, 1, none⟩ = some (.slice uA NU uc) ∧ X.cell? ⟨w.heap.size, 2, none⟩ = some (.slice dA N dc) ∧ X.cell? ⟨w.heap.size + 1, 0, none⟩ = some (.int .i64 id) ∧ X.heap[w.heap.size + 1 + 1]? = some (.cells #[.string ⟨#[]⟩, .slice none 0 0, .slice none 0 0] 41 (0, 0))) := fun X hX => by
    have hx := (hX.block w.heap.size (by omega)).trans hx0
    have hi := (hX.block (w.heap.size + 1) (by omega)).trans hi0
    have hb := hB0.trans (hX.mono (by omega))
    exact ⟨hb, Nat.lt_of_lt_of_le hzw hX.size, hu.keep (by have := hb.size; omega) (fun p hp => hb.cell hp), hd.keep (by have := hb.size; omega) (fun p hp => hb.cell hp), cell_of_row X w.heap.size 0 _ _ (0, 0) hx, cell_of_row X w.heap.size 1 _ _ (0, 0) hx, cell_of_row X w.heap.size 2 _ _ (0, 0) hx, cell_of_row X (w.heap.size + 1) 0 _ _ (0, 0) hi, (hX.block _ hzw).trans hy0⟩
  have HFail : Hid (∀ (X : World) (er : Int), Below w.heap.size w X → er ≠ 0 → RenP label uses uA uc decls name w (.returned (.tuple #[.agg #[.string ⟨#[]⟩, .slice none 0 0, .slice none 0 0], .int .i64 er])) (((X.setCell ⟨w.heap.size + 1 + 1, 0, none⟩ (.string ⟨#[]⟩)).setCell ⟨w.heap.size + 1 + 1, 1, none⟩ (.slice none 0 0)).setCell ⟨w.heap.size + 1 + 1, 2, none⟩ (.slice none 0 0))) := by
    intro X er hb hne
    exact ⟨_, _, _, _, _, _, _, _, rfl, ((hb.setCell (by simp; omega) _).setCell (by simp; omega) _).setCell (by simp; omega) _, fun h => absurd h hne⟩
  have HROW : Hid (∀ X : World, X.heap[w.heap.size + 1 + 1]? = some (.cells #[.string ⟨#[]⟩, .slice none 0 0, .slice none 0 0] 41 (0, 0)) → ∀ u0 u1 u2 : Value, X.cell? ⟨w.heap.size + 1 + 1, 0, none⟩ = some (.string ⟨#[]⟩) ∧ X.cell? ⟨w.heap.size + 1 + 1, 1, none⟩ = some (.slice none 0 0) ∧ X.cell? ⟨w.heap.size + 1 + 1, 2, none⟩ = some (.slice none 0 0) ∧
      X.frozen? ⟨w.heap.size + 1 + 1, 0, none⟩ = false ∧ X.frozen? ⟨w.heap.size + 1 + 1, 1, none⟩ = false ∧ X.frozen? ⟨w.heap.size + 1 + 1, 2, none⟩ = false ∧
      (((X.setCell ⟨w.heap.size + 1 + 1, 0, none⟩ u0).setCell ⟨w.heap.size + 1 + 1, 1, none⟩ u1).setCell ⟨w.heap.size + 1 + 1, 2, none⟩ u2).cell? ⟨w.heap.size + 1 + 1, 0, none⟩ = some u0 ∧
      (((X.setCell ⟨w.heap.size + 1 + 1, 0, none⟩ u0).setCell ⟨w.heap.size + 1 + 1, 1, none⟩ u1).setCell ⟨w.heap.size + 1 + 1, 2, none⟩ u2).cell? ⟨w.heap.size + 1 + 1, 1, none⟩ = some u1 ∧
      (((X.setCell ⟨w.heap.size + 1 + 1, 0, none⟩ u0).setCell ⟨w.heap.size + 1 + 1, 1, none⟩ u1).setCell ⟨w.heap.size + 1 + 1, 2, none⟩ u2).cell? ⟨w.heap.size + 1 + 1, 2, none⟩ = some u2) := fun X hy u0 u1 u2 => by
    have hts := three_set' hy u0 u1 u2
    exact ⟨cell_of_row X _ 0 _ _ (0, 0) hy, cell_of_row X _ 1 _ _ (0, 0) hy, cell_of_row X _ 2 _ _ (0, 0) hy, frozen_of_row X _ 0 _ _ hy, frozen_of_row X _ 1 _ _ hy, frozen_of_row X _ 2 _ _ hy, cell_of_row _ _ 0 _ _ (0, 0) hts, cell_of_row _ _ 1 _ _ (0, 0) hts, cell_of_row _ _ 2 _ _ (0, 0) hts⟩
  have hul := hu.1
  have hul2 := hu.2.1
  have hdl := hd.1
  have hdl2 := hd.2.1
  unfold maxLen at hul2 hdl2
  rw [HNU.out] at hul ⊢
  rw [HN.out] at hdl ⊢
  have HUD := Lib.hid (And.intro hu hd)
  clear hx0 hi0 hy0 hu hd hB0
  obtain ⟨E1, HE1⟩ : ∃ Q, Hid (checkE label uses decls = Q) := ⟨_, Lib.hid rfl⟩
  obtain ⟨hBa, hza, hsa, hda, y0, y1, y2, yi, hya⟩ := HC.out W0 (Below.refl _ _)
  have hck := bCheck_any label uses uA uc decls dA dc W0 hsa hda
  rw [HNU.out, HN.out, HE1.out] at hck
  have HCK := Lib.hid hck
  clear hck hsa hda hBa hya
  go_enter Tryz.func31, Tryz.ntmps31
  go_wp2_with fail
  refine HCK.out.mono ?_
  rintro e w1 ⟨rfl, hb1⟩
  obtain ⟨hB1, hz1', hs1, hd1, x0, x1, x2, xi, hy1⟩ := HC.out w1 hb1
  have HB1 := Lib.hid (And.intro hb1 (And.intro hB1 hy1))
  clear y0 y1 y2 yi hW0 HCK
  by_cases e1 : E1 = 0
  rotate_left
  · have e1' : (E1 != 0) = true := by simpa using e1
    obtain ⟨c0, c1, c2, f0, f1, f2, g0, g1, g2⟩ := HROW.out w1 hy1 (.string ⟨#[]⟩) (.slice none 0 0) (.slice none 0 0)
    have HG := Lib.hid (And.intro g0 (And.intro g1 g2))
    have HR := Lib.hid (HFail.out w1 E1 hB1 e1)
    clear g0 g1 g2 hy1 hs1 hd1 hb1 hB1
    go_wp2
    exact bodyPost_ret (v := .tuple #[.agg #[.string ⟨#[]⟩, .slice none 0 0, .slice none 0 0], .int .i64 E1]) (by simp [results, Tryz.results31, go_sem, HG.out.1, HG.out.2.1, HG.out.2.2]) rfl HR.out
  subst e1
  obtain ⟨_, hlen, _⟩ := checkE_zero HE1.out
  rw [HN.out] at hlen
  have HNM := Lib.hid (isName_any name w1)
  clear hs1 hd1 hb1 hB1 hy1
  obtain ⟨nb, Hnb⟩ : ∃ Q, Hid (nameB name = Q) := ⟨_, Lib.hid rfl⟩
  rw [Hnb.out] at HNM
  go_wp2_with fail
  refine HNM.out.mono ?_
  rintro e w2 ⟨rfl, hb2⟩
  have hb2' := HB1.out.1.trans (hb2.mono HB1.out.1.size)
  obtain ⟨hB2, hz2', hs2, hd2, z0, z1, z2, zi, hy2⟩ := HC.out w2 hb2'
  have HB2 := Lib.hid (And.intro hb2' (And.intro hB2 hy2))
  clear x0 x1 x2 xi HNM hb2 hb2'
  cases nb
  · obtain ⟨c0, c1, c2, f0, f1, f2, g0, g1, g2⟩ := HROW.out w2 hy2 (.string ⟨#[]⟩) (.slice none 0 0) (.slice none 0 0)
    have HG := Lib.hid (And.intro g0 (And.intro g1 g2))
    have HR := Lib.hid (HFail.out w2 6 hB2 (by decide))
    clear g0 g1 g2 hy2 hs2 hd2 hB2
    go_wp2
    exact bodyPost_ret (v := .tuple #[.agg #[.string ⟨#[]⟩, .slice none 0 0, .slice none 0 0], .int .i64 6]) (by simp [results, Tryz.results31, go_sem, HG.out.1, HG.out.2.1, HG.out.2.2]) rfl HR.out
  have hix := indexFnD_any decls id (w.heap.size + 1) dA dc w2 hd2 zi
  rw [HN.out] at hix
  have HIX := Lib.hid hix
  clear hix hs2 hd2 hB2 hy2
  go_wp2_with fail
  refine HIX.out.mono ?_
  rintro e w3 ⟨at_, rfl, hb3, hat⟩
  have hb3' := HB2.out.1.trans (hb3.mono HB2.out.1.size)
  obtain ⟨hB3, hz3', hs3, hd3, v0, v1, v2, vi, hy3⟩ := HC.out w3 hb3'
  have HB3 := Lib.hid (And.intro hb3' (And.intro hB3 (And.intro hy3 (And.intro hs3 hd3))))
  clear z0 z1 z2 zi HIX hb3 hb3'
  rcases hat with rfl | ⟨q, rfl, hq⟩
  · obtain ⟨c0, c1, c2, f0, f1, f2, g0, g1, g2⟩ := HROW.out w3 hy3 (.string ⟨#[]⟩) (.slice none 0 0) (.slice none 0 0)
    have HG := Lib.hid (And.intro g0 (And.intro g1 g2))
    have HR := Lib.hid (HFail.out w3 8 hB3 (by decide))
    clear g0 g1 g2 hy3 hs3 hd3 hB3
    go_wp2
    exact bodyPost_ret (v := .tuple #[.agg #[.string ⟨#[]⟩, .slice none 0 0, .slice none 0 0], .int .i64 8]) (by simp [results, Tryz.results31, go_sem, HG.out.1, HG.out.2.1, HG.out.2.2]) rfl HR.out
  clear hy3 hs3 hd3 hB3
  go_wp2
  go_loopg [10, 11, 33] N (fun g _ _ ct wr => ∃ j : Nat, g = N - j ∧ j ≤ N ∧ ct = .int .i64 j ∧ (∀ i z, i < j → i ≠ q → decls[i]? = some z → z.names.length = 1 → ((nameOf z).toList == name.toList) = false) ∧ Below w3.heap.size w3 wr)
  case atStart => exact ⟨0, rfl, by omega, rfl, fun i z hi => absurd hi (by omega), Below.refl _ _⟩
  case round =>
    obtain ⟨j, HG, hj, rfl, HA, hBr⟩ := hrel
    have hzr := hBr.size
    by_cases hlt : j < N
    · have hlt' : j < decls.length := by rw [HN.out]; exact hlt
      have hj3 : decls[j]? = some decls[j] := List.getElem?_eq_getElem hlt'
      obtain ⟨b, o, rfl, hb, d0, d1, d2, d3, d4, d5, d6, d7, d8, d9, d10, hxok⟩ := HB3.out.2.2.2.2.cells_at (fun p hp => hBr.cell hp) hj3
      have HE := Lib.hid (And.intro HG (And.intro HA (And.intro hBr hj3)))
      have hnm := hxok.1
      clear HG HA hBr hj3 hxok v0 v1 v2 vi
      generalize decls[j] = x at d0 d1 d2 d3 d4 d5 d6 d7 d8 d9 d10 HE hnm
      obtain ⟨W5, hW5⟩ : ∃ W5, wr.alloc (.cells #[.int .i64 x.id, .int .i64 x.kind, .bool x.pub, .slice x.nA x.names.length x.nc, .bool x.doubt, .int .i64 x.k, .string x.n, .string x.m, .int .i64 x.i, .int .i64 x.d, .slice x.A x.s.len x.c] 44) = W5 := ⟨_, rfl⟩
      have hB5 : Below wr.heap.size wr W5 := by rw [← hW5]; exact (Below.refl _ _).alloc (Nat.le_refl _) _
      have f3 : W5.cell? ⟨wr.heap.size, 3, none⟩ = some (.slice x.nA x.names.length x.nc) := by subst hW5; go_simp
      have HB5 := Lib.hid (HE.out.2.2.1.trans (hB5.mono hzr))
      have HNX : Hid ((j ≠ q → x.names.length = 1 → ((nameOf x).toList == name.toList) = false) → ∀ i z, i < j + 1 → i ≠ q → decls[i]? = some z → z.names.length = 1 → ((nameOf z).toList == name.toList) = false) := fun h i z hi hne hz h1 => by
        by_cases hij : i = j
        · subst hij
          have : z = x := Option.some.inj (hz.symm.trans HE.out.2.2.2)
          subst this
          exact h hne h1
        · exact HE.out.2.1 i z (by omega) hne hz h1
      by_cases hjq : j = q
      · have hne : ((j : Int) != (q : Int)) = false := by simp [hjq]
        have HN2 := Lib.hid (HNX.out fun h => absurd hjq h)
        clear hjq hnm hB5
        go_wp2
        go_roundg (N - (j + 1))
        case measure => rw [HE.out.1]; omega
        case rel => exact ⟨j + 1, rfl, by omega, by go_num, HN2.out, HB5.out⟩
      · have hne : ((j : Int) != (q : Int)) = true := by simp; omega
        by_cases h1 : x.names.length = 1
        rotate_left
        · have h1' : ((x.names.length : Int) == 1) = false := by simp; omega
          have HN2 := Lib.hid (HNX.out fun _ h => absurd h h1)
          clear hjq hnm hB5 h1
          go_wp2
          go_roundg (N - (j + 1))
          case measure => rw [HE.out.1]; omega
          case rel => exact ⟨j + 1, rfl, by omega, by go_num, HN2.out, HB5.out⟩
        · have hwr : SlS W5 w3.heap.size x.nA x.nc x.names := hnm.keep (Nat.le_refl _) fun p hp => HB5.out.cell hp
          obtain ⟨nbk, no, hnA, hnb, hncell⟩ := hwr.at_ (j := 0) (by omega)
          have hnc2 := hwr.1
          have hnc3 := hwr.2.1
          unfold maxLen at hnc3
          have hnm0 : x.names[0]'(by omega) = nameOf x := names_one h1
          rw [hnm0, Nat.add_zero] at hncell
          rw [hnA] at f3
          rw [h1] at f3 hnc2
          have HN2 : Hid (((nameOf x).toList == name.toList) = false → _) := fun h => HNX.out fun _ _ => h
          rw [hnA, h1] at hW5 d3
          clear hjq hnm hB5 hwr hnm0
          generalize nameOf x = nm at hncell HN2
          cases hcmp : (nm.toList == name.toList)
          · have HN3 := Lib.hid (HN2.out hcmp)
            go_wp2
            go_roundg (N - (j + 1))
            case measure => rw [HE.out.1]; omega
            case rel => exact ⟨j + 1, rfl, by omega, by go_num, HN3.out, HB5.out⟩
          · have hb5' := HB3.out.1.trans (HB5.out.mono HB3.out.1.size)
            obtain ⟨hB6, _, _, _, _, _, _, _, hy6⟩ := HC.out W5 hb5'
            obtain ⟨c0, c1, c2, k0, k1, k2, g0, g1, g2⟩ := HROW.out W5 hy6 (.string ⟨#[]⟩) (.slice none 0 0) (.slice none 0 0)
            have HG := Lib.hid (And.intro g0 (And.intro g1 g2))
            have HR := Lib.hid (HFail.out W5 7 hB6 (by decide))
            clear g0 g1 g2 hy6 hB6 hb5'
            go_wp2
            exact bodyPost_ret (v := .tuple #[.agg #[.string ⟨#[]⟩, .slice none 0 0, .slice none 0 0], .int .i64 7]) (by simp [results, Tryz.results31, go_sem, HG.out.1, HG.out.2.1, HG.out.2.2]) rfl HR.out
    · obtain rfl : j = N := by omega
      have hb4 := HB3.out.1.trans (hBr.mono HB3.out.1.size)
      obtain ⟨hB4, hz4', hs4, hd4, u0, u1, u2, _, hy4⟩ := HC.out wr hb4
      obtain ⟨db, dob, rfl, _, _⟩ := hd4.2.2 (by intro e; rw [e] at HN; have := HN.out; simp at this; omega)
      have hcl := slcCloneD_any decls ⟨db, dob, none⟩ dc wr hd4 (by rw [HN.out]; exact hlen)
      rw [HN.out] at hcl
      have HCL := Lib.hid hcl
      have HB4 := Lib.hid (And.intro hb4 (And.intro hB4 (And.intro HA hd4)))
      clear hcl hs4 hd4 hy4 hB4 hb4 v0 v1 v2 vi HG HA hBr
      go_wp2_with fail
      refine HCL.out.mono ?_
      rintro e w5 ⟨v, rfl, hown, hb5⟩
      have hz5 := hb5.size
      rw [HN.out] at hown
      obtain ⟨g, cap, rfl, hcap1, hcap2⟩ := own_pos2 hown (by omega)
      have hb5' := HB4.out.1.trans (hb5.mono HB4.out.1.size)
      obtain ⟨hB5, hz5', _, _, t0, t1, t2, _, hy5⟩ := HC.out w5 hb5'
      have hxq : decls[q]? = some (decls[q]'(by rw [HN.out]; exact hq)) := List.getElem?_eq_getElem _
      have hg5 := (hown.lt g rfl)
      have hcq := (hown.cellAt (q * 11 + 3) (by omega)).trans (dcC_at decls q _ hxq 3 _ rfl)
      have hfq := hown.frozenAt (q * 11 + 3)
      obtain ⟨W6, hW6⟩ : ∃ W6, w5.alloc (.cells #[.string name] 9) = W6 := ⟨_, rfl⟩
      have hb6 : Below w5.heap.size w5 W6 := by rw [← hW6]; exact (Below.refl _ _).alloc (Nat.le_refl _) _
      have hz6 : w5.heap.size < W6.heap.size := by rw [← hW6]; simp
      have hn6 : W6.cell? ⟨w5.heap.size, 0, none⟩ = some (.string name) := by rw [← hW6]; exact cell_of_row _ w5.heap.size 0 _ _ (0, 0) (heap_alloc_new w5 _)
      have hgl : g < w5.heap.size := hg5.2
      have hgw : wr.heap.size ≤ g := hg5.1
      have hcq6 := (hb6.cell (p := ⟨g, q * 11 + 3, none⟩) hgl).trans hcq
      have hfq6 : W6.frozen? ⟨g, q * 11 + 3, none⟩ = false := (hb6.frozen (p := ⟨g, q * 11 + 3, none⟩) hgl).trans hfq
      obtain ⟨W7, hW7⟩ : ∃ W7, W6.setCell ⟨g, q * 11 + 3, none⟩ (.slice (some ⟨w5.heap.size, 0, none⟩) 1 1) = W7 := ⟨_, rfl⟩
      have hz7 : W7.heap.size = W6.heap.size := by rw [← hW7]; simp
      have hblk7 : ∀ k, k ≠ g → W7.heap[k]? = W6.heap[k]? := fun k hk => by rw [← hW7]; exact Below.heap_setCell W6 ⟨g, q * 11 + 3, none⟩ _ k hk
      have hcell7 : ∀ p : Addr, p ≠ ⟨g, q * 11 + 3, none⟩ → W7.cell? p = W6.cell? p := fun p hp => by rw [← hW7]; exact World.cell?_setCell_other W6 _ p _ (Ne.symm hp)
      have hq7 : W7.cell? ⟨g, q * 11 + 3, none⟩ = some (.slice (some ⟨w5.heap.size, 0, none⟩) 1 1) := by rw [← hW7]; exact World.cell?_setCell_same W6 _ _ hcq6
      have hy7 := (hblk7 (w.heap.size + 1 + 1) (by omega)).trans ((hb6.block _ (by omega)).trans hy5)
      have m0 := (hcell7 ⟨w.heap.size, 0, none⟩ (by intro e; injection e; omega)).trans ((hb6.cell (p := ⟨w.heap.size, 0, none⟩) (by simp; omega)).trans t0)
      have m1 := (hcell7 ⟨w.heap.size, 1, none⟩ (by intro e; injection e; omega)).trans ((hb6.cell (p := ⟨w.heap.size, 1, none⟩) (by simp; omega)).trans t1)
      obtain ⟨c0, c1, c2, k0, k1, k2, g0, g1, g2⟩ := HROW.out W7 hy7 (.string label) (.slice uA NU uc) (.slice (some ⟨g, 0, none⟩) j cap)
      obtain ⟨WF, hWF⟩ : ∃ WF, ((W7.setCell ⟨w.heap.size + 1 + 1, 0, none⟩ (.string label)).setCell ⟨w.heap.size + 1 + 1, 1, none⟩ (.slice uA NU uc)).setCell ⟨w.heap.size + 1 + 1, 2, none⟩ (.slice (some ⟨g, 0, none⟩) j cap) = WF := ⟨_, rfl⟩
      have hcellF : ∀ p : Addr, p.block ≠ w.heap.size + 1 + 1 → WF.cell? p = W7.cell? p := fun p hp => by
        rw [← hWF, World.cell?_setCell_other _ _ p _ (fun e => hp (by rw [← e])), World.cell?_setCell_other _ _ p _ (fun e => hp (by rw [← e])), World.cell?_setCell_other _ _ p _ (fun e => hp (by rw [← e]))]
      have hbF : Below w.heap.size w WF := by
        rw [← hWF]
        refine Below.setCell (Below.setCell (Below.setCell ?_ (by simp; omega) _) (by simp; omega) _) (by simp; omega) _
        rw [← hW7]
        exact Below.setCell (hB5.trans (hb6.mono (by omega))) (by simp; omega) _
      have hzF : WF.heap.size = W6.heap.size := by rw [← hWF]; simp [hz7]
      have HSLD := Lib.hid (ren_sld (name := name) HUD.out.2 hbF hxq (by rw [HN.out]; exact hcap1) (by unfold maxLen; exact hcap2) (by omega) (fun m hm hne => by
        rw [hcellF ⟨g, m, none⟩ (by simp; omega), hcell7 ⟨g, m, none⟩ (by intro e; injection e; omega), hb6.cell (p := ⟨g, m, none⟩) hgl]
        rw [HN.out] at hm
        exact hown.cellAt m hm) ((hcellF ⟨g, q * 11 + 3, none⟩ (by simp; omega)).trans hq7) ((hcellF ⟨w5.heap.size, 0, none⟩ (by simp; omega)).trans ((hcell7 ⟨w5.heap.size, 0, none⟩ (by intro e; injection e; omega)).trans hn6)))
      have HG := Lib.hid (And.intro g0 (And.intro g1 g2))
      rw [hWF] at HG
      have HR : Hid (RenP label uses uA uc decls name w (.returned (.tuple #[.agg #[.string label, .slice uA NU uc, .slice (some ⟨g, 0, none⟩) j cap], .int .i64 0])) WF) :=
        ⟨_, _, _, _, _, _, _, _, rfl, hbF, fun _ => ⟨rfl, rfl, HNU.out.symm, rfl, HN.out.symm, Hnb.out, HE1.out, q, _, _, hxq, fun i z hne hz h1 => HB4.out.2.2.1 i z (by have := (List.getElem?_eq_some_iff.1 hz).1; rw [HN.out] at this; exact this) hne hz h1, HSLD.out⟩⟩
      have hql : q < j := hq
      clear hown hxq hcq hfq hb6 hn6 hblk7 hcell7 hq7 hy7 hcellF hbF t0 t1 t2 hy5 hB5 hb5' hb5 g0 g1 g2 HSLD
      go_wp2
      exact bodyPost_ret (v := .tuple #[.agg #[.string label, .slice uA NU uc, .slice (some ⟨g, 0, none⟩) j cap], .int .i64 0]) (by simp [results, Tryz.results31, go_sem, HG.out.1, HG.out.2.1, HG.out.2.2]) rfl HR.out
end Go.Proofs.YtdobpmbgngomlaaGreatDoor
