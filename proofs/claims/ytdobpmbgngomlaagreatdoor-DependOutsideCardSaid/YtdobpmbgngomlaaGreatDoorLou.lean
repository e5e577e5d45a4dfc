/- law40.DependOutside answers true -/
import Derived.Test.YtdobpmbgngomlaaGreatDoorOub
import Derived.Test.YtdobpmbgngomlaaGreatDoorZnn
import Derived.Test.YtdobpmbgngomlaaGreatDoorZlz
import Derived.Deep.DeepCutAuto
import Derived.Deep.QuietTactic
import Derived.BigQuiet
namespace Go.Proofs.YtdobpmbgngomlaaGreatDoor
open Go.RowKit Go.Proofs Go.Shelf

set_option maxRecDepth 100000 in
set_option maxHeartbeats 16000000 in
theorem lawOutside_any (l : List Mo) (n o : ByteArray × Int) (e : Dc) (A : Option Addr) (c : Nat) (w : World) (hl : SlM w w.heap.size A c l) (hn : NOk n) (ho : NOk o) (he : e.s.Sl w w.heap.size e.A e.c) (hw : MoW l) :
    Calls Tryz.prog 3 #[.slice A l.length c, .agg #[.string n.1, .int .i64 n.2], .agg #[.string o.1, .int .i64 o.2], .agg #[.int .i64 e.k, .string e.n, .string e.m, .int .i64 e.i, .int .i64 e.d, .slice e.A e.s.len e.c]] w fun e w' => e = .returned (.bool true) ∧ Below w.heap.size w w' := by
  obtain ⟨ES, HES⟩ : ∃ Q, Hid (e.s.len = Q) := ⟨_, Lib.hid rfl⟩
  rw [HES.out]
  obtain ⟨W0, hW0⟩ : ∃ W0, ((w.alloc (.cells #[.string n.1, .int .i64 n.2] 24)).alloc (.cells #[.string o.1, .int .i64 o.2] 24)).alloc (.cells #[.int .i64 e.k, .string e.n, .string e.m, .int .i64 e.i, .int .i64 e.d, .slice e.A ES e.c] 27) = W0 := ⟨_, rfl⟩
  have hb0 : Below w.heap.size w W0 := by subst hW0; exact (((Below.refl _ _).alloc (Nat.le_refl _) _).alloc (by simp) _).alloc (by simp; omega) _
  have hz0 : W0.heap.size = w.heap.size + 3 := by subst hW0; simp
  have n0 : W0.cell? ⟨w.heap.size, 0, none⟩ = some (.string n.1) := by subst hW0; go_simp
  have n1 : W0.cell? ⟨w.heap.size, 1, none⟩ = some (.int .i64 n.2) := by subst hW0; go_simp
  have o0 : W0.cell? ⟨w.heap.size + 1, 0, none⟩ = some (.string o.1) := by subst hW0; go_simp
  have o1 : W0.cell? ⟨w.heap.size + 1, 1, none⟩ = some (.int .i64 o.2) := by subst hW0; go_simp
  have e0 : W0.cell? ⟨w.heap.size + 2, 0, none⟩ = some (.int .i64 e.k) := by subst hW0; go_simp
  have e1 : W0.cell? ⟨w.heap.size + 2, 1, none⟩ = some (.string e.n) := by subst hW0; go_simp
  have e2 : W0.cell? ⟨w.heap.size + 2, 2, none⟩ = some (.string e.m) := by subst hW0; go_simp
  have e3 : W0.cell? ⟨w.heap.size + 2, 3, none⟩ = some (.int .i64 e.i) := by subst hW0; go_simp
  have e4 : W0.cell? ⟨w.heap.size + 2, 4, none⟩ = some (.int .i64 e.d) := by subst hW0; go_simp
  have e5 : W0.cell? ⟨w.heap.size + 2, 5, none⟩ = some (.slice e.A ES e.c) := by subst hW0; go_simp
  have hz1 : w.heap.size < W0.heap.size ∧ w.heap.size + 1 < W0.heap.size ∧ w.heap.size + 2 < W0.heap.size := by omega
  have HK := Lib.hid (show ∀ X : World, Below W0.heap.size W0 X → X.cell? ⟨w.heap.size, 0, none⟩ = some (.string n.1) ∧ X.cell? ⟨w.heap.size, 1, none⟩ = some (.int .i64 n.2) ∧ X.cell? ⟨w.heap.size + 1, 0, none⟩ = some (.string o.1) ∧ X.cell? ⟨w.heap.size + 1, 1, none⟩ = some (.int .i64 o.2) from fun X hX =>
    ⟨(hX.cell (p := ⟨w.heap.size, 0, none⟩) hz1.1).trans n0, (hX.cell (p := ⟨w.heap.size, 1, none⟩) hz1.1).trans n1, (hX.cell (p := ⟨w.heap.size + 1, 0, none⟩) hz1.2.1).trans o0, (hX.cell (p := ⟨w.heap.size + 1, 1, none⟩) hz1.2.1).trans o1⟩)
  have HE := Lib.hid (show ∀ X : World, Below W0.heap.size W0 X → X.cell? ⟨w.heap.size + 2, 0, none⟩ = some (.int .i64 e.k) ∧ X.cell? ⟨w.heap.size + 2, 1, none⟩ = some (.string e.n) ∧ X.cell? ⟨w.heap.size + 2, 2, none⟩ = some (.string e.m) ∧ X.cell? ⟨w.heap.size + 2, 3, none⟩ = some (.int .i64 e.i) ∧ X.cell? ⟨w.heap.size + 2, 4, none⟩ = some (.int .i64 e.d) ∧ X.cell? ⟨w.heap.size + 2, 5, none⟩ = some (.slice e.A ES e.c) from fun X hX =>
    ⟨(hX.cell (p := ⟨w.heap.size + 2, 0, none⟩) hz1.2.2).trans e0, (hX.cell (p := ⟨w.heap.size + 2, 1, none⟩) hz1.2.2).trans e1, (hX.cell (p := ⟨w.heap.size + 2, 2, none⟩) hz1.2.2).trans e2, (hX.cell (p := ⟨w.heap.size + 2, 3, none⟩) hz1.2.2).trans e3, (hX.cell (p := ⟨w.heap.size + 2, 4, none⟩) hz1.2.2).trans e4, (hX.cell (p := ⟨w.heap.size + 2, 5, none⟩) hz1.2.2).trans e5⟩)
  have HL := Lib.hid (show ∀ X : World, Below w.heap.size w X → SlM X X.heap.size A c l from fun X hX => (hl.below hX).keep hX.size (fun _ _ => rfl))
  obtain ⟨N, HN⟩ : ∃ Q, Hid (l.length = Q) := ⟨_, Lib.hid rfl⟩
  have HG := Lib.hid (great40_any l A c W0 (HL.out W0 hb0))
  obtain ⟨g, Hg⟩ : ∃ Q, Hid (greatL l = Q) := ⟨_, Lib.hid rfl⟩
  rw [HN.out, Hg.out] at HG
  rw [HN.out]
  have HW := Lib.hid (And.intro hn (And.intro ho (And.intro hw (And.intro hl he))))
  have HB0 := Lib.hid hb0
  have HZ0 := Lib.hid hz0
  clear hn ho hw hl he hb0 hz0 hz1 e0 e1 e2 e3 e4 e5 n0 n1 o0 o1
  go_enter Tryz.func3, Tryz.ntmps3
  cases g with
  | true =>
    go_wp2_with fail
    refine HG.out.mono ?_
    rintro e1 w1 ⟨rfl, hb1⟩
    have HB1 := Lib.hid (HB0.out.trans (hb1.mono HB0.out.size))
    clear hb1
    go_wp2_with fail
    refine (awake40_any _).mono ?_
    rintro e2 w2 ⟨rfl, hb2⟩
    have HB2 := Lib.hid hb2
    clear hb2
    go_wp2
    go_ret
    exact ⟨rfl, HB1.out.trans (HB2.out.mono HB1.out.size)⟩
  | false =>
    have HC := Lib.hid (show ∀ X : World, Below w.heap.size w X → Calls Tryz.prog 12 #[.slice A N c, .agg #[.string n.1, .int .i64 n.2]] X (CloRes l n X) from fun X hX => by
      have := dClosureF_any l n A c X (HL.out X hX) HW.out.1 HW.out.2.2.1 (by have := greatL_tot Hg.out; omega) (by have := greatL_le Hg.out; omega) (fun h => ⟨_, uok_of Hg.out h⟩)
      rwa [HN.out] at this)
    have HY := Lib.hid (show ∀ X : World, Below w.heap.size w X → Calls Tryz.prog 14 #[.slice A N c, .agg #[.string n.1, .int .i64 n.2]] X (KeyP l n X) from fun X hX => by
      have := dKey_any l n A c X (HL.out X hX) HW.out.1 HW.out.2.2.1 (by have := greatL_tot Hg.out; omega) (by have := greatL_le Hg.out; omega) (fun h => ⟨_, uok_of Hg.out h⟩)
      rwa [HN.out] at this)
    go_wp2_with fail
    refine HG.out.mono ?_
    rintro e1 w1 ⟨rfl, hb1⟩
    obtain ⟨n0, n1, o0, o1⟩ := HK.out w1 hb1
    have HB1 := Lib.hid (And.intro hb1 (HB0.out.trans (hb1.mono HB0.out.size)))
    have HC1 := Lib.hid (HC.out w1 HB1.out.2)
    clear hb1 hW0 HG
    go_wp2_with fail
    refine HC1.out.mono ?_
    rintro e2 w2 ⟨hb2, ⟨hE, rfl⟩ | ⟨hE, hcl, rfl⟩ | ⟨hE, L, v, hcl, rfl, hown, hlen⟩⟩
    · have hE2 : (loadE l n != 0) = true := by simpa using hE
      obtain ⟨E, HE2⟩ : ∃ Q, Hid (loadE l n = Q) := ⟨_, Lib.hid rfl⟩
      rw [HE2.out] at hE2 ⊢
      have HB2 := Lib.hid (HB1.out.2.trans (hb2.mono HB1.out.2.size))
      clear hb2 hE n0 n1 o0 o1
      go_wp2_with fail
      refine (awake40_any _).mono ?_
      rintro e3 w3 ⟨rfl, hb3⟩
      have HB3 := Lib.hid hb3
      clear hb3
      go_wp2
      go_ret
      exact ⟨rfl, HB2.out.trans (HB3.out.mono HB2.out.size)⟩
    · have HB2 := Lib.hid (HB1.out.2.trans (hb2.mono HB1.out.2.size))
      clear hb2 hE hcl n0 n1 o0 o1
      go_wp2_with fail
      refine (awake40_any _).mono ?_
      rintro e3 w3 ⟨rfl, hb3⟩
      have HB3 := Lib.hid hb3
      clear hb3
      go_wp2
      go_ret
      exact ⟨rfl, HB2.out.trans (HB3.out.mono HB2.out.size)⟩
    · obtain ⟨vA, vc, rfl⟩ := own_formN hown
      have hb02 := HB1.out.1.trans (hb2.mono HB1.out.1.size)
      obtain ⟨_, _, o0, o1⟩ := HK.out w2 hb02
      have HCo := Lib.hid (slcContainsN_any L o vA vc _ w2 hown (by omega))
      obtain ⟨q, Hq⟩ : ∃ Q, Hid (memN L o = Q) := ⟨_, Lib.hid rfl⟩
      obtain ⟨M, HM⟩ : ∃ Q, Hid (L.length = Q) := ⟨_, Lib.hid rfl⟩
      have HQ := Lib.hid (And.intro hE (And.intro hcl (And.intro hown (And.intro hlen hb02))))
      rw [Hq.out, HM.out] at HCo
      rw [HM.out]
      clear hb2 hE hcl hown hlen hb02 HC1
      go_wp2_with fail
      refine HCo.out.mono ?_
      rintro e3 w3 ⟨rfl, hb3⟩
      have hb03 := HQ.out.2.2.2.2.trans (hb3.mono HQ.out.2.2.2.2.size)
      have HB3 := Lib.hid (And.intro hb03 (And.intro (HB0.out.trans (hb03.mono HB0.out.size)) hb3))
      cases q with
      | true =>
        clear hb3 hb03 n0 n1 o0 o1
        go_wp2_with fail
        refine (awake40_any _).mono ?_
        rintro e4 w4 ⟨rfl, hb4⟩
        have HB4 := Lib.hid hb4
        clear hb4
        go_wp2
        go_ret
        exact ⟨rfl, HB3.out.2.1.trans (HB4.out.mono HB3.out.2.1.size)⟩
      | false =>
        have HNo := Lib.hid (show o ∉ L from fun h => by
          have := memN_iff.2 h
          rw [Hq.out] at this
          cases this)
        have hne : l ≠ [] := fun h => by
          have := (loadE_zero HQ.out.1).2
          rw [h] at this
          exact this rfl
        obtain ⟨ab, ao, rfl, _, _⟩ := HW.out.2.2.2.1.2.2 hne
        have hLen := (greatL_le Hg.out).1
        have hpos : 0 < N := by
          rw [← HN.out]
          exact List.length_pos_iff.2 hne
        rw [HN.out] at hLen
        obtain ⟨n0, n1, _, _⟩ := HK.out w3 hb03
        have HY3 := Lib.hid (HY.out w3 HB3.out.2.1)
        clear hb3 hb03 o0 o1 hne
        go_wp2_with fail
        refine HY3.out.mono ?_
        rintro e4 w4 ⟨hb4, ⟨hE4, _⟩ | ⟨_, hcl4, _⟩ | ⟨_, L4, hcl4, rfl⟩⟩
        · exact absurd HQ.out.1 hE4
        · exact absurd (hcl4.unique HQ.out.2.1) (by simp)
        obtain rfl : L4 = L := by
          have := hcl4.unique HQ.out.2.1
          cases this
          rfl
        obtain ⟨T, HT0⟩ : ∃ Q, Hid ((⟨(keyL l n L4).toArray⟩ : ByteArray) = Q) := ⟨_, Lib.hid rfl⟩
        rw [HT0.out]
        have hb04 := HB3.out.1.trans (hb4.mono HB3.out.1.size)
        have HB4 := Lib.hid (And.intro hb04 (HB0.out.trans (hb04.mono HB0.out.size)))
        have HCl := Lib.hid (slcCloneM_any l ⟨ab, ao, none⟩ c w4 (HL.out w4 HB4.out.2) (by rw [HN.out]; omega))
        rw [HN.out] at HCl
        have HO4 := Lib.hid (own_of_blocks' (own_of_blocks' HQ.out.2.2.1 fun k hk => HB3.out.2.2.block k hk) fun k hk => hb4.block k hk)
        clear hb4 hcl4 hb04 n0 n1
        go_wp2_with fail
        refine HCl.out.mono ?_
        rintro e5 w5 ⟨v5, rfl, hown5, hb5⟩
        obtain ⟨rA, rc, rfl⟩ := own_formN hown5
        rw [HN.out] at hown5 ⊢
        have hcap5 := own_cap hown5
        obtain ⟨rg, hrA, hrg, hnx⟩ : ∃ rg : Nat, rA = some ⟨rg, 0, none⟩ ∧ w4.heap.size ≤ rg ∧ NxR w5 rg l := by
          rcases hown5.2 with ⟨_, h0⟩ | ⟨rg, cap, cur, h1, h2, h3, _⟩
          · omega
          · simp only [Value.slice.injEq, true_and] at h1
            obtain ⟨rfl, rfl⟩ := h1
            refine ⟨rg, rfl, h2, cur, h3, fun k m' hk q v hq => ?_⟩
            have hlt := (List.getElem?_eq_some_iff.1 hk).1
            have hq3 : q < 3 := (Array.getElem?_eq_some_iff.1 hq).1
            have := hown5.cellAt (k * 3 + q) (by have := HN.out; omega)
            rw [cell_of_row w5 _ _ _ _ _ h3] at this
            rw [this]
            exact moC_at l k m' hk q v hq
        subst hrA
        have hb45 := HB4.out.2.trans (hb5.mono HB4.out.2.size)
        have hb05 := HB4.out.1.trans (hb5.mono HB4.out.1.size)
        have hrlt : rg < w5.heap.size := by
          obtain ⟨cs, h1, _⟩ := hnx
          exact (Array.getElem?_eq_some_iff.1 h1).1
        have HB5 := Lib.hid (And.intro hb05 (And.intro hb45 hb5))
        have H5 := Lib.hid (And.intro hnx (And.intro hrg hrlt))
        clear hown5 hb5 hb45 hb05 hnx HC HY HY3 HCl HCo
        go_wp2
        go_loopg [14, 15, 16, 48] N (fun gg _ _ _ ct wr => ∃ (j : Nat) (l' : List Mo), gg = N - j ∧ j ≤ N ∧ ct = .int .i64 j ∧ l'.length = N ∧ NxR wr rg l' ∧ (∀ (k : Nat) (m m' : Mo), l[k]? = some m → l'[k]? = some m' → MoK e o wr m m') ∧ (∀ k, j ≤ k → l'[k]? = l[k]?) ∧ Below w4.heap.size w4 wr ∧ w5.heap.size ≤ wr.heap.size)
        case atStart => exact ⟨0, l, rfl, by omega, rfl, HN.out, H5.out.1, fun k m m' h1 h2 => .inl (by rw [h1] at h2; cases h2; rfl), fun _ _ => rfl, HB5.out.2.2, Nat.le_refl _⟩
        case round =>
          obtain ⟨j, l', HGm, hj, rfl, hl', hnx, hgood, htail, hB, hz5⟩ := hrel
          obtain ⟨Wo, rfl⟩ : ∃ Wo, Wo = wr := ⟨_, rfl⟩
          have hz := hB.size
          by_cases hlt : j < N
          · have hlt' : j < l.length := by rw [HN.out]; exact hlt
            obtain ⟨m, hm⟩ : ∃ m, l[j]? = some m := ⟨_, List.getElem?_eq_getElem hlt'⟩
            have hcr := HB4.out.2.trans (hB.mono HB4.out.2.size)
            have hc0 := HB4.out.1.trans (hB.mono HB4.out.1.size)
            obtain ⟨b, ob, hbe, hbb, d0, d1, d2, hok⟩ := (HL.out Wo hcr).at_ hm
            obtain ⟨rfl, rfl⟩ : ab = b ∧ ao = ob := by cases hbe; exact ⟨rfl, rfl⟩
            have hnd := (greatL_le Hg.out).2 m (List.mem_of_getElem? hm)
            have hj0 : (0 : Int) ≤ (j : Int) := by omega
            have hj1 : (j : Int) < (N : Int) := by omega
            obtain ⟨nu, HNU⟩ : ∃ Q, Hid (m.uses.length = Q) := ⟨_, Lib.hid rfl⟩
            obtain ⟨nd, HND⟩ : ∃ Q, Hid (m.ds.length = Q) := ⟨_, Lib.hid rfl⟩
            rw [HNU.out] at d1
            rw [HND.out] at d2 hnd
            obtain ⟨W10, hW10⟩ : ∃ W10, Wo.alloc (.cells #[.string m.label, .slice m.uA nu m.uc, .slice m.dA nd m.dc] 41) = W10 := ⟨_, rfl⟩
            have hz10 : Wo.heap.size < W10.heap.size := by rw [← hW10]; simp
            have hb10 : Below Wo.heap.size Wo W10 := by rw [← hW10]; exact (Below.refl _ _).alloc (Nat.le_refl _) _
            have hr10 : W10.heap[Wo.heap.size]? = some (.cells #[.string m.label, .slice m.uA nu m.uc, .slice m.dA nd m.dc] 41 (0, 0)) := by rw [← hW10]; exact heap_alloc_new _ _
            have f0 : W10.cell? ⟨Wo.heap.size, 0, none⟩ = some (.string m.label) := cell_of_row W10 _ 0 _ _ (0, 0) hr10
            have f2 : W10.cell? ⟨Wo.heap.size, 2, none⟩ = some (.slice m.dA nd m.dc) := cell_of_row W10 _ 2 _ _ (0, 0) hr10
            obtain ⟨_, _, o0, o1⟩ := HK.out W10 (hc0.trans (hb10.mono hc0.size))
            have hst := toL_beq m.label o.1
            have HCl := Lib.hid (cloneD_all m.ds m.dA m.dc W10 (hok.2.keep hb10.size fun p hp => hb10.cell hp) (by rw [HND.out]; omega))
            rw [HND.out] at HCl
            have HT := Lib.hid (And.intro HGm (And.intro hl' (And.intro hnx (And.intro hgood (And.intro htail (And.intro hB (And.intro hz5 (And.intro hcr (And.intro hm (And.intro hb10 (And.intro hr10 (And.intro hz10 (And.intro hc0 hok)))))))))))))
            clear HGm hl' hnx hgood htail hB hok hbe hbb hb10 hr10 hcr hm hc0 hz5
            by_cases hL : m.label = o.1
            · rw [decide_eq_true hL] at hst
              have HLb := Lib.hid hL
              clear hL
              go_wp2_with fail
              refine HCl.out.mono ?_
              rintro ee w11 ⟨v11, rfl, hown, hb11⟩
              obtain ⟨cA, cc, rfl⟩ := own_formN hown
              rw [HND.out] at hown ⊢
              have hr11 := (hb11.block _ HT.out.2.2.2.2.2.2.2.2.2.2.2.1).trans HT.out.2.2.2.2.2.2.2.2.2.2.1
              have f2 : w11.cell? ⟨Wo.heap.size, 2, none⟩ = some (.slice m.dA nd m.dc) := cell_of_row w11 _ 2 _ _ (0, 0) hr11
              have g2 : w11.frozen? ⟨Wo.heap.size, 2, none⟩ = false := frozen_of_row w11 _ 2 _ _ hr11
              obtain ⟨W12, hW12⟩ : ∃ W12, w11.setCell ⟨Wo.heap.size, 2, none⟩ (.slice cA nd cc) = W12 := ⟨_, rfl⟩
              have hr12 : W12.heap[Wo.heap.size]? = some (.cells #[.string m.label, .slice m.uA nu m.uc, .slice cA nd cc] 41 (0, 0)) := by
                rw [← hW12]
                exact heap_setCell_same w11 _ 2 _ _ _ hr11
              have x2 : W12.cell? ⟨Wo.heap.size, 2, none⟩ = some (.slice cA nd cc) := cell_of_row W12 _ 2 _ _ (0, 0) hr12
              have hb12 : Below Wo.heap.size Wo W12 := by
                rw [← hW12]
                exact (HT.out.2.2.2.2.2.2.2.2.2.1.trans (hb11.mono HT.out.2.2.2.2.2.2.2.2.2.1.size)).setCell (p := ⟨Wo.heap.size, 2, none⟩) (Nat.le_refl _) _
              have hblk : ∀ k, k ≠ Wo.heap.size → W12.heap[k]? = w11.heap[k]? := fun k hk => by rw [← hW12]; exact Below.heap_setCell _ _ _ _ (fun e => hk (by simpa using e))
              have hstart : 0 < nd → ∃ (g : Nat) (cs : Array Value), cA = some ⟨g, 0, none⟩ ∧ W10.heap.size ≤ g ∧ W12.heap[g]? = some (.cells cs 44 (0, 0)) ∧ OuI e o.2 m 0 cs := fun hpos => by
                rcases hown.2 with ⟨_, h0⟩ | ⟨g, cap, cur, h1, h2, h3, _⟩
                · omega
                · simp only [Value.slice.injEq, true_and] at h1
                  obtain ⟨rfl, rfl⟩ := h1
                  have hgne : g ≠ Wo.heap.size := by have := HT.out.2.2.2.2.2.2.2.2.2.2.2.1; omega
                  refine ⟨g, cur, rfl, h2, (hblk g hgne).trans h3, fun k x hx i v hv => ?_⟩
                  rw [if_neg (Nat.not_lt_zero k)] at hv
                  have hi : i < 11 := (Array.getElem?_eq_some_iff.1 hv).1
                  have hk : k < nd := by rw [← HND.out]; exact (List.getElem?_eq_some_iff.1 hx).1
                  have h5 := hown.cellAt (k * 11 + i) (by omega)
                  rw [cell_of_row w11 _ _ _ _ _ h3] at h5
                  rw [h5]
                  exact dcC_at m.ds k x hx i v hv
              have H12 := Lib.hid (And.intro hown (And.intro hb11 (And.intro hblk (And.intro hr12 (And.intro hb12 hstart)))))
              clear hown hb11 hblk hr12 hb12 hstart hr11 f0 o0 o1 hst
              go_wp2
              go_loopg [16, 65] nd (fun gg _ ct X => ∃ q : Nat, gg = nd - q ∧ q ≤ nd ∧ ct = .int .i64 q ∧ Below Wo.heap.size Wo X ∧ X.heap[Wo.heap.size]? = some (.cells #[.string m.label, .slice m.uA nu m.uc, .slice cA nd cc] 41 (0, 0)) ∧ (0 < nd → ∃ (g : Nat) (cs : Array Value), cA = some ⟨g, 0, none⟩ ∧ W10.heap.size ≤ g ∧ X.heap[g]? = some (.cells cs 44 (0, 0)) ∧ OuI e o.2 m q cs))
              case atStart => exact ⟨0, rfl, by omega, rfl, H12.out.2.2.2.2.1, H12.out.2.2.2.1, H12.out.2.2.2.2.2⟩
              case round =>
                obtain ⟨q, HG, hq, rfl, hBX, hbox, hE⟩ := hrel
                by_cases hlq : q < nd
                · obtain ⟨g, cs, rfl, hg1, hrow, hI⟩ := hE (by omega)
                  have hlq' : q < m.ds.length := by rw [HND.out]; exact hlq
                  obtain ⟨x, hx⟩ : ∃ x, m.ds[q]? = some x := ⟨_, List.getElem?_eq_getElem hlq'⟩
                  have hr : ∀ i v, x.cells[i]? = some v → cs[q * 11 + i]? = some v := fun i v hv => hI q x hx i v (by rw [if_neg (Nat.lt_irrefl q)]; exact hv)
                  have hq0 : (0 : Int) ≤ (q : Int) := by omega
                  have hq1 : (q : Int) < (nd : Int) := by omega
                  have hz10 := HT.out.2.2.2.2.2.2.2.2.2.2.2.1
                  have hzX := hBX.size
                  have hgW : Wo.heap.size < g := by omega
                  have hbl : Wo.heap.size < wr.heap.size := (Array.getElem?_eq_some_iff.1 hbox).1
                  obtain ⟨_, _, o0, o1⟩ := HK.out Wo HT.out.2.2.2.2.2.2.2.2.2.2.2.2.1
                  have hlt8 : w.heap.size + 1 < Wo.heap.size := World.block_lt_of_cell? Wo _ o1
                  have o1 := (hBX.cell (p := ⟨w.heap.size + 1, 1, none⟩) hlt8).trans o1
                  have b2 : wr.cell? ⟨Wo.heap.size, 2, none⟩ = some (.slice (some ⟨g, 0, none⟩) nd cc) := cell_of_row wr _ 2 _ _ (0, 0) hbox
                  have c0 : wr.cell? ⟨g, q * 11, none⟩ = some (.int .i64 x.id) := (cell_of_row wr g (q * 11) cs _ (0, 0) hrow).trans (hr 0 _ rfl)
                  have HST := Lib.hid (StB.refl hrow hBX)
                  have HF := Lib.hid (show ∀ (Y : World) (cs' : Array Value), StB Wo wr Y g cs' → Y.heap[Wo.heap.size]? = some (.cells #[.string m.label, .slice m.uA nu m.uc, .slice (some ⟨g, 0, none⟩) nd cc] 41 (0, 0)) from fun Y cs' hS => (hS.keep _ hbl (by omega)).trans hbox)
                  have HH := Lib.hid (And.intro HG (And.intro hrow (And.intro hI (And.intro hx (And.intro hg1 hr)))))
                  obtain ⟨b, Hb⟩ : ∃ Q, Hid ((x.id == o.2) = Q) := ⟨_, Lib.hid rfl⟩
                  have hb := Hb.out
                  clear HG hBX hbox hrow hI hx hr hE hg1 o0
                  go_upto_region 16 with fail
                  go_cut [76] (fun s76 wx => s76 = .bool b ∧ StB Wo wr wx g cs)
                  case first =>
                    go_quiet (fail)
                    go_wp2
                    go_meet
                    exact ⟨by first | rfl | rw [hb], HST.out.drewN _⟩
                  case rest =>
                  obtain ⟨h76, hSc⟩ := hcut
                  subst h76
                  obtain ⟨Wc, rfl⟩ : ∃ Wc, Wc = wc := ⟨_, rfl⟩
                  have HSc := Lib.hid hSc
                  have b2 : Wc.cell? ⟨Wo.heap.size, 2, none⟩ = some (.slice (some ⟨g, 0, none⟩) nd cc) := cell_of_row Wc _ 2 _ _ (0, 0) (HF.out Wc _ hSc)
                  clear hSc c0 o1 hb
                  cases b with
                  | true =>
                    have hrow := HSc.out.row
                    have hr := HH.out.2.2.2.2.2
                    have hbc := HSc.out.below
                    obtain ⟨e0, e1, e2, e3, e4, e5⟩ := HE.out Wc (HT.out.2.2.2.2.2.2.2.2.2.2.2.2.1.trans (hbc.mono HT.out.2.2.2.2.2.2.2.2.2.2.2.2.1.size))
                    have c5 : Wc.cell? ⟨g, q * 11 + 5, none⟩ = some (.int .i64 x.k) := (cell_of_row Wc g (q * 11 + 5) cs _ (0, 0) hrow).trans (hr 5 _ rfl)
                    have g5 : Wc.frozen? ⟨g, q * 11 + 5, none⟩ = false := frozen_of_row Wc g (q * 11 + 5) cs _ hrow
                    have c6 : Wc.cell? ⟨g, q * 11 + 6, none⟩ = some (.string x.n) := (cell_of_row Wc g (q * 11 + 6) cs _ (0, 0) hrow).trans (hr 6 _ rfl)
                    have g6 : Wc.frozen? ⟨g, q * 11 + 6, none⟩ = false := frozen_of_row Wc g (q * 11 + 6) cs _ hrow
                    have c7 : Wc.cell? ⟨g, q * 11 + 7, none⟩ = some (.string x.m) := (cell_of_row Wc g (q * 11 + 7) cs _ (0, 0) hrow).trans (hr 7 _ rfl)
                    have g7 : Wc.frozen? ⟨g, q * 11 + 7, none⟩ = false := frozen_of_row Wc g (q * 11 + 7) cs _ hrow
                    have c8 : Wc.cell? ⟨g, q * 11 + 8, none⟩ = some (.int .i64 x.i) := (cell_of_row Wc g (q * 11 + 8) cs _ (0, 0) hrow).trans (hr 8 _ rfl)
                    have g8 : Wc.frozen? ⟨g, q * 11 + 8, none⟩ = false := frozen_of_row Wc g (q * 11 + 8) cs _ hrow
                    have c9 : Wc.cell? ⟨g, q * 11 + 9, none⟩ = some (.int .i64 x.d) := (cell_of_row Wc g (q * 11 + 9) cs _ (0, 0) hrow).trans (hr 9 _ rfl)
                    have g9 : Wc.frozen? ⟨g, q * 11 + 9, none⟩ = false := frozen_of_row Wc g (q * 11 + 9) cs _ hrow
                    have c10 : Wc.cell? ⟨g, q * 11 + 10, none⟩ = some (.slice x.A x.s.len x.c) := (cell_of_row Wc g (q * 11 + 10) cs _ (0, 0) hrow).trans (hr 10 _ rfl)
                    have g10 : Wc.frozen? ⟨g, q * 11 + 10, none⟩ = false := frozen_of_row Wc g (q * 11 + 10) cs _ hrow
                    clear hrow hr hbc
                    go_wp2
                    go_roundg (nd - (q + 1))
                    case measure => rw [HH.out.1]; omega
                    case rel =>
                      have hS := HSc.out.outE (by omega) (q * 11 + 5) e
                      unfold outW at hS
                      rw [HES.out] at hS
                      exact ⟨q + 1, rfl, by omega, by go_num, hS.below, HF.out _ _ hS, fun _ => ⟨g, _, rfl, HH.out.2.2.2.2.1, hS.row, HH.out.2.2.1.hit HH.out.2.2.2.1 (by simpa using Hb.out)⟩⟩
                  | false =>
                    go_wp2
                    go_roundg (nd - (q + 1))
                    case measure => rw [HH.out.1]; omega
                    case rel => exact ⟨q + 1, rfl, by omega, by go_num, HSc.out.below, HF.out _ _ HSc.out, fun _ => ⟨g, _, rfl, HH.out.2.2.2.2.1, HSc.out.row, HH.out.2.2.1.miss HH.out.2.2.2.1 (by simpa using Hb.out)⟩⟩
                · have hqn : q = nd := by omega
                  subst hqn
                  have hzX := hBX.size
                  have b0 : wr.cell? ⟨Wo.heap.size, 0, none⟩ = some (.string m.label) := cell_of_row wr _ 0 _ _ (0, 0) hbox
                  have b1 : wr.cell? ⟨Wo.heap.size, 1, none⟩ = some (.slice m.uA nu m.uc) := cell_of_row wr _ 1 _ _ (0, 0) hbox
                  have b2 : wr.cell? ⟨Wo.heap.size, 2, none⟩ = some (.slice cA q cc) := cell_of_row wr _ 2 _ _ (0, 0) hbox
                  have hcap := own_cap H12.out.1
                  have hEp : 0 < m.ds.length → ∃ (g : Nat) (cs : Array Value), cA = some ⟨g, 0, none⟩ ∧ wr.heap[g]? = some (.cells cs 44 (0, 0)) ∧ OuI e o.2 m m.ds.length cs := fun hp => by
                    rw [HND.out] at hp ⊢
                    obtain ⟨g, cs, h1, _, h2, h3⟩ := hE hp
                    exact ⟨g, cs, h1, h2, h3⟩
                  have hmo : (ouM e o.2 m cA cc).Ok wr wr.heap.size := by
                    refine ouM_ok (w := Wo) HT.out.2.2.2.2.2.2.2.2.2.2.2.2.2 ?_ hBX (by rw [HND.out]; exact hcap) hEp
                    have h1 := HT.out.2.2.2.2.2.2.2.1
                    exact HW.out.2.2.2.2.keep h1.size fun p hp => h1.cell hp
                  have hck := bCheck_any m.label m.uses m.uA m.uc (m.ds.map (ouF e o.2)) cA cc wr hmo.1 hmo.2
                  obtain ⟨E, HEr⟩ : ∃ Q, Hid (checkE m.label m.uses (m.ds.map (ouF e o.2)) = Q) := ⟨_, Lib.hid rfl⟩
                  rw [HNU.out, List.length_map, HND.out, HEr.out] at hck
                  have HCk := Lib.hid hck
                  have HX := Lib.hid (And.intro HG (And.intro hBX (And.intro hbox (And.intro hEp (And.intro hcap hmo)))))
                  clear HG hBX hbox hE hEp hcap hmo hck
                  go_wp2_with fail
                  refine HCk.out.mono ?_
                  rintro ee w13 ⟨rfl, hb13⟩
                  have hB13 := HX.out.2.1.trans (hb13.mono HX.out.2.1.size)
                  have HB13 := Lib.hid (And.intro hB13 hb13)
                  by_cases hE0 : E = 0
                  · subst hE0
                    have hr13 := (hb13.block _ (Array.getElem?_eq_some_iff.1 HX.out.2.2.1).1).trans HX.out.2.2.1
                    have b0 : w13.cell? ⟨Wo.heap.size, 0, none⟩ = some (.string m.label) := cell_of_row w13 _ 0 _ _ (0, 0) hr13
                    have b1 : w13.cell? ⟨Wo.heap.size, 1, none⟩ = some (.slice m.uA nu m.uc) := cell_of_row w13 _ 1 _ _ (0, 0) hr13
                    have b2 : w13.cell? ⟨Wo.heap.size, 2, none⟩ = some (.slice cA q cc) := cell_of_row w13 _ 2 _ _ (0, 0) hr13
                    have hrlo : rg < Wo.heap.size := by have := HT.out.2.2.2.2.2.2.1; have := H5.out.2.2; omega
                    have hnx13 : NxR w13 rg l' := HT.out.2.2.1.keep (hB13.block _ hrlo)
                    have hjl : j < l'.length := by rw [HT.out.2.1]; exact hlt
                    obtain ⟨v0, v1, v2, q0, q1, q2, qf⟩ := hnx13.cell hjl
                    have g0 := qf (j * 3)
                    have g1 := qf (j * 3 + 1)
                    have g2 := qf (j * 3 + 2)
                    have HN13 := Lib.hid (And.intro hnx13 (And.intro hjl hrlo))
                    clear hb13 hB13 hr13 hnx13 hjl hrlo qf
                    go_wp2
                    go_roundg (N - (j + 1))
                    case measure => rw [HT.out.1]; omega
                    case rel =>
                      have hset := HN13.out.1.set HN13.out.2.1 (ouM e o.2 m cA cc) (v0 := .string m.label) (v1 := .slice m.uA nu m.uc) (v2 := .slice cA q cc) (by unfold ouM Mo.cells; simp only [List.length_map]; rw [HNU.out, HND.out])
                      have hbm : Below Wo.heap.size Wo w13 := HB13.out.1
                      have hsz : (moW w13 rg (j * 3) (.string m.label) (.slice m.uA nu m.uc) (.slice cA q cc)).heap.size = w13.heap.size := by unfold moW; simp
                      have hdec : ∀ (k : Nat) (cs : Array Value), w13.heap[k]? = some (.cells cs 44 (0, 0)) → (moW w13 rg (j * 3) (.string m.label) (.slice m.uA nu m.uc) (.slice cA q cc)).heap[k]? = some (.cells cs 44 (0, 0)) := fun k cs hk => by
                        have hne : k ≠ rg := fun h => by
                          obtain ⟨cs', h1, _⟩ := HN13.out.1
                          rw [h, h1] at hk
                          simp only [Option.some.injEq, Obj.cells.injEq] at hk
                          exact absurd hk.2.1 (by decide)
                        unfold moW
                        exact (heap_setCell_other _ _ _ _ (by simpa using hne)).trans ((heap_setCell_other _ _ _ _ (by simpa using hne)).trans ((heap_setCell_other _ _ _ _ (by simpa using hne)).trans hk))
                      refine ⟨j + 1, l'.set j (ouM e o.2 m cA cc), rfl, by omega, by go_num, by rw [List.length_set]; exact HT.out.2.1, hset, fun k a a' ha ha' => ?_, fun k hk => ?_, ?_, ?_⟩
                      · by_cases hkj : j = k
                        · subst hkj
                          rw [List.getElem?_set_self HN13.out.2.1] at ha'
                          cases ha'
                          rw [HT.out.2.2.2.2.2.2.2.2.1] at ha
                          cases ha
                          refine .inr ⟨HLb.out, HEr.out, cA, cc, rfl, by rw [HND.out]; exact HX.out.2.2.2.2.1, fun hp => ?_⟩
                          obtain ⟨g, cs, h1, h2, h3⟩ := HX.out.2.2.2.1 hp
                          exact ⟨g, cs, h1, hdec g cs ((HB13.out.2.block _ (Array.getElem?_eq_some_iff.1 h2).1).trans h2), h3⟩
                        · rw [List.getElem?_set_ne hkj] at ha'
                          exact (HT.out.2.2.2.1 k a a' ha ha').keep fun k cs hk => hdec k cs ((hbm.block _ (Array.getElem?_eq_some_iff.1 hk).1).trans hk)
                      · rw [List.getElem?_set_ne (by omega)]
                        exact HT.out.2.2.2.2.1 k (by omega)
                      · have h1 := HT.out.2.2.2.2.2.1.trans (hbm.mono HT.out.2.2.2.2.2.1.size)
                        exact ((h1.setCell (p := ⟨rg, j * 3, none⟩) H5.out.2.1 _).setCell (p := ⟨rg, j * 3 + 1, none⟩) H5.out.2.1 _).setCell (p := ⟨rg, j * 3 + 2, none⟩) H5.out.2.1 _
                      · have h1 := hbm.size
                        have h2 := HT.out.2.2.2.2.2.2.1
                        exact Nat.le_trans h2 (Nat.le_trans h1 (Nat.le_of_eq hsz.symm))
                  · have hE1 : (E != 0) = true := by simpa using hE0
                    have h1 := HT.out.2.2.2.2.2.2.2.1
                    have HBw := Lib.hid (h1.trans (hB13.mono h1.size))
                    clear hb13 hB13 hE0 h1
                    go_wp2_with fail
                    refine (awake40_any _).mono ?_
                    rintro ee w14 ⟨rfl, hb14⟩
                    have HB14 := Lib.hid hb14
                    clear hb14
                    go_wp2
                    go_ret
                    exact ⟨rfl, HBw.out.trans (HB14.out.mono HBw.out.size)⟩
            · rw [decide_eq_false hL] at hst
              have HLb := Lib.hid hL
              clear hL
              go_wp2_with fail
              go_roundg (N - (j + 1))
              case measure => rw [HT.out.1]; omega
              case rel =>
                have hk10 : ∀ (k : Nat) (cs : Array Value), Wo.heap[k]? = some (.cells cs 44 (0, 0)) → W10.heap[k]? = some (.cells cs 44 (0, 0)) := fun k cs hk => (HT.out.2.2.2.2.2.2.2.2.2.1.block _ (Array.getElem?_eq_some_iff.1 hk).1).trans hk
                have hrlo : rg < Wo.heap.size := by have := HT.out.2.2.2.2.2.2.1; have := H5.out.2.2; omega
                refine ⟨j + 1, l', rfl, by omega, by go_num, HT.out.2.1, HT.out.2.2.1.keep (HT.out.2.2.2.2.2.2.2.2.2.1.block _ hrlo), fun k a a' ha ha' => (HT.out.2.2.2.1 k a a' ha ha').keep hk10, fun k hk => HT.out.2.2.2.2.1 k (by omega), ?_, ?_⟩
                · exact HT.out.2.2.2.2.2.1.trans (HT.out.2.2.2.2.2.2.2.2.2.1.mono HT.out.2.2.2.2.2.1.size)
                · have h1 := HT.out.2.2.2.2.2.2.2.2.2.1.size
                  have h2 := HT.out.2.2.2.2.2.2.1
                  omega
          · have hjN : j = N := by omega
            subst hjN
            have hcr := HB4.out.2.trans (hB.mono HB4.out.2.size)
            have hc0 := HB4.out.1.trans (hB.mono HB4.out.1.size)
            have hchk : chkL l = 0 := (loadE_zero HQ.out.1).1
            have hat : ∀ (k : Nat) (m' : Mo), l'[k]? = some m' → ∃ m, l[k]? = some m ∧ MoK e o Wo m m' := fun k m' hk => by
              have hlt := (List.getElem?_eq_some_iff.1 hk).1
              have h1 : l[k]? = some (l[k]'(by rw [HN.out]; omega)) := List.getElem?_eq_getElem _
              exact ⟨_, h1, hgood k _ m' h1 hk⟩
            have hst : StMs (fun x => x ≠ o) l l' := stMs_of (by rw [hl', HN.out]) fun k a b ha hb => (hgood k a b ha hb).st
            have hck' : chkL l' = 0 := chkL_of fun m' hm' => by
              obtain ⟨k, hk⟩ := List.getElem?_of_mem hm'
              obtain ⟨m, h1, h2⟩ := hat k m' hk
              exact h2.err (chkL_zero hchk m (List.mem_of_getElem? h1))
            obtain ⟨hl0, hcl', hkey⟩ := st_clo hst HQ.out.1 hck' HQ.out.2.1 (fun x hx => fun he => HNo.out (he ▸ hx))
            have hSl' : SlM Wo Wo.heap.size (some ⟨rg, 0, none⟩) rc l' := by
              refine slM_of_nx hnx (by rw [hl']; exact hcap5) fun k m' hk => ?_
              obtain ⟨m, h1, h2⟩ := hat k m' hk
              obtain ⟨_, _, _, _, _, _, _, hok⟩ := HW.out.2.2.2.1.at_ h1
              exact h2.ok hok HW.out.2.2.2.2 hcr
            have hu' : chkL l' = 0 → ∃ U, UOk l' n U := fun h => ⟨_, uok_of4 h (by rw [hl']; omega) fun m' hm' => by
              obtain ⟨k, hk⟩ := List.getElem?_of_mem hm'
              obtain ⟨m, h1, h2⟩ := hat k m' hk
              rw [stDs_len h2.st.ds]
              exact (greatL_le Hg.out).2 m (List.mem_of_getElem? h1)⟩
            have htot : totD l' ≤ 1000000 := by rw [stMs_tot hst]; have := greatL_tot Hg.out; omega
            have hmow := stMs_mow hst HW.out.2.2.1
            have HCn := Lib.hid (show ∀ X : World, Below Wo.heap.size Wo X → Calls Tryz.prog 12 #[.slice (some ⟨rg, 0, none⟩) j rc, .agg #[.string n.1, .int .i64 n.2]] X (CloRes l' n X) from fun X hX => by
              have := dClosureF_any l' n (some ⟨rg, 0, none⟩) rc X ((hSl'.below hX).keep hX.size (fun _ _ => rfl)) HW.out.1 hmow htot (by rw [hl']; omega) hu'
              rwa [hl'] at this)
            have HKn := Lib.hid (show ∀ X : World, Below Wo.heap.size Wo X → Calls Tryz.prog 14 #[.slice (some ⟨rg, 0, none⟩) j rc, .agg #[.string n.1, .int .i64 n.2]] X (KeyP l' n X) from fun X hX => by
              have := dKey_any l' n (some ⟨rg, 0, none⟩) rc X ((hSl'.below hX).keep hX.size (fun _ _ => rfl)) HW.out.1 hmow htot (by rw [hl']; omega) hu'
              rwa [hl'] at this)
            obtain ⟨n0, n1, _, _⟩ := HK.out Wo hc0
            have HCw := Lib.hid (HCn.out Wo (Below.refl _ _))
            have HV := Lib.hid (And.intro hl0 (And.intro hcl' (And.intro hkey (And.intro hcr (And.intro hc0 hB)))))
            clear HGm hnx hgood htail hB hz5 hcr hc0 hchk hat hst hck' hl0 hcl' hkey hSl' hu' htot hmow
            go_wp2_with fail
            refine HCw.out.mono ?_
            rintro ee w15 ⟨hb15, ⟨hE5, _⟩ | ⟨_, hcl5, _⟩ | ⟨_, L5, v5, hcl5, rfl, hown5, hlen5⟩⟩
            · exact absurd HV.out.1 hE5
            · exact absurd (hcl5.unique HV.out.2.1) (by simp)
            have hL5 : L4 = L5 := by
              have := HV.out.2.1.unique hcl5
              cases this
              rfl
            subst hL5
            obtain ⟨zA, zc, rfl⟩ := own_formN hown5
            obtain ⟨n0, n1, _, _⟩ := HK.out w15 (HV.out.2.2.2.2.1.trans (hb15.mono HV.out.2.2.2.2.1.size))
            have HK15 := Lib.hid (HKn.out w15 hb15)
            have HO5 := Lib.hid (And.intro hown5 (And.intro hb15 hlen5))
            clear hcl5 hown5 hb15 hlen5
            rw [HM.out]
            go_wp2_with fail
            refine HK15.out.mono ?_
            rintro ee w16 ⟨hb16, ⟨hE6, _⟩ | ⟨_, hcl6, _⟩ | ⟨_, L6, hcl6, rfl⟩⟩
            · exact absurd HV.out.1 hE6
            · exact absurd (hcl6.unique HV.out.2.1) (by simp)
            have hL6 : L4 = L6 := by
              have := HV.out.2.1.unique hcl6
              cases this
              rfl
            subst hL6
            rw [HV.out.2.2.1, HT0.out]
            have hWo16 := HO5.out.2.1.trans (hb16.mono HO5.out.2.1.size)
            have ho1 := own_of_blocks' (own_of_blocks' HO4.out fun k hk => HV.out.2.2.2.2.2.block k hk) fun k hk => hWo16.block k hk
            have ho2 := own_of_blocks' HO5.out.1 fun k hk => hb16.block k hk
            have HEq := Lib.hid (slcEqualN_same L4 vA vc _ zA zc _ w16 ho1 ho2 (by have := HO5.out.2.2; omega))
            rw [HM.out] at HEq
            have hTn : T ≠ (⟨#[]⟩ : ByteArray) := by
              rw [← HT0.out]
              intro h
              have h2 := congrArg (fun z : ByteArray => z.data.toList) h
              simp at h2
              exact keyL_ne HQ.out.1 _ h2
            have hTe : ¬ T.toList = [] := fun h => hTn (by
              rw [ByteArray.toList_eq] at h
              exact ByteArray.ext (Array.ext' h))
            have hTi : T.toList.isEmpty = false := by rw [List.isEmpty_eq_false_iff]; exact hTe
            have HB16 := Lib.hid (HV.out.2.2.2.1.trans (hWo16.mono HV.out.2.2.2.1.size))
            have hTT := toL_beq T T
            rw [decide_eq_true rfl] at hTT
            clear hb16 hWo16 ho1 ho2 hcl6 n0 n1 hTn
            go_wp2_with fail
            refine HEq.out.mono ?_
            rintro ee w17 ⟨rfl, qn, rfl⟩
            have HB17 := Lib.hid (below_drewN HB16.out qn)
            go_wp2_with fail
            refine (awake40_any _).mono ?_
            rintro ee w18 ⟨rfl, hb18⟩
            have HB18 := Lib.hid hb18
            clear hb18
            go_wp2
            go_ret
            exact ⟨rfl, HB17.out.trans (HB18.out.mono HB17.out.size)⟩
end Go.Proofs.YtdobpmbgngomlaaGreatDoor
