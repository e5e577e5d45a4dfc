/- law50.TestselectSelect answers true -/
import Derived.Test.YtdobpmbgngomlaaGreatDoorZnd
import Derived.Test.YtdobpmbgngomlaaGreatDoorZnf
namespace Go.Proofs.YtdobpmbgngomlaaGreatDoor
open Go.RowKit Go.Proofs Go.Shelf

theorem slcEqualN_self (l : List (ByteArray × Int)) (A : Option Addr) (c : Nat) (A' : Option Addr) (c' n : Nat) (w : World) (hl : l.length = n) (hs : SlN w w.heap.size A c l) (hs' : SlN w w.heap.size A' c' l) :
    Calls Tryz.prog 18 #[.slice A n c, .slice A' n c'] w fun e w' => e = .returned (.bool true) ∧ Below w.heap.size w w' := by
  have h := slcEqualSl_any l l A c A' c' w hs hs'
  rw [hl] at h
  refine h.mono ?_
  rintro e w' ⟨rfl, q, rfl⟩
  exact ⟨by simp, below_drewN (Below.refl _ _) q⟩
set_option maxRecDepth 100000 in
set_option maxHeartbeats 8000000 in
theorem lawSel_any (old new : List Mo) (A : Option Addr) (c : Nat) (A' : Option Addr) (c' : Nat) (w : World) (ho : SlM w w.heap.size A c old) (hn : SlM w w.heap.size A' c' new) (hwo : MoW old) (hwn : MoW new) (hco : CntL old) (hcn : CntL new) :
    Calls Tryz.prog 4 #[.slice A old.length c, .slice A' new.length c'] w fun e w' => e = .returned (.bool true) ∧ Below w.heap.size w w' := by
  have HS := Lib.hid (small_two ho hn)
  have HL := Lib.hid (show ∀ X : World, Below w.heap.size w X → SlM X X.heap.size A c old ∧ SlM X X.heap.size A' c' new from fun X hX => ⟨(ho.below hX).keep hX.size (fun _ _ => rfl), (hn.below hX).keep hX.size (fun _ _ => rfl)⟩)
  have HW := Lib.hid (And.intro hwo (And.intro hwn (And.intro hco hcn)))
  obtain ⟨N, HN⟩ : ∃ Q, Hid (old.length = Q) := ⟨_, Lib.hid rfl⟩
  obtain ⟨N', HN'⟩ : ∃ Q, Hid (new.length = Q) := ⟨_, Lib.hid rfl⟩
  rw [HN.out, HN'.out] at HS ⊢
  clear ho hn hwo hwn hco hcn
  obtain ⟨g, Hg⟩ : ∃ Q, Hid ((!greatL old && !greatL new) = Q) := ⟨_, Lib.hid rfl⟩
  rw [Hg.out] at HS
  unfold msRow at HS
  go_enter Tryz.func4, Tryz.ntmps4
  cases g with
  | false =>
    go_wp2_with fail
    refine HS.out.mono ?_
    rintro e w1 ⟨rfl, hb1⟩
    have HB1 := Lib.hid hb1
    clear hb1
    go_wp2_with fail
    refine (awake50_any _).mono ?_
    rintro e w2 ⟨rfl, hb2⟩
    have HB2 := Lib.hid hb2
    clear hb2
    go_wp2
    go_ret
    exact ⟨rfl, HB1.out.trans (HB2.out.mono HB1.out.size)⟩
  | true =>
    have HGG := Lib.hid (show greatL old = false ∧ greatL new = false by
      have := Hg.out
      simpa using this)
    have HSel := Lib.hid (show ∀ X : World, Below w.heap.size w X → Calls Tryz.prog 21 #[.slice A N c, .slice A' N' c'] X (SelP old new X) from fun X hX => by
      have := tsSelect_any old new A c A' c' X (HL.out X hX).1 (HL.out X hX).2 HW.out.1 HW.out.2.1 HGG.out.1 HGG.out.2
      rwa [HN.out, HN'.out] at this)
    have HSr := Lib.hid (show ∀ X : World, Below w.heap.size w X → Calls Tryz.prog 22 #[.slice A N c, .slice A' N' c'] X (SelP old new X) from fun X hX => by
      have := select50_any old new A c A' c' X (HL.out X hX).1 (HL.out X hX).2 (fun m hm => (mods_of HGG.out.1 HW.out.2.2.1 m hm).1) (fun m hm => (mods_of HGG.out.2 HW.out.2.2.2 m hm).1) (greatL_tot HGG.out.1) (greatL_tot HGG.out.2)
      rwa [HN.out, HN'.out] at this)
    have HTs := Lib.hid (show ∀ X : World, Below w.heap.size w X → Calls Tryz.prog 23 #[.slice A' N' c'] X (TestsP new X) from fun X hX => by
      have := tsTests_any new A' c' X (HL.out X hX).2 HW.out.2.1 (by have := greatL_tot HGG.out.2; omega) (by have := (greatL_le HGG.out.2).1; omega)
      rwa [HN'.out] at this)
    have HTr := Lib.hid (show ∀ X : World, Below w.heap.size w X → Calls Tryz.prog 24 #[.slice A' N' c'] X (TestsP new X) from fun X hX => by
      have := tests50_any new A' c' X (HL.out X hX).2 (by have := greatL_tot HGG.out.2; omega)
      rwa [HN'.out] at this)
    obtain ⟨TN, HTN⟩ : ∃ Q, Hid (testsOf new = Q) := ⟨_, Lib.hid rfl⟩
    obtain ⟨M, HM⟩ : ∃ Q, Hid (TN.length = Q) := ⟨_, Lib.hid rfl⟩
    go_wp2_with fail
    refine HS.out.mono ?_
    rintro e w1 ⟨rfl, hb1⟩
    have HSx := Lib.hid (HSel.out w1 hb1)
    have HB1 := Lib.hid hb1
    clear hb1
    go_wp2_with fail
    refine HSx.out.mono ?_
    rintro e w2 ⟨rA, rc, uA, uc, R, U, f, rfl, hR, hU, hb2, hf, hRe, hUe⟩
    have hbw2 := HB1.out.trans (hb2.mono HB1.out.size)
    have H2 := Lib.hid (And.intro (SlN.of_own hR) (And.intro (SlN.of_own hU) (And.intro hbw2 (And.intro hf (And.intro hRe hUe)))))
    have HSy := Lib.hid (HSr.out w2 hbw2)
    obtain ⟨r1, Hr1⟩ : ∃ Q, Hid (R.length = Q) := ⟨_, Lib.hid rfl⟩
    obtain ⟨u1, Hu1⟩ : ∃ Q, Hid (U.length = Q) := ⟨_, Lib.hid rfl⟩
    rw [Hr1.out, Hu1.out]
    clear hR hU hb2 hf hRe hUe hbw2
    go_wp2_with fail
    refine HSy.out.mono ?_
    rintro e w3 ⟨xA, xc, yA, yc, X, Y, f', rfl, hX, hY, hb3, hf', hXe, hYe⟩
    have hff : f' = f := by
      funext n
      rw [Bool.eq_iff_iff, hf', H2.out.2.2.2.1]
    have hXR : X = R := by rw [hXe, hff, H2.out.2.2.2.2.1]
    have hYU : Y = U := by rw [hYe, hff, H2.out.2.2.2.2.2]
    rw [hXR] at hX ⊢
    rw [hYU] at hY ⊢
    have hbw3 := H2.out.2.2.1.trans (hb3.mono H2.out.2.2.1.size)
    have H3 := Lib.hid (And.intro (H2.out.1.below hb3) (And.intro (H2.out.2.1.below hb3) (And.intro (SlN.of_own hX) (And.intro (SlN.of_own hY) hbw3))))
    have HTx := Lib.hid (HTs.out w3 hbw3)
    rw [Hr1.out, Hu1.out]
    clear hX hY hb3 hf' hXe hYe hff hXR hYU hbw3
    go_wp2_with fail
    refine HTx.out.mono ?_
    rintro e w4 ⟨v4, rfl, hown4, hb4⟩
    obtain ⟨tA, tc, rfl⟩ := own_formN hown4
    rw [HTN.out] at hown4 ⊢
    have hbw4 := H3.out.2.2.2.2.trans (hb4.mono H3.out.2.2.2.2.size)
    have H4 := Lib.hid (And.intro (SlN.of_own hown4) (And.intro hb4 hbw4))
    have HTy := Lib.hid (HTr.out w4 hbw4)
    rw [HM.out]
    clear hown4 hb4 hbw4
    go_wp2_with fail
    refine HTy.out.mono ?_
    rintro e w5 ⟨v5, rfl, hown5, hb5⟩
    obtain ⟨sA, sc, rfl⟩ := own_formN hown5
    rw [HTN.out] at hown5 ⊢
    have hb35 := H4.out.2.1.trans (hb5.mono H4.out.2.1.size)
    have HE1 := Lib.hid (slcEqualN_self TN tA tc sA sc M w5 HM.out (H4.out.1.below hb5) (SlN.of_own hown5))
    have H5 := Lib.hid hb35
    rw [HM.out]
    clear hown5 hb5 hb35
    go_wp2_with fail
    refine HE1.out.mono ?_
    rintro e w6 ⟨rfl, hb6⟩
    have hb36 := H5.out.trans (hb6.mono H5.out.size)
    have HE2 := Lib.hid (slcEqualN_self R rA rc xA xc r1 w6 Hr1.out (H3.out.1.below hb36) (H3.out.2.2.1.below hb36))
    have H6 := Lib.hid hb36
    clear hb6 hb36
    go_wp2_with fail
    refine HE2.out.mono ?_
    rintro e w7 ⟨rfl, hb7⟩
    have hb37 := H6.out.trans (hb7.mono H6.out.size)
    have HE3 := Lib.hid (slcEqualN_self U uA uc yA yc u1 w7 Hu1.out (H3.out.2.1.below hb37) (H3.out.2.2.2.1.below hb37))
    have H7 := Lib.hid hb37
    clear hb7 hb37
    go_wp2_with fail
    refine HE3.out.mono ?_
    rintro e w8 ⟨rfl, hb8⟩
    have H8 := Lib.hid (H3.out.2.2.2.2.trans ((H7.out.trans (hb8.mono H7.out.size)).mono H3.out.2.2.2.2.size))
    clear hb8
    go_wp2_with fail
    refine (awake50_any _).mono ?_
    rintro e w9 ⟨rfl, hb9⟩
    have H9 := Lib.hid (H8.out.trans (hb9.mono H8.out.size))
    clear hb9
    go_wp2
    go_ret
    exact ⟨rfl, H9.out⟩
end Go.Proofs.YtdobpmbgngomlaaGreatDoor
