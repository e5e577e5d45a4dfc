/- law50.TestselectCertificates answers true -/
import Derived.Test.YtdobpmbgngomlaaGreatDoorZnd
import Derived.Test.YtdobpmbgngomlaaGreatDoorZne
import Derived.Deep.AppendLies
namespace Go.Proofs.YtdobpmbgngomlaaGreatDoor
open Go.RowKit Go.Proofs Go.Shelf

theorem own_news {w : World} {base g n c : Nat} {xs : List Value} (hs : w.ownsRow base 24 2 (.slice (some ⟨g, 0, none⟩) n c) n xs) : ∀ ad, (some ⟨g, 0, none⟩ : Option Addr) = some ad → ∀ q u, xs[q]? = some u → w.cell? (ad.add q) = some u := by
  intro ad e q u hu
  cases e
  have hq : q < n * 2 := by have := (List.getElem?_eq_some_iff.1 hu).1; rwa [hs.1] at this
  have h3 := (hs.cellAt q hq).trans hu
  unfold Addr.add
  by_cases h0 : q = 0
  · rw [if_pos h0]
    subst h0
    exact h3
  · rw [if_neg h0]
    simpa using h3
theorem ver_true {l : List Mo} {n : ByteArray × Int} {L : List (ByteArray × Int)} {b : Bool} (hc : CertV l n 0 (some L)) (h : VerV l n L (certT l n L) b) : b = true := h.2 ⟨hc, rfl⟩
theorem ver_false {l : List Mo} {n : ByteArray × Int} {L L' : List (ByteArray × Int)} {T : ByteArray} {b : Bool} (hc : CertV l n 0 (some L)) (hne : L' ≠ L ∨ T ≠ certT l n L) (h : VerV l n L' T b) : b = false := by
  cases b with
  | false => rfl
  | true =>
    obtain ⟨h1, h2⟩ := h.1 rfl
    have := (hc.unique h1).2
    cases this
    rcases hne with h3 | h3
    · exact absurd rfl h3
    · exact absurd h2.symm h3
theorem certV_ok {l : List Mo} {n : ByteArray × Int} {L : List (ByteArray × Int)} (h : CertV l n 0 (some L)) : loadE l n = 0 ∧ isT l n = true ∧ Clo (grf l) n (some L) := by
  rcases h with ⟨_, _, h⟩ | ⟨_, _, _, h⟩ | ⟨_, _, _, _, _, h⟩ | ⟨h1, L, h2, h3, _, h4⟩
  · cases h
  · cases h
  · cases h
  · cases h4; exact ⟨h1, h3, h2⟩
theorem certV_of {l : List Mo} {n : ByteArray × Int} {L : List (ByteArray × Int)} (h1 : loadE l n = 0) (h2 : isT l n = true) (h3 : Clo (grf l) n (some L)) : CertV l n 0 (some L) := .inr (.inr (.inr ⟨h1, L, h3, h2, rfl, rfl⟩))
theorem ver_new {old new : List Mo} {n : ByteArray × Int} {L U : List (ByteArray × Int)} {f : ByteArray × Int → Bool} {b : Bool} (hc : CertV old n 0 (some L)) (hf : ∀ n, f n = true ↔ ReB old new n) (hU : U = (testsOf new).filter f) (h : VerV new n L (certT old n L) b) : b = memN U n := by
  obtain ⟨h1, h2, h3⟩ := certV_ok hc
  rw [Bool.eq_iff_iff, memN_iff, hU, List.mem_filter, mem_testsOf, hf]
  constructor
  · intro hb
    obtain ⟨k1, k2⟩ := h.1 hb
    obtain ⟨k3, k4, k5⟩ := certV_ok k1
    exact ⟨k4, h2, _, .inr (.inr ⟨h1, L, h3, rfl, rfl⟩), .inr (.inr ⟨k3, L, k5, k2.symm, rfl⟩)⟩
  · rintro ⟨k1, _, k, k2, k3⟩
    obtain ⟨_, L1, k4, rfl⟩ := k2.ok
    obtain ⟨k5, L2, k6, k7⟩ := k3.ok
    have := k4.unique h3
    cases this
    obtain ⟨rfl, _⟩ := cert_inj h1 k5 h3 k6 k7
    exact h.2 ⟨certV_of k5 k1 k6, k7.symm⟩
theorem certT_len {l : List Mo} {n : ByteArray × Int} {L : List (ByteArray × Int)} (h : loadE l n = 0) (hl : L.length ≤ 400000) : (certT l n L).size ≤ 70368744177664 := by
  have h1 := txtL_big n.1
  have h2 := numL_len n.2
  have h3 := catE_len (loadE_zero h).1 L
  have h4 : 53000000 * L.length ≤ 53000000 * 400000 := Nat.mul_le_mul_left _ hl
  have h5 : (certT l n L).size = (keyL l n L).length := by simp [certT, ByteArray.size]
  rw [h5]
  simp only [keyL, List.length_append]
  omega
theorem app_ne (T : ByteArray) : T ++ ⟨#[120]⟩ ≠ T := by
  intro h
  have := congrArg ByteArray.size h
  rw [ByteArray.size_append] at this
  have h2 : (⟨#[120]⟩ : ByteArray).size = 1 := rfl
  rw [h2] at this
  omega
set_option maxRecDepth 100000 in
set_option maxHeartbeats 16000000 in
theorem lawCerts_any (old new : List Mo) (o : ByteArray × Int) (A : Option Addr) (c : Nat) (A' : Option Addr) (c' : Nat) (w : World) (ho : SlM w w.heap.size A c old) (hn : SlM w w.heap.size A' c' new) (hwo : MoW old) (hwn : MoW new) :
    Calls Tryz.prog 7 #[.slice A old.length c, .slice A' new.length c', .agg #[.string o.1, .int .i64 o.2]] w fun e w' => e = .returned (.bool true) ∧ Below w.heap.size w w' := by
  obtain ⟨i0, hi, hz0, hz1, hz2⟩ := info_parts Tryz.infoName
  obtain ⟨W0, hW0⟩ : ∃ W0, w.alloc (.cells #[.string o.1, .int .i64 o.2] 24) = W0 := ⟨_, rfl⟩
  have hb0 : Below w.heap.size w W0 := by subst hW0; exact (Below.refl _ _).alloc (Nat.le_refl _) _
  have hzw : w.heap.size < W0.heap.size := by subst hW0; simp
  have o0 : W0.cell? ⟨w.heap.size, 0, none⟩ = some (.string o.1) := by subst hW0; go_simp
  have o1 : W0.cell? ⟨w.heap.size, 1, none⟩ = some (.int .i64 o.2) := by subst hW0; go_simp
  have HL := Lib.hid (show ∀ X : World, Below w.heap.size w X → SlM X X.heap.size A c old ∧ SlM X X.heap.size A' c' new from fun X hX => ⟨(ho.below hX).keep hX.size (fun _ _ => rfl), (hn.below hX).keep hX.size (fun _ _ => rfl)⟩)
  have HS := Lib.hid (small_two (HL.out W0 hb0).1 (HL.out W0 hb0).2)
  have HW := Lib.hid (And.intro hwo hwn)
  have HB0 := Lib.hid hb0
  have HO := Lib.hid (show ∀ X : World, Below W0.heap.size W0 X → X.cell? ⟨w.heap.size, 0, none⟩ = some (.string o.1) ∧ X.cell? ⟨w.heap.size, 1, none⟩ = some (.int .i64 o.2) from fun X hX => ⟨(hX.cell (p := ⟨w.heap.size, 0, none⟩) hzw).trans o0, (hX.cell (p := ⟨w.heap.size, 1, none⟩) hzw).trans o1⟩)
  obtain ⟨N, HN⟩ : ∃ Q, Hid (old.length = Q) := ⟨_, Lib.hid rfl⟩
  obtain ⟨N', HN'⟩ : ∃ Q, Hid (new.length = Q) := ⟨_, Lib.hid rfl⟩
  rw [HN.out, HN'.out] at HS ⊢
  clear ho hn hwo hwn hb0 o0 o1
  obtain ⟨g, Hg⟩ : ∃ Q, Hid ((!greatL old && !greatL new) = Q) := ⟨_, Lib.hid rfl⟩
  rw [Hg.out] at HS
  unfold msRow at HS
  go_enter Tryz.func7, Tryz.ntmps7
  cases g with
  | false =>
    go_wp2_with fail
    refine HS.out.mono ?_
    rintro e w1 ⟨rfl, hb1⟩
    have HB1 := Lib.hid (HB0.out.trans (hb1.mono HB0.out.size))
    clear hb1
    go_wp2_with fail
    refine (awake50_any _).mono ?_
    rintro e w2 ⟨rfl, hb2⟩
    have HB2 := Lib.hid hb2
    clear hb2
    go_wp2
    go_ret
    exact ⟨rfl, HB1.out.trans (HB2.out.mono HB1.out.size)⟩
  | true =>
    have HGG := Lib.hid (show greatL old = false ∧ greatL new = false by
      have := Hg.out
      simpa using this)
    have HSel := Lib.hid (show ∀ X : World, Below W0.heap.size W0 X → Calls Tryz.prog 21 #[.slice A N c, .slice A' N' c'] X (SelP old new X) from fun X hX => by
      have hX' := HB0.out.trans (hX.mono HB0.out.size)
      have := tsSelect_any old new A c A' c' X (HL.out X hX').1 (HL.out X hX').2 HW.out.1 HW.out.2 HGG.out.1 HGG.out.2
      rwa [HN.out, HN'.out] at this)
    have HTs := Lib.hid (show ∀ X : World, Below W0.heap.size W0 X → Calls Tryz.prog 23 #[.slice A N c] X (TestsP old X) from fun X hX => by
      have := tsTests_any old A c X (HL.out X (HB0.out.trans (hX.mono HB0.out.size))).1 HW.out.1 (by have := greatL_tot HGG.out.1; omega) (by have := (greatL_le HGG.out.1).1; omega)
      rwa [HN.out] at this)
    have HCe := Lib.hid (show ∀ (X : World) (n : ByteArray × Int), Below W0.heap.size W0 X → NOk n → Calls Tryz.prog 26 #[.slice A N c, .agg #[.string n.1, .int .i64 n.2]] X (CertP old n X) from fun X n hX hn => by
      have := tsCertify_any old n A c X (HL.out X (HB0.out.trans (hX.mono HB0.out.size))).1 hn HW.out.1 HGG.out.1
      rwa [HN.out] at this)
    have HVo := Lib.hid (show ∀ (X : World) (n : ByteArray × Int) (L' : List (ByteArray × Int)) (T : ByteArray) (cA : Option Addr) (cc M : Nat), Below W0.heap.size W0 X → NOk n → L'.length = M → SlN X X.heap.size cA cc L' → Calls Tryz.prog 29 #[.slice A N c, .agg #[.string n.1, .int .i64 n.2, .slice cA M cc, .string T]] X (fun e w' => ∃ b, e = .returned (.bool b) ∧ VerV old n L' T b ∧ Below X.heap.size X w') from fun X n L' T cA cc M hX hn hM hs => by
      have := tsVerify_any old n L' T A c cA cc X (HL.out X (HB0.out.trans (hX.mono HB0.out.size))).1 hs hn HW.out.1 HGG.out.1
      rwa [HN.out, hM] at this)
    have HVn := Lib.hid (show ∀ (X : World) (n : ByteArray × Int) (L' : List (ByteArray × Int)) (T : ByteArray) (cA : Option Addr) (cc M : Nat), Below W0.heap.size W0 X → NOk n → L'.length = M → SlN X X.heap.size cA cc L' → Calls Tryz.prog 29 #[.slice A' N' c', .agg #[.string n.1, .int .i64 n.2, .slice cA M cc, .string T]] X (fun e w' => ∃ b, e = .returned (.bool b) ∧ VerV new n L' T b ∧ Below X.heap.size X w') from fun X n L' T cA cc M hX hn hM hs => by
      have := tsVerify_any new n L' T A' c' cA cc X (HL.out X (HB0.out.trans (hX.mono HB0.out.size))).2 hs hn HW.out.2 HGG.out.2
      rwa [HN'.out, hM] at this)
    have HTL := Lib.hid (show (testsOf old).length ≤ 32 by have := testsOf_len old; have := greatL_tot HGG.out.1; omega)
    have HUL := Lib.hid (show (testsOf new).length ≤ 32 by have := testsOf_len new; have := greatL_tot HGG.out.2; omega)
    obtain ⟨TN, HTN⟩ : ∃ Q, Hid (testsOf old = Q) := ⟨_, Lib.hid rfl⟩
    rw [HTN.out] at HTL
    have HTS := Lib.hid (show ∀ n ∈ TN, NOk n by
      rw [← HTN.out]
      exact fun n hn => nok_T HW.out.1 hn)
    obtain ⟨M, HM⟩ : ∃ Q, Hid (TN.length = Q) := ⟨_, Lib.hid rfl⟩
    have hM32 : M ≤ 32 := by rw [← HM.out]; exact HTL.out
    go_wp2_with fail
    refine HS.out.mono ?_
    rintro e w1 ⟨rfl, hb1⟩
    have HSx := Lib.hid (HSel.out w1 hb1)
    have HB1 := Lib.hid hb1
    clear hb1
    go_wp2_with fail
    refine HSx.out.mono ?_
    rintro e w2 ⟨rA, rc, uA, uc, R, U, f, rfl, hR, hU, hb2, hf, hRe, hUe⟩
    have hbw2 := HB1.out.trans (hb2.mono HB1.out.size)
    have H2 := Lib.hid (And.intro hU (And.intro hbw2 (And.intro hf hUe)))
    have HTx := Lib.hid (HTs.out w2 hbw2)
    obtain ⟨r1, Hr1⟩ : ∃ Q, Hid (R.length = Q) := ⟨_, Lib.hid rfl⟩
    obtain ⟨u1, Hu1⟩ : ∃ Q, Hid (U.length = Q) := ⟨_, Lib.hid rfl⟩
    have HUl := Lib.hid (show U.length ≤ 1000000 by
      rw [hUe]
      have h1 := List.length_filter_le f (testsOf new)
      have h2 := HUL.out
      omega)
    rw [Hr1.out, Hu1.out]
    clear hR hU hb2 hf hRe hUe hbw2
    go_wp2_with fail
    refine HTx.out.mono ?_
    rintro e w3 ⟨v3, rfl, hown3, hb3⟩
    obtain ⟨tA, tc, rfl⟩ := own_formN hown3
    rw [HTN.out] at hown3 ⊢
    have H3 := Lib.hid (And.intro (own_of_blocks' H2.out.1 fun k hk => hb3.block k hk) (And.intro (SlN.of_own hown3) (H2.out.2.1.trans (hb3.mono H2.out.2.1.size))))
    rw [HM.out]
    clear hown3 hb3 hW0
    go_wp2
    go_loopg [10, 11, 12, 13, 14, 30] M (fun g _ _ _ _ _ ct wr => ∃ j : Nat, g = M - j ∧ j ≤ M ∧ ct = .int .i64 j ∧ Below w3.heap.size w3 wr)
    case atStart => exact ⟨0, rfl, by omega, rfl, Below.refl _ _⟩
    case round =>
      obtain ⟨j, HG, hj, rfl, hB⟩ := hrel
      have hz := hB.size
      by_cases hlt : j < M
      · have hlt' : j < TN.length := by rw [HM.out]; exact hlt
        obtain ⟨x, hx⟩ : ∃ x, TN[j]? = some x := ⟨_, List.getElem?_eq_getElem hlt'⟩
        obtain ⟨tb, tof, rfl, htb, htc⟩ := H3.out.2.1.2.2 (by intro e; rw [e] at hlt'; simp at hlt')
        obtain ⟨y0, y1⟩ := htc j x hx
        have c0 := (hB.cell (p := ⟨tb, tof + j * 2, none⟩) htb).trans y0
        have c1 := (hB.cell (p := ⟨tb, tof + j * 2 + 1, none⟩) htb).trans y1
        have hj0 : (0 : Int) ≤ (j : Int) := by omega
        have hj1 : (j : Int) < (M : Int) := by omega
        obtain ⟨W7, hW7⟩ : ∃ W7, wr.alloc (.cells #[.string x.1, .int .i64 x.2] 24) = W7 := ⟨_, rfl⟩
        have hz7 : wr.heap.size < W7.heap.size := by subst hW7; simp
        have hb7 : Below wr.heap.size wr W7 := by subst hW7; exact (Below.refl _ _).alloc (Nat.le_refl _) _
        have z0 : W7.cell? ⟨wr.heap.size, 0, none⟩ = some (.string x.1) := by subst hW7; go_simp
        have z1 : W7.cell? ⟨wr.heap.size, 1, none⟩ = some (.int .i64 x.2) := by subst hW7; go_simp
        have hb37 := hB.trans (hb7.mono hz)
        have hb07 : Below W0.heap.size W0 W7 := H3.out.2.2.trans (hb37.mono H3.out.2.2.size)
        have hxok := HTS.out x (List.mem_of_getElem? hx)
        have HC := Lib.hid (HCe.out W7 x hb07 hxok)
        have HT := Lib.hid (And.intro HG (And.intro hb37 (And.intro hb07 hxok)))
        clear HG hB hx htc y0 y1 hb7 hb37 hb07 hxok
        go_wp2_with fail
        refine HC.out.mono ?_
        rintro e w8 ⟨hb8, ⟨er, hne, hv, rfl⟩ | ⟨L, vA, vc, hv, rfl, hown, hlen⟩⟩
        · have hne2 : (er != 0) = true := by simpa using hne
          have HB8 := Lib.hid (HT.out.2.1.trans (hb8.mono (Nat.le_trans hz (Nat.le_of_lt hz7))))
          clear hb8 hne hv z0 z1 c0 c1 hW7
          unfold zeroC
          go_wp2
          go_roundg (M - (j + 1))
          case measure => rw [HT.out.1]; omega
          case rel => exact ⟨j + 1, rfl, by omega, by go_num, HB8.out.alloc HB8.out.size _⟩
        · have hnL : x ∈ L := ((certV_ok hv).2.2.2.1 x).2 .refl
          obtain ⟨gL, cL, e1, l1, l2⟩ := own_pos2 hown (by cases L with | nil => simp at hnL | cons a b => simp)
          simp only [Value.slice.injEq, true_and] at e1
          obtain ⟨rfl, rfl⟩ := e1
          obtain ⟨T, HT'⟩ : ∃ Q, Hid (certT old x L = Q) := ⟨_, Lib.hid rfl⟩
          have hTl := certT_len (certV_ok hv).1 hlen
          rw [HT'.out] at hTl ⊢
          obtain ⟨K, HK⟩ : ∃ Q, Hid (L.length = Q) := ⟨_, Lib.hid rfl⟩
          rw [HK.out] at hlen l1 hown ⊢
          obtain ⟨W9, hW9⟩ : ∃ W9, (w8.alloc (.cells #[.string x.1, .int .i64 x.2, .slice (some ⟨gL, 0, none⟩) K vc, .string T] 54)).alloc (.cells #[.string x.1, .int .i64 x.2, .slice (some ⟨gL, 0, none⟩) K vc, .string T] 54) = W9 := ⟨_, rfl⟩
          have hb9 : Below w8.heap.size w8 W9 := by subst hW9; exact ((Below.refl _ _).alloc (Nat.le_refl _) _).alloc (by simp) _
          have hrc : W9.heap[w8.heap.size]? = some (.cells #[.string x.1, .int .i64 x.2, .slice (some ⟨gL, 0, none⟩) K vc, .string T] 54 (0, 0)) := by rw [← hW9]; simp only [heap_push2]; rw [if_neg (by simp), if_pos trivial]
          have hrd : W9.heap[w8.heap.size + 1]? = some (.cells #[.string x.1, .int .i64 x.2, .slice (some ⟨gL, 0, none⟩) K vc, .string T] 54 (0, 0)) := by rw [← hW9, heap_push2, if_pos (by simp)]
          have hz9 : w8.heap.size + 1 < W9.heap.size := by subst hW9; simp
          have hK1 : 1 ≤ K := by rw [← HK.out]; cases L with | nil => simp at hnL | cons a b => simp
          have hb39 : Below w3.heap.size w3 W9 := HT.out.2.1.trans ((hb8.trans (hb9.mono hb8.size)).mono (Nat.le_trans hz (Nat.le_of_lt hz7)))
          have hb09 : Below W0.heap.size W0 W9 := H3.out.2.2.trans (hb39.mono H3.out.2.2.size)
          have hb79 : Below W7.heap.size W7 W9 := hb8.trans (hb9.mono hb8.size)
          have hown9 := own_of_blocks' hown fun k hk => hb9.block k hk
          have HOwn := Lib.hid hown9
          have HKc := Lib.hid (show ∀ Y : World, Below W9.heap.size W9 Y → Y.cell? ⟨w8.heap.size, 2, none⟩ = some (.slice (some ⟨gL, 0, none⟩) K vc) ∧ Y.cell? ⟨w.heap.size, 0, none⟩ = some (.string o.1) ∧ Y.cell? ⟨w.heap.size, 1, none⟩ = some (.int .i64 o.2) from fun Y hY =>
            ⟨(hY.cell (p := ⟨w8.heap.size, 2, none⟩) (Nat.lt_of_succ_lt hz9)).trans (cell_of_row W9 _ 2 _ _ (0, 0) hrc), HO.out Y (hb09.trans (hY.mono hb09.size))⟩)
          have HFz := Lib.hid (show ∀ Y : World, Below W9.heap.size W9 Y → Y.cell? ⟨w8.heap.size + 1, 2, none⟩ = some (.slice (some ⟨gL, 0, none⟩) K vc) ∧ Y.frozen? ⟨w8.heap.size + 1, 2, none⟩ = false from fun Y hY => by
            have h := (hY.block _ hz9).trans hrd
            exact ⟨cell_of_row Y _ 2 _ _ (0, 0) h, frozen_of_row Y _ 2 _ _ h⟩)
          have HKs := Lib.hid (show ∀ (Y : World) (v : Value), Below W9.heap.size W9 Y → (Y.setCell ⟨w8.heap.size + 1, 2, none⟩ v).cell? ⟨w8.heap.size, 2, none⟩ = some (.slice (some ⟨gL, 0, none⟩) K vc) ∧ (Y.setCell ⟨w8.heap.size + 1, 2, none⟩ v).cell? ⟨w.heap.size, 0, none⟩ = some (.string o.1) ∧ (Y.setCell ⟨w8.heap.size + 1, 2, none⟩ v).cell? ⟨w.heap.size, 1, none⟩ = some (.int .i64 o.2) from fun Y v hY => by
            have hne : w.heap.size ≠ w8.heap.size + 1 := by have := HT.out.2.2.1.size; have := hb8.size; omega
            have hbk : ∀ k, k ≠ w8.heap.size + 1 → (Y.setCell ⟨w8.heap.size + 1, 2, none⟩ v).heap[k]? = Y.heap[k]? := fun k hk => Below.heap_setCell _ _ _ _ (fun e => hk (by simpa using e))
            obtain ⟨k1, k2, k3⟩ := HKc.out Y hY
            exact ⟨(World.cell?_of_block (hbk _ (by simp))).trans k1, (World.cell?_of_block (hbk _ hne)).trans k2, (World.cell?_of_block (hbk _ hne)).trans k3⟩)
          have HR9 := Lib.hid (And.intro hb39 (And.intro hb09 (And.intro hb79 (And.intro hrc (And.intro hrd (And.intro (And.intro z0 z1) (And.intro (show W7.heap.size ≤ w8.heap.size from hb8.size) (show gL ≠ w8.heap.size + 1 by have := (hown.lt gL rfl).2; omega))))))))
          have HV := Lib.hid hv
          have HNL := Lib.hid hnL
          have HTl := Lib.hid hTl
          clear hb8 hb9 hb39 hb09 hb79 hown hown9 hrc hrd hv hnL hTl z0 z1 c0 c1 hW7
          go_wp2_with fail
          have hb0 : Below W9.heap.size W9 W9.drew := below_drew' (Below.refl _ _)
          have HNw := Lib.hid (fun Y (hY : Below W9.heap.size W9 Y) => own_news (own_of_blocks' HOwn.out fun k hk => hY.block k hk))
          have HL1 := Lib.hid (show (namesC L).length = K * 2 by rw [namesC_length, HK.out])
          have HO1 := Lib.hid (World.ownsRow_lit (base := W9.heap.size) (e := 24) (size := 2) W9.drew #[] 0 (Nat.le_refl _) (by simp) rfl)
          have HO2 := Lib.hid (HO1.out.alloc (.cells #[.string o.1, .int .i64 o.2] 24))
          have ho3 := World.ownsRow_lit (base := W9.heap.size) (e := 24) (size := 2) (W9.drew.alloc (.cells #[.string o.1, .int .i64 o.2] 24)) #[] 0 (by simp) (by simp) rfl
          rw [show (W9.drew.alloc (.cells #[.string o.1, .int .i64 o.2] 24)).heap.size = W9.heap.size + 1 by simp] at ho3
          have HO3 := Lib.hid ho3
          clear ho3
          have hba : Below W9.heap.size W9 (W9.drew.alloc (.cells #[] 24)) := hb0.alloc (Nat.le_refl _) _
          have hbb : Below W9.heap.size W9 ((W9.drew.alloc (.cells #[] 24)).alloc (.cells #[.string o.1, .int .i64 o.2] 24)) := hba.alloc hba.size _
          have hbn : Below W9.heap.size W9 (W9.drew.alloc (.cells #[.string o.1, .int .i64 o.2] 24)) := hb0.alloc (Nat.le_refl _) _
          have hbc : Below W9.heap.size W9 ((W9.drew.alloc (.cells #[.string o.1, .int .i64 o.2] 24)).alloc (.cells #[] 24)) := hbn.alloc hbn.size _
          have HNa := Lib.hid (HNw.out _ hba)
          have HNb := Lib.hid (HNw.out _ hbb)
          have HNc := Lib.hid (HNw.out _ hbc)
          have HGa := Lib.hid (fun w1 (hg : (W9.drew.alloc (.cells #[] 24)).grownBy w1 (Value.slice (some ⟨W9.drew.heap.size, 0, none⟩) 0 0).ownBlock) => hba.grown hg hba.size (fun q hq => (HO1.out.lt q hq).1))
          have HGb := Lib.hid (fun w1 (hg : ((W9.drew.alloc (.cells #[] 24)).alloc (.cells #[.string o.1, .int .i64 o.2] 24)).grownBy w1 (Value.slice (some ⟨W9.drew.heap.size, 0, none⟩) 0 0).ownBlock) => And.intro (hbb.grown hg hbb.size (fun q hq => (HO1.out.lt q hq).1)) (show w1.heap[W9.heap.size + 1]? = some (.cells #[.string o.1, .int .i64 o.2] 24 (0, 0)) from (hg.block (W9.heap.size + 1) (by simp) (fun h => by have := Option.some.inj h; change W9.heap.size + 1 = W9.heap.size at this; omega)).trans (by have := heap_alloc_new (W9.drew.alloc (.cells #[] 24)) (.cells #[.string o.1, .int .i64 o.2] 24); rwa [show (W9.drew.alloc (.cells #[] 24)).heap.size = W9.heap.size + 1 by simp] at this)))
          have HGc := Lib.hid (fun w1 (hg : ((W9.drew.alloc (.cells #[.string o.1, .int .i64 o.2] 24)).alloc (.cells #[] 24)).grownBy w1 (Value.slice (some ⟨W9.heap.size + 1, 0, none⟩) 0 0).ownBlock) => And.intro (hbc.grown hg hbc.size (fun q hq => (HO3.out.lt q hq).1)) (show w1.heap[W9.heap.size]? = some (.cells #[.string o.1, .int .i64 o.2] 24 (0, 0)) from (hg.block W9.heap.size (by simp; omega) (fun h => by have := Option.some.inj h; change W9.heap.size = W9.heap.size + 1 at this; omega)).trans (by rw [Below.heap_alloc _ _ _ (by simp)]; exact heap_alloc_new W9.drew _)))
          have HM' := Lib.hid (show 0 + K ≤ maxLen ∧ (0 + K) * 24 ≤ 140737488355328 ∧ 0 + K + 1 ≤ maxLen ∧ (0 + K + 1) * 24 ≤ 140737488355328 from ⟨by unfold maxLen; omega, by omega, by unfold maxLen; omega, by omega⟩)
          have HBB := Lib.hid (And.intro hba (And.intro hbb hbc))
          have HB0' := Lib.hid (And.intro hb0 hbn)
          clear hba hbb hbc hb0 hbn
          go_region_held3 (fun Y => Y.cell? ⟨w8.heap.size, 2, none⟩ = some (.slice (some ⟨gL, 0, none⟩) K vc) ∧ Y.cell? ⟨w.heap.size, 0, none⟩ = some (.string o.1) ∧ Y.cell? ⟨w.heap.size, 1, none⟩ = some (.int .i64 o.2))
            (first | exact HKs.out _ _ hb2 | exact HKc.out _ hb2 | exact HKc.out _ hb1 | exact HKc.out _ (hb1.alloc hb1.size _) | exact HKc.out _ HB0'.out.1 | exact HKc.out _ HB0'.out.2 | exact HKc.out _ HBB.out.1 | exact HKc.out _ HBB.out.2.1 | exact HKc.out _ HBB.out.2.2)
            (first
              | (refine step_append_any _ rfl (.tmp 43) (.tmp 45) 30 rfl W9.heap.size 24 i0 _ 2 24 Tryz.underlying30 hi hz0 hz1 hz2 rfl (Nat.succ_pos 1) _ 0 [] rfl HO1.out (some ⟨gL, 0, none⟩) K vc (namesC L) rfl HL1.out (fun h => nomatch h) HNa.out (namesC_one _) HM'.out.1 HM'.out.2.1 HBB.out.1.size ?_; intro v1 w1 hown1 hg1; have hb1 := HGa.out w1 hg1; have tokA : True := trivial)
              | (refine step_append_any _ rfl (.tmp 43) (.tmp 45) 30 rfl W9.heap.size 24 i0 _ 2 24 Tryz.underlying30 hi hz0 hz1 hz2 rfl (Nat.succ_pos 1) _ 0 [] rfl HO2.out (some ⟨gL, 0, none⟩) K vc (namesC L) rfl HL1.out (fun h => nomatch h) HNb.out (namesC_one _) HM'.out.1 HM'.out.2.1 HBB.out.2.1.size ?_; intro v1 w1 hown1 hg1; obtain ⟨hb1, hD⟩ := HGb.out w1 hg1; have tokB : True := trivial)
              | (refine step_append_any _ rfl (.tmp 43) (.tmp 45) 30 rfl W9.heap.size 24 i0 _ 2 24 Tryz.underlying30 hi hz0 hz1 hz2 rfl (Nat.succ_pos 1) _ 0 [] rfl HO3.out (some ⟨gL, 0, none⟩) K vc (namesC L) rfl HL1.out (fun h => nomatch h) HNc.out (namesC_one _) HM'.out.1 HM'.out.2.1 HBB.out.2.2.size ?_; intro v1 w1 hown1 hg1; obtain ⟨hb1, hD⟩ := HGc.out w1 hg1; have tokC : True := trivial)
              | (have _t := tokA; refine step_append_any _ rfl (.tmp 46) (.tmp 48) 30 rfl W9.heap.size 24 i0 _ 2 24 Tryz.underlying30 hi hz0 hz1 hz2 rfl (Nat.succ_pos 1) v1 _ _ rfl (hown1.alloc _) (some ⟨w1.heap.size, 0, none⟩) 1 1 [.string o.1, .int .i64 o.2] rfl rfl (fun h => nomatch h) (news_pair _ _ _) (namesC_one [(o.1, o.2)]) HM'.out.2.2.1 HM'.out.2.2.2 (hb1.alloc hb1.size _).size ?_; intro v2 w2 hown2 hg2; have hb2 := (hb1.alloc hb1.size (.cells #[.string o.1, .int .i64 o.2] 24)).grown hg2 (hb1.alloc hb1.size _).size (fun q hq => (hown1.lt q hq).1); obtain ⟨dA, dc, rfl⟩ := own_formN hown2; obtain ⟨sd1, sd2⟩ := HFz.out w2 hb2)
              | (have _t := tokB; refine step_append_any _ rfl (.tmp 46) (.tmp 48) 30 rfl W9.heap.size 24 i0 _ 2 24 Tryz.underlying30 hi hz0 hz1 hz2 rfl (Nat.succ_pos 1) v1 _ _ rfl hown1 (some ⟨W9.heap.size + 1, 0, none⟩) 1 1 [.string o.1, .int .i64 o.2] rfl rfl (fun h => nomatch h) (news_at hD) (namesC_one [(o.1, o.2)]) HM'.out.2.2.1 HM'.out.2.2.2 hb1.size ?_; intro v2 w2 hown2 hg2; have hb2 := hb1.grown hg2 hb1.size (fun q hq => (hown1.lt q hq).1); obtain ⟨dA, dc, rfl⟩ := own_formN hown2; obtain ⟨sd1, sd2⟩ := HFz.out w2 hb2)
              | (have _t := tokC; refine step_append_any _ rfl (.tmp 46) (.tmp 48) 30 rfl W9.heap.size 24 i0 _ 2 24 Tryz.underlying30 hi hz0 hz1 hz2 rfl (Nat.succ_pos 1) v1 _ _ rfl hown1 (some ⟨W9.heap.size, 0, none⟩) 1 1 [.string o.1, .int .i64 o.2] rfl rfl (fun h => nomatch h) (news_at hD) (namesC_one [(o.1, o.2)]) HM'.out.2.2.1 HM'.out.2.2.2 hb1.size ?_; intro v2 w2 hown2 hg2; have hb2 := hb1.grown hg2 hb1.size (fun q hq => (hown1.lt q hq).1); obtain ⟨dA, dc, rfl⟩ := own_formN hown2; obtain ⟨sd1, sd2⟩ := HFz.out w2 hb2))
          all_goals (
            obtain ⟨W11, hW11⟩ : ∃ W11, w2.setCell ⟨w8.heap.size + 1, 2, none⟩ (.slice dA (K + 1) dc) = W11 := ⟨_, rfl⟩
            have hrd2 := (hb2.block _ hz9).trans HR9.out.2.2.2.2.1
            have q0 := cell_of_row w2 _ 0 _ _ (0, 0) hrd2
            have q1 := cell_of_row w2 _ 1 _ _ (0, 0) hrd2
            have q3 := cell_of_row w2 _ 3 _ _ (0, 0) hrd2
            have m0 : W11.cell? ⟨w8.heap.size + 1, 0, none⟩ = some (.string x.1) := by rw [← hW11]; exact (World.cell?_setCell_other w2 ⟨w8.heap.size + 1, 2, none⟩ ⟨w8.heap.size + 1, 0, none⟩ _ (by simp)).trans q0
            have m1 : W11.cell? ⟨w8.heap.size + 1, 1, none⟩ = some (.int .i64 x.2) := by rw [← hW11]; exact (World.cell?_setCell_other w2 ⟨w8.heap.size + 1, 2, none⟩ ⟨w8.heap.size + 1, 1, none⟩ _ (by simp)).trans q1
            have m3 : W11.cell? ⟨w8.heap.size + 1, 3, none⟩ = some (.string T) := by rw [← hW11]; exact (World.cell?_setCell_other w2 ⟨w8.heap.size + 1, 2, none⟩ ⟨w8.heap.size + 1, 3, none⟩ _ (by simp)).trans q3
            have m2 : W11.cell? ⟨w8.heap.size + 1, 2, none⟩ = some (.slice dA (K + 1) dc) := by rw [← hW11]; exact World.cell?_setCell_same w2 _ _ sd1
            have hbk : ∀ k, k ≠ w8.heap.size + 1 → W11.heap[k]? = w2.heap[k]? := fun k hk => by rw [← hW11]; exact Below.heap_setCell _ _ _ _ (fun e => hk (by simpa using e))
            have hsz : W11.heap.size = w2.heap.size := by rw [← hW11]; simp
            have hz11 : Below W9.heap.size W9 w2 := hb2
            have hkeep : ∀ Y : World, Below W11.heap.size W11 Y → ∀ k, k < W9.heap.size → k ≠ w8.heap.size + 1 → Y.heap[k]? = W9.heap[k]? := fun Y hY k hk hne => (hY.block k (by have := hz11.size; omega)).trans ((hbk k hne).trans (hz11.block k hk))
            have hs11 : w8.heap.size + 1 < W11.heap.size := by have := hz11.size; omega
            have HKK := Lib.hid (show ∀ Y : World, Below W11.heap.size W11 Y → Y.cell? ⟨w8.heap.size, 0, none⟩ = some (.string x.1) ∧ Y.cell? ⟨w8.heap.size, 1, none⟩ = some (.int .i64 x.2) ∧ Y.cell? ⟨w8.heap.size, 2, none⟩ = some (.slice (some ⟨gL, 0, none⟩) K vc) ∧ Y.cell? ⟨w8.heap.size, 3, none⟩ = some (.string T) ∧
                Y.cell? ⟨w8.heap.size + 1, 0, none⟩ = some (.string x.1) ∧ Y.cell? ⟨w8.heap.size + 1, 1, none⟩ = some (.int .i64 x.2) ∧ Y.cell? ⟨w8.heap.size + 1, 2, none⟩ = some (.slice dA (K + 1) dc) ∧ Y.cell? ⟨w8.heap.size + 1, 3, none⟩ = some (.string T) ∧
                Y.cell? ⟨wr.heap.size, 0, none⟩ = some (.string x.1) ∧ Y.cell? ⟨wr.heap.size, 1, none⟩ = some (.int .i64 x.2) from fun Y hY => by
              have h1 := (hkeep Y hY w8.heap.size (by omega) (by omega)).trans HR9.out.2.2.2.1
              have hw8 : wr.heap.size < w8.heap.size := Nat.lt_of_lt_of_le hz7 HR9.out.2.2.2.2.2.2.1
              have h2 : Y.heap[wr.heap.size]? = W7.heap[wr.heap.size]? := (hkeep Y hY wr.heap.size (by omega) (by omega)).trans (HR9.out.2.2.1.block _ hz7)
              exact ⟨cell_of_row Y _ 0 _ _ (0, 0) h1, cell_of_row Y _ 1 _ _ (0, 0) h1, cell_of_row Y _ 2 _ _ (0, 0) h1, cell_of_row Y _ 3 _ _ (0, 0) h1, (hY.cell (p := ⟨w8.heap.size + 1, 0, none⟩) hs11).trans m0, (hY.cell (p := ⟨w8.heap.size + 1, 1, none⟩) hs11).trans m1, (hY.cell (p := ⟨w8.heap.size + 1, 2, none⟩) hs11).trans m2, (hY.cell (p := ⟨w8.heap.size + 1, 3, none⟩) hs11).trans m3, (World.cell?_of_block h2).trans HR9.out.2.2.2.2.2.1.1, (World.cell?_of_block h2).trans HR9.out.2.2.2.2.2.1.2⟩)
            have hLo : W11.ownsRow W7.heap.size 24 2 (.slice (some ⟨gL, 0, none⟩) L.length vc) L.length (namesC L) := by
              have h1 := HOwn.out
              have hg9 := h1.lt gL rfl
              rw [HK.out]
              exact own_of_blocks h1 fun k hk => by
                cases hk
                exact hkeep W11 (Below.refl _ _) gL hg9.2 (HR9.out.2.2.2.2.2.2.2)
            have hLs : SlN W11 W11.heap.size (some ⟨gL, 0, none⟩) vc L := SlN.of_own hLo
            have hDs : SlN W11 W11.heap.size dA dc (L ++ [o]) := by
              have h1 := ownsRow_setCell_other hown2 (a := ⟨w8.heap.size + 1, 2, none⟩) (fun e => by have := (hown2.lt _ e).1; simp at this; omega) (.slice dA (K + 1) dc)
              rw [hW11] at h1
              have e1 : 0 + K + 1 = (L ++ [o]).length := by simp [HK.out]
              have e2 : [] ++ namesC L ++ [Value.string o.1, Value.int .i64 o.2] = namesC (L ++ [o]) := by rw [namesC_append]; rfl
              rw [e1, e2] at h1
              exact SlN.of_own h1
            have h311 : Below w3.heap.size w3 W11 := by
              have h1 := (HR9.out.1.trans (hb2.mono HR9.out.1.size)).setCell (p := ⟨w8.heap.size + 1, 2, none⟩) (show w3.heap.size ≤ w8.heap.size + 1 by have := HR9.out.2.2.2.2.2.2.1; omega) (.slice dA (K + 1) dc)
              rwa [hW11] at h1
            have HSl := Lib.hid (And.intro hLs (And.intro hDs (And.intro h311 (H3.out.2.2.trans (h311.mono H3.out.2.2.size)))))
            have HLo := Lib.hid hLo
            have HUo := Lib.hid (own_of_blocks' H3.out.1 fun k hk => h311.block k hk)
            obtain ⟨k0, k1, k2, k3, _⟩ := HKK.out W11 (Below.refl _ _)
            rw [hW11]
            clear sd1 sd2 q0 q1 q3 m0 m1 m2 m3 hrd2 hbk hsz hz11 hkeep hs11 hLo hLs hDs h311 hW11 hown2 hg2 hb2 hown1 hg1 hb1
            obtain ⟨W12, hW12⟩ : ∃ W12, W11.alloc (.cells #[.string x.1, .int .i64 x.2, .slice (some ⟨gL, 0, none⟩) K vc, .string T] 54) = W12 := ⟨_, rfl⟩
            obtain ⟨W13, hW13⟩ : ∃ W13, W12.setCell ⟨W11.heap.size, 3, none⟩ (.string (T ++ ⟨#[120]⟩)) = W13 := ⟨_, rfl⟩
            have hr12 : W12.heap[W11.heap.size]? = some (.cells #[.string x.1, .int .i64 x.2, .slice (some ⟨gL, 0, none⟩) K vc, .string T] 54 (0, 0)) := by rw [← hW12]; exact heap_alloc_new _ _
            have t0 := cell_of_row W12 _ 0 _ _ (0, 0) hr12
            have t1 := cell_of_row W12 _ 1 _ _ (0, 0) hr12
            have t2 := cell_of_row W12 _ 2 _ _ (0, 0) hr12
            have t3 : W12.cell? ⟨W11.heap.size, 3, none⟩ = some (.string T) := cell_of_row W12 _ 3 _ _ (0, 0) hr12
            have tf : W12.frozen? ⟨W11.heap.size, 3, none⟩ = false := frozen_of_row W12 _ 3 _ _ hr12
            have hb12 : Below W11.heap.size W11 W12 := by rw [← hW12]; exact (Below.refl _ _).alloc (Nat.le_refl _) _
            have hb13 : Below W11.heap.size W11 W13 := by rw [← hW13]; exact hb12.setCell (p := ⟨W11.heap.size, 3, none⟩) (Nat.le_refl _) _
            have hz13 : W11.heap.size < W13.heap.size := by rw [← hW13, World.size_setCell, ← hW12]; simp
            have HT3 := Lib.hid (show ∀ Y : World, Below W13.heap.size W13 Y → Y.cell? ⟨W11.heap.size, 0, none⟩ = some (.string x.1) ∧ Y.cell? ⟨W11.heap.size, 1, none⟩ = some (.int .i64 x.2) ∧ Y.cell? ⟨W11.heap.size, 2, none⟩ = some (.slice (some ⟨gL, 0, none⟩) K vc) ∧ Y.cell? ⟨W11.heap.size, 3, none⟩ = some (.string (T ++ ⟨#[120]⟩)) from fun Y hY => by
              refine ⟨(hY.cell (p := ⟨W11.heap.size, 0, none⟩) hz13).trans ?_, (hY.cell (p := ⟨W11.heap.size, 1, none⟩) hz13).trans ?_, (hY.cell (p := ⟨W11.heap.size, 2, none⟩) hz13).trans ?_, (hY.cell (p := ⟨W11.heap.size, 3, none⟩) hz13).trans ?_⟩
              · rw [← hW13]; exact (World.cell?_setCell_other W12 ⟨W11.heap.size, 3, none⟩ ⟨W11.heap.size, 0, none⟩ _ (by simp)).trans t0
              · rw [← hW13]; exact (World.cell?_setCell_other W12 ⟨W11.heap.size, 3, none⟩ ⟨W11.heap.size, 1, none⟩ _ (by simp)).trans t1
              · rw [← hW13]; exact (World.cell?_setCell_other W12 ⟨W11.heap.size, 3, none⟩ ⟨W11.heap.size, 2, none⟩ _ (by simp)).trans t2
              · rw [← hW13]; exact World.cell?_setCell_same W12 _ _ t3)
            have HB13 := Lib.hid (And.intro hb13 (And.intro hz13 (hb13.size)))
            obtain ⟨v0, v1', v2', v3', _⟩ := HKK.out W13 hb13
            clear t0 t1 t2 hr12 hb12 hb13 hz13
            have hTs : T.size + (⟨#[120]⟩ : ByteArray).size ≤ 9223372036854775807 := by have := HTl.out; have h2 : (⟨#[120]⟩ : ByteArray).size = 1 := rfl; omega
            have hTs1 : T.size + 1 ≤ 9223372036854775807 := hTs
            have hTs2 : T.size ≤ 9223372036854775806 := by omega
            have hTs3 : ¬ (9223372036854775807 < T.size + 1) := by omega
            go_wp2_with fail
            have HZ1 := Lib.hid (HVo.out W13 x L T (some ⟨gL, 0, none⟩) vc K (HSl.out.2.2.2.trans (HB13.out.1.mono HSl.out.2.2.2.size)) HT.out.2.2.2 HK.out (HSl.out.1.below HB13.out.1))
            refine HZ1.out.mono ?_
            rintro e w14 ⟨b14, rfl, hv14, hb14⟩
            have hbt := ver_true HV.out (by rw [HT'.out]; exact hv14)
            subst hbt
            obtain ⟨k0', k1', k2', k3', d0, d1, d2, d3, n0, n1⟩ := HKK.out w14 (HB13.out.1.trans (hb14.mono HB13.out.2.2))
            have HB14 := Lib.hid (And.intro (HB13.out.1.trans (hb14.mono HB13.out.2.2)) hb14)
            clear hv14 hb14 v0 v1' v2' v3' k0 k1 k2 k3
            go_wp2_with fail
            have HZ2 := Lib.hid (HVo.out w14 x (L ++ [o]) T dA dc (K + 1) (HSl.out.2.2.2.trans (HB14.out.1.mono HSl.out.2.2.2.size)) HT.out.2.2.2 (by simp [HK.out]) (HSl.out.2.1.below HB14.out.1))
            refine HZ2.out.mono ?_
            rintro e w15 ⟨b15, rfl, hv15, hb15⟩
            have hbf := ver_false HV.out (.inl (by simp)) hv15
            subst hbf
            have hb1315 : Below W13.heap.size W13 w15 := HB14.out.2.trans (hb15.mono HB14.out.2.size)
            have hb1115 : Below W11.heap.size W11 w15 := HB13.out.1.trans (hb1315.mono HB13.out.2.2)
            obtain ⟨t0, t1, t2, t3'⟩ := HT3.out w15 hb1315
            have HB15 := Lib.hid (And.intro hb1115 hb1315)
            clear hv15 hb15 hb1315 hb1115 k0' k1' k2' k3' d0 d1 d2 d3 n0 n1
            go_wp2_with fail
            have HZ3 := Lib.hid (HVo.out w15 x L (T ++ ⟨#[120]⟩) (some ⟨gL, 0, none⟩) vc K (HSl.out.2.2.2.trans (HB15.out.1.mono HSl.out.2.2.2.size)) HT.out.2.2.2 HK.out (HSl.out.1.below HB15.out.1))
            refine HZ3.out.mono ?_
            rintro e w16 ⟨b16, rfl, hv16, hb16⟩
            have hbf := ver_false HV.out (.inr (by rw [HT'.out]; exact app_ne T)) hv16
            subst hbf
            have hb1116 : Below W11.heap.size W11 w16 := HB15.out.1.trans (hb16.mono HB15.out.1.size)
            obtain ⟨k0', k1', k2', k3', d0, d1, d2, d3, n0, n1⟩ := HKK.out w16 hb1116
            have HB16 := Lib.hid hb1116
            clear hv16 hb16 hb1116 t0 t1 t2 t3'
            have hcm : memN L x = true := memN_iff.2 HNL.out
            have HZ4 := Lib.hid (slcContainsN_any L x (some ⟨gL, 0, none⟩) vc _ w16 (own_of_blocks' HLo.out fun k hk => HB16.out.block k hk) (by rw [HK.out]; omega))
            rw [hcm, HK.out] at HZ4
            have hE := run_neqN x.1 x.1 x.2 x.2
            have he2 : (!((x.1.toList == x.1.toList) && (x.2 == x.2))) = false := by simp
            rw [he2] at hE
            clear hcm he2
            go_wp2_with fail
            refine HZ4.out.mono ?_
            rintro e w17 ⟨rfl, hb17⟩
            have hb1117 : Below W11.heap.size W11 w17 := HB16.out.trans (hb17.mono HB16.out.size)
            obtain ⟨l0, l1', l2', l3, _, _, _, _, n0', n1'⟩ := HKK.out w17 hb1117
            have HB17 := Lib.hid hb1117
            clear hb17 k0' k1' k2' k3' d0 d1 d2 d3 n0 n1
            go_wp2_with fail
            obtain ⟨qq, Hqq⟩ : ∃ qq, Hid (memN U x = qq) := ⟨_, Lib.hid rfl⟩
            have HVw := Lib.hid (show ∀ X : World, Below W11.heap.size W11 X → Calls Tryz.prog 29 #[.slice A' N' c', .agg #[.string x.1, .int .i64 x.2, .slice (some ⟨gL, 0, none⟩) K vc, .string T]] X (fun e Y => e = .returned (.bool qq) ∧ Below W11.heap.size W11 Y) from fun X hX => by
              refine (HVn.out X x L T (some ⟨gL, 0, none⟩) vc K (HSl.out.2.2.2.trans (hX.mono HSl.out.2.2.2.size)) HT.out.2.2.2 HK.out (HSl.out.1.below hX)).mono ?_
              rintro e Y ⟨b, rfl, hv, hb⟩
              rw [← HT'.out] at hv
              rw [ver_new HV.out H2.out.2.2.1 H2.out.2.2.2 hv, Hqq.out]
              exact ⟨rfl, hX.trans (hb.mono hX.size)⟩)
            have HCU := Lib.hid (show ∀ X : World, Below W11.heap.size W11 X → Calls Tryz.prog 13 #[.slice uA u1 uc, .agg #[.string x.1, .int .i64 x.2]] X (fun e Y => e = .returned (.bool qq) ∧ Below W11.heap.size W11 Y) from fun X hX => by
              have h1 := slcContainsN_any U x uA uc _ X (own_of_blocks' HUo.out fun k hk => hX.block k hk) HUl.out
              rw [Hu1.out, Hqq.out] at h1
              refine h1.mono ?_
              rintro e Y ⟨rfl, hb⟩
              exact ⟨rfl, hX.trans (hb.mono hX.size)⟩)
            have HKS := Lib.hid (show ∀ Y : World, Below W11.heap.size W11 Y → Y.cell? ⟨w8.heap.size, 0, none⟩ = some (.string x.1) ∧ Y.cell? ⟨w8.heap.size, 1, none⟩ = some (.int .i64 x.2) ∧ Y.cell? ⟨w8.heap.size, 2, none⟩ = some (.slice (some ⟨gL, 0, none⟩) K vc) ∧ Y.cell? ⟨w8.heap.size, 3, none⟩ = some (.string T) ∧ Y.cell? ⟨wr.heap.size, 0, none⟩ = some (.string x.1) ∧ Y.cell? ⟨wr.heap.size, 1, none⟩ = some (.int .i64 x.2) from fun Y hY => by
              obtain ⟨a0, a1, a2, a3, _, _, _, _, a4, a5⟩ := HKK.out Y hY
              exact ⟨a0, a1, a2, a3, a4, a5⟩)
            have HBz := Lib.hid hb1117
            clear hb1117 l0 l1' l2' l3 n0' n1' hE
            go_region_held3 (fun Y => Y.cell? ⟨w8.heap.size, 0, none⟩ = some (.string x.1) ∧ Y.cell? ⟨w8.heap.size, 1, none⟩ = some (.int .i64 x.2) ∧ Y.cell? ⟨w8.heap.size, 2, none⟩ = some (.slice (some ⟨gL, 0, none⟩) K vc) ∧ Y.cell? ⟨w8.heap.size, 3, none⟩ = some (.string T) ∧ Y.cell? ⟨wr.heap.size, 0, none⟩ = some (.string x.1) ∧ Y.cell? ⟨wr.heap.size, 1, none⟩ = some (.int .i64 x.2))
              (focus (refine HKS.out _ ?_; (first | with_reducible exact HBz.out | with_reducible exact below_drew' HBz.out)))
              (first
                | (go_at_call 29; (with_reducible refine Calls.mono (HVw.out _ ?_) ?_); (focus (first | with_reducible exact HBz.out | with_reducible exact below_drew' HBz.out)); rintro e Y ⟨rfl, hbY⟩; have HBz := Lib.hid hbY; clear hbY)
                | (go_at_call 13; (with_reducible refine Calls.mono (HCU.out _ ?_) ?_); (focus (first | with_reducible exact HBz.out | with_reducible exact below_drew' HBz.out)); rintro e Y ⟨rfl, hbY⟩; have HBz := Lib.hid hbY; clear hbY))
            all_goals (
              have hqq : (qq != qq) = false := by cases qq <;> rfl
              go_wp2
              go_roundg (M - (j + 1))
              case measure => rw [HT.out.1]; omega
              case rel => exact ⟨j + 1, rfl, by omega, by go_num, HSl.out.2.2.1.trans (HBz.out.mono HSl.out.2.2.1.size)⟩))
      · have HB5 := Lib.hid (HB0.out.trans ((H3.out.2.2.trans (hB.mono H3.out.2.2.size)).mono HB0.out.size))
        clear hB HG
        go_wp2_with fail
        refine (awake50_any _).mono ?_
        rintro e w9 ⟨rfl, hb9⟩
        have HB9 := Lib.hid (HB5.out.trans (hb9.mono HB5.out.size))
        clear hb9
        go_wp2
        go_ret
        exact ⟨rfl, HB9.out⟩
end Go.Proofs.YtdobpmbgngomlaaGreatDoor
