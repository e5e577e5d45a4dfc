/- DependSelf in plain words -/
import Derived.Test.YtpnfbfnffkbilaaGreatDoorZmb
import Derived.Test.YtpnfbfnffkbilaaGreatDoorZmd
import Derived.Test.YtpnfbfnffkbilaaGreatDoorZma
namespace Go.Proofs.YtpnfbfnffkbilaaGreatDoor
open Go.RowKit Go.Proofs Go.Shelf

theorem eqF_refl : ∀ s : Fo, s.eqF s = true
  | .nil => rfl
  | .cons _ _ _ _ _ _ _ s r => by simp [Fo.eqF, eqF_refl s, eqF_refl r]
theorem eqF_symm : ∀ s s' : Fo, s.eqF s' = s'.eqF s
  | .nil, .nil => rfl
  | .nil, .cons .. => rfl
  | .cons .., .nil => rfl
  | .cons k n m i d _ _ s r, .cons k' n' m' i' d' _ _ s' r' => by
    simp only [Fo.eqF, eqF_symm s s', eqF_symm r r', Bool.beq_comm (a := k), Bool.beq_comm (a := n.toList), Bool.beq_comm (a := m.toList), Bool.beq_comm (a := i), Bool.beq_comm (a := d)]
theorem eqD_refl (x : Dc) : eqD x x = true := by simp [eqD, eqNd, eqF_refl]
theorem eqD_symm (x y : Dc) : eqD x y = eqD y x := by
  simp only [eqD, eqNd, eqF_symm x.s y.s, Bool.beq_comm (a := x.k), Bool.beq_comm (a := x.n.toList), Bool.beq_comm (a := x.m.toList), Bool.beq_comm (a := x.i), Bool.beq_comm (a := x.d)]
theorem toL_inj {a b : ByteArray} (h : a.toList = b.toList) : a = b := by
  rw [ByteArray.toList_eq, ByteArray.toList_eq] at h
  exact ByteArray.ext (Array.ext' h)
theorem eqF_refs : ∀ {s s' : Fo}, s.eqF s' = true → refL s.vis = refL s'.vis
  | .nil, .nil, _ => rfl
  | .nil, .cons .., h => by cases h
  | .cons .., .nil, h => by cases h
  | .cons k n m i d A c s r, .cons k' n' m' i' d' A' c' s' r', h => by
    simp only [Fo.eqF, Bool.and_eq_true, beq_iff_eq] at h
    obtain ⟨⟨⟨⟨⟨⟨rfl, hn⟩, _⟩, rfl⟩, _⟩, h1⟩, h2⟩ := h
    obtain rfl := toL_inj hn
    have e1 := eqF_refs h1
    have e2 := eqF_refs h2
    simp only [refL] at e1 e2
    simp only [Fo.vis, refL, List.filterMap_append, List.filterMap_cons, e1, e2]
theorem eqD_uses {x y : Dc} (h : eqD x y = true) (pack : ByteArray) : usesOf pack x.body = usesOf pack y.body := by
  have hb : x.body.eqF y.body = true := by
    simp only [Dc.body, Fo.eqF, Bool.and_true]
    exact h
  unfold usesOf refsOf
  rw [eqF_refs hb]
theorem sameB_symm (old new : List Mo) (n : ByteArray × Int) : sameB old new n = sameB new old n := by
  unfold sameB
  cases bodyOf old n <;> cases bodyOf new n <;> first | rfl | exact eqD_symm _ _
theorem gC_symm (old new : List Mo) : gC old new = gC new old := by
  funext n
  unfold gC
  rw [sameB_symm new old]
  by_cases h : sameB old new n = true
  · rw [if_pos h, if_pos h]
    obtain ⟨x, y, hx, hy, he⟩ := sameB_some h
    unfold grf
    rw [hx, hy]
    simp only [Option.map_some, eqD_uses he]
  · rw [if_neg h, if_neg h]
theorem gC_self (l : List Mo) : gC l l = grf l := by
  funext n
  unfold gC
  cases hb : bodyOf l n with
  | none =>
    have : grf l n = none := by unfold grf; rw [hb]; rfl
    rw [this]
    split <;> rfl
  | some x =>
    have : sameB l l n = true := by unfold sameB; rw [hb]; exact eqD_refl x
    rw [if_pos this]
/-- What Changed hands back. -/
def CR (old new : List Mo) (R : List (ByteArray × Int)) : Prop :=
  R.Pairwise ltN ∧ (∀ n ∈ R, NOk n) ∧ ∀ n, NOk n → (n ∈ R ↔ exB old new n = true ∧ (chkL old = 0 → chkL new = 0 → Clo (gC old new) n none))
theorem exB_symm (old new : List Mo) (n : ByteArray × Int) : exB old new n = exB new old n := by unfold exB; rw [Bool.or_comm]
theorem CR.symm {old new : List Mo} {R R' : List (ByteArray × Int)} (h : CR old new R) (k : CR new old R') : R = R' := by
  refine ltN_ext h.1 k.1 fun x => ?_
  have key : NOk x → (x ∈ R ↔ x ∈ R') := fun hx => by
    rw [h.2.2 x hx, k.2.2 x hx, exB_symm, gC_symm]
    exact and_congr_right fun _ => ⟨fun h a b => h b a, fun h a b => h b a⟩
  exact ⟨fun hx => (key (h.2.1 x hx)).1 hx, fun hx => (key (k.2.1 x hx)).2 hx⟩
theorem nok_body {l : List Mo} (hw : MoW l) {n : ByteArray × Int} (h : (bodyOf l n).isSome = true) : NOk n := by
  obtain ⟨x, hx⟩ := Option.isSome_iff_exists.1 h
  obtain ⟨m, hm, hd, hl, hi⟩ := bodyOf_mem hx
  exact ⟨by rw [← hl]; exact (hw m hm).1, by rw [← hi]; exact (hw m hm).2 x hd⟩
theorem exB_self (l : List Mo) (n : ByteArray × Int) : exB l l n = (bodyOf l n).isSome := by unfold exB; simp
theorem self_bad {l : List Mo} {R : List (ByteArray × Int)} (h : CR l l R) {n : ByteArray × Int} (hn : NOk n) (hb : (bodyOf l n).isSome = true) (hx : chkL l ≠ 0 ∨ Clo (grf l) n none) : memN R n = true := by
  rw [memN_iff, h.2.2 n hn, exB_self, gC_self]
  refine ⟨hb, fun h0 _ => ?_⟩
  rcases hx with h1 | h1
  · exact absurd h0 h1
  · exact h1
theorem self_good {l : List Mo} {R : List (ByteArray × Int)} (h : CR l l R) {n : ByteArray × Int} (hn : NOk n) {L : List (ByteArray × Int)} (h0 : chkL l = 0) (hL : Clo (grf l) n (some L)) : memN R n = false := by
  cases hm : memN R n with
  | false => rfl
  | true =>
    rw [memN_iff, h.2.2 n hn, gC_self] at hm
    have := (hm.2 h0 h0).unique hL
    cases this
theorem self_len {l : List Mo} {R : List (ByteArray × Int)} (h : CR l l R) : R.length ≤ (namesOf l).length :=
  nodup_len R (namesOf l) (ltN_nodup h.1) fun x hx => (mem_namesOf l x).2 (by
    have := ((h.2.2 x (h.2.1 x hx)).1 hx).1
    rwa [exB_self] at this)
theorem ex_len {old new : List Mo} (ho : greatL old = false) (hn : greatL new = false) {L : List (ByteArray × Int)} (h : ∀ n ∈ L, NOk n ∧ exB old new n = true) (hd : L.Nodup) : L.length ≤ 64 := by
  have h1 := nodup_len L (allN old ++ allN new) hd fun x hx => by
    have := (h x hx).2
    unfold exB at this
    rcases Bool.or_eq_true_iff.1 this with h | h
    · exact List.mem_append_left _ (mem_allN h)
    · exact List.mem_append_right _ (mem_allN h)
  rw [List.length_append, allN_len, allN_len] at h1
  have := greatL_tot ho
  have := greatL_tot hn
  omega
def ChgQ (old new : List Mo) (w : World) (e : Ending) (w' : World) : Prop :=
  ∃ A c R, e = .returned (.slice A (List.length R) c) ∧ w'.ownsRow w.heap.size 28 2 (.slice A R.length c) R.length (namesC R) ∧ Below w.heap.size w w' ∧ CR old new R ∧ R.length ≤ 800000
theorem chg_any (old new : List Mo) (A : Option Addr) (c : Nat) (A' : Option Addr) (c' : Nat) (w : World) (ho : SlM w w.heap.size A c old) (hn : SlM w w.heap.size A' c' new) (hwo : MoW old) (hwn : MoW new) (go : greatL old = false) (gn : greatL new = false) :
    Calls Tryz.prog 13 #[.slice A old.length c, .slice A' new.length c'] w (ChgQ old new w) := by
  have h1 := greatL_le go
  have h2 := greatL_le gn
  have h3 := greatL_tot go
  have h4 := greatL_tot gn
  refine (dChanged_any old new A c A' c' w ho hn hwo hwn (by omega) (by omega) (by omega) (by omega) (fun L hL hd hc _ => ⟨_, uc_of (by have := ex_len go gn hL hd; omega) go hc⟩)).mono ?_
  rintro e w' ⟨v, R, rfl, hown, hb, h5, h6, h7, h8⟩
  obtain ⟨vA, vc, rfl⟩ := own_formN hown
  exact ⟨vA, vc, R, rfl, hown, hb, ⟨h5, h6, h8⟩, h7⟩
end Go.Proofs.YtpnfbfnffkbilaaGreatDoor
/- law40.DependSelf answers true -/
namespace Go.Proofs.YtpnfbfnffkbilaaGreatDoor
open Go.RowKit Go.Proofs Go.Shelf

theorem loadE_of2 {l : List Mo} {n : ByteArray × Int} (h : chkL l = 0) (hb : bodyOf l n ≠ none) : loadE l n = 0 := by
  unfold loadE
  rw [if_neg (by simpa using h), if_neg hb]
theorem own_base0 {W : World} {base : Nat} {v : Value} {n : Nat} {xs : List Value} (h : W.ownsRow base 28 2 v n xs) : W.ownsRow 0 28 2 v n xs := World.ownsRow.mono h (Nat.zero_le _)
set_option maxRecDepth 100000 in
set_option maxHeartbeats 8000000 in
theorem lawSelf_any (old new : List Mo) (A : Option Addr) (c : Nat) (A' : Option Addr) (c' : Nat) (w : World) (ho : SlM w w.heap.size A c old) (hn : SlM w w.heap.size A' c' new) (hwo : MoW old) (hwn : MoW new) :
    Calls Tryz.prog 8 #[.slice A old.length c, .slice A' new.length c'] w fun e w' => e = .returned (.bool true) ∧ Below w.heap.size w w' := by
  have HL := Lib.hid (show ∀ X : World, Below w.heap.size w X → SlM X X.heap.size A c old from fun X hX => (ho.below hX).keep hX.size (fun _ _ => rfl))
  have HM := Lib.hid (show ∀ X : World, Below w.heap.size w X → SlM X X.heap.size A' c' new from fun X hX => (hn.below hX).keep hX.size (fun _ _ => rfl))
  obtain ⟨N, HN⟩ : ∃ Q, Hid (old.length = Q) := ⟨_, Lib.hid rfl⟩
  obtain ⟨N', HN'⟩ : ∃ Q, Hid (new.length = Q) := ⟨_, Lib.hid rfl⟩
  have HG := Lib.hid (great40_any old A c w ho)
  have HG' := Lib.hid (show ∀ X : World, Below w.heap.size w X → Calls Tryz.prog 10 #[.slice A' new.length c'] X (fun e w' => e = .returned (.bool (greatL new)) ∧ Below X.heap.size X w') from fun X hX => great40_any new A' c' X (HM.out X hX))
  have HW := Lib.hid (And.intro hwo hwn)
  rw [HN.out] at HG ⊢
  rw [HN'.out] at HG' ⊢
  clear ho hn hwo hwn
  go_enter Tryz.func8, Tryz.ntmps8
  cases hg : greatL old with
  | true =>
    rw [hg] at HG
    go_wp2_with fail
    refine HG.out.mono ?_
    rintro e w1 ⟨rfl, hb1⟩
    have HB1 := Lib.hid hb1
    clear hb1
    go_wp2_with fail
    refine (awake40_any _).mono ?_
    rintro e w2 ⟨rfl, hb2⟩
    have HB2 := Lib.hid hb2
    clear hb2
    go_wp2
    go_ret
    exact ⟨rfl, HB1.out.trans (HB2.out.mono HB1.out.size)⟩
  | false =>
  rw [hg] at HG
  cases hg' : greatL new with
  | true =>
    rw [hg'] at HG'
    go_wp2_with fail
    refine HG.out.mono ?_
    rintro e w1 ⟨rfl, hb1⟩
    have HB1 := Lib.hid hb1
    clear hb1
    go_wp2_with fail
    refine (HG'.out w1 HB1.out).mono ?_
    rintro e w2 ⟨rfl, hb2⟩
    have HB2 := Lib.hid (HB1.out.trans (hb2.mono HB1.out.size))
    clear hb2
    go_wp2_with fail
    refine (awake40_any _).mono ?_
    rintro e w3 ⟨rfl, hb3⟩
    have HB3 := Lib.hid hb3
    clear hb3
    go_wp2
    go_ret
    exact ⟨rfl, HB2.out.trans (HB3.out.mono HB2.out.size)⟩
  | false =>
  rw [hg'] at HG'
  have HGG := Lib.hid (And.intro hg hg')
  clear hg hg'
  go_wp2_with fail
  refine HG.out.mono ?_
  rintro e w1 ⟨rfl, hb1⟩
  have HB1 := Lib.hid hb1
  clear hb1
  go_wp2_with fail
  refine (HG'.out w1 HB1.out).mono ?_
  rintro e w2 ⟨rfl, hb2⟩
  have HB2 := Lib.hid (HB1.out.trans (hb2.mono HB1.out.size))
  have HC := Lib.hid (chg_any old old A c A c w2 (HL.out w2 HB2.out) (HL.out w2 HB2.out) HW.out.1 HW.out.1 HGG.out.1 HGG.out.1)
  rw [HN.out] at HC
  clear hb2
  go_wp2_with fail
  refine HC.out.mono ?_
  rintro e w3 ⟨sA, sc, R, rfl, hown3, hb3, hcr, hRl⟩
  have H3 := Lib.hid (And.intro hown3 (And.intro (HB2.out.trans (hb3.mono HB2.out.size)) (And.intro hcr hRl)))
  have HNm := Lib.hid (show ∀ X : World, Below w.heap.size w X → Calls Tryz.prog 28 #[.slice A N c] X (WithP24 (namesOf old) X) from fun X hX => by
    have := names40_any old A c X (HL.out X hX) (by have := greatL_tot HGG.out.1; omega)
    rwa [HN.out] at this)
  obtain ⟨RN, HRN⟩ : ∃ Q, Hid (R.length = Q) := ⟨_, Lib.hid rfl⟩
  rw [HRN.out]
  clear hown3 hb3 hcr hRl
  go_wp2_with fail
  refine (HNm.out w3 H3.out.2.1).mono ?_
  rintro e w4 ⟨nA, nc, rfl, hO4, hb4⟩
  obtain ⟨L, HLs⟩ : ∃ Q, Hid (namesOf old = Q) := ⟨_, Lib.hid rfl⟩
  rw [HLs.out] at hO4 HNm ⊢
  have H4 := Lib.hid (And.intro hO4 (H3.out.2.1.trans (hb4.mono H3.out.2.1.size)))
  have HR4 := Lib.hid (own_of_blocks' H3.out.1 fun k hk => hb4.block k hk)
  obtain ⟨LN, HLN⟩ : ∃ Q, Hid (L.length = Q) := ⟨_, Lib.hid rfl⟩
  rw [HLN.out]
  clear hO4 hb4
  go_wp2
  go_loopg [7, 8, 9, 23] LN (fun g _ _ _ ct wr => ∃ j : Nat, g = LN - j ∧ j ≤ LN ∧ ct = .int .i64 j ∧ Below w4.heap.size w4 wr)
  case atStart => exact ⟨0, rfl, by omega, rfl, Below.refl _ _⟩
  case round =>
    obtain ⟨j, HGm, hj, rfl, hB⟩ := hrel
    have hz := hB.size
    by_cases hlt : j < LN
    · have hlt' : j < L.length := by rw [HLN.out]; exact hlt
      obtain ⟨x, hx⟩ : ∃ x, L[j]? = some x := ⟨_, List.getElem?_eq_getElem hlt'⟩
      have hO := H4.out.1.below hB (Nat.le_refl _)
      rcases hO.cells with ⟨h0, _⟩ | ⟨g, rfl, hgl, hc1, hc2, hcell⟩
      · rw [h0] at hlt'; simp at hlt'
      obtain ⟨x0, x1⟩ := namesC_at x L j hx
      have c0 := hcell _ _ x0
      have c1 := hcell _ _ x1
      rw [HLN.out] at hc1
      have hbody : (bodyOf old x).isSome = true := (mem_namesOf old x).1 (by rw [HLs.out]; exact List.mem_of_getElem? hx)
      have hxok := nok_body HW.out.1 hbody
      have i1 : (0 : Int) ≤ (j : Int) := by omega
      have i2 : (j : Int) < (LN : Int) := by omega
      obtain ⟨W7, hW7⟩ : ∃ W7, wr.alloc (.cells #[.string x.1, .int .i64 x.2] 28) = W7 := ⟨_, rfl⟩
      have hz7 : wr.heap.size < W7.heap.size := by subst hW7; simp
      have hb7 : Below wr.heap.size wr W7 := by subst hW7; exact (Below.refl _ _).alloc (Nat.le_refl _) _
      have z0 : W7.cell? ⟨wr.heap.size, 0, none⟩ = some (.string x.1) := by subst hW7; go_simp
      have z1 : W7.cell? ⟨wr.heap.size, 1, none⟩ = some (.int .i64 x.2) := by subst hW7; go_simp
      have hB7 : Below w4.heap.size w4 W7 := hB.trans (hb7.mono hz)
      have hBw7 : Below w.heap.size w W7 := H4.out.2.trans (hB7.mono H4.out.2.size)
      have HK := Lib.hid (dKey_any old x A c W7 (HL.out W7 hBw7) hxok HW.out.1 (by have := greatL_tot HGG.out.1; omega) (by have := greatL_le HGG.out.1; omega) (fun h => ⟨_, uok_of HGG.out.1 h⟩))
      rw [HN.out] at HK
      have HCn := Lib.hid (show ∀ X : World, Below W7.heap.size W7 X → Calls Tryz.prog 17 #[.slice sA RN sc, .agg #[.string x.1, .int .i64 x.2]] X (fun e X' => e = .returned (.bool (memN R x)) ∧ Below X.heap.size X X') from fun X hX => by
        have := slcContainsN_any R x sA sc w2.heap.size X (own_of_blocks' HR4.out fun k hk => (hB7.trans (hX.mono hB7.size)).block k hk) (by have := H3.out.2.2.2; omega)
        rwa [HRN.out] at this)
      have HT := Lib.hid (And.intro HGm (And.intro hB7 (And.intro hxok hbody)))
      clear HGm hB hO hcell hx x0 x1 hbody hxok hb7 hB7 hBw7 hgl
      go_wp2_with fail
      refine HK.out.mono ?_
      rintro e w8 ⟨hb8, h8⟩
      have q0 := (hb8.cell (p := ⟨wr.heap.size, 0, none⟩) hz7).trans z0
      have q1 := (hb8.cell (p := ⟨wr.heap.size, 1, none⟩) hz7).trans z1
      have HB8 := Lib.hid hb8
      have HCx := HCn.out w8 hb8
      clear hb8 c0 c1 hW7
      rcases h8 with ⟨hE, rfl⟩ | ⟨hE, hcl, rfl⟩ | ⟨hE, Lx, hcl, rfl⟩
      · have hm : memN R x = true := self_bad H3.out.2.2.1 HT.out.2.2.1 HT.out.2.2.2 (.inl fun h => hE (loadE_of2 h (by have := HT.out.2.2.2; intro e; rw [e] at this; cases this)))
        rw [hm] at HCx
        have HCy := Lib.hid HCx
        have hE2 : (loadE old x != 0) = true := by simpa using hE
        obtain ⟨E, HE⟩ : ∃ Q, Hid (loadE old x = Q) := ⟨_, Lib.hid rfl⟩
        rw [HE.out] at hE2 ⊢
        clear hm HCx hE z0 z1
        go_wp2_with fail
        refine HCy.out.mono ?_
        rintro e w9 ⟨rfl, hb9⟩
        have HB9 := Lib.hid (HB8.out.trans (hb9.mono HB8.out.size))
        clear hb9
        go_wp2
        go_roundg (LN - (j + 1))
        case measure => rw [HT.out.1]; omega
        case rel => exact ⟨j + 1, rfl, by omega, by go_num, HT.out.2.1.trans (HB9.out.mono HT.out.2.1.size)⟩
      · have hm : memN R x = true := self_bad H3.out.2.2.1 HT.out.2.2.1 HT.out.2.2.2 (.inr hcl)
        rw [hm] at HCx
        have HCy := Lib.hid HCx
        clear hm HCx hE hcl z0 z1
        go_wp2_with fail
        refine HCy.out.mono ?_
        rintro e w9 ⟨rfl, hb9⟩
        have HB9 := Lib.hid (HB8.out.trans (hb9.mono HB8.out.size))
        clear hb9
        go_wp2
        go_roundg (LN - (j + 1))
        case measure => rw [HT.out.1]; omega
        case rel => exact ⟨j + 1, rfl, by omega, by go_num, HT.out.2.1.trans (HB9.out.mono HT.out.2.1.size)⟩
      · have hm : memN R x = false := self_good H3.out.2.2.1 HT.out.2.2.1 (loadE_zero hE).1 hcl
        rw [hm] at HCx
        have HCy := Lib.hid HCx
        clear hm HCx hE hcl z0 z1
        go_wp2_with fail
        refine HCy.out.mono ?_
        rintro e w9 ⟨rfl, hb9⟩
        have HB9 := Lib.hid (HB8.out.trans (hb9.mono HB8.out.size))
        clear hb9
        go_wp2
        go_roundg (LN - (j + 1))
        case measure => rw [HT.out.1]; omega
        case rel => exact ⟨j + 1, rfl, by omega, by go_num, HT.out.2.1.trans (HB9.out.mono HT.out.2.1.size)⟩
    · have hje : j = LN := by omega
      have hBw : Below w.heap.size w wr := H4.out.2.trans (hB.mono H4.out.2.size)
      have HBw := Lib.hid hBw
      have hle : RN ≤ LN := by
        have := self_len H3.out.2.2.1
        rwa [HRN.out, HLs.out, HLN.out] at this
      have l1 : decide ((RN : Int) ≤ (LN : Int)) = true := by simp; omega
      have l2 : decide (RN ≤ LN) = true := by simp; omega
      have HNx := Lib.hid (HNm.out wr hBw)
      clear hB HGm hBw hle
      go_wp2_with fail
      refine HNx.out.mono ?_
      rintro e w5 ⟨nA2, nc2, rfl, _, hb5⟩
      rw [HLN.out]
      have HB5 := Lib.hid (HBw.out.trans (hb5.mono HBw.out.size))
      have HC1 := Lib.hid (chg_any old new A c A' c' w5 (HL.out w5 HB5.out) (HM.out w5 HB5.out) HW.out.1 HW.out.2 HGG.out.1 HGG.out.2)
      rw [HN.out, HN'.out] at HC1
      clear hb5
      go_wp2_with fail
      refine HC1.out.mono ?_
      rintro e w6 ⟨sA6, sc6, R6, rfl, hown6, hb6, hcr6, hRl6⟩
      have H6 := Lib.hid (And.intro hown6 (And.intro (HB5.out.trans (hb6.mono HB5.out.size)) (And.intro hcr6 hRl6)))
      have HC2 := Lib.hid (chg_any new old A' c' A c w6 (HM.out w6 H6.out.2.1) (HL.out w6 H6.out.2.1) HW.out.2 HW.out.1 HGG.out.2 HGG.out.1)
      rw [HN.out, HN'.out] at HC2
      clear hown6 hb6 hcr6 hRl6
      go_wp2_with fail
      refine HC2.out.mono ?_
      rintro e w7 ⟨sA7, sc7, R7, rfl, hown7, hb7, hcr7, hRl7⟩
      have hRR : R6 = R7 := H6.out.2.2.1.symm hcr7
      subst hRR
      have HEq := Lib.hid (slcEqualN_same R6 sA6 sc6 w5.heap.size sA7 sc7 w6.heap.size w7 (own_of_blocks' H6.out.1 fun k hk => hb7.block k hk) hown7 (by omega))
      have HB7 := Lib.hid (H6.out.2.1.trans (hb7.mono H6.out.2.1.size))
      obtain ⟨R6N, HR6N⟩ : ∃ Q, Hid (R6.length = Q) := ⟨_, Lib.hid rfl⟩
      rw [HR6N.out] at HEq ⊢
      clear hown7 hb7 hcr7 hRl7
      go_wp2_with fail
      refine HEq.out.mono ?_
      rintro e w8 ⟨rfl, q, rfl⟩
      go_wp2_with fail
      refine (awake40_any _).mono ?_
      rintro e w9 ⟨rfl, hb9⟩
      have HB9 := Lib.hid ((below_drewN HB7.out q).trans (hb9.mono HB7.out.size))
      clear hb9
      go_wp2
      go_ret
      exact ⟨rfl, HB9.out⟩
end Go.Proofs.YtpnfbfnffkbilaaGreatDoor
