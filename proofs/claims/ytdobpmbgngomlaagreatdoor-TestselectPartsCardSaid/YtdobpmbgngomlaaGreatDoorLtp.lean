/- law50.TestselectParts answers true -/
import Derived.Test.YtdobpmbgngomlaaGreatDoorZnd
import Derived.Deep.DeepCutAuto
import Derived.Deep.QuietTactic
import Derived.BigQuiet
namespace Go.Proofs.YtdobpmbgngomlaaGreatDoor
open Go.RowKit Go.Proofs Go.Shelf

theorem SlN.nil (w : World) (B : Nat) (A : Option Addr) (c : Nat) (hc : c ≤ maxLen) : SlN w B A c [] := ⟨Nat.zero_le _, hc, fun h => absurd rfl h⟩
theorem SlN.tail1 {w : World} {B : Nat} {b o : Nat} {x : ByteArray × Int} {r : List (ByteArray × Int)} (h : SlN w B (some ⟨b, o, none⟩) 1 (x :: r)) : r = [] := by
  have := h.1
  simp at this
  exact this
theorem SlN.tail {w : World} {B : Nat} {b o c : Nat} {x : ByteArray × Int} {r : List (ByteArray × Int)} (h : SlN w B (some ⟨b, o, none⟩) c (x :: r)) : SlN w B (some ⟨b, o + 2, none⟩) (c - 1) r := by
  obtain ⟨h1, h2, h3⟩ := h
  simp only [List.length_cons] at h1
  refine ⟨by omega, by omega, fun _ => ?_⟩
  obtain ⟨b', o', e, hb, hs⟩ := h3 (by simp)
  cases e
  refine ⟨b, o + 2, rfl, hb, fun j y hj => ?_⟩
  have := hs (j + 1) y (by simpa using hj)
  rw [show o + (j + 1) * 2 = o + 2 + j * 2 by omega] at this
  exact this
/-- Whether a declaration has a certificate. -/
def CerOk (l : List Mo) (n : ByteArray × Int) : Prop := loadE l n = 0 ∧ isT l n = true ∧ ∃ L, Clo (grf l) n (some L)
def CertE (l : List Mo) (n : ByteArray × Int) (w : World) (e : Ending) (w' : World) : Prop :=
  ∃ p i cA cl cc k er, e = .returned (.tuple #[.agg #[.string p, .int .i64 i, .slice cA cl cc, .string k], .int .i64 er]) ∧ (er = 0 ↔ CerOk l n) ∧ Below w.heap.size w w'
theorem CertP.e {l : List Mo} {n : ByteArray × Int} {w w' : World} {e : Ending} (h : CertP l n w e w') : CertE l n w e w' := by
  obtain ⟨hb, ⟨er, hne, hv, rfl⟩ | ⟨L, A, c, hv, rfl, _, _⟩⟩ := h
  · refine ⟨_, _, _, _, _, _, er, rfl, ⟨fun h => absurd h hne, fun ⟨h1, h2, L, h3⟩ => ?_⟩, hb⟩
    have hv2 : CertV l n 0 (some L) := .inr (.inr (.inr ⟨h1, L, h3, h2, rfl, rfl⟩))
    have := (hv.unique hv2).2
    cases this
  · refine ⟨_, _, _, _, _, _, 0, rfl, ⟨fun _ => ?_, fun _ => rfl⟩, hb⟩
    rcases hv with ⟨_, _, h⟩ | ⟨_, _, _, h⟩ | ⟨_, _, _, _, _, h⟩ | ⟨h1, L, h2, h3, _, _⟩
    · cases h
    · cases h
    · cases h
    · exact ⟨h1, h3, L, h2⟩
theorem reB_self {l : List Mo} {n : ByteArray × Int} : ReB l l n ↔ CerOk l n := by
  constructor
  · rintro ⟨h1, k, h2, _⟩
    obtain ⟨h3, L, h4, _⟩ := h2.ok
    exact ⟨h3, h1, L, h4⟩
  · rintro ⟨h1, h2, L, h3⟩
    exact ⟨h2, _, .inr (.inr ⟨h1, L, h3, rfl, rfl⟩), .inr (.inr ⟨h1, L, h3, rfl, rfl⟩)⟩
theorem drop_filter {TN : List (ByteArray × Int)} {j : Nat} {x : ByteArray × Int} (hx : TN[j]? = some x) (p : ByteArray × Int → Bool) : (TN.drop j).filter p = if p x = true then x :: (TN.drop (j + 1)).filter p else (TN.drop (j + 1)).filter p := by
  obtain ⟨hlt, rfl⟩ := List.getElem?_eq_some_iff.1 hx
  rw [List.drop_eq_getElem_cons hlt, List.filter_cons]
theorem head_ne {TN : List (ByteArray × Int)} (hs : TN.Pairwise ltN) {j : Nat} {x y : ByteArray × Int} (hx : TN[j]? = some x) (hy : y ∈ TN.drop (j + 1)) : y ≠ x := by
  intro e
  subst e
  obtain ⟨hlt, rfl⟩ := List.getElem?_eq_some_iff.1 hx
  obtain ⟨q, hq⟩ := List.getElem?_of_mem hy
  rw [List.getElem?_drop] at hq
  obtain ⟨h2, h3⟩ := List.getElem?_eq_some_iff.1 hq
  have := List.pairwise_iff_getElem.1 hs j (j + 1 + q) hlt h2 (by omega)
  rw [h3] at this
  exact ltN_irrefl _ this
def msRow (A : Option Addr) (N c : Nat) (A' : Option Addr) (N' c' : Nat) : Obj := .cells #[.slice A N c, .slice A' N' c'] 22
theorem small_two {old new : List Mo} {A : Option Addr} {c : Nat} {A' : Option Addr} {c' : Nat} {w : World} (ho : SlM w w.heap.size A c old) (hn : SlM w w.heap.size A' c' new) :
    Calls Tryz.prog 19 #[.slice (some ⟨w.heap.size, 0, none⟩) 2 2] (w.alloc (msRow A old.length c A' new.length c')) fun e w' => e = .returned (.bool (!greatL old && !greatL new)) ∧ Below w.heap.size w w' := by
  have hb : Below w.heap.size w (w.alloc (msRow A old.length c A' new.length c')) := (Below.refl _ _).alloc (Nat.le_refl _) _
  have hrow : (w.alloc (msRow A old.length c A' new.length c')).heap[w.heap.size]? = some (msRow A old.length c A' new.length c') := heap_alloc_new _ _
  have h := small50_any [⟨A, c, old⟩, ⟨A', c', new⟩] w.heap.size (w.alloc (msRow A old.length c A' new.length c')) (fun j x hx => by
    match j, hx with
    | 0, hx => simp at hx; subst hx; exact ⟨cell_of_row _ _ 0 _ _ (0, 0) hrow, (ho.below hb).keep hb.size (fun _ _ => rfl)⟩
    | 1, hx => simp at hx; subst hx; exact ⟨cell_of_row _ _ 1 _ _ (0, 0) hrow, (hn.below hb).keep hb.size (fun _ _ => rfl)⟩
    | j + 2, hx => simp at hx) (by simp) (by simp)
  refine h.mono ?_
  rintro e w' ⟨rfl, hb2⟩
  exact ⟨by simp, hb.trans (hb2.mono hb.size)⟩
set_option maxRecDepth 100000 in
set_option maxHeartbeats 8000000 in
theorem lawParts_any (old new : List Mo) (A : Option Addr) (c : Nat) (A' : Option Addr) (c' : Nat) (w : World) (ho : SlM w w.heap.size A c old) (hn : SlM w w.heap.size A' c' new) (hwo : MoW old) (hwn : MoW new) :
    Calls Tryz.prog 6 #[.slice A old.length c, .slice A' new.length c'] w fun e w' => e = .returned (.bool true) ∧ Below w.heap.size w w' := by
  have HS := Lib.hid (small_two ho hn)
  have HL := Lib.hid (show ∀ X : World, Below w.heap.size w X → SlM X X.heap.size A c old ∧ SlM X X.heap.size A' c' new from fun X hX => ⟨(ho.below hX).keep hX.size (fun _ _ => rfl), (hn.below hX).keep hX.size (fun _ _ => rfl)⟩)
  have HW := Lib.hid (And.intro hwo hwn)
  obtain ⟨N, HN⟩ : ∃ Q, Hid (old.length = Q) := ⟨_, Lib.hid rfl⟩
  obtain ⟨N', HN'⟩ : ∃ Q, Hid (new.length = Q) := ⟨_, Lib.hid rfl⟩
  rw [HN.out, HN'.out] at HS ⊢
  clear ho hn hwo hwn
  obtain ⟨g, Hg⟩ : ∃ Q, Hid ((!greatL old && !greatL new) = Q) := ⟨_, Lib.hid rfl⟩
  rw [Hg.out] at HS
  unfold msRow at HS
  go_enter Tryz.func6, Tryz.ntmps6
  cases g with
  | false =>
    go_wp2_with fail
    refine HS.out.mono ?_
    rintro e w1 ⟨rfl, hb1⟩
    have HB1 := Lib.hid hb1
    clear hb1
    go_wp2_with fail
    refine (awake50_any _).mono ?_
    rintro e w2 ⟨rfl, hb2⟩
    have HB2 := Lib.hid hb2
    clear hb2
    go_wp2
    go_ret
    exact ⟨rfl, HB1.out.trans (HB2.out.mono HB1.out.size)⟩
  | true =>
    have HGG := Lib.hid (show greatL old = false ∧ greatL new = false by
      have := Hg.out
      simpa using this)
    have HSel := Lib.hid (show ∀ X : World, Below w.heap.size w X → Calls Tryz.prog 21 #[.slice A N c, .slice A' N' c'] X (SelP old new X) from fun X hX => by
      have := tsSelect_any old new A c A' c' X (HL.out X hX).1 (HL.out X hX).2 HW.out.1 HW.out.2 HGG.out.1 HGG.out.2
      rwa [HN.out, HN'.out] at this)
    have HSel2 := Lib.hid (show ∀ X : World, Below w.heap.size w X → Calls Tryz.prog 21 #[.slice A' N' c', .slice A' N' c'] X (SelP new new X) from fun X hX => by
      have := tsSelect_any new new A' c' A' c' X (HL.out X hX).2 (HL.out X hX).2 HW.out.2 HW.out.2 HGG.out.2 HGG.out.2
      rwa [HN'.out] at this)
    have HTs := Lib.hid (show ∀ X : World, Below w.heap.size w X → Calls Tryz.prog 23 #[.slice A' N' c'] X (TestsP new X) from fun X hX => by
      have := tsTests_any new A' c' X (HL.out X hX).2 HW.out.2 (by have := greatL_tot HGG.out.2; omega) (by have := (greatL_le HGG.out.2).1; omega)
      rwa [HN'.out] at this)
    have HCe := Lib.hid (show ∀ (X : World) (n : ByteArray × Int), Below w.heap.size w X → NOk n → Calls Tryz.prog 26 #[.slice A' N' c', .agg #[.string n.1, .int .i64 n.2]] X (CertE new n X) from fun X n hX hn => by
      have := tsCertify_any new n A' c' X (HL.out X hX).2 hn HW.out.2 HGG.out.2
      rw [HN'.out] at this
      exact this.mono fun _ _ h => h.e)
    have HTL := Lib.hid (show (testsOf new).length ≤ 32 by have := testsOf_len new; have := greatL_tot HGG.out.2; omega)
    obtain ⟨TN, HTN⟩ : ∃ Q, Hid (testsOf new = Q) := ⟨_, Lib.hid rfl⟩
    rw [HTN.out] at HTL
    have HTS := Lib.hid (show TN.Pairwise ltN ∧ ∀ n ∈ TN, NOk n ∧ isT new n = true by
      rw [← HTN.out]
      exact ⟨testsOf_sorted new, fun n hn => ⟨nok_T HW.out.2 hn, (mem_testsOf new n).1 hn⟩⟩)
    obtain ⟨M, HM⟩ : ∃ Q, Hid (TN.length = Q) := ⟨_, Lib.hid rfl⟩
    have hM32 : M ≤ 32 := by rw [← HM.out]; exact HTL.out
    go_wp2_with fail
    refine HS.out.mono ?_
    rintro e w1 ⟨rfl, hb1⟩
    have HSx := Lib.hid (HSel.out w1 hb1)
    have HB1 := Lib.hid hb1
    clear hb1
    go_wp2_with fail
    refine HSx.out.mono ?_
    rintro e w2 ⟨rA, rc, uA, uc, R, U, f, rfl, hR, hU, hb2, hf, hRe, hUe⟩
    have hbw2 := HB1.out.trans (hb2.mono HB1.out.size)
    rw [HTN.out] at hRe hUe
    have H2 := Lib.hid (And.intro (SlN.of_own hR) (And.intro (SlN.of_own hU) (And.intro hbw2 (And.intro hRe hUe))))
    have HTx := Lib.hid (HTs.out w2 hbw2)
    obtain ⟨r1, Hr1⟩ : ∃ Q, Hid (R.length = Q) := ⟨_, Lib.hid rfl⟩
    obtain ⟨u1, Hu1⟩ : ∃ Q, Hid (U.length = Q) := ⟨_, Lib.hid rfl⟩
    rw [Hr1.out, Hu1.out]
    clear hR hU hb2 hf hRe hUe hbw2
    go_wp2_with fail
    refine HTx.out.mono ?_
    rintro e w3 ⟨v3, rfl, hown3, hb3⟩
    obtain ⟨tA, tc, rfl⟩ := own_formN hown3
    rw [HTN.out] at hown3 ⊢
    have H3 := Lib.hid (And.intro (H2.out.1.below hb3) (And.intro (H2.out.2.1.below hb3) (And.intro (SlN.of_own hown3) (H2.out.2.2.1.trans (hb3.mono H2.out.2.2.1.size)))))
    rw [HM.out]
    clear hown3 hb3
    go_wp2
    go_loopg [5, 6, 8, 32] M (fun g rv uv _ ct wr => ∃ (j : Nat) (rA : Option Addr) (rc : Nat) (uA : Option Addr) (uc : Nat) (rl ul : Nat), g = M - j ∧ j ≤ M ∧ ct = .int .i64 j ∧ rv = .slice rA rl rc ∧ uv = .slice uA ul uc ∧ ((TN.drop j).filter (fun n => !f n)).length = rl ∧ ((TN.drop j).filter f).length = ul ∧ SlN wr wr.heap.size rA rc ((TN.drop j).filter (fun n => !f n)) ∧ SlN wr wr.heap.size uA uc ((TN.drop j).filter f) ∧ Below w3.heap.size w3 wr)
    case atStart => exact ⟨0, rA, rc, uA, uc, r1, u1, rfl, by omega, rfl, rfl, rfl, by rw [← Hr1.out, H2.out.2.2.2.1]; rfl, by rw [← Hu1.out, H2.out.2.2.2.2]; rfl, by rw [List.drop_zero, ← H2.out.2.2.2.1]; exact H3.out.1, by rw [List.drop_zero, ← H2.out.2.2.2.2]; exact H3.out.2.1, Below.refl _ _⟩
    case round =>
      obtain ⟨j, rA, rc, uA, uc, rl, ul, HG, hj, rfl, rfl, rfl, hrl, hul, hR, hU, hB⟩ := hrel
      have hz := hB.size
      by_cases hlt : j < M
      · have hlt' : j < TN.length := by rw [HM.out]; exact hlt
        obtain ⟨x, hx⟩ : ∃ x, TN[j]? = some x := ⟨_, List.getElem?_eq_getElem hlt'⟩
        have hT := H3.out.2.2.1
        obtain ⟨tb, tof, rfl, htb, htc⟩ := hT.2.2 (by intro e; rw [e] at hlt'; simp at hlt')
        obtain ⟨y0, y1⟩ := htc j x hx
        have c0 := (hB.cell (p := ⟨tb, tof + j * 2, none⟩) htb).trans y0
        have c1 := (hB.cell (p := ⟨tb, tof + j * 2 + 1, none⟩) htb).trans y1
        have hj0 : (0 : Int) ≤ (j : Int) := by omega
        have hj1 : (j : Int) < (M : Int) := by omega
        obtain ⟨W7, hW7⟩ : ∃ W7, wr.alloc (.cells #[.string x.1, .int .i64 x.2] 24) = W7 := ⟨_, rfl⟩
        have hz7 : wr.heap.size < W7.heap.size := by subst hW7; simp
        have hb7 : Below wr.heap.size wr W7 := by subst hW7; exact (Below.refl _ _).alloc (Nat.le_refl _) _
        have z0 : W7.cell? ⟨wr.heap.size, 0, none⟩ = some (.string x.1) := by subst hW7; go_simp
        have z1 : W7.cell? ⟨wr.heap.size, 1, none⟩ = some (.int .i64 x.2) := by subst hW7; go_simp
        have hdf := drop_filter hx f
        have hdn := drop_filter hx (fun n => !f n)
        have hR7 := hR.below hb7
        have hU7 := hU.below hb7
        have HT := Lib.hid (And.intro HG (And.intro (hB.trans (hb7.mono hz)) hx))
        clear HG hB hx hT htc y0 y1 hR hU hb7
        cases hfx : f x with
        | false =>
          rw [hfx] at hdf hdn
          simp only [Bool.not_false, if_true, Bool.false_eq_true, if_false] at hdf hdn
          rw [hdn] at hR7 hrl
          rw [hdf] at hU7 hul
          obtain ⟨rb, ro, rfl, hrb, hrc⟩ := hR7.2.2 (by simp)
          obtain ⟨a0, a1⟩ := hrc 0 x rfl
          rw [Nat.zero_mul, Nat.add_zero] at a0 a1
          have hr1 := hR7.1
          have hr2 := hR7.2.1
          unfold maxLen at hr2
          rw [hrl] at hr1
          have hrp : 0 < rl := by rw [← hrl]; simp
          have hrp1 : (0 : Int) < (rl : Int) := by omega
          have hrp2 : (1 : Int) ≤ (rl : Int) := by omega
          have hE := run_eqlN x.1 x.1 x.2 x.2
          have he2 : ((x.1.toList == x.1.toList) && (x.2 == x.2)) = true := by simp
          rw [he2] at hE
          have HX := Lib.hid (And.intro hR7 (And.intro hU7 (And.intro hrl hul)))
          clear hdf hdn hR7 hU7 hrl hul hrc he2 hfx
          by_cases hc1 : rc = 1
          · subst hc1
            have hnil := HX.out.1.tail1
            go_wp2_with fail
            go_quiet (fail)
            clear hE a0 a1
            go_wp2
            go_roundg (M - (j + 1))
            case measure => rw [HT.out.1]; omega
            case rel =>
              refine ⟨j + 1, _, _, uA, uc, 0, ul, rfl, by omega, by go_num, rfl, rfl, by rw [hnil]; rfl, HX.out.2.2.2, ?_, HX.out.2.1.below (below_drewN (Below.refl _ _) _), below_drewN HT.out.2.1 _⟩
              rw [hnil]
              exact SlN.nil _ _ _ _ (Nat.zero_le _)
          · go_wp2_with fail
            go_quiet (fail)
            clear hE a0 a1
            go_wp2
            go_roundg (M - (j + 1))
            case measure => rw [HT.out.1]; omega
            case rel =>
              refine ⟨j + 1, _, _, uA, uc, rl - 1, ul, rfl, by omega, by go_num, rfl, rfl, ?_, HX.out.2.2.2, HX.out.1.tail.below (below_drewN (Below.refl _ _) _), HX.out.2.1.below (below_drewN (Below.refl _ _) _), below_drewN HT.out.2.1 _⟩
              have := HX.out.2.2.1
              simp only [List.length_cons] at this
              omega
        | true =>
          rw [hfx] at hdf hdn
          simp only [Bool.not_true, if_true, Bool.false_eq_true, if_false] at hdf hdn
          rw [hdn] at hR7 hrl
          rw [hdf] at hU7 hul
          obtain ⟨ub, uo, rfl, hub, huc⟩ := hU7.2.2 (by simp)
          obtain ⟨a0, a1⟩ := huc 0 x rfl
          rw [Nat.zero_mul, Nat.add_zero] at a0 a1
          have hu1 := hU7.1
          have hu2 := hU7.2.1
          unfold maxLen at hu2
          rw [hul] at hu1
          have hup : 0 < ul := by rw [← hul]; simp
          have hup1 : (0 : Int) < (ul : Int) := by omega
          have hup2 : (1 : Int) ≤ (ul : Int) := by omega
          have hE := run_eqlN x.1 x.1 x.2 x.2
          have he2 : ((x.1.toList == x.1.toList) && (x.2 == x.2)) = true := by simp
          rw [he2] at hE
          clear he2 hfx
          cases hl : (TN.drop (j + 1)).filter (fun n => !f n) with
          | nil =>
            have hr0 : rl = 0 := by rw [← hrl, hl]; rfl
            have HX := Lib.hid (And.intro hR7 (And.intro hU7 (And.intro hrl hul)))
            clear hdf hdn hR7 hU7 hrl hul huc hl
            subst hr0
            by_cases hc1 : uc = 1
            · subst hc1
              have hnil := HX.out.2.1.tail1
              go_wp2_with fail
              go_quiet (fail)
              go_wp2_with fail
              go_quiet (fail)
              clear hE a0 a1
              go_wp2
              go_roundg (M - (j + 1))
              case measure => rw [HT.out.1]; omega
              case rel =>
                refine ⟨j + 1, rA, rc, _, _, 0, 0, rfl, by omega, by go_num, rfl, rfl, HX.out.2.2.1, by rw [hnil]; rfl, HX.out.1.below (below_drewN (Below.refl _ _) _), ?_, below_drewN HT.out.2.1 _⟩
                rw [hnil]
                exact SlN.nil _ _ _ _ (Nat.zero_le _)
            · go_wp2_with fail
              go_quiet (fail)
              go_wp2_with fail
              go_quiet (fail)
              clear hE a0 a1
              go_wp2
              go_roundg (M - (j + 1))
              case measure => rw [HT.out.1]; omega
              case rel =>
                refine ⟨j + 1, rA, rc, _, _, 0, ul - 1, rfl, by omega, by go_num, rfl, rfl, HX.out.2.2.1, ?_, HX.out.1.below (below_drewN (Below.refl _ _) _), HX.out.2.1.tail.below (below_drewN (Below.refl _ _) _), below_drewN HT.out.2.1 _⟩
                have := HX.out.2.2.2
                simp only [List.length_cons] at this
                omega
          | cons y ry =>
            have hyx : y ≠ x := head_ne HTS.out.1 HT.out.2.2 (by
              have : y ∈ (TN.drop (j + 1)).filter (fun n => !f n) := by rw [hl]; exact List.mem_cons_self ..
              exact (List.mem_filter.1 this).1)
            have hr1 := hR7.1
            have hr2 := hR7.2.1
            unfold maxLen at hr2
            rw [hrl] at hr1
            have hrp : 0 < rl := by rw [← hrl, hl]; simp
            have hrp1 : (0 : Int) < (rl : Int) := by omega
            obtain ⟨rb, ro, rfl, hrb, hrc⟩ := hR7.2.2 (by rw [hl]; simp)
            obtain ⟨b0, b1⟩ := hrc 0 y (by rw [hl]; rfl)
            rw [Nat.zero_mul, Nat.add_zero] at b0 b1
            have hE3 := run_eqlN y.1 x.1 y.2 x.2
            have he3 : ((y.1.toList == x.1.toList) && (y.2 == x.2)) = false := by
              cases he : eqN y x with
              | true => exact absurd (eqN_iff.1 he) hyx
              | false => exact he
            rw [he3] at hE3
            have HX := Lib.hid (And.intro hR7 (And.intro hU7 (And.intro hrl hul)))
            clear hdf hdn hR7 hU7 hrl hul huc hl hrc he3 hyx
            by_cases hc1 : uc = 1
            · subst hc1
              have hnil := HX.out.2.1.tail1
              go_wp2_with fail
              go_quiet (fail)
              clear hE3 b0 b1
              go_wp2_with fail
              go_quiet (fail)
              clear hE a0 a1
              go_wp2
              go_roundg (M - (j + 1))
              case measure => rw [HT.out.1]; omega
              case rel =>
                refine ⟨j + 1, _, rc, _, _, rl, 0, rfl, by omega, by go_num, rfl, rfl, HX.out.2.2.1, by rw [hnil]; rfl, HX.out.1.below (below_drewN (Below.refl _ _) _), ?_, below_drewN HT.out.2.1 _⟩
                rw [hnil]
                exact SlN.nil _ _ _ _ (Nat.zero_le _)
            · go_wp2_with fail
              go_quiet (fail)
              clear hE3 b0 b1
              go_wp2_with fail
              go_quiet (fail)
              clear hE a0 a1
              go_wp2
              go_roundg (M - (j + 1))
              case measure => rw [HT.out.1]; omega
              case rel =>
                refine ⟨j + 1, _, rc, _, _, rl, ul - 1, rfl, by omega, by go_num, rfl, rfl, HX.out.2.2.1, ?_, HX.out.1.below (below_drewN (Below.refl _ _) _), HX.out.2.1.tail.below (below_drewN (Below.refl _ _) _), below_drewN HT.out.2.1 _⟩
                have := HX.out.2.2.2
                simp only [List.length_cons] at this
                omega
      · obtain rfl : j = M := by omega
        have hnil : TN.drop j = [] := List.drop_of_length_le (by rw [HM.out]; exact Nat.le_refl _)
        rw [hnil] at hrl hul
        have hr0 : rl = 0 := hrl.symm
        have hu0 : ul = 0 := hul.symm
        have HB := Lib.hid (H3.out.2.2.2.trans (hB.mono H3.out.2.2.2.size))
        clear hR hU hB HG hnil hrl hul
        subst hr0 hu0
        have HSy := Lib.hid (HSel2.out wr HB.out)
        go_wp2_with fail
        refine HSy.out.mono ?_
        rintro e w4 ⟨rA2, rc2, uA2, uc2, R2, U2, f2, rfl, hR2, hU2, hb4, hf2, hRe2, hUe2⟩
        rw [HTN.out] at hRe2 hUe2
        have hbw4 := HB.out.trans (hb4.mono HB.out.size)
        have HR2 := Lib.hid (show ∀ n ∈ R2, NOk n ∧ ¬ CerOk new n from fun n hn => by
          rw [hRe2] at hn
          obtain ⟨h1, h2⟩ := List.mem_filter.1 hn
          refine ⟨(HTS.out.2 n h1).1, fun hc => ?_⟩
          rw [(hf2 n).2 (reB_self.2 hc)] at h2
          cases h2)
        have HU2 := Lib.hid (show ∀ n ∈ U2, NOk n ∧ CerOk new n from fun n hn => by
          rw [hUe2] at hn
          obtain ⟨h1, h2⟩ := List.mem_filter.1 hn
          exact ⟨(HTS.out.2 n h1).1, reB_self.1 ((hf2 n).1 h2)⟩)
        have H4 := Lib.hid (And.intro (SlN.of_own hR2) (And.intro (SlN.of_own hU2) hbw4))
        obtain ⟨r2, Hr2⟩ : ∃ Q, Hid (R2.length = Q) := ⟨_, Lib.hid rfl⟩
        obtain ⟨u2, Hu2⟩ : ∃ Q, Hid (U2.length = Q) := ⟨_, Lib.hid rfl⟩
        have hr2m := hR2.1
        have HRl := Lib.hid (show R2.length ≤ 32 ∧ U2.length ≤ 32 by
          rw [hRe2, hUe2]
          have h1 := List.length_filter_le (fun n => !f2 n) TN
          have h2 := List.length_filter_le f2 TN
          have h3 := HTL.out
          exact ⟨by omega, by omega⟩)
        have hRl := HRl.out
        rw [Hr2.out, Hu2.out] at hRl
        obtain ⟨hRl1, hRl2⟩ := hRl
        rw [Hr2.out, Hu2.out]
        clear hR2 hU2 hb4 hf2 hRe2 hUe2 hbw4 hr2m
        go_wp2
        go_loopg [10, 11, 12, 77] r2 (fun g _ _ _ ct wr => ∃ j : Nat, g = r2 - j ∧ j ≤ r2 ∧ ct = .int .i64 j ∧ Below w4.heap.size w4 wr)
        case atStart => exact ⟨0, rfl, by omega, rfl, Below.refl _ _⟩
        case round =>
          obtain ⟨q, HG, hq, rfl, hB⟩ := hrel
          have hz := hB.size
          by_cases hlt : q < r2
          · have hlt' : q < R2.length := by rw [Hr2.out]; exact hlt
            obtain ⟨x, hx⟩ : ∃ x, R2[q]? = some x := ⟨_, List.getElem?_eq_getElem hlt'⟩
            obtain ⟨tb, tof, rfl, htb, htc⟩ := H4.out.1.2.2 (by intro e; rw [e] at hlt'; simp at hlt')
            obtain ⟨y0, y1⟩ := htc q x hx
            have c0 := (hB.cell (p := ⟨tb, tof + q * 2, none⟩) htb).trans y0
            have c1 := (hB.cell (p := ⟨tb, tof + q * 2 + 1, none⟩) htb).trans y1
            have hj0 : (0 : Int) ≤ (q : Int) := by omega
            have hj1 : (q : Int) < (r2 : Int) := by omega
            obtain ⟨W7, hW7⟩ : ∃ W7, wr.alloc (.cells #[.string x.1, .int .i64 x.2] 24) = W7 := ⟨_, rfl⟩
            have hz7 : wr.heap.size < W7.heap.size := by subst hW7; simp
            have hb7 : Below wr.heap.size wr W7 := by subst hW7; exact (Below.refl _ _).alloc (Nat.le_refl _) _
            have z0 : W7.cell? ⟨wr.heap.size, 0, none⟩ = some (.string x.1) := by subst hW7; go_simp
            have z1 : W7.cell? ⟨wr.heap.size, 1, none⟩ = some (.int .i64 x.2) := by subst hW7; go_simp
            have hb47 := hB.trans (hb7.mono hz)
            have hxx := HR2.out x (List.mem_of_getElem? hx)
            have HC := Lib.hid (HCe.out W7 x (H4.out.2.2.trans (hb47.mono H4.out.2.2.size)) hxx.1)
            have HT := Lib.hid (And.intro HG (And.intro hb47 hxx.2))
            clear HG hB hx htc y0 y1 hb7 hb47 hxx
            go_wp2_with fail
            refine HC.out.mono ?_
            rintro e w8 ⟨p, i, cA, cl, cc, k, er, rfl, her, hb8⟩
            have he : er ≠ 0 := fun h => HT.out.2.2 (her.1 h)
            have he2 : (er == 0) = false := by simpa using he
            have HB8 := Lib.hid (HT.out.2.1.trans (hb8.mono (Nat.le_trans hz (Nat.le_of_lt hz7))))
            clear hb8 he her z0 z1 c0 c1 hW7
            go_wp2
            go_roundg (r2 - (q + 1))
            case measure => rw [HT.out.1]; omega
            case rel => exact ⟨q + 1, rfl, by omega, by go_num, HB8.out.alloc HB8.out.size _⟩
          · have HB5 := Lib.hid hB
            clear hB HG
            go_wp2
            go_loopg [14, 15, 16, 92] u2 (fun g _ _ _ ct wr => ∃ j : Nat, g = u2 - j ∧ j ≤ u2 ∧ ct = .int .i64 j ∧ Below w4.heap.size w4 wr)
            case atStart => exact ⟨0, rfl, by omega, rfl, HB5.out⟩
            case round =>
              obtain ⟨q, HG, hq, rfl, hB⟩ := hrel
              have hz := hB.size
              by_cases hlt : q < u2
              · have hlt' : q < U2.length := by rw [Hu2.out]; exact hlt
                obtain ⟨x, hx⟩ : ∃ x, U2[q]? = some x := ⟨_, List.getElem?_eq_getElem hlt'⟩
                obtain ⟨tb, tof, rfl, htb, htc⟩ := H4.out.2.1.2.2 (by intro e; rw [e] at hlt'; simp at hlt')
                obtain ⟨y0, y1⟩ := htc q x hx
                have c0 := (hB.cell (p := ⟨tb, tof + q * 2, none⟩) htb).trans y0
                have c1 := (hB.cell (p := ⟨tb, tof + q * 2 + 1, none⟩) htb).trans y1
                have hj0 : (0 : Int) ≤ (q : Int) := by omega
                have hj1 : (q : Int) < (u2 : Int) := by omega
                obtain ⟨W7, hW7⟩ : ∃ W7, wr.alloc (.cells #[.string x.1, .int .i64 x.2] 24) = W7 := ⟨_, rfl⟩
                have hz7 : wr.heap.size < W7.heap.size := by subst hW7; simp
                have hb7 : Below wr.heap.size wr W7 := by subst hW7; exact (Below.refl _ _).alloc (Nat.le_refl _) _
                have z0 : W7.cell? ⟨wr.heap.size, 0, none⟩ = some (.string x.1) := by subst hW7; go_simp
                have z1 : W7.cell? ⟨wr.heap.size, 1, none⟩ = some (.int .i64 x.2) := by subst hW7; go_simp
                have hb47 := hB.trans (hb7.mono hz)
                have hxx := HU2.out x (List.mem_of_getElem? hx)
                have HC := Lib.hid (HCe.out W7 x (H4.out.2.2.trans (hb47.mono H4.out.2.2.size)) hxx.1)
                have HT := Lib.hid (And.intro HG (And.intro hb47 hxx.2))
                clear HG hB hx htc y0 y1 hb7 hb47 hxx
                go_wp2_with fail
                refine HC.out.mono ?_
                rintro e w8 ⟨p, i, cA, cl, cc, k, er, rfl, her, hb8⟩
                obtain rfl := her.2 HT.out.2.2
                have HB8 := Lib.hid (HT.out.2.1.trans (hb8.mono (Nat.le_trans hz (Nat.le_of_lt hz7))))
                clear hb8 her z0 z1 c0 c1 hW7
                go_wp2
                go_roundg (u2 - (q + 1))
                case measure => rw [HT.out.1]; omega
                case rel => exact ⟨q + 1, rfl, by omega, by go_num, HB8.out.alloc HB8.out.size _⟩
              · have HB6 := Lib.hid (H4.out.2.2.trans (hB.mono H4.out.2.2.size))
                clear hB HG
                go_wp2_with fail
                refine (awake50_any _).mono ?_
                rintro e w9 ⟨rfl, hb9⟩
                have HB9 := Lib.hid (HB6.out.trans (hb9.mono HB6.out.size))
                clear hb9
                go_wp2
                go_ret
                exact ⟨rfl, HB9.out⟩
end Go.Proofs.YtdobpmbgngomlaaGreatDoor
