/- law50.TestselectExact answers true -/
import Derived.Test.YtdobpmbgngomlaaGreatDoorZnk
import Derived.Deep.DeepCutAuto
import Derived.Deep.QuietTactic
import Derived.BigQuiet
namespace Go.Proofs.YtdobpmbgngomlaaGreatDoor
open Go.RowKit Go.Proofs Go.Shelf

def twoO (n o : ByteArray × Int) : Obj := .cells #[.string n.1, .int .i64 n.2, .string o.1, .int .i64 o.2] 61
def nmO (n : ByteArray × Int) : Obj := .cells #[.string n.1, .int .i64 n.2] 24 (0, 0)
theorem small_one {l : List Mo} {A : Option Addr} {c N : Nat} {w : World} (hl : SlM w w.heap.size A c l) (hN : l.length = N) :
    Calls Tryz.prog 19 #[.slice (some ⟨w.heap.size, 0, none⟩) 1 1] (w.alloc (.cells #[.slice A N c] 22)) fun e w' => e = .returned (.bool (!greatL l)) ∧ Below w.heap.size w w' := by
  subst hN
  have hb : Below w.heap.size w (w.alloc (.cells #[.slice A l.length c] 22)) := (Below.refl _ _).alloc (Nat.le_refl _) _
  have hrow : (w.alloc (.cells #[.slice A l.length c] 22)).heap[w.heap.size]? = some (.cells #[.slice A l.length c] 22) := heap_alloc_new _ _
  have h := small50_any [⟨A, c, l⟩] w.heap.size (w.alloc (.cells #[.slice A l.length c] 22)) (fun j x hx => by
    match j, hx with
    | 0, hx => simp at hx; subst hx; exact ⟨cell_of_row _ _ 0 _ _ (0, 0) hrow, (hl.below hb).keep hb.size (fun _ _ => rfl)⟩
    | j + 1, hx => simp at hx) (by simp) (by simp)
  refine h.mono ?_
  rintro e w' ⟨rfl, hb2⟩
  exact ⟨by simp, hb.trans (hb2.mono hb.size)⟩
theorem two_way (w : World) (a b c : Obj) : (((w.alloc a).alloc b).alloc c).drew.heap[w.heap.size + 1]? = some b ∧ (((w.alloc a).alloc b).alloc c).drew.heap[w.heap.size + 1 + 1]? = some c ∧ Below w.heap.size w (((w.alloc a).alloc b).alloc c).drew := by
  refine ⟨?_, ?_, below_drew' ((((Below.refl _ _).alloc (Nat.le_refl _) _).alloc (by simp) _).alloc (by simp; omega) _)⟩
  · show (((w.alloc a).alloc b).alloc c).heap[w.heap.size + 1]? = some b
    simp only [heap_push]
    rw [if_neg (by simp), if_pos (by simp)]
  · show (((w.alloc a).alloc b).alloc c).heap[w.heap.size + 1 + 1]? = some c
    rw [heap_push, if_pos (by simp)]
set_option maxRecDepth 100000 in
set_option maxHeartbeats 16000000 in
theorem lawExact_any (l : List Mo) (n o : ByteArray × Int) (z : Int) (A : Option Addr) (c : Nat) (w : World) (hl : SlM w w.heap.size A c l) (hn : NOk n) (ho : NOk o) (hw : MoW l) :
    Calls Tryz.prog 8 #[.slice A l.length c, .agg #[.string n.1, .int .i64 n.2, .string o.1, .int .i64 o.2], .int .i64 z] w fun e w' => e = .returned (.bool true) ∧ Below w.heap.size w w' := by
  obtain ⟨W0, hW0⟩ : ∃ W0, w.alloc (.cells #[.string n.1, .int .i64 n.2, .string o.1, .int .i64 o.2] 61) = W0 := ⟨_, rfl⟩
  have hb0 : Below w.heap.size w W0 := by subst hW0; exact (Below.refl _ _).alloc (Nat.le_refl _) _
  have hz0 : w.heap.size < W0.heap.size := by subst hW0; simp
  have hr0 : W0.heap[w.heap.size]? = some (.cells #[.string n.1, .int .i64 n.2, .string o.1, .int .i64 o.2] 61 (0, 0)) := by rw [← hW0]; exact heap_alloc_new _ _
  have t0 : W0.cell? ⟨w.heap.size, 0, none⟩ = some (.string n.1) := cell_of_row W0 _ 0 _ _ (0, 0) hr0
  have t1 : W0.cell? ⟨w.heap.size, 1, none⟩ = some (.int .i64 n.2) := cell_of_row W0 _ 1 _ _ (0, 0) hr0
  have t2 : W0.cell? ⟨w.heap.size, 2, none⟩ = some (.string o.1) := cell_of_row W0 _ 2 _ _ (0, 0) hr0
  have t3 : W0.cell? ⟨w.heap.size, 3, none⟩ = some (.int .i64 o.2) := cell_of_row W0 _ 3 _ _ (0, 0) hr0
  have HB0 := Lib.hid (And.intro hb0 hz0)
  clear hb0 hz0 hr0
  subst hW0
  go_enter Tryz.func8, Tryz.ntmps8
  go_upto_region 1 with fail
  go_cut [7, 8] (fun s7 s8 wx => ∃ p q, s7 = .pointer (some ⟨p, 0, none⟩) ∧ s8 = .pointer (some ⟨q, 0, none⟩) ∧ wx.heap[p]? = some (nmO n) ∧ wx.heap[q]? = some (nmO o) ∧ Below w.heap.size w wx)
  case first =>
    go_region
    all_goals (go_wp2_with fail; go_meet)
    all_goals (first
      | exact ⟨w.heap.size + 1, w.heap.size + 1 + 1, rfl, rfl, two_way w _ _ _⟩
      | exact ⟨w.heap.size + 1 + 1, w.heap.size + 1, rfl, rfl, (two_way w _ _ _).2.1, (two_way w _ _ _).1, (two_way w _ _ _).2.2⟩)
  case rest =>
  obtain ⟨p7, p8, h7, h8, hp7, hp8, hbc⟩ := hcut
  subst h7 h8
  have hz7 : p7 < wc.heap.size := (Array.getElem?_eq_some_iff.1 hp7).1
  have hz8 : p8 < wc.heap.size := (Array.getElem?_eq_some_iff.1 hp8).1
  have HK := Lib.hid (show ∀ X : World, Below wc.heap.size wc X → X.cell? ⟨p7, 0, none⟩ = some (.string n.1) ∧ X.cell? ⟨p7, 1, none⟩ = some (.int .i64 n.2) ∧ X.cell? ⟨p8, 0, none⟩ = some (.string o.1) ∧ X.cell? ⟨p8, 1, none⟩ = some (.int .i64 o.2) from fun X hX => by
    have h1 := (hX.block _ hz7).trans hp7
    have h2 := (hX.block _ hz8).trans hp8
    exact ⟨cell_of_row X _ 0 _ _ (0, 0) h1, cell_of_row X _ 1 _ _ (0, 0) h1, cell_of_row X _ 0 _ _ (0, 0) h2, cell_of_row X _ 1 _ _ (0, 0) h2⟩)
  have HL := Lib.hid (show ∀ X : World, Below wc.heap.size wc X → Below w.heap.size w X ∧ SlM X X.heap.size A c l from fun X hX => by
    have h1 := hbc.trans (hX.mono hbc.size)
    exact ⟨h1, (hl.below h1).keep h1.size (fun _ _ => rfl)⟩)
  have HW := Lib.hid (And.intro hn (And.intro ho (And.intro hw hl)))
  have HZ := Lib.hid (And.intro hz7 (And.intro hz8 hbc))
  obtain ⟨N, HN⟩ : ∃ Q, Hid (l.length = Q) := ⟨_, Lib.hid rfl⟩
  have HS := Lib.hid (small_one (HL.out wc (Below.refl _ _)).2 HN.out)
  obtain ⟨g, Hg⟩ : ∃ Q, Hid (greatL l = Q) := ⟨_, Lib.hid rfl⟩
  rw [Hg.out] at HS
  rw [HN.out]
  clear hl hn ho hw hp7 hp8 hbc t0 t1 t2 t3 hz7 hz8
  cases g with
  | true =>
    go_wp2_with fail
    refine HS.out.mono ?_
    rintro e w1 ⟨rfl, hb1⟩
    have HB1 := Lib.hid (HL.out w1 hb1).1
    clear hb1
    go_wp2_with fail
    refine (awake50_any _).mono ?_
    rintro e w2 ⟨rfl, hb2⟩
    have HB2 := Lib.hid hb2
    clear hb2
    go_wp2
    go_ret
    exact ⟨rfl, HB1.out.trans (HB2.out.mono HB1.out.size)⟩
  | false =>
    have HCe := Lib.hid (show ∀ X : World, Below wc.heap.size wc X → Calls Tryz.prog 26 #[.slice A N c, .agg #[.string n.1, .int .i64 n.2]] X (CertP l n X) from fun X hX => by
      have := tsCertify_any l n A c X (HL.out X hX).2 HW.out.1 HW.out.2.2.1 Hg.out
      rwa [HN.out] at this)
    go_wp2_with fail
    refine HS.out.mono ?_
    rintro e w1 ⟨rfl, hb1⟩
    obtain ⟨k0, k1, _, _⟩ := HK.out w1 hb1
    have HC1 := Lib.hid (HCe.out w1 hb1)
    have HB1 := Lib.hid hb1
    clear hb1
    go_wp2_with fail
    refine HC1.out.mono ?_
    rintro e w2 ⟨hb2, ⟨er, hne, hv, rfl⟩ | ⟨L, vA, vc, hv, rfl, hown, hlen⟩⟩
    · have hne2 : (er != 0) = true := by simpa using hne
      have HB2 := Lib.hid (HL.out w2 (HB1.out.trans (hb2.mono HB1.out.size))).1
      clear hb2 hne hv k0 k1
      unfold zeroC
      go_wp2_with fail
      refine (awake50_any _).mono ?_
      rintro e w3 ⟨rfl, hb3⟩
      have HB3 := Lib.hid hb3
      clear hb3
      go_wp2
      go_ret
      have h4 := HB2.out.alloc HB2.out.size (.cells #[.string ⟨#[]⟩, .int .i64 0, .slice none 0 0, .string ⟨#[]⟩] 54)
      exact ⟨rfl, h4.trans (HB3.out.mono h4.size)⟩
    · obtain ⟨T, HT⟩ : ∃ Q, Hid (certT l n L = Q) := ⟨_, Lib.hid rfl⟩
      rw [HT.out]
      obtain ⟨M, HM⟩ : ∃ Q, Hid (L.length = Q) := ⟨_, Lib.hid rfl⟩
      rw [HM.out] at hown ⊢
      obtain ⟨W3, hW3⟩ : ∃ W3, w2.alloc (.cells #[.string n.1, .int .i64 n.2, .slice vA M vc, .string T] 54) = W3 := ⟨_, rfl⟩
      have hb3 : Below w2.heap.size w2 W3 := by rw [← hW3]; exact (Below.refl _ _).alloc (Nat.le_refl _) _
      have hr3 : W3.heap[w2.heap.size]? = some (.cells #[.string n.1, .int .i64 n.2, .slice vA M vc, .string T] 54 (0, 0)) := by rw [← hW3]; exact heap_alloc_new _ _
      have hz3 : w2.heap.size < W3.heap.size := by rw [← hW3]; simp
      have hbc3 := HB1.out.trans ((hb2.trans (hb3.mono hb2.size)).mono HB1.out.size)
      have HA := Lib.hid (show ∀ X : World, Below W3.heap.size W3 X → X.cell? ⟨w2.heap.size, 0, none⟩ = some (.string n.1) ∧ X.cell? ⟨w2.heap.size, 1, none⟩ = some (.int .i64 n.2) ∧ X.cell? ⟨w2.heap.size, 2, none⟩ = some (.slice vA M vc) ∧ X.cell? ⟨w2.heap.size, 3, none⟩ = some (.string T) from fun X hX => by
        have h1 := (hX.block _ hz3).trans hr3
        exact ⟨cell_of_row X _ 0 _ _ (0, 0) h1, cell_of_row X _ 1 _ _ (0, 0) h1, cell_of_row X _ 2 _ _ (0, 0) h1, cell_of_row X _ 3 _ _ (0, 0) h1⟩)
      obtain ⟨a0, a1, a2, a3⟩ := HA.out W3 (Below.refl _ _)
      obtain ⟨_, _, o0, o1⟩ := HK.out W3 hbc3
      have hown3 := own_of_blocks' hown fun k hk => hb3.block k hk
      have HCo := Lib.hid (slcContainsN_any L o vA vc _ W3 (by rw [HM.out]; exact hown3) (by omega))
      rw [HM.out] at HCo
      have HB3 := Lib.hid (And.intro hbc3 hv)
      have HO3 := Lib.hid (SlN.of_own (l := L) (by rw [HM.out]; exact hown3))
      obtain ⟨q, Hq⟩ : ∃ Q, Hid (memN L o = Q) := ⟨_, Lib.hid rfl⟩
      rw [Hq.out] at HCo
      clear hb2 hv hown hown3 hlen hb3 hr3 hz3 hbc3 k0 k1
      go_wp2_with fail
      refine HCo.out.mono ?_
      rintro e w4 ⟨rfl, hb4⟩
      have HB4 := Lib.hid (And.intro hb4 (HB3.out.1.trans (hb4.mono HB3.out.1.size)))
      clear hb4 a0 a1 a2 a3 o0 o1
      cases q with
      | true =>
        go_wp2_with fail
        refine (awake50_any _).mono ?_
        rintro e w5 ⟨rfl, hb5⟩
        have HB5 := Lib.hid hb5
        clear hb5
        go_wp2
        go_ret
        have h4 := (HL.out w4 HB4.out.2).1
        exact ⟨rfl, h4.trans (HB5.out.mono h4.size)⟩
      | false =>
        have HNo := Lib.hid (show o ∉ L from fun h => by
          have := memN_iff.2 h
          rw [Hq.out] at this
          cases this)
        have hLen := (greatL_le Hg.out).1
        rw [HN.out] at hLen
        have hrow0 := World.ownsRow_lit (base := w4.heap.size) (e := 41) (size := 3) w4 #[] 0 (Nat.le_refl _) (by simp) rfl
        have HR0 := Lib.hid hrow0
        clear hrow0 HS HCe HC1 HCo
        obtain ⟨i0, hi, hz0', hz1', hz2'⟩ := info_parts Tryz.infoModule
        obtain ⟨zz, Hzz⟩ : ∃ Q, Hid (Int.tmod z 1000 = Q) := ⟨_, Lib.hid rfl⟩
        go_wp2
        go_loopg [11, 13, 14, 42] N (fun gg mv _ _ ct wr => ∃ (j : Nat) (l' : List Mo) (mA : Option Addr) (mc : Nat), gg = N - j ∧ j ≤ N ∧ ct = .int .i64 j ∧ mv = .slice mA j mc ∧ l'.length = j ∧ wr.ownsRow w4.heap.size 41 3 (.slice mA j mc) j (moC l') ∧ (∀ (k : Nat) (m m' : Mo), l[k]? = some m → l'[k]? = some m' → MoG o zz wr m m') ∧ Below w4.heap.size w4 wr)
        case atStart => exact ⟨0, [], _, _, rfl, by omega, rfl, rfl, rfl, HR0.out, fun k m m' _ h => by simp at h, (Below.refl _ _).alloc (Nat.le_refl _) _⟩
        case round =>
          obtain ⟨j, l', mA, mc, HG, hj, rfl, rfl, hl', hrow, hgood, hB⟩ := hrel
          obtain ⟨Wo, rfl⟩ : ∃ Wo, Wo = wr := ⟨_, rfl⟩
          have hz := hB.size
          by_cases hlt : j < N
          · have hlt' : j < l.length := by rw [HN.out]; exact hlt
            obtain ⟨m, hm⟩ : ∃ m, l[j]? = some m := ⟨_, List.getElem?_eq_getElem hlt'⟩
            have hcr := HB4.out.2.trans (hB.mono HB4.out.2.size)
            obtain ⟨b, ob, rfl, hbb, d0, d1, d2, hok⟩ := (HL.out Wo hcr).2.at_ hm
            have hnd := (greatL_le Hg.out).2 m (List.mem_of_getElem? hm)
            have hmok := HW.out.2.2.2.at_ hm
            have hj0 : (0 : Int) ≤ (j : Int) := by omega
            have hj1 : (j : Int) < (N : Int) := by omega
            obtain ⟨nu, HNU⟩ : ∃ Q, Hid (m.uses.length = Q) := ⟨_, Lib.hid rfl⟩
            obtain ⟨nd, HND⟩ : ∃ Q, Hid (m.ds.length = Q) := ⟨_, Lib.hid rfl⟩
            rw [HNU.out] at d1
            rw [HND.out] at d2 hnd
            obtain ⟨W10, hW10⟩ : ∃ W10, Wo.alloc (.cells #[.string m.label, .slice m.uA nu m.uc, .slice m.dA nd m.dc] 41) = W10 := ⟨_, rfl⟩
            have hz10 : Wo.heap.size < W10.heap.size := by rw [← hW10]; simp
            have hb10 : Below Wo.heap.size Wo W10 := by rw [← hW10]; exact (Below.refl _ _).alloc (Nat.le_refl _) _
            have hr10 : W10.heap[Wo.heap.size]? = some (.cells #[.string m.label, .slice m.uA nu m.uc, .slice m.dA nd m.dc] 41 (0, 0)) := by rw [← hW10]; exact heap_alloc_new _ _
            have e2 : W10.cell? ⟨Wo.heap.size, 2, none⟩ = some (.slice m.dA nd m.dc) := cell_of_row W10 _ 2 _ _ (0, 0) hr10
            have HCl := Lib.hid (cloneD_all m.ds m.dA m.dc W10 (hok.2.keep hb10.size fun p hp => hb10.cell hp) (by rw [HND.out]; omega))
            rw [HND.out] at HCl
            have HT := Lib.hid (And.intro HG (And.intro hl' (And.intro hrow (And.intro hgood (And.intro hB (And.intro hcr (And.intro hm (And.intro hb10 (And.intro hr10 hz10)))))))))
            clear HG hl' hrow hgood hB hok hbb hmok hb10 hr10 hcr hm
            go_wp2_with fail
            refine HCl.out.mono ?_
            rintro e w11 ⟨v11, rfl, hown, hb11⟩
            obtain ⟨cA, cc, rfl⟩ := own_formN hown
            rw [HND.out] at hown ⊢
            have hr11 := (hb11.block _ HT.out.2.2.2.2.2.2.2.2.2).trans HT.out.2.2.2.2.2.2.2.2.1
            have f2 : w11.cell? ⟨Wo.heap.size, 2, none⟩ = some (.slice m.dA nd m.dc) := cell_of_row w11 _ 2 _ _ (0, 0) hr11
            have g2 : w11.frozen? ⟨Wo.heap.size, 2, none⟩ = false := frozen_of_row w11 _ 2 _ _ hr11
            obtain ⟨W12, hW12⟩ : ∃ W12, w11.setCell ⟨Wo.heap.size, 2, none⟩ (.slice cA nd cc) = W12 := ⟨_, rfl⟩
            have hr12 : W12.heap[Wo.heap.size]? = some (.cells #[.string m.label, .slice m.uA nu m.uc, .slice cA nd cc] 41 (0, 0)) := by
              rw [← hW12]
              exact heap_setCell_same w11 _ 2 _ _ _ hr11
            have x2 : W12.cell? ⟨Wo.heap.size, 2, none⟩ = some (.slice cA nd cc) := cell_of_row W12 _ 2 _ _ (0, 0) hr12
            have hb12 : Below Wo.heap.size Wo W12 := by
              rw [← hW12]
              exact (HT.out.2.2.2.2.2.2.2.1.trans (hb11.mono HT.out.2.2.2.2.2.2.2.1.size)).setCell (p := ⟨Wo.heap.size, 2, none⟩) (Nat.le_refl _) _
            have hblk : ∀ k, k ≠ Wo.heap.size → W12.heap[k]? = w11.heap[k]? := fun k hk => by rw [← hW12]; exact Below.heap_setCell _ _ _ _ (fun e => hk (by simpa using e))
            have hstart : 0 < nd → ∃ (g : Nat) (cs : Array Value), cA = some ⟨g, 0, none⟩ ∧ W10.heap.size ≤ g ∧ W12.heap[g]? = some (.cells cs 44 (0, 0)) ∧ ExI o zz m nd 0 W12 cs := fun hpos => by
              rcases hown.2 with ⟨_, h0⟩ | ⟨g, cap, cur, h1, h2, h3, _⟩
              · omega
              · simp only [Value.slice.injEq, true_and] at h1
                obtain ⟨rfl, rfl⟩ := h1
                have hgne : g ≠ Wo.heap.size := by have := HT.out.2.2.2.2.2.2.2.2.2; omega
                refine ⟨g, cur, rfl, h2, (hblk g hgne).trans h3, ⟨fun k x _ hx i v hv => ?_, fun k x hk => absurd hk (Nat.not_lt_zero _)⟩⟩
                have hi : i < 11 := (Array.getElem?_eq_some_iff.1 hv).1
                have hk : k < nd := by rw [← HND.out]; exact (List.getElem?_eq_some_iff.1 hx).1
                have h5 := hown.cellAt (k * 11 + i) (by omega)
                rw [cell_of_row w11 _ _ _ _ _ h3] at h5
                rw [h5]
                exact dcC_at m.ds k x hx i v hv
            have H12 := Lib.hid (And.intro hown (And.intro hb11 (And.intro hblk (And.intro hr12 (And.intro hb12 hstart)))))
            clear hown hb11 hblk hr12 hb12 hstart hr11
            go_wp2
            go_loopg [14, 53] nd (fun gg _ ct X => ∃ q : Nat, gg = nd - q ∧ q ≤ nd ∧ ct = .int .i64 q ∧ Below Wo.heap.size Wo X ∧ X.heap[Wo.heap.size]? = some (.cells #[.string m.label, .slice m.uA nu m.uc, .slice cA nd cc] 41 (0, 0)) ∧ (0 < nd → ∃ (g : Nat) (cs : Array Value), cA = some ⟨g, 0, none⟩ ∧ W10.heap.size ≤ g ∧ X.heap[g]? = some (.cells cs 44 (0, 0)) ∧ ExI o zz m nd q X cs))
            case atStart => exact ⟨0, rfl, by omega, rfl, H12.out.2.2.2.2.1, H12.out.2.2.2.1, H12.out.2.2.2.2.2⟩
            case round =>
              obtain ⟨q, HG, hq, rfl, hBX, hbox, hE⟩ := hrel
              by_cases hlq : q < nd
              · obtain ⟨g, cs, rfl, hg1, hrow, hI⟩ := hE (by omega)
                have hlq' : q < m.ds.length := by rw [HND.out]; exact hlq
                obtain ⟨x, hx⟩ : ∃ x, m.ds[q]? = some x := ⟨_, List.getElem?_eq_getElem hlq'⟩
                have hr := hI.rest q x (Nat.le_refl _) hx
                have hq0 : (0 : Int) ≤ (q : Int) := by omega
                have hq1 : (q : Int) < (nd : Int) := by omega
                have hz10 := HT.out.2.2.2.2.2.2.2.2.2
                have hzX := hBX.size
                have hgW : Wo.heap.size < g := by omega
                have hbl : Wo.heap.size < wr.heap.size := (Array.getElem?_eq_some_iff.1 hbox).1
                obtain ⟨_, _, o0, o1⟩ := HK.out Wo HT.out.2.2.2.2.2.1
                have hlt8 : p8 < Wo.heap.size := World.block_lt_of_cell? Wo _ o0
                have o0 := (hBX.cell (p := ⟨p8, 0, none⟩) hlt8).trans o0
                have o1 := (hBX.cell (p := ⟨p8, 1, none⟩) hlt8).trans o1
                have b0 : wr.cell? ⟨Wo.heap.size, 0, none⟩ = some (.string m.label) := cell_of_row wr _ 0 _ _ (0, 0) hbox
                have b2 : wr.cell? ⟨Wo.heap.size, 2, none⟩ = some (.slice (some ⟨g, 0, none⟩) nd cc) := cell_of_row wr _ 2 _ _ (0, 0) hbox
                obtain ⟨K, HKn⟩ : ∃ Q, Hid (x.names.length = Q) := ⟨_, Lib.hid rfl⟩
                obtain ⟨b, Hb⟩ : ∃ Q, Hid (decide (m.label = o.1 ∧ x.id = o.2) = Q) := ⟨_, Lib.hid rfl⟩
                have c0 : wr.cell? ⟨g, q * 11, none⟩ = some (.int .i64 x.id) := (cell_of_row wr g (q * 11) cs _ (0, 0) hrow).trans (hr 0 _ rfl)
                have hst := toL_beq m.label o.1
                have HST := Lib.hid (StB.refl hrow hBX)
                have HF := Lib.hid (show ∀ (Y : World) (cs' : Array Value), StB Wo wr Y g cs' → Y.heap[Wo.heap.size]? = some (.cells #[.string m.label, .slice m.uA nu m.uc, .slice (some ⟨g, 0, none⟩) nd cc] 41 (0, 0)) from fun Y cs' hS => (hS.keep _ hbl (by omega)).trans hbox)
                have HH := Lib.hid (And.intro HG (And.intro hrow (And.intro hI (And.intro hx (And.intro hg1 hr)))))
                clear HG hBX hbox hrow hI hx hr hE hg1
                go_upto_region 15 with fail
                go_cut [71] (fun s71 wx => s71 = .bool b ∧ StB Wo wr wx g cs)
                case first =>
                  by_cases hL : m.label = o.1
                  · rw [decide_eq_true hL] at hst
                    by_cases hId : x.id = o.2
                    · have hid : (x.id == o.2) = true := by simpa using hId
                      have hb : true = b := by rw [← Hb.out, decide_eq_true ⟨hL, hId⟩]
                      have HB := Lib.hid hb
                      clear hL hId hb
                      go_quiet (fail)
                      go_wp2
                      go_meet
                      exact ⟨by rw [HB.out], HST.out.drewN _⟩
                    · have hid : (x.id == o.2) = false := by simpa using hId
                      have hb : false = b := by rw [← Hb.out, decide_eq_false fun h => hId h.2]
                      have HB := Lib.hid hb
                      clear hL hId hb
                      go_quiet (fail)
                      go_wp2
                      go_meet
                      exact ⟨by rw [HB.out], HST.out.drewN _⟩
                  · rw [decide_eq_false hL] at hst
                    have hb : false = b := by rw [← Hb.out, decide_eq_false fun h => hL h.1]
                    have HB := Lib.hid hb
                    clear hL hb
                    go_quiet (fail)
                    go_wp2
                    go_meet
                    exact ⟨by rw [HB.out], HST.out.drewN _⟩
                case rest =>
                obtain ⟨h71, hSc⟩ := hcut
                subst h71
                obtain ⟨Wc, rfl⟩ : ∃ Wc, Wc = wc := ⟨_, rfl⟩
                have HSc := Lib.hid hSc
                have b2 : Wc.cell? ⟨Wo.heap.size, 2, none⟩ = some (.slice (some ⟨g, 0, none⟩) nd cc) := cell_of_row Wc _ 2 _ _ (0, 0) (HF.out Wc _ hSc)
                clear hSc hst c0 o0 o1 b0
                go_upto_if 71 with (fail)
                go_cut [] (fun wx => StB Wo wr wx g (if b then bodyCs cs (q * 11 + 5) zz else cs))
                case first =>
                  cases b with
                  | true =>
                    have hrow := HSc.out.row
                    have hr := HH.out.2.2.2.2.2
                    have c5 : Wc.cell? ⟨g, q * 11 + 5, none⟩ = some (.int .i64 x.k) := (cell_of_row Wc g (q * 11 + 5) cs _ (0, 0) hrow).trans (hr 5 _ rfl)
                    have f5 : Wc.frozen? ⟨g, q * 11 + 5, none⟩ = false := frozen_of_row Wc g (q * 11 + 5) cs _ hrow
                    have c6 : Wc.cell? ⟨g, q * 11 + 6, none⟩ = some (.string x.n) := (cell_of_row Wc g (q * 11 + 6) cs _ (0, 0) hrow).trans (hr 6 _ rfl)
                    have f6 : Wc.frozen? ⟨g, q * 11 + 6, none⟩ = false := frozen_of_row Wc g (q * 11 + 6) cs _ hrow
                    have c7 : Wc.cell? ⟨g, q * 11 + 7, none⟩ = some (.string x.m) := (cell_of_row Wc g (q * 11 + 7) cs _ (0, 0) hrow).trans (hr 7 _ rfl)
                    have f7 : Wc.frozen? ⟨g, q * 11 + 7, none⟩ = false := frozen_of_row Wc g (q * 11 + 7) cs _ hrow
                    have c8 : Wc.cell? ⟨g, q * 11 + 8, none⟩ = some (.int .i64 x.i) := (cell_of_row Wc g (q * 11 + 8) cs _ (0, 0) hrow).trans (hr 8 _ rfl)
                    have f8 : Wc.frozen? ⟨g, q * 11 + 8, none⟩ = false := frozen_of_row Wc g (q * 11 + 8) cs _ hrow
                    have c9 : Wc.cell? ⟨g, q * 11 + 9, none⟩ = some (.int .i64 x.d) := (cell_of_row Wc g (q * 11 + 9) cs _ (0, 0) hrow).trans (hr 9 _ rfl)
                    have f9 : Wc.frozen? ⟨g, q * 11 + 9, none⟩ = false := frozen_of_row Wc g (q * 11 + 9) cs _ hrow
                    have c10 : Wc.cell? ⟨g, q * 11 + 10, none⟩ = some (.slice x.A x.s.len x.c) := (cell_of_row Wc g (q * 11 + 10) cs _ (0, 0) hrow).trans (hr 10 _ rfl)
                    have f10 : Wc.frozen? ⟨g, q * 11 + 10, none⟩ = false := frozen_of_row Wc g (q * 11 + 10) cs _ hrow
                    clear hrow hr
                    have hrem := Hzz.out
                    go_wp2
                    go_meet
                    (first | rw [if_pos trivial] | rw [if_pos rfl])
                    exact HSc.out.body (by omega) _ _
                  | false =>
                    go_wp2
                    go_meet
                    (first | rw [if_neg not_false] | rw [if_neg (by decide)])
                    exact HSc.out
                case rest =>
                obtain ⟨Wd, rfl⟩ : ∃ Wd, Wd = wc := ⟨_, rfl⟩
                have HSd := Lib.hid hcut
                have b2 : Wd.cell? ⟨Wo.heap.size, 2, none⟩ = some (.slice (some ⟨g, 0, none⟩) nd cc) := cell_of_row Wd _ 2 _ _ (0, 0) (HF.out Wd _ hcut)
                have c3 : Wd.cell? ⟨g, q * 11 + 3, none⟩ = some (.slice x.nA K x.nc) := by
                  rw [cell_of_row Wd g (q * 11 + 3) _ _ (0, 0) hcut.row, ← HKn.out]
                  cases b with
                  | true =>
                    rw [if_pos rfl, bodyCs_out _ _ _ _ (.inl (by omega))]
                    exact HH.out.2.2.2.2.2 3 _ rfl
                  | false =>
                    rw [if_neg (by decide)]
                    exact HH.out.2.2.2.2.2 3 _ rfl
                have f3 : Wd.frozen? ⟨g, q * 11 + 3, none⟩ = false := frozen_of_row Wd g (q * 11 + 3) _ _ hcut.row
                have hglt : g < Wd.heap.size := (Array.getElem?_eq_some_iff.1 hcut.row).1
                have HBi := Lib.hid (show b = true ↔ m.label = o.1 ∧ x.id = o.2 by rw [← Hb.out, decide_eq_true_iff])
                clear hcut
                by_cases h1 : K = 1
                · subst h1
                  go_wp2_with fail
                  go_roundg (nd - (q + 1))
                  case measure => rw [HH.out.1]; omega
                  case rel =>
                    obtain ⟨hS, hnb⟩ := HSd.out.name2 (Nat.le_of_lt hgW) (q * 11 + 3) (.slice (some ⟨Wd.heap.size, 0, none⟩) 1 1)
                    rw [show (if b = true then bodyCs cs (q * 11 + 5) zz else cs).setIfInBounds (q * 11 + 3) (.slice (some ⟨Wd.heap.size, 0, none⟩) 1 1) = exCs cs q zz Wd.heap.size b true from by unfold exCs; rw [if_pos rfl]] at hS
                    exact ⟨q + 1, rfl, by omega, by go_num, hS.below, HF.out _ _ hS, fun _ => ⟨g, _, rfl, HH.out.2.2.2.2.1, hS.row, hS.round HH.out.2.1 HH.out.2.2.1 HH.out.2.2.2.1 HBi.out ⟨fun _ => HKn.out, fun _ => rfl⟩ fun _ => hnb⟩⟩
                · have hk1 : ((K : Int) == 1) = false := by simpa using (show ¬ (K : Int) = 1 by omega)
                  have H1 := Lib.hid h1
                  clear h1
                  go_wp2_with fail
                  go_roundg (nd - (q + 1))
                  case measure => rw [HH.out.1]; omega
                  case rel =>
                    have hS := HSd.out
                    rw [show (if b = true then bodyCs cs (q * 11 + 5) zz else cs) = exCs cs q zz 0 b false from by unfold exCs; rw [if_neg (show ¬ (false = true) by decide)]] at hS
                    exact ⟨q + 1, rfl, by omega, by go_num, hS.below, HF.out _ _ hS, fun _ => ⟨g, _, rfl, HH.out.2.2.2.2.1, hS.row, hS.round HH.out.2.1 HH.out.2.2.1 HH.out.2.2.2.1 HBi.out ⟨fun h => (by cases h), fun h => absurd (HKn.out.symm.trans h) H1.out⟩ (fun h => by cases h)⟩⟩
              · obtain rfl : q = nd := by omega
                have hzX := hBX.size
                have b0 : wr.cell? ⟨Wo.heap.size, 0, none⟩ = some (.string m.label) := cell_of_row wr _ 0 _ _ (0, 0) hbox
                have b1 : wr.cell? ⟨Wo.heap.size, 1, none⟩ = some (.slice m.uA nu m.uc) := cell_of_row wr _ 1 _ _ (0, 0) hbox
                have b2 : wr.cell? ⟨Wo.heap.size, 2, none⟩ = some (.slice cA q cc) := cell_of_row wr _ 2 _ _ (0, 0) hbox
                have HROW := Lib.hid (own_of_blocks' HT.out.2.2.1 fun k hk => hBX.block k hk)
                have HX := Lib.hid (And.intro HG (And.intro hBX (And.intro hbox hE)))
                have hzo := HT.out.2.2.2.2.1.size
                clear HG hBX hbox hE
                go_wp2_with (at_builtin; refine wpList_append_own_at _ rfl _ _ 22 rfl w4.heap.size 41 i0 _ 3 64 Tryz.underlying22 hi hz0' hz1' hz2' rfl (by decide) _ _ _ rfl (HROW.out.alloc _) ⟨wr.heap.size, 0, none⟩ 1 1 [.string m.label, .slice m.uA nu m.uc, .slice cA q cc] rfl rfl (cell_trip_new _ _ _ _ _) (by simp [Value.oneCell']) (by unfold maxLen; omega) (by omega) (by simp; omega) ?_; intro v9 w9 hown9 hg9 _ hat9; have HS9 := Lib.hid (And.intro hown9 hg9); obtain ⟨g9, c9, rfl⟩ := ownsRow_succ hown9; clear hown9 hg9 hat9)
                go_roundg (N - (j + 1))
                case measure => rw [HT.out.1]; omega
                case rel =>
                  obtain ⟨m', hc', hgd⟩ := mo_round HT.out.2.2.1 HT.out.2.2.2.1 HT.out.2.1 HT.out.2.2.2.2.2.2.1 HND.out HNU.out (own_cap H12.out.1) HX.out.2.1 (fun hp => by
                    obtain ⟨g, cs, h1, h2, h3, h4⟩ := HX.out.2.2.2 hp
                    have := HT.out.2.2.2.2.2.2.2.2.2
                    exact ⟨g, cs, h1, by omega, h3, h4⟩) HS9.out.2
                  refine ⟨j + 1, l' ++ [m'], _, _, rfl, by omega, by go_num, rfl, by rw [List.length_append, HT.out.2.1]; rfl, ?_, hgd, ?_⟩
                  · rw [moC_append, show moC [m'] = [.string m.label, .slice m.uA nu m.uc, .slice cA q cc] by rw [moC, moC, List.append_nil]; exact hc']
                    exact HS9.out.1
                  · exact ((HT.out.2.2.2.2.1.trans (HX.out.2.1.mono HT.out.2.2.2.2.1.size)).alloc (by omega) _).grown HS9.out.2 (by simp; omega) (own_ge HT.out.2.2.1)
          · obtain rfl : j = N := by omega
            have hcr := HB4.out.2.trans (hB.mono HB4.out.2.size)
            have hb3 : Below W3.heap.size W3 Wo := HB4.out.1.trans (hB.mono HB4.out.1.size)
            obtain ⟨a0, a1, a2, a3⟩ := HA.out Wo hb3
            have hlen : l'.length = l.length := by rw [hl', HN.out]
            have hEx := exMs_of_moG hlen hgood
            have hSl := slM_of_row HW.out.2.2.2 (HL.out Wo hcr).1 (by rw [hl']; exact hrow) hlen hgood
            have HVe := Lib.hid (tsVerify_any l' n L T mA mc vA vc Wo hSl (HO3.out.below hb3) HW.out.1 (exMs_mow hEx HW.out.2.2.1) (exMs_great hEx Hg.out))
            rw [hl', HM.out] at HVe
            have HEx := Lib.hid (And.intro hEx (HL.out Wo hcr).1)
            clear HG hrow hgood hB hEx hSl hcr hb3 hlen
            go_wp2_with fail
            refine HVe.out.mono ?_
            rintro e w5 ⟨b, rfl, hv, hb5⟩
            have hbt : b = true := ex_ver (by rw [← Hzz.out]; exact tmod_small z) HEx.out.1 HB3.out.2 HNo.out (by rw [HT.out]; exact hv)
            subst hbt
            have HB5 := Lib.hid hb5
            clear hb5 hv
            go_wp2_with fail
            refine (awake50_any _).mono ?_
            rintro e w6 ⟨rfl, hb6⟩
            have HB6 := Lib.hid hb6
            clear hb6
            go_wp2
            go_ret
            exact ⟨rfl, HEx.out.2.trans ((HB5.out.trans (HB6.out.mono HB5.out.size)).mono HEx.out.2.size)⟩
end Go.Proofs.YtdobpmbgngomlaaGreatDoor
