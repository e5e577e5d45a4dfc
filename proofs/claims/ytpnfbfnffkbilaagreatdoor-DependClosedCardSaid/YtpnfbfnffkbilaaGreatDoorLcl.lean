/- law40.DependClosed answers true -/
import Derived.Test.YtpnfbfnffkbilaaGreatDoorZlz
import Derived.Test.YtpnfbfnffkbilaaGreatDoorZma
namespace Go.Proofs.YtpnfbfnffkbilaaGreatDoor
open Go.RowKit Go.Proofs Go.Shelf

/-- The arm of the law that lets the input go, or finds nothing. -/
def TrueP (w : World) (e : Ending) (w' : World) : Prop := e = .returned (.bool true) ∧ Below w.heap.size w w'
theorem loadE_of {l : List Mo} {n : ByteArray × Int} (h : chkL l = 0) (hb : bodyOf l n ≠ none) : loadE l n = 0 := by
  unfold loadE
  rw [if_neg (by simpa using h), if_neg hb]
theorem grf_body {l : List Mo} {n : ByteArray × Int} {us : List (ByteArray × Int)} (h : grf l n = some us) : bodyOf l n ≠ none := fun e => by
  unfold grf at h
  rw [e] at h
  cases h
set_option maxRecDepth 100000 in
set_option maxHeartbeats 4000000 in
theorem lawClosed_any (l : List Mo) (n : ByteArray × Int) (A : Option Addr) (c : Nat) (w : World) (hl : SlM w w.heap.size A c l) (hn : NOk n) (hw : MoW l) :
    Calls Tryz.prog 4 #[.slice A l.length c, .agg #[.string n.1, .int .i64 n.2]] w (TrueP w) := by
  obtain ⟨i0, hi, hz0', hz1', hz2'⟩ := info_parts Tryz.infoName
  obtain ⟨W0, hW0⟩ : ∃ W0, w.alloc (.cells #[.string n.1, .int .i64 n.2] 28) = W0 := ⟨_, rfl⟩
  have hz0 : W0.heap.size = w.heap.size + 1 := by subst hW0; simp
  have hB0 : Below w.heap.size w W0 := by subst hW0; exact (Below.refl _ _).alloc (Nat.le_refl _) _
  have n0 : W0.cell? ⟨w.heap.size, 0, none⟩ = some (.string n.1) := by subst hW0; go_simp
  have n1 : W0.cell? ⟨w.heap.size, 1, none⟩ = some (.int .i64 n.2) := by subst hW0; go_simp
  have HL := Lib.hid (show ∀ X : World, Below w.heap.size w X → SlM X X.heap.size A c l from fun X hX => (hl.below hX).keep hX.size (fun _ _ => rfl))
  obtain ⟨N, HN⟩ : ∃ Q, Hid (l.length = Q) := ⟨_, Lib.hid rfl⟩
  have HX := Lib.hid (And.intro hn (And.intro hw hB0))
  have HZ := Lib.hid (show w.heap.size < W0.heap.size by omega)
  have HG := Lib.hid (great40_any l A c W0 (HL.out W0 hB0))
  rw [HN.out] at HG ⊢
  clear hl hn hw hB0 hz0
  go_enter Tryz.func4, Tryz.ntmps4
  cases hg : greatL l with
  | true =>
    rw [hg] at HG
    go_wp2_with fail
    refine HG.out.mono ?_
    rintro e w1 ⟨rfl, hb1⟩
    have HB1 := Lib.hid (HX.out.2.2.trans (hb1.mono (Nat.le_of_lt HZ.out)))
    clear hb1
    go_wp2_with fail
    refine (awake40_any _).mono ?_
    rintro e w2 ⟨rfl, hb2⟩
    have HB2 := Lib.hid hb2
    clear hb2
    go_wp2
    go_ret
    exact ⟨rfl, HB1.out.trans (HB2.out.mono HB1.out.size)⟩
  | false =>
    rw [hg] at HG
    have hle := greatL_le hg
    have htot := greatL_tot hg
    have HG1 := Lib.hid (And.intro hg (And.intro hle htot))
    clear hg hle htot
    go_wp2_with fail
    refine HG.out.mono ?_
    rintro e w1 ⟨rfl, hb1⟩
    have k0 := (hb1.cell (p := ⟨w.heap.size, 0, none⟩) HZ.out).trans n0
    have k1 := (hb1.cell (p := ⟨w.heap.size, 1, none⟩) HZ.out).trans n1
    have hB1 := HX.out.2.2.trans (hb1.mono (Nat.le_of_lt HZ.out))
    have hz1 : w.heap.size < w1.heap.size := Nat.lt_of_lt_of_le HZ.out hb1.size
    have HC := Lib.hid (dClosureF_any l n A c w1 (HL.out w1 hB1) HX.out.1 HX.out.2.1 (Nat.le_trans HG1.out.2.2 (by omega)) (Nat.le_trans HG1.out.2.1.1 (by omega)) (fun h => ⟨_, uok_of HG1.out.1 h⟩))
    rw [HN.out] at HC
    have HB1 := Lib.hid (And.intro hB1 hz1)
    clear hb1 hB1 n0 n1 hz1 hW0
    go_wp2_with fail
    refine HC.out.mono ?_
    rintro e w2 ⟨hb2, ⟨hE, rfl⟩ | ⟨hE, hcl, rfl⟩ | ⟨hE, L, v, hcl, rfl, hown, hlen⟩⟩
    · have hE2 : (loadE l n != 0) = true := by simpa using hE
      obtain ⟨E, HE⟩ : ∃ Q, Hid (loadE l n = Q) := ⟨_, Lib.hid rfl⟩
      rw [HE.out] at hE2 ⊢
      have HB2 := Lib.hid (HB1.out.1.trans (hb2.mono (Nat.le_of_lt HB1.out.2)))
      clear hb2 hE
      go_wp2_with fail
      refine (awake40_any _).mono ?_
      rintro e w3 ⟨rfl, hb3⟩
      have HB3 := Lib.hid hb3
      clear hb3
      go_wp2
      go_ret
      exact ⟨rfl, HB2.out.trans (HB3.out.mono HB2.out.size)⟩
    · have HB2 := Lib.hid (HB1.out.1.trans (hb2.mono (Nat.le_of_lt HB1.out.2)))
      clear hb2 hE hcl
      go_wp2_with fail
      refine (awake40_any _).mono ?_
      rintro e w3 ⟨rfl, hb3⟩
      have HB3 := Lib.hid hb3
      clear hb3
      go_wp2
      go_ret
      exact ⟨rfl, HB2.out.trans (HB3.out.mono HB2.out.size)⟩
    · obtain ⟨vA, vc, rfl⟩ := own_formN hown
      have q0 := (hb2.cell (p := ⟨w.heap.size, 0, none⟩) HB1.out.2).trans k0
      have q1 := (hb2.cell (p := ⟨w.heap.size, 1, none⟩) HB1.out.2).trans k1
      have hB2 := HB1.out.1.trans (hb2.mono (Nat.le_of_lt HB1.out.2))
      have hz2 : w.heap.size < w2.heap.size := Nat.lt_of_lt_of_le HB1.out.2 hb2.size
      obtain ⟨M, HM⟩ : ∃ Q, Hid (L.length = Q) := ⟨_, Lib.hid rfl⟩
      have HQ := Lib.hid (And.intro hE (And.intro hcl (And.intro hown (And.intro hB2 (And.intro hz2 hlen)))))
      have HCk := Lib.hid (loadE_zero hE).1
      rw [HM.out]
      clear hb2 hE hcl hown hB2 hz2 hlen k0 k1
      go_wp2
      go_loopg [7, 8, 9, 10, 12] 33 (fun g rv ct _ _ _ wr => ∃ (i : Nat) (R : List (ByteArray × Int)), g = 33 - i ∧ i ≤ R.length ∧ ct = .int .i64 i ∧ RchI l n R i ∧ R.length ≤ 32 ∧ wr.ownsRow w2.heap.size 28 2 rv R.length (namesC R) ∧ Below w2.heap.size w2 wr)
      case atStart =>
        refine ⟨0, [n], rfl, by simp, rfl, RchI.start, by simp, ?_, (Below.refl _ _).alloc (Nat.le_refl _) _⟩
        exact World.ownsRow_lit (base := w2.heap.size) (e := 28) (size := 2) w2 #[.string n.1, .int .i64 n.2] 1 (by omega) (by simp [maxLen]) rfl
      case round =>
        obtain ⟨i, R, HGm, hi1, rfl, hI, hRl, hrow, hBr⟩ := hrel
        have hzr := hBr.size
        obtain ⟨rA, rc, rfl⟩ := own_formN hrow
        obtain ⟨RN, HRN⟩ : ∃ Q, Hid (R.length = Q) := ⟨_, Lib.hid rfl⟩
        rw [HRN.out] at hi1 hRl hrow ⊢
        by_cases hlt : i < RN
        · have hlt' : i < R.length := by rw [HRN.out]; exact hlt
          obtain ⟨x, hx⟩ : ∃ x, R[i]? = some x := ⟨_, List.getElem?_eq_getElem hlt'⟩
          obtain ⟨us, hus⟩ := hI.exists_ HQ.out.2.1 (List.mem_of_getElem? hx)
          obtain ⟨gb, cap, hform, hc1, hc2⟩ := own_pos2 hrow (by omega)
          simp only [Value.slice.injEq, true_and] at hform
          obtain ⟨rfl, rfl⟩ := hform
          obtain ⟨x0', x1'⟩ := namesC_at x R i hx
          have x0 : wr.cell? ⟨gb, i * 2, none⟩ = some (.string x.1) := (hrow.cellAt (i * 2) (by omega)).trans x0'
          have x1 : wr.cell? ⟨gb, i * 2 + 1, none⟩ = some (.int .i64 x.2) := (hrow.cellAt (i * 2 + 1) (by omega)).trans x1'
          have i1 : (0 : Int) ≤ (i : Int) := by omega
          have i2 : (i : Int) < (RN : Int) := by omega
          have i3 : (i : Int) ≤ 100 := by omega
          have hBw : Below w.heap.size w wr := HQ.out.2.2.2.1.trans (hBr.mono (Nat.le_of_lt HQ.out.2.2.2.2.1))
          have HU := Lib.hid (dUsesF_any l x A c wr (HL.out wr hBw) (reach_ok HCk.out HX.out.1 (hI.2.2.1 x (List.mem_of_getElem? hx))) HX.out.2.1 (Nat.le_trans HG1.out.2.2 (by omega)) (Nat.le_trans HG1.out.2.1.1 (by omega)) (fun h x y hy => Nat.le_trans (body_cnt h x y hy) (by omega)))
          rw [HN.out] at HU
          have HT := Lib.hid (And.intro HGm (And.intro hI (And.intro hrow (And.intro hBr (And.intro hx hus)))))
          have HR32 := Lib.hid hRl
          clear HGm hI hrow hBr hx hus x0' x1' hBw hi1
          clear hRl
          go_wp2_with fail
          refine HU.out.mono ?_
          rintro e w4 ⟨hb4, ⟨hE4, _⟩ | ⟨_, us', v4, hus4, rfl, hown4⟩⟩
          · exact absurd (loadE_of HCk.out (grf_body HT.out.2.2.2.2.2)) hE4
          · have huu : us' = us := by
              have := hus4.symm.trans HT.out.2.2.2.2.2
              exact Option.some.inj this
            subst huu
            obtain ⟨uA, uc, rfl⟩ := own_formN hown4
            obtain ⟨UN, HUN⟩ : ∃ Q, Hid (us'.length = Q) := ⟨_, Lib.hid rfl⟩
            have hz4 := hb4.size
            have hB4 : Below w2.heap.size w2 w4 := HT.out.2.2.2.1.trans (hb4.mono hzr)
            have hub : ∀ k, (Value.slice uA us'.length uc).ownBlock = some k → wr.heap.size ≤ k ∧ k < w4.heap.size := fun k hk => hown4.lt k hk
            have hrow4 := own_of_blocks' HT.out.2.2.1 fun k hk => hb4.block k hk
            have hrb : ∀ k, (Value.slice (some ⟨gb, 0, none⟩) RN rc).ownBlock = some k → k < wr.heap.size := fun k hk => (HT.out.2.2.1.lt k hk).2
            have hUl : us'.length ≤ 400 := by
              have hg' := HT.out.2.2.2.2.2
              obtain ⟨m, hm, d, hd, _, _, rfl⟩ := grf_in hg'
              refine Nat.le_trans (usesOf_len _ _) ?_
              have := ((checkE_zero (chkL_zero HCk.out m hm)).2.2 d hd).cnt
              simp only [Dc.body, Fo.count]
              omega
            rw [HUN.out] at hown4 hub hUl ⊢
            have HY := Lib.hid (And.intro hown4 (And.intro hub (And.intro hrow4 (And.intro hB4 (And.intro hrb hUl)))))
            clear hb4 hown4 hub hrow4 hB4 hrb hUl hus4 x0 x1
            go_wp2
            go_loopg [7, 12, 57] UN (fun g rv _ ct wq => ∃ (q : Nat) (R2 : List (ByteArray × Int)), g = UN - q ∧ q ≤ UN ∧ ct = .int .i64 q ∧ RchJ l n R2 i us' q ∧ wq.ownsRow w2.heap.size 28 2 rv R2.length (namesC R2) ∧
              (∀ k, (Value.slice uA UN uc).ownBlock = some k → rv.ownBlock ≠ some k ∧ wq.heap[k]? = w4.heap[k]?) ∧ Below w2.heap.size w2 wq ∧ w4.heap.size ≤ wq.heap.size)
            case atStart =>
              refine ⟨0, R, rfl, by omega, rfl, HT.out.2.1.enter HT.out.2.2.2.2.1 HT.out.2.2.2.2.2, by rw [HRN.out]; exact HY.out.2.2.1, fun k hk => ⟨fun e => ?_, rfl⟩, HY.out.2.2.2.1, Nat.le_refl _⟩
              have h1 := HY.out.2.2.2.2.1 k e
              have h2 := (HY.out.2.1 k hk).1
              omega
            case round =>
              obtain ⟨q, R2, HG2, hq, rfl, hJ, hown2, hgu, hB2, hz2⟩ := hrel
              by_cases hlt2 : q < UN
              · have hlt2' : q < us'.length := by rw [HUN.out]; exact hlt2
                obtain ⟨u, hu⟩ : ∃ u, us'[q]? = some u := ⟨_, List.getElem?_eq_getElem hlt2'⟩
                have hrowu := HY.out.1
                obtain ⟨gu, ucap, hform, hc1, hc2⟩ := own_pos2 hrowu (by omega)
                simp only [Value.slice.injEq, true_and] at hform
                obtain ⟨rfl, rfl⟩ := hform
                obtain ⟨n0, n1⟩ := namesC_at u us' q hu
                have hguk := hgu gu rfl
                have c0 : wr.cell? ⟨gu, q * 2, none⟩ = some (.string u.1) := (World.cell?_of_block hguk.2).trans ((hrowu.cellAt _ (by omega)).trans n0)
                have c1 : wr.cell? ⟨gu, q * 2 + 1, none⟩ = some (.int .i64 u.2) := (World.cell?_of_block hguk.2).trans ((hrowu.cellAt _ (by omega)).trans n1)
                obtain ⟨W7, hW7⟩ : ∃ W7, wr.alloc (.cells #[.string u.1, .int .i64 u.2] 28) = W7 := ⟨_, rfl⟩
                have hz7 : wr.heap.size < W7.heap.size := by subst hW7; simp
                have hb7 : Below wr.heap.size wr W7 := by subst hW7; exact (Below.refl _ _).alloc (Nat.le_refl _) _
                have z0 : W7.cell? ⟨wr.heap.size, 0, none⟩ = some (.string u.1) := by subst hW7; go_simp
                have z1 : W7.cell? ⟨wr.heap.size, 1, none⟩ = some (.int .i64 u.2) := by subst hW7; go_simp
                obtain ⟨rA2, rc2, rfl⟩ := own_formN hown2
                have hR2 : R2.length ≤ 32 := hJ.1.len HQ.out.2.1 HG1.out.1
                have HCn := Lib.hid (slcContainsN_any R2 u rA2 rc2 w2.heap.size W7 (own_of_blocks' hown2 fun k hk => hb7.block k hk) (by omega))
                obtain ⟨R2N, HR2N⟩ : ∃ Q, Hid (R2.length = Q) := ⟨_, Lib.hid rfl⟩
                rw [HR2N.out] at hown2 hgu HCn hR2 ⊢
                have HI := Lib.hid (And.intro HG2 (And.intro hu (And.intro hJ (And.intro hown2 (And.intro hgu (And.intro hB2 hb7))))))
                clear HG2 hu hJ hown2 hgu hB2 hb7 n0 n1 hguk hrowu
                cases hmem : memN R2 u with
                | true =>
                  have HME := Lib.hid (memN_iff.1 hmem)
                  rw [hmem] at HCn
                  clear hmem
                  go_wp2_with fail
                  refine HCn.out.mono ?_
                  rintro e w8 ⟨rfl, hb8⟩
                  have HB8 := Lib.hid (HI.out.2.2.2.2.2.2.trans (hb8.mono (Nat.le_of_lt hz7)))
                  clear hb8
                  go_wp2
                  go_roundg (UN - (q + 1))
                  case measure => rw [HI.out.1]; omega
                  case rel =>
                    refine ⟨q + 1, R2, rfl, by omega, by go_num, HI.out.2.2.1.skip HI.out.2.1 HME.out, by rw [HR2N.out]; exact own_of_blocks' HI.out.2.2.2.1 fun k hk => HB8.out.block k hk, fun k hk => ⟨(HI.out.2.2.2.2.1 k hk).1, ?_⟩, HI.out.2.2.2.2.2.1.trans (HB8.out.mono HI.out.2.2.2.2.2.1.size), Nat.le_trans hz2 HB8.out.size⟩
                    exact (HB8.out.block k (by have := (HY.out.2.1 k hk).2; omega)).trans (HI.out.2.2.2.2.1 k hk).2
                | false =>
                  have HME := Lib.hid (show u ∉ R2 from fun h => by rw [memN_iff.2 h] at hmem; cases hmem)
                  rw [hmem] at HCn
                  clear hmem
                  go_wp2_with fail
                  refine HCn.out.mono ?_
                  rintro e w8 ⟨rfl, hb8⟩
                  have y0 := (hb8.cell (p := ⟨wr.heap.size, 0, none⟩) hz7).trans z0
                  have y1 := (hb8.cell (p := ⟨wr.heap.size, 1, none⟩) hz7).trans z1
                  have HB8 := Lib.hid (HI.out.2.2.2.2.2.2.trans (hb8.mono (Nat.le_of_lt hz7)))
                  have HROW8 := Lib.hid (own_of_blocks' HI.out.2.2.2.1 fun k hk => HB8.out.block k hk)
                  have hz8 := HB8.out.size
                  clear hb8 z0 z1
                  go_wp2_with (first
                    | (at_builtin; refine wpList_append_own_at _ rfl _ _ 26 rfl w2.heap.size 28 i0 _ 2 24 Tryz.underlying26 hi hz0' hz1' hz2' rfl (by decide) _ _ _ rfl (HROW8.out.alloc _) ⟨w8.heap.size, 0, none⟩ 1 1 [.string u.1, .int .i64 u.2] rfl rfl (cell_pair_new _ _ _ _) (by simp [Value.oneCell']) (by unfold maxLen; omega) (by omega) (by simp; omega) ?_; intro v9 w9 hown9 hg9 _ hat9; have HS9 := Lib.hid (And.intro hown9 (And.intro hg9 hat9)); obtain ⟨g9, c9, rfl⟩ := ownsRow_succ hown9; clear hown9 hg9 hat9))
                  go_roundg (UN - (q + 1))
                  case measure => rw [HI.out.1]; omega
                  case rel =>
                    have hg9 : (w8.alloc (.cells #[.string u.1, .int .i64 u.2] 28)).grownBy w9 (Value.slice rA2 R2N rc2).ownBlock := HS9.out.2.1
                    have hz9 := hg9.size
                    simp at hz9
                    have hown0 : ∀ k, (Value.slice rA2 R2N rc2).ownBlock = some k → w2.heap.size ≤ k := fun k hk => (HROW8.out.lt k hk).1
                    refine ⟨q + 1, R2 ++ [u], rfl, by omega, by go_num, HI.out.2.2.1.push HI.out.2.1 HME.out, ?_, fun k hk => ⟨?_, ?_⟩, ?_, by omega⟩
                    · rw [List.length_append, namesC_append, HR2N.out]
                      exact HS9.out.1
                    · intro e
                      have hkb := HY.out.2.1 k hk
                      rcases HS9.out.2.2 with h | h
                      · exact (HI.out.2.2.2.2.1 k hk).1 (h.symm.trans e)
                      · rw [h] at e
                        simp at e
                        omega
                    · have hkb := HY.out.2.1 k hk
                      exact (hg9.block k (by simp; omega) (fun e => (HI.out.2.2.2.2.1 k hk).1 e.symm)).trans ((Below.heap_alloc _ _ _ (by omega)).trans ((HB8.out.block k (by omega)).trans (HI.out.2.2.2.2.1 k hk).2))
                    · exact ((HI.out.2.2.2.2.2.1.trans (HB8.out.mono HI.out.2.2.2.2.2.1.size)).alloc (Nat.le_trans HI.out.2.2.2.2.2.1.size HB8.out.size) _).grown hg9 (by simp; have := HI.out.2.2.2.2.2.1.size; omega) (fun k e => hown0 k e)
              · have hqe : q = UN := by omega
                have hlv := hJ.leave (by rw [HUN.out]; omega)
                have hR2 : R2.length ≤ 32 := hJ.1.len HQ.out.2.1 HG1.out.1
                have hii : i + 1 ≤ R2.length := by
                  obtain ⟨_, ⟨y, hy, _⟩, _⟩ := hJ
                  have := (List.getElem?_eq_some_iff.1 hy).1
                  omega
                subst hqe
                obtain ⟨rA2, rc2, rfl⟩ := own_formN hown2
                have HF := Lib.hid (And.intro hlv (And.intro hown2 (And.intro hB2 (And.intro hR2 hii))))
                clear HG2 hJ hown2 hgu hB2 hlv hR2 hii
                go_wp2
                go_roundg (33 - (i + 1))
                case measure => rw [HT.out.1]; have := HR32.out; omega
                case rel => exact ⟨i + 1, R2, rfl, HF.out.2.2.2.2, by go_num, HF.out.1, HF.out.2.2.2.1, HF.out.2.1, HF.out.2.2.1⟩
        · have hie : i = RN := by omega
          have hdn := hI.done (by rw [HRN.out]; omega) HQ.out.2.1
          have HD := Lib.hid (And.intro hdn (And.intro hrow hBr))
          have HR32 := Lib.hid hRl
          clear hI hrow hBr hdn HGm hRl
          subst hie
          have hMi : i = M := by
            have := HD.out.1.2
            rw [HM.out, HRN.out] at this
            omega
          subst hMi
          have hall := HQ.out.2.2.1
          rw [HM.out] at hall
          have HA := Lib.hid hall
          clear hall
          obtain ⟨wo, rfl⟩ : ∃ wo : World, wo = wr := ⟨_, rfl⟩
          go_wp2
          go_loopg [13, 14, 72] i (fun g _ _ ct wq => ∃ j : Nat, g = i - j ∧ j ≤ i ∧ ct = .int .i64 j ∧ Below wo.heap.size wo wq)
          case atStart => exact ⟨0, rfl, by omega, rfl, Below.refl _ _⟩
          case round =>
            obtain ⟨j, HGm, hj, rfl, hB⟩ := hrel
            have hzw := hB.size
            by_cases hlt2 : j < i
            · have hlt' : j < L.length := by rw [HM.out]; exact hlt2
              obtain ⟨y, hy⟩ : ∃ y, L[j]? = some y := ⟨_, List.getElem?_eq_getElem hlt'⟩
              have hrow := HA.out
              obtain ⟨gv, cap, hform, hc1, hc2⟩ := own_pos2 hrow (by omega)
              simp only [Value.slice.injEq, true_and] at hform
              obtain ⟨rfl, rfl⟩ := hform
              have hgl := (hrow.lt gv rfl).2
              have hBall : Below w2.heap.size w2 wr := HD.out.2.2.trans (hB.mono hzr)
              obtain ⟨y0, y1⟩ := namesC_at y L j hy
              have c0 : wr.cell? ⟨gv, j * 2, none⟩ = some (.string y.1) := (hBall.cell (p := ⟨gv, j * 2, none⟩) hgl).trans ((hrow.cellAt (j * 2) (by omega)).trans y0)
              have c1 : wr.cell? ⟨gv, j * 2 + 1, none⟩ = some (.int .i64 y.2) := (hBall.cell (p := ⟨gv, j * 2 + 1, none⟩) hgl).trans ((hrow.cellAt (j * 2 + 1) (by omega)).trans y1)
              have i1 : (0 : Int) ≤ (j : Int) := by omega
              have i2 : (j : Int) < (i : Int) := by omega
              obtain ⟨W7, hW7⟩ : ∃ W7, wr.alloc (.cells #[.string y.1, .int .i64 y.2] 28) = W7 := ⟨_, rfl⟩
              have hz7 : wr.heap.size < W7.heap.size := by subst hW7; simp
              have hb7 : Below wr.heap.size wr W7 := by subst hW7; exact (Below.refl _ _).alloc (Nat.le_refl _) _
              have z0 : W7.cell? ⟨wr.heap.size, 0, none⟩ = some (.string y.1) := by subst hW7; go_simp
              have z1 : W7.cell? ⟨wr.heap.size, 1, none⟩ = some (.int .i64 y.2) := by subst hW7; go_simp
              have hB7 : Below wo.heap.size wo W7 := hB.trans (hb7.mono hzw)
              have hmem : memN R y = true := memN_iff.2 ((HD.out.1.1 y).1 (List.mem_of_getElem? hy))
              have HCn := Lib.hid (show ∀ X : World, Below W7.heap.size W7 X → Calls Tryz.prog 17 #[.slice rA i rc, .agg #[.string y.1, .int .i64 y.2]] X (fun e X' => e = .returned (.bool true) ∧ Below W7.heap.size W7 X') from fun X hX => by
                have := slcContainsN_any R y rA rc w2.heap.size X (own_of_blocks' (by have := HD.out.2.1; rw [← HRN.out] at this; exact this) fun k hk => ((hB7.trans (hX.mono hB7.size)).block k hk)) (by have := HRN.out; have := HR32.out; omega)
                rw [hmem, HRN.out] at this
                refine this.mono ?_
                rintro e X' ⟨rfl, hb⟩
                exact ⟨rfl, hX.trans (hb.mono hX.size)⟩)
              have HT := Lib.hid (And.intro HGm (And.intro hB7 hy))
              have HSX := Lib.hid (show ∀ X : World, Below W7.heap.size W7 X → X.cell? ⟨wr.heap.size, 0, none⟩ = some (.string y.1) ∧ X.cell? ⟨wr.heap.size, 1, none⟩ = some (.int .i64 y.2) from fun X hX => ⟨(hX.cell (p := ⟨wr.heap.size, 0, none⟩) hz7).trans z0, (hX.cell (p := ⟨wr.heap.size, 1, none⟩) hz7).trans z1⟩)
              have HBz := Lib.hid (Below.refl W7.heap.size W7)
              by_cases hj0 : j = 0
              · subst hj0
                simp only [Nat.zero_mul, Nat.zero_add] at c0 c1
                clear HGm hB hB7 hy hmem hBall hrow y0 y1 hb7
                go_upto_region 22 with fail
                clear c0 c1 hW7
                -- REGION22
                have hbd := below_drew' HBz.out
                refine wp_region_held_drew (S := fun X => X.cell? ⟨wr.heap.size, 0, none⟩ = some (.string y.1) ∧ X.cell? ⟨wr.heap.size, 1, none⟩ = some (.int .i64 y.2)) (by kernel_rfl) (HSX.out _ hbd) (fun hHeld => ?_)
                refine wpAnyH_take (i := 0) (oi := { dst := some 77, op := Op.move (Operand.tmp 7), type := 26, pos := "law.go:85", after := #[], guard := none }) (v := ?v1) rfl (by kernel_rfl) (by kernel_rfl) (by kernel_rfl) (fun _ _ _ h => h) (Or.inl ⟨by rfl, ?hy1⟩) (by assumption) ?_
                case hy1 => (intro w hSw; (try dsimp only at hSw); first | (go_simp; done) | (go_simp; with_reducible rfl))
                try simp only [Act.put, List.setIfInBounds_toArray, List.set_cons_zero, List.set_cons_succ]
                refine wpAnyH_take (i := 1) (oi := { dst := some 78, op := Op.load 28 (Operand.tmp 14), type := 28, pos := "law.go:85", after := #[], guard := none }) (v := ?v2) rfl (by kernel_rfl) (by kernel_rfl) (by kernel_rfl) (fun _ _ _ h => h) (Or.inl ⟨by rfl, ?hy2⟩) (by assumption) ?_
                case hy2 => (intro w hSw; (try dsimp only at hSw); first | (go_simp; done) | (go_simp; with_reducible rfl))
                try simp only [Act.put, List.setIfInBounds_toArray, List.set_cons_zero, List.set_cons_succ]
                refine wpAnyH_ready (rs := [2]) (by kernel_rfl) (by simp) ?_
                refine AllReadyH.cons rfl (fun K hK => ?_) AllReadyH.nil
                go_simp
                refine (HCn.out _ hbd).mono ?_
                rintro e w8 ⟨rfl, hb8⟩
                go_wp2_with fail
                refine hK.out _ _ (HSX.out _ hb8) (fun hHeld3 => ?_)
                clear hK K hHeld
                try simp only [Act.put, List.setIfInBounds_toArray, List.set_cons_zero, List.set_cons_succ]
                refine wpAnyH_take (i := 3) (oi := { dst := some 80, op := Op.unOp UnOp.not 4 (Operand.tmp 79), type := 4, pos := "law.go:85", after := #[{ on := 2, ground := Ground.data }], guard := none }) (v := ?v3) rfl (by kernel_rfl) (by kernel_rfl) (by kernel_rfl) (fun _ _ _ h => h) (Or.inl ⟨by rfl, ?hy3⟩) (by assumption) ?_
                case hy3 => (intro w hSw; (try dsimp only at hSw); first | (go_simp; done) | (go_simp; with_reducible rfl))
                try simp only [Act.put, List.setIfInBounds_toArray, List.set_cons_zero, List.set_cons_succ]
                refine wpAnyH_take (i := 4) (oi := { dst := some 81, op := Op.move (Operand.tmp 80), type := 4, pos := "law.go:85", after := #[{ on := 3, ground := Ground.data }, { on := 2, ground := Ground.chain }], guard := none }) (v := ?v4) rfl (by kernel_rfl) (by kernel_rfl) (by kernel_rfl) (fun _ _ _ h => h) (Or.inl ⟨by rfl, ?hy4⟩) (by assumption) ?_
                case hy4 => (intro w hSw; (try dsimp only at hSw); first | (go_simp; done) | (go_simp; with_reducible rfl))
                try simp only [Act.put, List.setIfInBounds_toArray, List.set_cons_zero, List.set_cons_succ]
                refine wpAnyH_take (i := 5) (oi := { dst := some 82, op := Op.move (Operand.tmp 13), type := 3, pos := "law.go:85", after := #[{ on := 4, ground := Ground.guard }], guard := some (4, false) }) (v := ?v5) rfl (by kernel_rfl) (by kernel_rfl) (by kernel_rfl) (fun _ _ _ h => h) (Or.inl ⟨by rfl, ?hy5⟩) (by assumption) ?_
                case hy5 => (intro w hSw; (try dsimp only at hSw); first | (go_simp; done) | (go_simp; with_reducible rfl))
                try simp only [Act.put, List.setIfInBounds_toArray, List.set_cons_zero, List.set_cons_succ]
                refine wpAnyH_take (i := 6) (oi := { dst := some 83, op := Op.binOp BinOp.gtr 3 (Operand.tmp 82) (Operand.const (Value.int IntKind.i64 0)) 3, type := 4, pos := "law.go:85", after := #[{ on := 5, ground := Ground.data }, { on := 4, ground := Ground.guard }], guard := some (4, false) }) (v := ?v6) rfl (by kernel_rfl) (by kernel_rfl) (by kernel_rfl) (fun _ _ _ h => h) (Or.inl ⟨by rfl, ?hy6⟩) (by assumption) ?_
                case hy6 => (intro w hSw; (try dsimp only at hSw); first | (go_simp; done) | (go_simp; with_reducible rfl))
                try simp only [Act.put, List.setIfInBounds_toArray, List.set_cons_zero, List.set_cons_succ]
                refine wpAnyH_take (i := 7) (oi := { dst := some 84, op := Op.move (Operand.tmp 83), type := 4, pos := "law.go:85", after := #[{ on := 6, ground := Ground.data }, { on := 4, ground := Ground.chain }, { on := 4, ground := Ground.guard }], guard := some (4, false) }) (v := ?v7) rfl (by kernel_rfl) (by kernel_rfl) (by kernel_rfl) (fun _ _ _ h => h) (Or.inl ⟨by rfl, ?hy7⟩) (by assumption) ?_
                case hy7 => (intro w hSw; (try dsimp only at hSw); first | (go_simp; done) | (go_simp; with_reducible rfl))
                try simp only [Act.put, List.setIfInBounds_toArray, List.set_cons_zero, List.set_cons_succ]
                refine wpAnyH_take (i := 8) (oi := { dst := some 85, op := Op.move (Operand.tmp 5), type := 26, pos := "law.go:85", after := #[{ on := 7, ground := Ground.guard }], guard := some (7, true) }) (v := undef) rfl (by kernel_rfl) (by kernel_rfl) (by kernel_rfl) (fun _ _ _ h => h) (Or.inr ⟨by rfl, rfl⟩) (by assumption) ?_
                try simp only [Act.put, List.setIfInBounds_toArray, List.set_cons_zero, List.set_cons_succ]
                refine wpAnyH_take (i := 9) (oi := { dst := some 86, op := Op.move (Operand.tmp 13), type := 3, pos := "law.go:85", after := #[{ on := 7, ground := Ground.guard }], guard := some (7, true) }) (v := undef) rfl (by kernel_rfl) (by kernel_rfl) (by kernel_rfl) (fun _ _ _ h => h) (Or.inr ⟨by rfl, rfl⟩) (by assumption) ?_
                try simp only [Act.put, List.setIfInBounds_toArray, List.set_cons_zero, List.set_cons_succ]
                refine wpAnyH_take (i := 10) (oi := { dst := some 87, op := Op.binOp BinOp.sub 3 (Operand.tmp 86) (Operand.const (Value.int IntKind.i64 1)) 3, type := 3, pos := "law.go:85", after := #[{ on := 9, ground := Ground.data }, { on := 7, ground := Ground.guard }], guard := some (7, true) }) (v := undef) rfl (by kernel_rfl) (by kernel_rfl) (by kernel_rfl) (fun _ _ _ h => h) (Or.inr ⟨by rfl, rfl⟩) (by assumption) ?_
                try simp only [Act.put, List.setIfInBounds_toArray, List.set_cons_zero, List.set_cons_succ]
                refine wpAnyH_take (i := 11) (oi := { dst := some 88, op := Op.indexAddr 26 (Operand.tmp 85) (Operand.tmp 87), type := 0, pos := "law.go:85", after := #[{ on := 8, ground := Ground.data }, { on := 10, ground := Ground.data }, { on := 7, ground := Ground.guard }], guard := some (7, true) }) (v := undef) rfl (by kernel_rfl) (by kernel_rfl) (by kernel_rfl) (fun _ _ _ h => h) (Or.inr ⟨by rfl, rfl⟩) (by assumption) ?_
                try simp only [Act.put, List.setIfInBounds_toArray, List.set_cons_zero, List.set_cons_succ]
                refine wpAnyH_take (i := 12) (oi := { dst := some 89, op := Op.load 28 (Operand.tmp 88), type := 28, pos := "law.go:85", after := #[{ on := 11, ground := Ground.data }, { on := 7, ground := Ground.guard }], guard := some (7, true) }) (v := undef) rfl (by kernel_rfl) (by kernel_rfl) (by kernel_rfl) (fun _ _ _ h => h) (Or.inr ⟨by rfl, rfl⟩) (by assumption) ?_
                try simp only [Act.put, List.setIfInBounds_toArray, List.set_cons_zero, List.set_cons_succ]
                refine wpAnyH_take (i := 13) (oi := { dst := some 90, op := Op.load 28 (Operand.tmp 14), type := 28, pos := "law.go:85", after := #[{ on := 7, ground := Ground.guard }], guard := some (7, true) }) (v := undef) rfl (by kernel_rfl) (by kernel_rfl) (by kernel_rfl) (fun _ _ _ h => h) (Or.inr ⟨by rfl, rfl⟩) (by assumption) ?_
                try simp only [Act.put, List.setIfInBounds_toArray, List.set_cons_zero, List.set_cons_succ]
                refine wpAnyH_take (i := 14) (oi := { dst := some 91, op := Op.call { callee := Callee.value (Operand.func 18), args := #[Operand.tmp 89, Operand.tmp 90], argTypes := #[28, 28] }, type := 4, pos := "law.go:85", after := #[{ on := 12, ground := Ground.data }, { on := 13, ground := Ground.data }, { on := 7, ground := Ground.chain }, { on := 7, ground := Ground.guard }], guard := some (7, true) }) (v := undef) rfl (by kernel_rfl) (by kernel_rfl) (by kernel_rfl) (fun _ _ _ h => h) (Or.inr ⟨by rfl, rfl⟩) (by assumption) ?_
                try simp only [Act.put, List.setIfInBounds_toArray, List.set_cons_zero, List.set_cons_succ]
                refine wpAnyH_take (i := 15) (oi := { dst := some 92, op := Op.unOp UnOp.not 4 (Operand.tmp 91), type := 4, pos := "law.go:85", after := #[{ on := 14, ground := Ground.data }, { on := 7, ground := Ground.guard }], guard := some (7, true) }) (v := undef) rfl (by kernel_rfl) (by kernel_rfl) (by kernel_rfl) (fun _ _ _ h => h) (Or.inr ⟨by rfl, rfl⟩) (by assumption) ?_
                try simp only [Act.put, List.setIfInBounds_toArray, List.set_cons_zero, List.set_cons_succ]
                refine wpAnyH_take (i := 16) (oi := { dst := some 93, op := Op.pick (Operand.tmp 84) (Operand.tmp 92) (Operand.const (Value.bool false)), type := 4, pos := "law.go:85", after := #[{ on := 7, ground := Ground.data }, { on := 15, ground := Ground.data }, { on := 4, ground := Ground.guard }], guard := some (4, false) }) (v := ?v8) rfl (by kernel_rfl) (by kernel_rfl) (by kernel_rfl) (fun _ _ _ h => h) (Or.inl ⟨by rfl, ?hy8⟩) (by assumption) ?_
                case hy8 => (intro w hSw; (try dsimp only at hSw); first | (go_simp; done) | (go_simp; with_reducible rfl))
                try simp only [Act.put, List.setIfInBounds_toArray, List.set_cons_zero, List.set_cons_succ]
                refine wpAnyH_take (i := 17) (oi := { dst := some 94, op := Op.pick (Operand.tmp 81) (Operand.const (Value.bool true)) (Operand.tmp 93), type := 4, pos := "law.go:85", after := #[{ on := 4, ground := Ground.data }, { on := 16, ground := Ground.data }], guard := none }) (v := ?v9) rfl (by kernel_rfl) (by kernel_rfl) (by kernel_rfl) (fun _ _ _ h => h) (Or.inl ⟨by rfl, ?hy9⟩) (by assumption) ?_
                case hy9 => (intro w hSw; (try dsimp only at hSw); first | (go_simp; done) | (go_simp; with_reducible rfl))
                try simp only [Act.put, List.setIfInBounds_toArray, List.set_cons_zero, List.set_cons_succ]
                refine wpAnyH_done (by kernel_rfl) ?_ _
                have HB8 := Lib.hid hb8
                clear hb8 hbd hHeld3
                -- END22
                go_wp2
                go_roundg (i - (0 + 1))
                case measure => rw [HT.out.1]; omega
                case rel => exact ⟨0 + 1, rfl, by omega, by go_num, HT.out.2.1.trans (HB8.out.mono HT.out.2.1.size)⟩
              · obtain ⟨j', HJ'⟩ : ∃ j', Hid (j' + 1 = j) := ⟨j - 1, Lib.hid (by omega)⟩
                have hlt3 : j' < L.length := by have := HJ'.out; omega
                obtain ⟨x, hx⟩ : ∃ x, L[j']? = some x := ⟨_, List.getElem?_eq_getElem hlt3⟩
                have hlen2 : (namesC L).length = i * 2 := hrow.1
                obtain ⟨x0', x1'⟩ := namesC_at x L j' hx
                have e0 : W7.cell? ⟨gv, j' * 2, none⟩ = some (.string x.1) := (hb7.cell (p := ⟨gv, j' * 2, none⟩) (by show gv < _; have := hBall.size; omega)).trans ((hBall.cell (p := ⟨gv, j' * 2, none⟩) hgl).trans ((hrow.cellAt (j' * 2) (by have := HJ'.out; omega)).trans x0'))
                have e1 : W7.cell? ⟨gv, j' * 2 + 1, none⟩ = some (.int .i64 x.2) := (hb7.cell (p := ⟨gv, j' * 2 + 1, none⟩) (by show gv < _; have := hBall.size; omega)).trans ((hBall.cell (p := ⟨gv, j' * 2 + 1, none⟩) hgl).trans ((hrow.cellAt (j' * 2 + 1) (by have := HJ'.out; omega)).trans x1'))
                have hgl7 : gv < W7.heap.size := by have := hBall.size; omega
                have HS := Lib.hid (show ∀ X : World, Below W7.heap.size W7 X → X.cell? ⟨wr.heap.size, 0, none⟩ = some (.string y.1) ∧ X.cell? ⟨wr.heap.size, 1, none⟩ = some (.int .i64 y.2) ∧ X.cell? ⟨gv, j' * 2, none⟩ = some (.string x.1) ∧ X.cell? ⟨gv, j' * 2 + 1, none⟩ = some (.int .i64 x.2) from fun X hX => ⟨(HSX.out X hX).1, (HSX.out X hX).2, (hX.cell (p := ⟨gv, j' * 2, none⟩) hgl7).trans e0, (hX.cell (p := ⟨gv, j' * 2 + 1, none⟩) hgl7).trans e1⟩)
                have hless : lessN x y = true := by
                  rw [lessN_iff]
                  have hp := HQ.out.2.1.1
                  have h1 := List.getElem?_eq_some_iff.1 hx
                  have h2 := List.getElem?_eq_some_iff.1 hy
                  obtain ⟨h1l, rfl⟩ := h1
                  obtain ⟨h2l, rfl⟩ := h2
                  exact List.pairwise_iff_getElem.1 hp j' j h1l h2l (by have := HJ'.out; omega)
                have HLs := Lib.hid (show ∀ X : World, Below W7.heap.size W7 X → Calls Tryz.prog 18 #[.agg #[.string x.1, .int .i64 x.2], .agg #[.string y.1, .int .i64 y.2]] X (fun e X' => e = .returned (.bool true) ∧ Below W7.heap.size W7 X') from fun X hX => by
                  refine (less24_any x.1 y.1 x.2 y.2 X).mono ?_
                  rintro e X' ⟨rfl, hb⟩
                  refine ⟨?_, hX.trans (hb.mono hX.size)⟩
                  rw [show lessN (x.1, x.2) (y.1, y.2) = true from hless])
                have hd1 : decide ((0 : Int) < (j : Int)) = true := by simp; omega
                have hd2 : decide (0 < j) = true := by simp; omega
                have hm1 : (j : Int) - 1 = (j' : Int) := by have := HJ'.out; omega
                have hw2 : IntKind.i64.wrap (j' : Int) = (j' : Int) := IntWalk.i64_in _ (by have := HJ'.out; have := HR32.out; omega)
                have hw1 : IntKind.i64.wrap ((j : Int) - 1) = (j' : Int) := by rw [hm1]; exact hw2
                have j1 : (0 : Int) ≤ (j' : Int) := by omega
                have j2 : (j' : Int) < (i : Int) := by have := HJ'.out; omega
                clear HGm hB hB7 hy hx hmem hBall hrow y0 y1 hb7 hj0 x0' x1' hlen2 hless
                go_upto_region 22 with fail
                clear c0 c1 hW7
                go_region_held3 (fun X => X.cell? ⟨wr.heap.size, 0, none⟩ = some (.string y.1) ∧ X.cell? ⟨wr.heap.size, 1, none⟩ = some (.int .i64 y.2) ∧ X.cell? ⟨gv, j' * 2, none⟩ = some (.string x.1) ∧ X.cell? ⟨gv, j' * 2 + 1, none⟩ = some (.int .i64 x.2))
                  (focus (refine HS.out _ ?_; (first | with_reducible exact HBz.out | with_reducible exact below_drew' HBz.out)))
                  (first
                    | (go_at_call 17; (with_reducible refine Calls.mono (HCn.out _ ?_) ?_); (focus (first | with_reducible exact HBz.out | with_reducible exact below_drew' HBz.out)); rintro e w8 ⟨rfl, hb8⟩; have HBz := Lib.hid hb8; clear hb8)
                    | (go_at_call 18; (with_reducible refine Calls.mono (HLs.out _ ?_) ?_); (focus (first | with_reducible exact HBz.out | with_reducible exact below_drew' HBz.out)); rintro e w9 ⟨rfl, hb9⟩; have HBz := Lib.hid hb9; clear hb9))
                all_goals (
                  go_wp2
                  go_roundg (i - (j + 1))
                  case measure => rw [HT.out.1]; omega
                  case rel => exact ⟨j + 1, rfl, by omega, by go_num, HT.out.2.1.trans (HBz.out.mono HT.out.2.1.size)⟩)
            · have hje : j = i := by omega
              have HBf := Lib.hid hB
              clear hB HGm
              go_wp2_with fail
              refine (awake40_any _).mono ?_
              rintro e w3 ⟨rfl, hb3⟩
              have HB3 := Lib.hid hb3
              clear hb3
              go_wp2
              go_ret
              exact ⟨rfl, (HQ.out.2.2.2.1.trans ((HD.out.2.2.trans (HBf.out.mono hzr)).mono (Nat.le_of_lt HQ.out.2.2.2.2.1))).trans (HB3.out.mono (Nat.le_trans (Nat.le_of_lt HQ.out.2.2.2.2.1) (Nat.le_trans hzr hzw)))⟩
end Go.Proofs.YtpnfbfnffkbilaaGreatDoor
