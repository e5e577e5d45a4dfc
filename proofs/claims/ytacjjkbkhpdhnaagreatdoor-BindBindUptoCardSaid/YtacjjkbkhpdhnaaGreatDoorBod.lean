/- ref24.Bound -/
import Derived.Test.YtacjjkbkhpdhnaaGreatDoorZqd
import Derived.Test.YtacjjkbkhpdhnaaGreatDoorBot
namespace Go.Proofs.YtacjjkbkhpdhnaaGreatDoor
open Go Go.RowKit Go.Proofs Go.Shelf

section
variable (uses : List ByteArray) (ds : List Dc) (known : List If) (uA : Option Addr) (uc : Nat) (dA : Option Addr) (dc : Nat) (kA : Option Addr) (kc : Nat)
def BdOK (s : Fo) : Prop :=
  ∀ (k : Int) (n m : ByteArray) (i d : Int) (A : Option Addr) (c : Nat) (sc : List ByteArray) (bA : Option Addr) (bc : Nat) (w : World), s.Sl w w.heap.size A c → n.size ≤ maxLen → s.Strs → (k = 3 ∨ k = 4 → s.len = 0) → s.R34 → UbE uses ds known uA uc dA dc kA kc w → VarsAt w bA bc sc → sc.length + 2 * s.count ≤ 100000 →
    Calls Tryz.prog 71 #[.agg #[.int .i64 k, .string n, .string m, .int .i64 i, .int .i64 d, .slice A s.len c], .agg #[.slice uA uses.length uc, .slice dA ds.length dc], .slice kA known.length kc, .slice bA sc.length bc] w (BdR (rebN (gBound ds uses known) ⟨k, n, m, i, d⟩ s.pt sc) w)

set_option maxRecDepth 100000 in
set_option maxHeartbeats 40000000 in
theorem bd_step (hkn : ∀ x ∈ known, ∀ s ∈ x.sigs, s.name.size ≤ 9223372036854775807) (hus : ∀ u ∈ uses, u.size ≤ 9223372036854775807) (s : Fo) (ih : s.All (BdOK uses ds known uA uc dA dc kA kc)) : BdOK uses ds known uA uc dA dc kA kc s := by
  intro k n m i d A c sc bA bc w hs hn hst h5 hr5 hE hva hcnt
  by_cases hl3 : k = 3 ∧ hasN sc n = false
  · obtain ⟨rfl, hsc⟩ := hl3
    have hs0 : s.len = 0 := h5 (.inl rfl)
    have hpt : s.pt = .nil := by
      cases s with
      | nil => rfl
      | cons => simp [Fo.len] at hs0
    refine (boundVar_any n m i d A s.len c uses uA uc ds dA dc known kA kc sc bA bc w hE.1 hE.2.1 hE.2.2 hva.sls.1 hsc).mono fun e w' h => BdL.bdR ?_ h
    rw [rebN, hpt]
    simp only [rebL, if_true]
  by_cases hl4 : k = 4
  · subst hl4
    have hs0 : s.len = 0 := h5 (.inr rfl)
    have hpt : s.pt = .nil := by
      cases s with
      | nil => rfl
      | cons => simp [Fo.len] at hs0
    refine (boundDot_any n m i d A s.len c uses uA uc ds dA dc known kA kc sc bA bc w hE.1 hE.2.1 hE.2.2 hva.sls.1 hkn hus).mono fun e w' h => BdL.bdR ?_ h
    rw [rebN, hpt]
    simp only [rebL, if_true]
  have hg : gBound ds uses known ⟨k, n, m, i, d⟩ sc = (0, ⟨k, n, m, i, d⟩) := by
    unfold gBound
    rw [if_neg hl3, if_neg hl4]
  obtain ⟨i0, hi, hz0, hz1, hz2⟩ := info_parts Tryz.infoExpr
  obtain ⟨ND, HND⟩ : ∃ Q, Hid (ds.length = Q) := ⟨_, Lib.hid rfl⟩
  obtain ⟨NU, HNU⟩ : ∃ Q, Hid (uses.length = Q) := ⟨_, Lib.hid rfl⟩
  obtain ⟨NK, HNK⟩ : ∃ Q, Hid (known.length = Q) := ⟨_, Lib.hid rfl⟩
  obtain ⟨NB, HNB⟩ : ∃ Q, Hid (sc.length = Q) := ⟨_, Lib.hid rfl⟩
  obtain ⟨W1, hW1⟩ : ∃ W1, ((w.alloc (.cells #[.int .i64 k, .string n, .string m, .int .i64 i, .int .i64 d, .slice A s.len c] 28)).alloc (.cells #[.slice uA NU uc, .slice dA ND dc] 40)).alloc (.cells #[.int .i64 0, .string ⟨#[]⟩, .string ⟨#[]⟩, .int .i64 0, .int .i64 0, .slice none 0 0] 28) = W1 := ⟨_, rfl⟩
  have hzW : W1.heap.size = w.heap.size + 1 + 1 + 1 := by rw [← hW1]; simp
  have hB1 : Below w.heap.size w W1 := by rw [← hW1]; exact (((Below.refl _ _).alloc (Nat.le_refl _) _).alloc (by simp) _).alloc (by simp; omega) _
  have hx0 : W1.heap[w.heap.size]? = some (.cells #[.int .i64 k, .string n, .string m, .int .i64 i, .int .i64 d, .slice A s.len c] 28 (0, 0)) := by rw [← hW1]; exact (Below.heap_alloc _ _ _ (by simp; omega)).trans ((Below.heap_alloc _ _ _ (by simp)).trans (heap_alloc_new w _))
  have hm0 : W1.heap[w.heap.size + 1]? = some (.cells #[.slice uA NU uc, .slice dA ND dc] 40 (0, 0)) := by
    rw [← hW1]
    refine (Below.heap_alloc _ _ _ (by simp)).trans ?_
    have h := heap_alloc_new (w.alloc (.cells #[.int .i64 k, .string n, .string m, .int .i64 i, .int .i64 d, .slice A s.len c] 28)) (.cells #[.slice uA NU uc, .slice dA ND dc] 40)
    simpa using h
  have hy0 : W1.heap[w.heap.size + 1 + 1]? = some (.cells #[.int .i64 0, .string ⟨#[]⟩, .string ⟨#[]⟩, .int .i64 0, .int .i64 0, .slice none 0 0] 28 (0, 0)) := by
    have h := heap_alloc_new ((w.alloc (.cells #[.int .i64 k, .string n, .string m, .int .i64 i, .int .i64 d, .slice A s.len c] 28)).alloc (.cells #[.slice uA NU uc, .slice dA ND dc] 40)) (.cells #[.int .i64 0, .string ⟨#[]⟩, .string ⟨#[]⟩, .int .i64 0, .int .i64 0, .slice none 0 0] 28)
    rw [hW1] at h
    simpa using h
  have HC : Hid (∀ X, Below W1.heap.size W1 X → Below w.heap.size w X ∧ w.heap.size + 1 + 1 < X.heap.size ∧ X.heap[w.heap.size + 1 + 1]? = some (.cells #[.int .i64 0, .string ⟨#[]⟩, .string ⟨#[]⟩, .int .i64 0, .int .i64 0, .slice none 0 0] 28 (0, 0)) ∧ UbE uses ds known uA uc dA dc kA kc X ∧ VarsAt X bA bc sc ∧ X.cell? ⟨w.heap.size, 0, none⟩ = some (.int .i64 k) ∧ X.cell? ⟨w.heap.size, 1, none⟩ = some (.string n) ∧ X.cell? ⟨w.heap.size, 2, none⟩ = some (.string m) ∧ X.cell? ⟨w.heap.size, 3, none⟩ = some (.int .i64 i) ∧ X.cell? ⟨w.heap.size, 4, none⟩ = some (.int .i64 d) ∧ X.cell? ⟨w.heap.size, 5, none⟩ = some (.slice A s.len c) ∧ X.cell? ⟨w.heap.size + 1, 0, none⟩ = some (.slice uA NU uc) ∧ X.cell? ⟨w.heap.size + 1, 1, none⟩ = some (.slice dA ND dc)) := fun X hX => by
    have hx := (hX.block w.heap.size (by omega)).trans hx0
    have hm := (hX.block (w.heap.size + 1) (by omega)).trans hm0
    have hb := hB1.trans (hX.mono (by omega))
    exact ⟨hb, by have := hX.size; omega, (hX.block _ (by omega)).trans hy0, hE.below hb, VarsAt.below hva hb (Nat.le_refl _), cell_of_row X _ 0 _ _ (0, 0) hx, cell_of_row X _ 1 _ _ (0, 0) hx, cell_of_row X _ 2 _ _ (0, 0) hx, cell_of_row X _ 3 _ _ (0, 0) hx, cell_of_row X _ 4 _ _ (0, 0) hx, cell_of_row X _ 5 _ _ (0, 0) hx, cell_of_row X _ 0 _ _ (0, 0) hm, cell_of_row X _ 1 _ _ (0, 0) hm⟩
  have HZ1 := Lib.hid hzW
  have HH := Lib.hid (And.intro hs (And.intro hst (And.intro hr5 (And.intro ih (And.intro hcnt (And.intro hn h5))))))
  obtain ⟨Q, HQ⟩ : ∃ Q, Hid (rebN (gBound ds uses known) ⟨k, n, m, i, d⟩ s.pt sc = Q) := ⟨_, Lib.hid rfl⟩
  rw [HND.out, HNU.out, HNK.out, HNB.out, HQ.out]
  have HHas := Lib.hid (show k = 3 → hasS sc n = true from fun h => by
    rw [hasS_hasN]
    cases hh : hasN sc n with
    | true => rfl
    | false => exact absurd ⟨h, hh⟩ hl3)
  have HK4 := Lib.hid hl4
  have HG := Lib.hid hg
  clear hst hr5 ih hcnt hn hkn hus hE hva hB1 hx0 hm0 hy0 hzW hl3 hl4 hg
  obtain ⟨hBw, hzX, hyr, hE, hva, e0, e1, e2, e3, e4, e5, m0, m1⟩ := HC.out W1 (Below.refl _ _)
  · have k4 : (k == 4) = false := by have := HK4.out; simpa using this
    have HQ2 := Lib.hid (show Q = (if (rebL (gBound ds uses known) s.pt k n m 0 sc).1 = 0 then (0, ⟨k, n, m, i, d⟩, (rebL (gBound ds uses known) s.pt k n m 0 sc).2) else ((rebL (gBound ds uses known) s.pt k n m 0 sc).1, ⟨0, ⟨#[]⟩, ⟨#[]⟩, 0, 0⟩, .nil)) by
      rw [← HQ.out, rebN]
      simp only [HG.out, if_true])
    obtain ⟨W2, hW2⟩ : ∃ q, W1.alloc (.cells #[.int .i64 k, .string n, .string m, .int .i64 i, .int .i64 d, .slice none 0 0] 28) = q := ⟨_, rfl⟩
    have hb2 : Below W1.heap.size W1 W2 := by rw [← hW2]; exact (Below.refl _ _).alloc (Nat.le_refl _) _
    have hn2 : W2.heap[W1.heap.size]? = some (.cells #[.int .i64 k, .string n, .string m, .int .i64 i, .int .i64 d, .slice none 0 0] 28 (0, 0)) := by rw [← hW2]; exact heap_alloc_new _ _
    have HR0 := Lib.hid (show RBu W1 W1.heap.size k n m i d (.slice none 0 0) .nil (W2.setCell ⟨W1.heap.size, 5, none⟩ (.slice none 0 0)) from ⟨by simp [World.setCell, Array.getElem?_modify, hn2], World.ownsRow_nil _ _ _ _, trivial, hb2.setCell (by simp) _⟩)
    have n5 := cell_of_row W2 W1.heap.size 5 _ _ (0, 0) hn2
    have f5 := frozen_of_row W2 W1.heap.size 5 _ _ hn2
    simp at n5
    have hcap : s.len ≤ 9223372036854775807 := by have := hs.1; have := hs.2.1; unfold maxLen at this; omega
    have HHs := Lib.hid (has21_any sc n bA bc W1 hva.sls.1)
    rw [HNB.out] at HHs
    clear hE hva hs h5 hyr hBw hzX hb2 hn2
    go_enter Tryz.func71, Tryz.ntmps71
    go_upto_region 1 with fail
    go_cut [28] (fun s28 wx => s28 = .bool false ∧ W1 = wx)
    case first =>
      by_cases hk3 : k = 3
      · have hh := HHas.out hk3
        rw [hh] at HHs
        have k3 : (k == 3) = true := by simpa using hk3
        clear hk3
        go_wp2_with fail
        refine HHs.out.mono ?_
        rintro e w4 ⟨rfl, rfl⟩
        go_wp2
        go_meet
        exact ⟨rfl, rfl⟩
      · have k3 : (k == 3) = false := by simpa using hk3
        clear hk3
        go_wp2
        go_meet
        exact ⟨rfl, rfl⟩
    case rest =>
    obtain ⟨rfl, hwx⟩ := hcut
    subst hwx
    go_wp2_with fail
    clear e0 e1 e2 e3 e4 e5 m0 m1 hW1 hW2 n5 f5
    go_loopg [16] s.len (fun gg ct wr => ∃ (j : Nat) (r t : Fo) (v : Value), gg = r.len ∧ j + r.len = s.len ∧ ct = .int .i64 j ∧ r.All (BdOK uses ds known uA uc dA dc kA kc) ∧ r.Strs ∧ r.R34 ∧ (r ≠ .nil → ∃ bb o, A = some ⟨bb, o, none⟩ ∧ bb < w.heap.size ∧ r.At wr w.heap.size bb (o + j * 6)) ∧
      RBu W1 W1.heap.size k n m i d v t wr ∧ t.len = j ∧ Hid (rebL (gBound ds uses known) s.pt k n m 0 sc = RbJ t.pt (rebL (gBound ds uses known) r.pt k n m j sc)) ∧ sc.length + 2 * r.count ≤ 100000)
    case atStart =>
      refine ⟨0, s, .nil, .slice none 0 0, rfl, by omega, rfl, HH.out.2.2.2.1, HH.out.2.1, HH.out.2.2.1, fun hne => ?_, HR0.out, rfl, Lib.hid (RbJ_nil trivial).symm, HH.out.2.2.2.2.1⟩
      obtain ⟨bb, o, e, hb, h⟩ := HH.out.1.2.2 hne
      exact ⟨bb, o, e, hb, by rw [Nat.zero_mul, Nat.add_zero]; exact h.keep (Nat.le_refl _) (fun p hp => (HC.out _ HR0.out.bw).1.cell hp) hb⟩
    case round =>
      obtain ⟨j, r, t, v, HG, hjs, rfl, hall, hstr, hr5, hat, hR, htl, HRe, hcnt⟩ := hrel
      obtain ⟨hBw, hzX, hyr, hE, hva, e0, e1, e2, e3, e4, e5, m0, m1⟩ := HC.out wr hR.bw
      cases r with
      | nil =>
        simp only [Fo.len] at hjs HG
        obtain ⟨vA, vc, rfl⟩ := own_formR hR.own
        have n0 := cell_of_row wr W1.heap.size 0 _ _ (0, 0) hR.nb
        have n1 := cell_of_row wr W1.heap.size 1 _ _ (0, 0) hR.nb
        have n2 := cell_of_row wr W1.heap.size 2 _ _ (0, 0) hR.nb
        have n3 := cell_of_row wr W1.heap.size 3 _ _ (0, 0) hR.nb
        have n4 := cell_of_row wr W1.heap.size 4 _ _ (0, 0) hR.nb
        have n5 := cell_of_row wr W1.heap.size 5 _ _ (0, 0) hR.nb
        simp at n0 n1 n2 n3 n4 n5
        have HQ3 := Lib.hid (show Q = (0, ⟨k, n, m, i, d⟩, t.pt) by
          rw [HQ2.out, HRe.out]
          simp only [Fo.pt, rebL, RbJ, if_pos, Pt.app_nil])
        have HT := Lib.hid (And.intro hR.sub hR.bw)
        have HO := Lib.hid hR.own
        have HBx := Lib.hid hBw
        have i2 : decide ((j : Int) < (s.len : Int)) = false := decide_eq_false (by omega)
        have i3 : decide (j < s.len) = false := decide_eq_false (by omega)
        clear hR hat hcnt hall hstr hr5 hjs HRe htl hBw hE hva
        have y0 := cell_of_row wr (w.heap.size + 1 + 1) 0 _ _ (0, 0) hyr
        have y1 := cell_of_row wr (w.heap.size + 1 + 1) 1 _ _ (0, 0) hyr
        have y2 := cell_of_row wr (w.heap.size + 1 + 1) 2 _ _ (0, 0) hyr
        have y3 := cell_of_row wr (w.heap.size + 1 + 1) 3 _ _ (0, 0) hyr
        have y4 := cell_of_row wr (w.heap.size + 1 + 1) 4 _ _ (0, 0) hyr
        have y5 := cell_of_row wr (w.heap.size + 1 + 1) 5 _ _ (0, 0) hyr
        have z0 := frozen_of_row wr (w.heap.size + 1 + 1) 0 _ _ hyr
        have z1 := frozen_of_row wr (w.heap.size + 1 + 1) 1 _ _ hyr
        have z2 := frozen_of_row wr (w.heap.size + 1 + 1) 2 _ _ hyr
        have z3 := frozen_of_row wr (w.heap.size + 1 + 1) 3 _ _ hyr
        have z4 := frozen_of_row wr (w.heap.size + 1 + 1) 4 _ _ hyr
        have z5 := frozen_of_row wr (w.heap.size + 1 + 1) 5 _ _ hyr
        simp at y0 y1 y2 y3 y4 y5
        have HS := Lib.hid (six_set hyr (.int .i64 k) (.string n) (.string m) (.int .i64 i) (.int .i64 d) (.slice vA t.len vc))
        go_wp2
        have hs := HS.out
        have s0 := cell_of_row _ (w.heap.size + 1 + 1) 0 _ _ (0, 0) hs
        have s1 := cell_of_row _ (w.heap.size + 1 + 1) 1 _ _ (0, 0) hs
        have s2 := cell_of_row _ (w.heap.size + 1 + 1) 2 _ _ (0, 0) hs
        have s3 := cell_of_row _ (w.heap.size + 1 + 1) 3 _ _ (0, 0) hs
        have s4 := cell_of_row _ (w.heap.size + 1 + 1) 4 _ _ (0, 0) hs
        have s5 := cell_of_row _ (w.heap.size + 1 + 1) 5 _ _ (0, 0) hs
        have hBf : Below w.heap.size w ((((((wr.setCell ⟨w.heap.size + 1 + 1, 0, none⟩ (.int .i64 k)).setCell ⟨w.heap.size + 1 + 1, 1, none⟩ (.string n)).setCell ⟨w.heap.size + 1 + 1, 2, none⟩ (.string m)).setCell ⟨w.heap.size + 1 + 1, 3, none⟩ (.int .i64 i)).setCell ⟨w.heap.size + 1 + 1, 4, none⟩ (.int .i64 d)).setCell ⟨w.heap.size + 1 + 1, 5, none⟩ (.slice vA t.len vc)) := ((((((HBx.out.setCell (by simp; omega) _).setCell (by simp; omega) _).setCell (by simp; omega) _).setCell (by simp; omega) _).setCell (by simp; omega) _).setCell (by simp; omega) _)
        have hsz : ((((((wr.setCell ⟨w.heap.size + 1 + 1, 0, none⟩ (.int .i64 k)).setCell ⟨w.heap.size + 1 + 1, 1, none⟩ (.string n)).setCell ⟨w.heap.size + 1 + 1, 2, none⟩ (.string m)).setCell ⟨w.heap.size + 1 + 1, 3, none⟩ (.int .i64 i)).setCell ⟨w.heap.size + 1 + 1, 4, none⟩ (.int .i64 d)).setCell ⟨w.heap.size + 1 + 1, 5, none⟩ (.slice vA t.len vc)).heap.size = wr.heap.size := by simp
        have hkp : ∀ q, w.heap.size + 1 + 1 < q → ((((((wr.setCell ⟨w.heap.size + 1 + 1, 0, none⟩ (.int .i64 k)).setCell ⟨w.heap.size + 1 + 1, 1, none⟩ (.string n)).setCell ⟨w.heap.size + 1 + 1, 2, none⟩ (.string m)).setCell ⟨w.heap.size + 1 + 1, 3, none⟩ (.int .i64 i)).setCell ⟨w.heap.size + 1 + 1, 4, none⟩ (.int .i64 d)).setCell ⟨w.heap.size + 1 + 1, 5, none⟩ (.slice vA t.len vc)).heap[q]? = wr.heap[q]? := fun q hq => by
          refine (heap_setCell_other _ _ _ _ (by simp; omega)).trans ((heap_setCell_other _ _ _ _ (by simp; omega)).trans ((heap_setCell_other _ _ _ _ (by simp; omega)).trans ((heap_setCell_other _ _ _ _ (by simp; omega)).trans ((heap_setCell_other _ _ _ _ (by simp; omega)).trans (heap_setCell_other _ _ _ _ (by simp; omega))))))
        clear hs
        generalize ((((((wr.setCell ⟨w.heap.size + 1 + 1, 0, none⟩ (.int .i64 k)).setCell ⟨w.heap.size + 1 + 1, 1, none⟩ (.string n)).setCell ⟨w.heap.size + 1 + 1, 2, none⟩ (.string m)).setCell ⟨w.heap.size + 1 + 1, 3, none⟩ (.int .i64 i)).setCell ⟨w.heap.size + 1 + 1, 4, none⟩ (.int .i64 d)).setCell ⟨w.heap.size + 1 + 1, 5, none⟩ (.slice vA t.len vc)) = W9 at s0 s1 s2 s3 s4 s5 hBf hsz hkp ⊢
        simp at s0 s1 s2 s3 s4 s5
        refine bodyPost_ret (v := .tuple #[.agg #[.int .i64 k, .string n, .string m, .int .i64 i, .int .i64 d, .slice vA t.len vc], .bool true]) (by simp [results, Tryz.results71, go_sem, s0, s1, s2, s3, s4, s5]) rfl ?_
        rw [HQ3.out]
        refine ⟨hBf, _, _, _, _, _, _, _, _, rfl, fun _ => ⟨rfl, rfl, rfl, rfl, rfl, t, rfl, rfl, ?_⟩⟩
        obtain ⟨vA', vc', hve, hsp⟩ := Fo.SlP.of_row (P' := fun k => W1.heap.size < k ∧ k < wr.heap.size) HO.out HT.out.1 (fun k hk => ⟨hk.1, hk.2.1⟩) (fun g hg => ⟨by have := (World.ownsRow.lt HO.out g hg).1; omega, (World.ownsRow.lt HO.out g hg).2⟩)
        simp only [Value.slice.injEq, true_and] at hve
        obtain ⟨rfl, rfl⟩ := hve
        have hz1' := HZ1.out
        exact hsp.keep (fun k hk => ⟨by omega, by rw [hsz]; exact hk.2⟩) fun p hp => World.cell?_of_block (hkp _ (by have := hp.1; omega))
      | cons k' n' m' i' d' A' c' s' r' =>
        obtain ⟨bb, o, rfl, hbb, hat⟩ := hat (by simp)
        obtain ⟨g0, g1, g2, g3, g4, ⟨g5, gc, gm, gs⟩, hat'⟩ := hat
        obtain ⟨hn', hm', hstS, hstR⟩ := hstr
        obtain ⟨h5', hr5S, hr5R⟩ := hr5
        obtain ⟨hihs, hihr⟩ := hall
        simp only [Fo.len] at hjs HG
        simp only [Fo.count] at hcnt
        have hslen : s.len ≤ 50000 := by have := HH.out.2.2.2.2.1; have := Fo.len_count s; omega
        have hj0 : (0 : Int) ≤ (j : Int) := by omega
        have hj1 : (j : Int) < (s.len : Int) := by omega
        have hj2 : j < s.len := by omega
        have hbl : (bndB k n m j).length ≤ 2 := by unfold bndB; split <;> (try split) <;> simp
        have HIn := Lib.hid (show ∀ X, Below wr.heap.size wr X → Calls Tryz.prog 115 #[.agg #[.int .i64 k, .string n, .string m, .int .i64 i, .int .i64 d, .slice (some ⟨bb, o, none⟩) s.len c], .int .i64 j, .slice bA NB bc] X (InnP (sc ++ bndB k n m j) X) from fun X hX => by
          have h := inner24_any k n m i d (some ⟨bb, o, none⟩) s.len c j sc bA bc X (hva.below hX (Nat.le_refl _)) (by omega)
          rwa [HNB.out] at h)
        obtain ⟨q, Hq'⟩ : ∃ q, Hid (rebN (gBound ds uses known) ⟨k', n', m', i', d'⟩ s'.pt (sc ++ bndB k n m j) = q) := ⟨_, Lib.hid rfl⟩
        have HUn := Lib.hid (show ∀ X iA ic, Below wr.heap.size wr X → VarsAt X iA ic (sc ++ bndB k n m j) → Calls Tryz.prog 71 #[.agg #[.int .i64 k', .string n', .string m', .int .i64 i', .int .i64 d', .slice A' s'.len c'], .agg #[.slice uA NU uc, .slice dA ND dc], .slice kA NK kc, .slice iA (sc ++ bndB k n m j).length ic] X (BdR q X) from fun X iA ic hX hv => by
          have hbX := hBw.trans (hX.mono hBw.size)
          have h := hihs k' n' m' i' d' A' c' (sc ++ bndB k n m j) iA ic X ⟨gc, gm, fun hne => by
            obtain ⟨b', o', e', hb', h'⟩ := gs hne
            have := hX.size
            exact ⟨b', o', e', by omega, h'.keep (by omega) (fun p hp => hX.cell (by omega)) hb'⟩⟩ hn' hstS h5' hr5S (hE.below hX) hv (by rw [List.length_append]; omega)
          rwa [HND.out, HNU.out, HNK.out, Hq'.out] at h)
        obtain ⟨SL, HSL⟩ : ∃ q, Hid (s'.len = q) := ⟨_, Lib.hid rfl⟩
        obtain ⟨SB, HSB⟩ : ∃ q, Hid ((sc ++ bndB k n m j).length = q) := ⟨_, Lib.hid rfl⟩
        rw [HSL.out] at g5
        simp only [HSL.out, HSB.out] at HUn
        obtain ⟨E2, ⟨qk, qn, qm, qi, qd⟩, qt⟩ := q
        have HSX := Lib.hid (show ∀ X : World, Below wr.heap.size wr X → X.cell? ⟨w.heap.size, 0, none⟩ = some (.int .i64 k) ∧ X.cell? ⟨w.heap.size, 1, none⟩ = some (.string n) ∧ X.cell? ⟨w.heap.size, 2, none⟩ = some (.string m) ∧ X.cell? ⟨w.heap.size, 3, none⟩ = some (.int .i64 i) ∧ X.cell? ⟨w.heap.size, 4, none⟩ = some (.int .i64 d) ∧ X.cell? ⟨w.heap.size, 5, none⟩ = some (.slice (some ⟨bb, o, none⟩) s.len c) ∧ X.cell? ⟨w.heap.size + 1, 0, none⟩ = some (.slice uA NU uc) ∧ X.cell? ⟨w.heap.size + 1, 1, none⟩ = some (.slice dA ND dc) ∧ X.cell? ⟨bb, o + j * 6, none⟩ = some (.int .i64 k') ∧ X.cell? ⟨bb, o + j * 6 + 1, none⟩ = some (.string n') ∧ X.cell? ⟨bb, o + j * 6 + 2, none⟩ = some (.string m') ∧ X.cell? ⟨bb, o + j * 6 + 3, none⟩ = some (.int .i64 i') ∧ X.cell? ⟨bb, o + j * 6 + 4, none⟩ = some (.int .i64 d') ∧ X.cell? ⟨bb, o + j * 6 + 5, none⟩ = some (.slice A' SL c') from fun X hX => by
          have q : ∀ (u q : Nat) (v : Value), u < wr.heap.size → wr.cell? ⟨u, q, none⟩ = some v → X.cell? ⟨u, q, none⟩ = some v := fun u q v hu h => (hX.cell (p := ⟨u, q, none⟩) hu).trans h
          exact ⟨q _ _ _ (by omega) e0, q _ _ _ (by omega) e1, q _ _ _ (by omega) e2, q _ _ _ (by omega) e3, q _ _ _ (by omega) e4, q _ _ _ (by omega) e5, q _ _ _ (by omega) m0, q _ _ _ (by omega) m1, q _ _ _ (by omega) g0, q _ _ _ (by omega) g1, q _ _ _ (by omega) g2, q _ _ _ (by omega) g3, q _ _ _ (by omega) g4, q _ _ _ (by omega) g5⟩)
        have HT := Lib.hid (And.intro HG (And.intro hR (And.intro hat' (And.intro hihr (And.intro hstR (And.intro hr5R (And.intro htl (And.intro HRe (And.intro hcnt (And.intro hjs hbb))))))))))
        clear HG hR hat' hihs hihr hstS hstR hr5S hr5R h5' htl HRe hcnt hn' hm' gc gm gs hE hva hBw hyr
        go_upto_region 23 with fail
        go_cut [17, 18] (fun s12 s13 wx => ∃ p, s12 = .pointer (some ⟨p, 0, none⟩) ∧ s13 = .bool (decide (E2 = 0)) ∧ UbC (E2, ⟨qk, qn, qm, qi, qd⟩, qt) wr p wx)
        case first => 
          have hbd := below_drewK (Below.refl wr.heap.size wr)
          have hbda := hbd.alloc (Nat.le_refl _) (.cells #[.int .i64 0, .string ⟨#[]⟩, .string ⟨#[]⟩, .int .i64 0, .int .i64 0, .slice none 0 0] 28)
          refine wp_region_held_drew (S := fun X => X.cell? ⟨w.heap.size, 0, none⟩ = some (.int .i64 k) ∧ X.cell? ⟨w.heap.size, 1, none⟩ = some (.string n) ∧ X.cell? ⟨w.heap.size, 2, none⟩ = some (.string m) ∧ X.cell? ⟨w.heap.size, 3, none⟩ = some (.int .i64 i) ∧ X.cell? ⟨w.heap.size, 4, none⟩ = some (.int .i64 d) ∧ X.cell? ⟨w.heap.size, 5, none⟩ = some (.slice (some ⟨bb, o, none⟩) s.len c) ∧ X.cell? ⟨w.heap.size + 1, 0, none⟩ = some (.slice uA NU uc) ∧ X.cell? ⟨w.heap.size + 1, 1, none⟩ = some (.slice dA ND dc) ∧ X.cell? ⟨bb, o + j * 6, none⟩ = some (.int .i64 k') ∧ X.cell? ⟨bb, o + j * 6 + 1, none⟩ = some (.string n') ∧ X.cell? ⟨bb, o + j * 6 + 2, none⟩ = some (.string m') ∧ X.cell? ⟨bb, o + j * 6 + 3, none⟩ = some (.int .i64 i') ∧ X.cell? ⟨bb, o + j * 6 + 4, none⟩ = some (.int .i64 d') ∧ X.cell? ⟨bb, o + j * 6 + 5, none⟩ = some (.slice A' SL c')) (by kernel_rfl) (HSX.out _ hbd) (fun hHeld => ?_)
          refine wpAnyH_take (i := 0) (oi := { dst := some 152, op := Op.fieldAddr 28 (Operand.tmp 4) 5, type := 0, pos := "ref.go:196", after := #[], guard := none }) (v := ?v1) rfl (by kernel_rfl) (by kernel_rfl) (by kernel_rfl) (fun _ _ _ h => h) (Or.inl ⟨by rfl, ?hy1⟩) (by assumption) ?_
          case hy1 => (intro w hSw; (try dsimp only at hSw); first | (go_simp; done) | (go_simp; with_reducible rfl))
          try simp only [Act.put, List.setIfInBounds_toArray, List.set_cons_zero, List.set_cons_succ]
          refine wpAnyH_take (i := 1) (oi := { dst := some 153, op := Op.load 26 (Operand.tmp 152), type := 26, pos := "ref.go:196", after := #[{ on := 0, ground := Ground.data }], guard := none }) (v := ?v2) rfl (by kernel_rfl) (by kernel_rfl) (by kernel_rfl) (fun _ _ _ h => h) (Or.inl ⟨by rfl, ?hy2⟩) (by assumption) ?_
          case hy2 => (intro w hSw; (try dsimp only at hSw); first | (go_simp; done) | (go_simp; with_reducible rfl))
          try simp only [Act.put, List.setIfInBounds_toArray, List.set_cons_zero, List.set_cons_succ]
          refine wpAnyH_take (i := 2) (oi := { dst := some 154, op := Op.move (Operand.tmp 16), type := 3, pos := "ref.go:196", after := #[], guard := none }) (v := ?v3) rfl (by kernel_rfl) (by kernel_rfl) (by kernel_rfl) (fun _ _ _ h => h) (Or.inl ⟨by rfl, ?hy3⟩) (by assumption) ?_
          case hy3 => (intro w hSw; (try dsimp only at hSw); first | (go_simp; done) | (go_simp; with_reducible rfl))
          try simp only [Act.put, List.setIfInBounds_toArray, List.set_cons_zero, List.set_cons_succ]
          refine wpAnyH_take (i := 3) (oi := { dst := some 155, op := Op.indexAddr 26 (Operand.tmp 153) (Operand.tmp 154), type := 0, pos := "ref.go:196", after := #[{ on := 1, ground := Ground.data }, { on := 2, ground := Ground.data }], guard := none }) (v := ?v4) rfl (by kernel_rfl) (by kernel_rfl) (by kernel_rfl) (fun _ _ _ h => h) (Or.inl ⟨by rfl, ?hy4⟩) (by assumption) ?_
          case hy4 => (intro w hSw; (try dsimp only at hSw); first | (go_simp; done) | (go_simp; with_reducible rfl))
          try simp only [Act.put, List.setIfInBounds_toArray, List.set_cons_zero, List.set_cons_succ]
          refine wpAnyH_take (i := 4) (oi := { dst := some 156, op := Op.load 28 (Operand.tmp 155), type := 28, pos := "ref.go:196", after := #[{ on := 3, ground := Ground.data }], guard := none }) (v := ?v5) rfl (by kernel_rfl) (by kernel_rfl) (by kernel_rfl) (fun _ _ _ h => h) (Or.inl ⟨by rfl, ?hy5⟩) (by assumption) ?_
          case hy5 => (intro w hSw; (try dsimp only at hSw); first | (go_simp; done) | (go_simp; with_reducible rfl))
          try simp only [Act.put, List.setIfInBounds_toArray, List.set_cons_zero, List.set_cons_succ]
          refine wpAnyH_take (i := 5) (oi := { dst := some 157, op := Op.load 40 (Operand.tmp 5), type := 40, pos := "ref.go:196", after := #[], guard := none }) (v := ?v6) rfl (by kernel_rfl) (by kernel_rfl) (by kernel_rfl) (fun _ _ _ h => h) (Or.inl ⟨by rfl, ?hy6⟩) (by assumption) ?_
          case hy6 => (intro w hSw; (try dsimp only at hSw); first | (go_simp; done) | (go_simp; with_reducible rfl))
          try simp only [Act.put, List.setIfInBounds_toArray, List.set_cons_zero, List.set_cons_succ]
          refine wpAnyH_take (i := 6) (oi := { dst := some 158, op := Op.move (Operand.tmp 2), type := 41, pos := "ref.go:196", after := #[], guard := none }) (v := ?v7) rfl (by kernel_rfl) (by kernel_rfl) (by kernel_rfl) (fun _ _ _ h => h) (Or.inl ⟨by rfl, ?hy7⟩) (by assumption) ?_
          case hy7 => (intro w hSw; (try dsimp only at hSw); first | (go_simp; done) | (go_simp; with_reducible rfl))
          try simp only [Act.put, List.setIfInBounds_toArray, List.set_cons_zero, List.set_cons_succ]
          refine wpAnyH_take (i := 7) (oi := { dst := some 159, op := Op.load 28 (Operand.tmp 4), type := 28, pos := "ref.go:196", after := #[], guard := none }) (v := ?v8) rfl (by kernel_rfl) (by kernel_rfl) (by kernel_rfl) (fun _ _ _ h => h) (Or.inl ⟨by rfl, ?hy8⟩) (by assumption) ?_
          case hy8 => (intro w hSw; (try dsimp only at hSw); first | (go_simp; done) | (go_simp; with_reducible rfl))
          try simp only [Act.put, List.setIfInBounds_toArray, List.set_cons_zero, List.set_cons_succ]
          refine wpAnyH_take (i := 8) (oi := { dst := some 160, op := Op.move (Operand.tmp 16), type := 3, pos := "ref.go:196", after := #[], guard := none }) (v := ?v9) rfl (by kernel_rfl) (by kernel_rfl) (by kernel_rfl) (fun _ _ _ h => h) (Or.inl ⟨by rfl, ?hy9⟩) (by assumption) ?_
          case hy9 => (intro w hSw; (try dsimp only at hSw); first | (go_simp; done) | (go_simp; with_reducible rfl))
          try simp only [Act.put, List.setIfInBounds_toArray, List.set_cons_zero, List.set_cons_succ]
          refine wpAnyH_take (i := 9) (oi := { dst := some 161, op := Op.move (Operand.tmp 3), type := 22, pos := "ref.go:196", after := #[], guard := none }) (v := ?v10) rfl (by kernel_rfl) (by kernel_rfl) (by kernel_rfl) (fun _ _ _ h => h) (Or.inl ⟨by rfl, ?hy10⟩) (by assumption) ?_
          case hy10 => (intro w hSw; (try dsimp only at hSw); first | (go_simp; done) | (go_simp; with_reducible rfl))
          try simp only [Act.put, List.setIfInBounds_toArray, List.set_cons_zero, List.set_cons_succ]
          refine wpAnyH_ready (rs := [10, 15]) (by kernel_rfl) (by simp) ?_
          refine AllReadyH.cons rfl (fun K hK => ?_) (AllReadyH.cons rfl (fun K hK => ?_) AllReadyH.nil)
          · go_simp
            refine (HIn.out _ hbd).mono ?_
            rintro e w3 ⟨iA, ic, rfl, hva3, hb3⟩
            rw [HSB.out]
            have hbb := hbd.trans (hb3.mono hbd.size)
            go_wp2_with fail
            refine hK.out _ _ (HSX.out _ hbb) (fun hHeld3 => ?_)
            clear hK K
            try simp only [Act.put, List.setIfInBounds_toArray, List.set_cons_zero, List.set_cons_succ]
            refine wpAnyH_ready (rs := [11, 15]) (by kernel_rfl) (by simp) ?_
            refine AllReadyH.cons rfl (fun K hK => ?_) (AllReadyH.cons rfl (fun K hK => ?_) AllReadyH.nil)
            · go_simp
              refine (HUn.out _ iA ic hbb hva3).mono ?_
              rintro e w5 ⟨hb5, uk, un, um, ui, ud, vA5, ul5, vc5, rfl, hq⟩
              have hbb5 := hbb.trans (hb5.mono hbb.size)
              go_wp2_with fail
              refine hK.out _ _ (HSX.out _ hbb5) (fun hHeld5 => ?_)
              clear hK K
              try simp only [Act.put, List.setIfInBounds_toArray, List.set_cons_zero, List.set_cons_succ]
              refine wpAnyH_take (i := 12) (oi := { dst := some 151, op := Op.move (Operand.tmp 163), type := 108, pos := "ref.go:196", after := #[{ on := 11, ground := Ground.data }], guard := none }) (v := ?v11) rfl (by kernel_rfl) (by kernel_rfl) (by kernel_rfl) (fun _ _ _ h => h) (Or.inl ⟨by rfl, ?hy11⟩) (by assumption) ?_
              case hy11 => (intro w hSw; (try dsimp only at hSw); first | (go_simp; done) | (go_simp; with_reducible rfl))
              try simp only [Act.put, List.setIfInBounds_toArray, List.set_cons_zero, List.set_cons_succ]
              refine wpAnyH_take (i := 13) (oi := { dst := some 164, op := Op.extract (Operand.tmp 151) 0, type := 28, pos := "ref.go:196", after := #[{ on := 12, ground := Ground.data }], guard := none }) (v := ?v12) rfl (by kernel_rfl) (by kernel_rfl) (by kernel_rfl) (fun _ _ _ h => h) (Or.inl ⟨by rfl, ?hy12⟩) (by assumption) ?_
              case hy12 => (intro w hSw; (try dsimp only at hSw); first | (go_simp; done) | (go_simp; with_reducible rfl))
              try simp only [Act.put, List.setIfInBounds_toArray, List.set_cons_zero, List.set_cons_succ]
              refine wpAnyH_take (i := 14) (oi := { dst := some 165, op := Op.extract (Operand.tmp 151) 1, type := 4, pos := "ref.go:196", after := #[{ on := 12, ground := Ground.data }, { on := 16, ground := Ground.gcOnly Departure.lateStores }], guard := none }) (v := ?v13) rfl (by kernel_rfl) (by kernel_rfl) (by kernel_rfl) (fun _ _ _ h => h) (Or.inl ⟨by rfl, ?hy13⟩) (by assumption) ?_
              case hy13 => (intro w hSw; (try dsimp only at hSw); first | (go_simp; done) | (go_simp; with_reducible rfl))
              try simp only [Act.put, List.setIfInBounds_toArray, List.set_cons_zero, List.set_cons_succ]
              refine wpAnyH_ready (rs := [15]) (by kernel_rfl) (by simp) ?_
              refine AllReadyH.cons rfl (fun K hK => ?_) AllReadyH.nil
              go_simp
              refine hK.out _ _ (HSX.out _ (hbb5.alloc hbb5.size _)) (fun hHeld6 => ?_)
              clear hK K
              try simp only [Act.put, List.setIfInBounds_toArray, List.set_cons_zero, List.set_cons_succ]
              refine wpAnyH_ready (rs := [16]) (by kernel_rfl) (by simp) ?_
              refine AllReadyH.cons rfl (fun K hK => ?_) AllReadyH.nil
              go_simp
              first | refine hK.out _ _ (HSX.out _ (hbb5.alloc hbb5.size _)) (fun hHeld9 => ?_) | refine hK.out _ _ (HSX.out _ (((((((hbb5.alloc hbb5.size (.cells #[.int .i64 0, .string ⟨#[]⟩, .string ⟨#[]⟩, .int .i64 0, .int .i64 0, .slice none 0 0] 28)).setCell (by simpa using hbb5.size) _).setCell (by simpa using hbb5.size) _).setCell (by simpa using hbb5.size) _).setCell (by simpa using hbb5.size) _).setCell (by simpa using hbb5.size) _).setCell (by simpa using hbb5.size) _)) (fun hHeld9 => ?_)
              clear hK K
              try simp only [Act.put, List.setIfInBounds_toArray, List.set_cons_zero, List.set_cons_succ]
              refine wpAnyH_take (i := 17) (oi := { dst := some 18, op := Op.assign (Operand.tmp 165), type := 4, pos := "ref.go:196", after := #[{ on := 14, ground := Ground.data }, { on := 16, ground := Ground.chain }, { on := 0, ground := Ground.phase }, { on := 1, ground := Ground.phase }, { on := 2, ground := Ground.phase }, { on := 3, ground := Ground.phase }, { on := 4, ground := Ground.phase }, { on := 5, ground := Ground.phase }, { on := 6, ground := Ground.phase }, { on := 7, ground := Ground.phase }, { on := 8, ground := Ground.phase }, { on := 9, ground := Ground.phase }, { on := 10, ground := Ground.phase }, { on := 11, ground := Ground.phase }, { on := 12, ground := Ground.phase }, { on := 13, ground := Ground.phase }, { on := 14, ground := Ground.phase }, { on := 15, ground := Ground.phase }, { on := 16, ground := Ground.phase }], guard := none }) (v := ?v14) rfl (by kernel_rfl) (by kernel_rfl) (by kernel_rfl) (fun _ _ _ h => h) (Or.inl ⟨by rfl, ?hy14⟩) (by assumption) ?_
              case hy14 => (intro w hSw; (try dsimp only at hSw); first | (go_simp; done) | (go_simp; with_reducible rfl))
              try simp only [Act.put, List.setIfInBounds_toArray, List.set_cons_zero, List.set_cons_succ]
              refine wpAnyH_done (by kernel_rfl) ?_ _
              (try go_wp2)
              go_meet
              first | exact ⟨_, rfl, rfl, UbC.congr (UbC.late hbb hb5 hq) rfl rfl rfl rfl⟩ | exact ⟨_, rfl, rfl, UbC.congr (UbC.early (hbb.trans (hb5.mono hbb.size) |>.alloc (hbb5.size) (.cells #[.int .i64 0, .string ⟨#[]⟩, .string ⟨#[]⟩, .int .i64 0, .int .i64 0, .slice none 0 0] 28)) (Below.refl _ _) hbb5.size (heap_alloc_new w5 _) (fun h => by obtain ⟨a1, a2, a3, a4, a5, t, b1, b2, b3⟩ := hq h; exact ⟨a1, a2, a3, a4, a5, t, b1, b2, by exact absurd trivial (by trivial)⟩)) rfl rfl rfl rfl⟩
            · go_simp
              refine hK.out _ _ (HSX.out _ (hbb.alloc hbb.size _)) (fun hHeld4 => ?_)
              clear hK K
              try simp only [Act.put, List.setIfInBounds_toArray, List.set_cons_zero, List.set_cons_succ]
              refine wpAnyH_ready (rs := [11]) (by kernel_rfl) (by simp) ?_
              refine AllReadyH.cons rfl (fun K hK => ?_) AllReadyH.nil
              go_simp
              refine (HUn.out _ iA ic (hbb.alloc hbb.size (.cells #[.int .i64 0, .string ⟨#[]⟩, .string ⟨#[]⟩, .int .i64 0, .int .i64 0, .slice none 0 0] 28)) (VarsAt.below hva3 ((Below.refl _ _).alloc (Nat.le_refl _) _) (Nat.le_refl _))).mono ?_
              rintro e w5 ⟨hb5, uk, un, um, ui, ud, vA5, ul5, vc5, rfl, hq⟩
              have hbb5 := (hbb.alloc hbb.size (.cells #[.int .i64 0, .string ⟨#[]⟩, .string ⟨#[]⟩, .int .i64 0, .int .i64 0, .slice none 0 0] 28)).trans (hb5.mono (hbb.alloc hbb.size (.cells #[.int .i64 0, .string ⟨#[]⟩, .string ⟨#[]⟩, .int .i64 0, .int .i64 0, .slice none 0 0] 28)).size)
              have hz5 : w5.heap[w3.heap.size]? = some (.cells #[.int .i64 0, .string ⟨#[]⟩, .string ⟨#[]⟩, .int .i64 0, .int .i64 0, .slice none 0 0] 28 (0, 0)) := (hb5.block w3.heap.size (by simp)).trans (heap_alloc_new w3 _)
              have y0 := cell_of_row w5 (w3.heap.size) 0 _ _ (0, 0) hz5
              have y1 := cell_of_row w5 (w3.heap.size) 1 _ _ (0, 0) hz5
              have y2 := cell_of_row w5 (w3.heap.size) 2 _ _ (0, 0) hz5
              have y3 := cell_of_row w5 (w3.heap.size) 3 _ _ (0, 0) hz5
              have y4 := cell_of_row w5 (w3.heap.size) 4 _ _ (0, 0) hz5
              have y5 := cell_of_row w5 (w3.heap.size) 5 _ _ (0, 0) hz5
              have z0 := frozen_of_row w5 (w3.heap.size) 0 _ _ hz5
              have z1 := frozen_of_row w5 (w3.heap.size) 1 _ _ hz5
              have z2 := frozen_of_row w5 (w3.heap.size) 2 _ _ hz5
              have z3 := frozen_of_row w5 (w3.heap.size) 3 _ _ hz5
              have z4 := frozen_of_row w5 (w3.heap.size) 4 _ _ hz5
              have z5 := frozen_of_row w5 (w3.heap.size) 5 _ _ hz5
              simp at y0 y1 y2 y3 y4 y5
              go_wp2_with fail
              refine hK.out _ _ (HSX.out _ hbb5) (fun hHeld5 => ?_)
              clear hK K
              try simp only [Act.put, List.setIfInBounds_toArray, List.set_cons_zero, List.set_cons_succ]
              refine wpAnyH_take (i := 12) (oi := { dst := some 151, op := Op.move (Operand.tmp 163), type := 108, pos := "ref.go:196", after := #[{ on := 11, ground := Ground.data }], guard := none }) (v := ?v15) rfl (by kernel_rfl) (by kernel_rfl) (by kernel_rfl) (fun _ _ _ h => h) (Or.inl ⟨by rfl, ?hy15⟩) (by assumption) ?_
              case hy15 => (intro w hSw; (try dsimp only at hSw); first | (go_simp; done) | (go_simp; with_reducible rfl))
              try simp only [Act.put, List.setIfInBounds_toArray, List.set_cons_zero, List.set_cons_succ]
              refine wpAnyH_take (i := 13) (oi := { dst := some 164, op := Op.extract (Operand.tmp 151) 0, type := 28, pos := "ref.go:196", after := #[{ on := 12, ground := Ground.data }], guard := none }) (v := ?v16) rfl (by kernel_rfl) (by kernel_rfl) (by kernel_rfl) (fun _ _ _ h => h) (Or.inl ⟨by rfl, ?hy16⟩) (by assumption) ?_
              case hy16 => (intro w hSw; (try dsimp only at hSw); first | (go_simp; done) | (go_simp; with_reducible rfl))
              try simp only [Act.put, List.setIfInBounds_toArray, List.set_cons_zero, List.set_cons_succ]
              refine wpAnyH_take (i := 14) (oi := { dst := some 165, op := Op.extract (Operand.tmp 151) 1, type := 4, pos := "ref.go:196", after := #[{ on := 12, ground := Ground.data }, { on := 16, ground := Ground.gcOnly Departure.lateStores }], guard := none }) (v := ?v17) rfl (by kernel_rfl) (by kernel_rfl) (by kernel_rfl) (fun _ _ _ h => h) (Or.inl ⟨by rfl, ?hy17⟩) (by assumption) ?_
              case hy17 => (intro w hSw; (try dsimp only at hSw); first | (go_simp; done) | (go_simp; with_reducible rfl))
              try simp only [Act.put, List.setIfInBounds_toArray, List.set_cons_zero, List.set_cons_succ]
              refine wpAnyH_ready (rs := [16]) (by kernel_rfl) (by simp) ?_
              refine AllReadyH.cons rfl (fun K hK => ?_) AllReadyH.nil
              go_simp
              refine hK.out _ _ (HSX.out _ ((((((hbb5.setCell (by simpa using hbb.size) _).setCell (by simpa using hbb.size) _).setCell (by simpa using hbb.size) _).setCell (by simpa using hbb.size) _).setCell (by simpa using hbb.size) _).setCell (by simpa using hbb.size) _)) (fun hHeld9 => ?_)
              clear hK K
              try simp only [Act.put, List.setIfInBounds_toArray, List.set_cons_zero, List.set_cons_succ]
              refine wpAnyH_take (i := 17) (oi := { dst := some 18, op := Op.assign (Operand.tmp 165), type := 4, pos := "ref.go:196", after := #[{ on := 14, ground := Ground.data }, { on := 16, ground := Ground.chain }, { on := 0, ground := Ground.phase }, { on := 1, ground := Ground.phase }, { on := 2, ground := Ground.phase }, { on := 3, ground := Ground.phase }, { on := 4, ground := Ground.phase }, { on := 5, ground := Ground.phase }, { on := 6, ground := Ground.phase }, { on := 7, ground := Ground.phase }, { on := 8, ground := Ground.phase }, { on := 9, ground := Ground.phase }, { on := 10, ground := Ground.phase }, { on := 11, ground := Ground.phase }, { on := 12, ground := Ground.phase }, { on := 13, ground := Ground.phase }, { on := 14, ground := Ground.phase }, { on := 15, ground := Ground.phase }, { on := 16, ground := Ground.phase }], guard := none }) (v := ?v18) rfl (by kernel_rfl) (by kernel_rfl) (by kernel_rfl) (fun _ _ _ h => h) (Or.inl ⟨by rfl, ?hy18⟩) (by assumption) ?_
              case hy18 => (intro w hSw; (try dsimp only at hSw); first | (go_simp; done) | (go_simp; with_reducible rfl))
              try simp only [Act.put, List.setIfInBounds_toArray, List.set_cons_zero, List.set_cons_succ]
              refine wpAnyH_done (by kernel_rfl) ?_ _
              (try go_wp2)
              go_meet
              exact ⟨_, rfl, rfl, UbC.congr (UbC.early (hbb.alloc hbb.size _) hb5 hbb.size (heap_alloc_new w3 _) hq) rfl rfl rfl rfl⟩
          · go_simp
            refine hK.out _ _ (HSX.out _ hbda) (fun hHeld2 => ?_)
            clear hK K
            try simp only [Act.put, List.setIfInBounds_toArray, List.set_cons_zero, List.set_cons_succ]
            refine wpAnyH_ready (rs := [10]) (by kernel_rfl) (by simp) ?_
            refine AllReadyH.cons rfl (fun K hK => ?_) AllReadyH.nil
            go_simp
            refine (HIn.out _ hbda).mono ?_
            rintro e w3 ⟨iA, ic, rfl, hva3, hb3⟩
            rw [HSB.out]
            have hbb := hbda.trans (hb3.mono hbda.size)
            have hz3 : w3.heap[wr.heap.size]? = some (.cells #[.int .i64 0, .string ⟨#[]⟩, .string ⟨#[]⟩, .int .i64 0, .int .i64 0, .slice none 0 0] 28 (0, 0)) := (hb3.block wr.heap.size (by simp)).trans (heap_alloc_new wr.drew _)
            go_wp2_with fail
            refine hK.out _ _ (HSX.out _ hbb) (fun hHeld3 => ?_)
            clear hK K
            try simp only [Act.put, List.setIfInBounds_toArray, List.set_cons_zero, List.set_cons_succ]
            refine wpAnyH_ready (rs := [11]) (by kernel_rfl) (by simp) ?_
            refine AllReadyH.cons rfl (fun K hK => ?_) AllReadyH.nil
            go_simp
            refine (HUn.out _ iA ic hbb hva3).mono ?_
            rintro e w5 ⟨hb5, uk, un, um, ui, ud, vA5, ul5, vc5, rfl, hq⟩
            have hbb5 := hbb.trans (hb5.mono hbb.size)
            have hz5 := (hb5.block wr.heap.size (blk_lt hz3)).trans hz3
            have y0 := cell_of_row w5 (wr.heap.size) 0 _ _ (0, 0) hz5
            have y1 := cell_of_row w5 (wr.heap.size) 1 _ _ (0, 0) hz5
            have y2 := cell_of_row w5 (wr.heap.size) 2 _ _ (0, 0) hz5
            have y3 := cell_of_row w5 (wr.heap.size) 3 _ _ (0, 0) hz5
            have y4 := cell_of_row w5 (wr.heap.size) 4 _ _ (0, 0) hz5
            have y5 := cell_of_row w5 (wr.heap.size) 5 _ _ (0, 0) hz5
            have z0 := frozen_of_row w5 (wr.heap.size) 0 _ _ hz5
            have z1 := frozen_of_row w5 (wr.heap.size) 1 _ _ hz5
            have z2 := frozen_of_row w5 (wr.heap.size) 2 _ _ hz5
            have z3 := frozen_of_row w5 (wr.heap.size) 3 _ _ hz5
            have z4 := frozen_of_row w5 (wr.heap.size) 4 _ _ hz5
            have z5 := frozen_of_row w5 (wr.heap.size) 5 _ _ hz5
            simp at y0 y1 y2 y3 y4 y5
            go_wp2_with fail
            refine hK.out _ _ (HSX.out _ hbb5) (fun hHeld5 => ?_)
            clear hK K
            try simp only [Act.put, List.setIfInBounds_toArray, List.set_cons_zero, List.set_cons_succ]
            refine wpAnyH_take (i := 12) (oi := { dst := some 151, op := Op.move (Operand.tmp 163), type := 108, pos := "ref.go:196", after := #[{ on := 11, ground := Ground.data }], guard := none }) (v := ?v19) rfl (by kernel_rfl) (by kernel_rfl) (by kernel_rfl) (fun _ _ _ h => h) (Or.inl ⟨by rfl, ?hy19⟩) (by assumption) ?_
            case hy19 => (intro w hSw; (try dsimp only at hSw); first | (go_simp; done) | (go_simp; with_reducible rfl))
            try simp only [Act.put, List.setIfInBounds_toArray, List.set_cons_zero, List.set_cons_succ]
            refine wpAnyH_take (i := 13) (oi := { dst := some 164, op := Op.extract (Operand.tmp 151) 0, type := 28, pos := "ref.go:196", after := #[{ on := 12, ground := Ground.data }], guard := none }) (v := ?v20) rfl (by kernel_rfl) (by kernel_rfl) (by kernel_rfl) (fun _ _ _ h => h) (Or.inl ⟨by rfl, ?hy20⟩) (by assumption) ?_
            case hy20 => (intro w hSw; (try dsimp only at hSw); first | (go_simp; done) | (go_simp; with_reducible rfl))
            try simp only [Act.put, List.setIfInBounds_toArray, List.set_cons_zero, List.set_cons_succ]
            refine wpAnyH_take (i := 14) (oi := { dst := some 165, op := Op.extract (Operand.tmp 151) 1, type := 4, pos := "ref.go:196", after := #[{ on := 12, ground := Ground.data }, { on := 16, ground := Ground.gcOnly Departure.lateStores }], guard := none }) (v := ?v21) rfl (by kernel_rfl) (by kernel_rfl) (by kernel_rfl) (fun _ _ _ h => h) (Or.inl ⟨by rfl, ?hy21⟩) (by assumption) ?_
            case hy21 => (intro w hSw; (try dsimp only at hSw); first | (go_simp; done) | (go_simp; with_reducible rfl))
            try simp only [Act.put, List.setIfInBounds_toArray, List.set_cons_zero, List.set_cons_succ]
            refine wpAnyH_ready (rs := [16]) (by kernel_rfl) (by simp) ?_
            refine AllReadyH.cons rfl (fun K hK => ?_) AllReadyH.nil
            go_simp
            refine hK.out _ _ (HSX.out _ ((((((hbb5.setCell (by simp) _).setCell (by simp) _).setCell (by simp) _).setCell (by simp) _).setCell (by simp) _).setCell (by simp) _)) (fun hHeld9 => ?_)
            clear hK K
            try simp only [Act.put, List.setIfInBounds_toArray, List.set_cons_zero, List.set_cons_succ]
            refine wpAnyH_take (i := 17) (oi := { dst := some 18, op := Op.assign (Operand.tmp 165), type := 4, pos := "ref.go:196", after := #[{ on := 14, ground := Ground.data }, { on := 16, ground := Ground.chain }, { on := 0, ground := Ground.phase }, { on := 1, ground := Ground.phase }, { on := 2, ground := Ground.phase }, { on := 3, ground := Ground.phase }, { on := 4, ground := Ground.phase }, { on := 5, ground := Ground.phase }, { on := 6, ground := Ground.phase }, { on := 7, ground := Ground.phase }, { on := 8, ground := Ground.phase }, { on := 9, ground := Ground.phase }, { on := 10, ground := Ground.phase }, { on := 11, ground := Ground.phase }, { on := 12, ground := Ground.phase }, { on := 13, ground := Ground.phase }, { on := 14, ground := Ground.phase }, { on := 15, ground := Ground.phase }, { on := 16, ground := Ground.phase }], guard := none }) (v := ?v22) rfl (by kernel_rfl) (by kernel_rfl) (by kernel_rfl) (fun _ _ _ h => h) (Or.inl ⟨by rfl, ?hy22⟩) (by assumption) ?_
            case hy22 => (intro w hSw; (try dsimp only at hSw); first | (go_simp; done) | (go_simp; with_reducible rfl))
            try simp only [Act.put, List.setIfInBounds_toArray, List.set_cons_zero, List.set_cons_succ]
            refine wpAnyH_done (by kernel_rfl) ?_ _
            (try go_wp2)
            go_meet
            exact ⟨_, rfl, rfl, UbC.congr (UbC.early hbb hb5 (Nat.le_refl _) hz3 hq) rfl rfl rfl rfl⟩

        case rest => 
          obtain ⟨p, rfl, rfl, hbc, hXp, hsl⟩ := hcut
          obtain ⟨Wc, rfl⟩ : ∃ X, X = wc := ⟨_, rfl⟩
          have hRc := HT.out.2.1.keep hbc
          obtain ⟨vA, vc, rfl⟩ := own_formR HT.out.2.1.own
          clear e0 e1 e2 e3 e4 e5 m0 m1
          obtain ⟨hBw, hzX, hyr, _, _, e0, e1, e2, e3, e4, e5, m0, m1⟩ := HC.out Wc hRc.bw
          cases he : decide (E2 = 0) with
          | false =>
            have HE2 := Lib.hid (show E2 ≠ 0 by simpa using he)
            clear he
            have HQ3 := Lib.hid (show Q.1 = E2 by
              rw [HQ2.out, HT.out.2.2.2.2.2.2.2.1.out, Fo.pt, RbJ_err Hq'.out HE2.out]
              simp only
              rw [if_neg HE2.out])
            have HBx := Lib.hid hBw
            clear hbc hsl hRc hBw
            have y0 := cell_of_row Wc (w.heap.size + 1 + 1) 0 _ _ (0, 0) hyr
            have y1 := cell_of_row Wc (w.heap.size + 1 + 1) 1 _ _ (0, 0) hyr
            have y2 := cell_of_row Wc (w.heap.size + 1 + 1) 2 _ _ (0, 0) hyr
            have y3 := cell_of_row Wc (w.heap.size + 1 + 1) 3 _ _ (0, 0) hyr
            have y4 := cell_of_row Wc (w.heap.size + 1 + 1) 4 _ _ (0, 0) hyr
            have y5 := cell_of_row Wc (w.heap.size + 1 + 1) 5 _ _ (0, 0) hyr
            have z0 := frozen_of_row Wc (w.heap.size + 1 + 1) 0 _ _ hyr
            have z1 := frozen_of_row Wc (w.heap.size + 1 + 1) 1 _ _ hyr
            have z2 := frozen_of_row Wc (w.heap.size + 1 + 1) 2 _ _ hyr
            have z3 := frozen_of_row Wc (w.heap.size + 1 + 1) 3 _ _ hyr
            have z4 := frozen_of_row Wc (w.heap.size + 1 + 1) 4 _ _ hyr
            have z5 := frozen_of_row Wc (w.heap.size + 1 + 1) 5 _ _ hyr
            simp at y0 y1 y2 y3 y4 y5
            have HS := Lib.hid (six_set hyr (.int .i64 k) (.string n) (.string m) (.int .i64 i) (.int .i64 d) (.slice (some ⟨bb, o, none⟩) s.len c))
            go_wp2
            have hs := HS.out
            have s0 := cell_of_row _ (w.heap.size + 1 + 1) 0 _ _ (0, 0) hs
            have s1 := cell_of_row _ (w.heap.size + 1 + 1) 1 _ _ (0, 0) hs
            have s2 := cell_of_row _ (w.heap.size + 1 + 1) 2 _ _ (0, 0) hs
            have s3 := cell_of_row _ (w.heap.size + 1 + 1) 3 _ _ (0, 0) hs
            have s4 := cell_of_row _ (w.heap.size + 1 + 1) 4 _ _ (0, 0) hs
            have s5 := cell_of_row _ (w.heap.size + 1 + 1) 5 _ _ (0, 0) hs
            have hBf : Below w.heap.size w ((((((Wc.setCell ⟨w.heap.size + 1 + 1, 0, none⟩ (.int .i64 k)).setCell ⟨w.heap.size + 1 + 1, 1, none⟩ (.string n)).setCell ⟨w.heap.size + 1 + 1, 2, none⟩ (.string m)).setCell ⟨w.heap.size + 1 + 1, 3, none⟩ (.int .i64 i)).setCell ⟨w.heap.size + 1 + 1, 4, none⟩ (.int .i64 d)).setCell ⟨w.heap.size + 1 + 1, 5, none⟩ (.slice (some ⟨bb, o, none⟩) s.len c)) := ((((((HBx.out.setCell (by simp; omega) _).setCell (by simp; omega) _).setCell (by simp; omega) _).setCell (by simp; omega) _).setCell (by simp; omega) _).setCell (by simp; omega) _)
            clear hs
            generalize ((((((Wc.setCell ⟨w.heap.size + 1 + 1, 0, none⟩ (.int .i64 k)).setCell ⟨w.heap.size + 1 + 1, 1, none⟩ (.string n)).setCell ⟨w.heap.size + 1 + 1, 2, none⟩ (.string m)).setCell ⟨w.heap.size + 1 + 1, 3, none⟩ (.int .i64 i)).setCell ⟨w.heap.size + 1 + 1, 4, none⟩ (.int .i64 d)).setCell ⟨w.heap.size + 1 + 1, 5, none⟩ (.slice (some ⟨bb, o, none⟩) s.len c)) = W9 at s0 s1 s2 s3 s4 s5 hBf ⊢
            simp at s0 s1 s2 s3 s4 s5
            refine bodyPost_ret (v := .tuple #[.agg #[.int .i64 k, .string n, .string m, .int .i64 i, .int .i64 d, .slice (some ⟨bb, o, none⟩) s.len c], .bool false]) (by simp [results, Tryz.results71, go_sem, s0, s1, s2, s3, s4, s5]) rfl ?_
            exact BdR.err hBf (by rw [HQ3.out]; exact HE2.out)
          | true =>
            obtain rfl : E2 = 0 := by simpa using he
            clear he
            obtain ⟨t', A2, c2, hpt, hsl', hp⟩ := hsl rfl
            simp only at hpt hp
            have hpl := blk_lt hp
            have b0 := cell_of_row Wc p 0 _ _ (0, 0) hp
            have b1 := cell_of_row Wc p 1 _ _ (0, 0) hp
            have b2 := cell_of_row Wc p 2 _ _ (0, 0) hp
            have b3 := cell_of_row Wc p 3 _ _ (0, 0) hp
            have b4 := cell_of_row Wc p 4 _ _ (0, 0) hp
            have b5 := cell_of_row Wc p 5 _ _ (0, 0) hp
            have n5 := cell_of_row Wc W1.heap.size 5 _ _ (0, 0) hRc.nb
            simp at b0 b1 b2 b3 b4 b5 n5
            have hR8 := hRc.keep ((Below.refl Wc.heap.size Wc).alloc (Nat.le_refl _) (.cells #[.int .i64 qk, .string qn, .string qm, .int .i64 qi, .int .i64 qd, .slice A2 t'.len c2] 28))
            have HNW := Lib.hid (show ∀ Y : World, (Wc.alloc (.cells #[.int .i64 qk, .string qn, .string qm, .int .i64 qi, .int .i64 qd, .slice A2 t'.len c2] 28)).grownBy Y (Value.slice vA t.len vc).ownBlock → Y.cell? ⟨W1.heap.size, 5, none⟩ = some (.slice vA t.len vc) ∧ Y.frozen? ⟨W1.heap.size, 5, none⟩ = false from fun Y hg => by
              have h1 : Y.heap[W1.heap.size]? = _ := (hg.block _ (blk_lt hR8.nb) (fun e => by have := (World.ownsRow.lt hR8.own _ e.symm).1; omega)).trans hR8.nb
              exact ⟨by simpa using cell_of_row Y _ 5 _ _ (0, 0) h1, frozen_of_row Y _ 5 _ _ h1⟩)
            have hwl := blk_lt HT.out.2.1.nb
            have HSl := Lib.hid (show t'.SlP (Wc.alloc (.cells #[.int .i64 qk, .string qn, .string qm, .int .i64 qi, .int .i64 qd, .slice A2 t'.len c2] 28)) (fun q => W1.heap.size < q ∧ q < (Wc.alloc (.cells #[.int .i64 qk, .string qn, .string qm, .int .i64 qi, .int .i64 qd, .slice A2 t'.len c2] 28)).heap.size ∧ (Value.slice vA t.len vc).ownBlock ≠ some q) A2 c2 by
              refine hsl'.keep (fun k hk => ⟨by omega, by simp; omega, fun e => ?_⟩) fun z hz => ?_
              · have := (World.ownsRow.lt HT.out.2.1.own _ e).2
                omega
              · exact World.cell?_alloc_lt Wc _ z hz.2)
            have htl := HT.out.2.2.2.2.2.2.1
            have hjs := HT.out.2.2.2.2.2.2.2.2.2.1
            have HO7 := Lib.hid hRc.own
            have HR8 := Lib.hid hR8
            have HPt := Lib.hid hpt
            have HBc := Lib.hid hbc
            have m1' : t.len + 1 ≤ maxLen := by unfold maxLen; omega
            have m2' : (t.len + 1) * 80 ≤ 140737488355328 := by omega
            have m3' : W1.heap.size + 1 ≤ (Wc.alloc (.cells #[.int .i64 qk, .string qn, .string qm, .int .i64 qi, .int .i64 qd, .slice A2 t'.len c2] 28)).heap.size := by have := blk_lt hR8.nb; omega
            have HM := Lib.hid (And.intro m1' (And.intro m2' m3'))
            clear m1' m2' m3' htl hjs hsl' hp hR8 hpt hsl hRc hBw hbc hpl hwl e0 e1 e2 e3 e4 e5 m0 m1 hyr
            go_wp2_with (at_builtin; refine wpList_append_own_at _ rfl _ _ 26 rfl (W1.heap.size + 1) 28 i0 _ 6 80 Tryz.underlying26 hi hz0 hz1 hz2 rfl (by decide) _ _ _ rfl (HO7.out.alloc _) ⟨Wc.heap.size, 0, none⟩ 1 1 [.int .i64 qk, .string qn, .string qm, .int .i64 qi, .int .i64 qd, .slice A2 t'.len c2] rfl rfl (newsE_at (heap_alloc_new _ _)) (by simp [Value.oneCell']) HM.out.1 HM.out.2.1 HM.out.2.2 ?_; intro v9 w9 hown9 hg9 _ hat9; have HS9 := Lib.hid (And.intro hown9 (And.intro hg9 hat9)); obtain ⟨n9, f9⟩ := HNW.out w9 hg9; obtain ⟨g9, c9, rfl⟩ := ownsRow_succ hown9; clear hown9 hg9 hat9)
            go_roundg r'.len
            case measure => rw [HT.out.1]; omega
            case rel =>
              have hP := HR8.out.push HS9.out.2.1 HSl.out HS9.out.1 HS9.out.2.2
              have htl := HT.out.2.2.2.2.2.2.1
              have hjs := HT.out.2.2.2.2.2.2.2.2.2.1
              refine ⟨j + 1, r', t.app (.cons qk qn qm qi qd A2 c2 t' .nil), _, rfl, by omega, by go_num, HT.out.2.2.2.1, HT.out.2.2.2.2.1, HT.out.2.2.2.2.2.1, fun hne => ⟨bb, o, rfl, hbb, ?_⟩, hP, by rw [Fo.len_app]; simp only [Fo.len]; omega, Lib.hid ?_, by have := HT.out.2.2.2.2.2.2.2.2.1; omega⟩
              · have hz1' := HZ1.out
                have h1 := HT.out.2.2.1
                rw [show o + j * 6 + 6 = o + (j + 1) * 6 by omega] at h1
                refine h1.keep (Nat.le_refl _) (fun z hz => ?_) hbb
                have hz' : z.block < W1.heap.size := by omega
                exact (hP.bw.cell hz').trans (HT.out.2.1.bw.cell hz').symm
              · rw [HT.out.2.2.2.2.2.2.2.1.out, Fo.pt, RbJ_step Hq'.out rfl, Fo.pt_app]
                simp only [Fo.pt, HPt.out]
theorem bound24_any (hkn : ∀ x ∈ known, ∀ s ∈ x.sigs, s.name.size ≤ 9223372036854775807) (hus : ∀ u ∈ uses, u.size ≤ 9223372036854775807) (s : Fo) : BdOK uses ds known uA uc dA dc kA kc s := Fo.by_parts (bd_step uses ds known uA uc dA dc kA kc hkn hus) s
end
end Go.Proofs.YtacjjkbkhpdhnaaGreatDoor
