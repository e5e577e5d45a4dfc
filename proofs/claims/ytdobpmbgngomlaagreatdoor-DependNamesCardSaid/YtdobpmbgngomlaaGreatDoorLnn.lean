/- law40.DependNames answers true -/
import Derived.Test.YtdobpmbgngomlaaGreatDoorZno
import Derived.Test.YtdobpmbgngomlaaGreatDoorZnn
import Derived.Deep.DeepCutAuto
import Derived.Deep.QuietTactic
import Derived.BigQuiet
import Derived.IntWalk
import Derived.Deep.AppendLies
import Derived.Deep.RegionHeld3
namespace Go.Proofs.YtdobpmbgngomlaaGreatDoor
open Go.RowKit Go.Proofs Go.Shelf

theorem tmod_nat {a : Int} (ha : 0 ≤ a) {N : Nat} (hN : 0 < N) : ∃ k : Nat, Int.tmod a (N : Int) = (k : Int) ∧ k < N := by
  have h1 := Int.emod_nonneg a (show (N : Int) ≠ 0 by omega)
  have h2 := Int.emod_lt_of_pos a (show (0 : Int) < N by omega)
  refine ⟨(a % N).toNat, ?_, by omega⟩
  rw [Int.tmod_eq_emod_of_nonneg ha]
  omega
set_option maxRecDepth 100000 in
set_option maxHeartbeats 16000000 in
theorem lawDNames_any (l : List Mo) (n : ByteArray × Int) (a id : Int) (name : ByteArray) (A : Option Addr) (c : Nat) (w : World) (hl : SlM w w.heap.size A c l) (hn : NOk n) (hw : MoW l) (ha : 0 ≤ a ∧ a ≤ 255) :
    Calls Tryz.prog 9 #[.slice A l.length c, .agg #[.string n.1, .int .i64 n.2], .int .u8 a, .int .i64 id, .string name] w fun e w' => e = .returned (.bool true) ∧ Below w.heap.size w w' := by
  obtain ⟨W0, hW0⟩ : ∃ W0, w.alloc (.cells #[.string n.1, .int .i64 n.2] 24) = W0 := ⟨_, rfl⟩
  have hb0 : Below w.heap.size w W0 := by subst hW0; exact (Below.refl _ _).alloc (Nat.le_refl _) _
  have hz0 : W0.heap.size = w.heap.size + 1 := by subst hW0; simp
  have n0 : W0.cell? ⟨w.heap.size, 0, none⟩ = some (.string n.1) := by subst hW0; go_simp
  have n1 : W0.cell? ⟨w.heap.size, 1, none⟩ = some (.int .i64 n.2) := by subst hW0; go_simp
  have hz1 : w.heap.size < W0.heap.size := by omega
  have HK := Lib.hid (show ∀ X : World, Below W0.heap.size W0 X → X.cell? ⟨w.heap.size, 0, none⟩ = some (.string n.1) ∧ X.cell? ⟨w.heap.size, 1, none⟩ = some (.int .i64 n.2) from fun X hX =>
    ⟨(hX.cell (p := ⟨w.heap.size, 0, none⟩) hz1).trans n0, (hX.cell (p := ⟨w.heap.size, 1, none⟩) hz1).trans n1⟩)
  have HL := Lib.hid (show ∀ X : World, Below w.heap.size w X → SlM X X.heap.size A c l from fun X hX => (hl.below hX).keep hX.size (fun _ _ => rfl))
  obtain ⟨N, HN⟩ : ∃ Q, Hid (l.length = Q) := ⟨_, Lib.hid rfl⟩
  have HG := Lib.hid (great40_any l A c W0 (HL.out W0 hb0))
  obtain ⟨g, Hg⟩ : ∃ Q, Hid (greatL l = Q) := ⟨_, Lib.hid rfl⟩
  rw [HN.out, Hg.out] at HG
  rw [HN.out]
  have HW := Lib.hid (And.intro hn (And.intro hw hl))
  have HB0 := Lib.hid hb0
  have HZ0 := Lib.hid hz0
  have HAw := Lib.hid (show ∀ X : World, Below w.heap.size w X → Calls Tryz.prog 11 #[] X fun e Y => e = .returned (.bool true) ∧ Below w.heap.size w Y from fun X hX => (awake40_any X).mono fun e Y ⟨h1, h2⟩ => ⟨h1, hX.trans (h2.mono hX.size)⟩)
  obtain ⟨ha0, ha1⟩ := ha
  clear hn hw hl hb0 hz0 hz1 n0 n1
  go_enter Tryz.func9, Tryz.ntmps9
  cases g with
  | true =>
    go_wp2_with fail
    refine HG.out.mono ?_
    rintro e1 w1 ⟨rfl, hb1⟩
    have HA1 := Lib.hid (HAw.out w1 (HB0.out.trans (hb1.mono HB0.out.size)))
    clear hb1 hW0
    go_wp2_with fail
    refine HA1.out.mono ?_
    rintro e2 w2 ⟨rfl, hb2⟩
    have HB2 := Lib.hid hb2
    clear hb2
    go_wp2
    go_ret
    exact ⟨rfl, HB2.out⟩
  | false =>
    have hLen := (greatL_le Hg.out).1
    rw [HN.out] at hLen
    go_wp2_with fail
    refine HG.out.mono ?_
    rintro e1 w1 ⟨rfl, hb1⟩
    have HB1 := Lib.hid (And.intro hb1 (HB0.out.trans (hb1.mono HB0.out.size)))
    clear hb1 HG hW0
    by_cases hN0 : N = 0
    · subst hN0
      have HA1 := Lib.hid (HAw.out w1 HB1.out.2)
      go_wp2_with fail
      refine HA1.out.mono ?_
      rintro e2 w2 ⟨rfl, hb2⟩
      have HB2 := Lib.hid hb2
      clear hb2
      go_wp2
      go_ret
      exact ⟨rfl, HB2.out⟩
    by_cases hnm : name.size ≤ 100
    rotate_left
    · have hN1 : ((N : Int) == 0) = false := by simpa using hN0
      have HA1 := Lib.hid (HAw.out w1 HB1.out.2)
      go_wp2_with fail
      refine HA1.out.mono ?_
      rintro e2 w2 ⟨rfl, hb2⟩
      have HB2 := Lib.hid hb2
      clear hb2
      go_wp2
      go_ret
      exact ⟨rfl, HB2.out⟩
    have hN1 : ((N : Int) == 0) = false := by simpa using hN0
    obtain ⟨k, hk, hkN⟩ := tmod_nat ha0 (N := N) (by omega)
    have hlt' : k < l.length := by rw [HN.out]; exact hkN
    obtain ⟨m, hm⟩ : ∃ m, l[k]? = some m := ⟨_, List.getElem?_eq_getElem hlt'⟩
    obtain ⟨b, ob, rfl, hbb, d0, d1, d2, hok⟩ := (HL.out w1 HB1.out.2).at_ hm
    have hnd := (greatL_le Hg.out).2 m (List.mem_of_getElem? hm)
    obtain ⟨nu, HNU⟩ : ∃ Q, Hid (m.uses.length = Q) := ⟨_, Lib.hid rfl⟩
    obtain ⟨nd, HND⟩ : ∃ Q, Hid (m.ds.length = Q) := ⟨_, Lib.hid rfl⟩
    rw [HNU.out] at d1
    rw [HND.out] at d2 hnd
    have hrn := rename_any m.label m.uses m.uA m.uc m.ds m.dA m.dc id name w1 hok.1 hok.2
    rw [HNU.out, HND.out] at hrn
    have HRN := Lib.hid hrn
    have HM := Lib.hid (And.intro hm hlt')
    have hk0 : (0 : Int) ≤ (k : Int) := by omega
    have hk1 : (k : Int) < (N : Int) := by omega
    have hk2 : (N : Int) ≤ 4 := by omega
    have hN2 : (N : Int) ≠ 0 := by omega
    clear hrn hok hm hlt' hbb
    go_wp2_with fail
    refine HRN.out.mono ?_
    rintro e2 w2 ⟨lb, a1, u1, c1, a2, u2, c2, er, rfl, hb2, hren⟩
    have hb12 := HB1.out.1.trans (hb2.mono HB1.out.1.size)
    have HREN := Lib.hid hren
    obtain ⟨W3, hW3⟩ : ∃ W3, w2.alloc (.cells #[.string lb, .slice a1 u1 c1, .slice a2 u2 c2] 41) = W3 := ⟨_, rfl⟩
    have hb3 : Below w2.heap.size w2 W3 := by rw [← hW3]; exact (Below.refl _ _).alloc (Nat.le_refl _) _
    have hz3 : w2.heap.size < W3.heap.size := by rw [← hW3]; simp
    have hr3 : W3.heap[w2.heap.size]? = some (.cells #[.string lb, .slice a1 u1 c1, .slice a2 u2 c2] 41 (0, 0)) := by rw [← hW3]; exact heap_alloc_new w2 _
    have hb03 := hb12.trans (hb3.mono hb12.size)
    have H3 := Lib.hid (And.intro hb03 (And.intro (HB0.out.trans (hb03.mono HB0.out.size)) (And.intro hr3 (And.intro hz3 hb3))))
    clear hb2 hb12 hb3 hr3 hz3 hb03 hren HRN d0 d1 d2
    by_cases her : er = 0
    rotate_left
    · have her' : (er != 0) = true := by simpa using her
      have HA3 := Lib.hid (HAw.out W3 H3.out.2.1)
      clear her
      go_wp2_with fail
      refine HA3.out.mono ?_
      rintro e4 w4 ⟨rfl, hb4⟩
      have HB4 := Lib.hid hb4
      clear hb4
      go_wp2
      go_ret
      exact ⟨rfl, HB4.out⟩
    subst her
    obtain ⟨rfl, rfl, h5, rfl, h6, hnB, hE0, q, x, nA, hx, _, hsd⟩ := HREN.out rfl
    rw [HNU.out] at h5
    rw [HND.out] at h6
    subst h5 h6
    have HY := Lib.hid (show ∀ X : World, Below w.heap.size w X → Calls Tryz.prog 14 #[.slice (some ⟨b, ob, none⟩) N c, .agg #[.string n.1, .int .i64 n.2]] X (KeyP l n X) from fun X hX => by
      have := dKey_any l n (some ⟨b, ob, none⟩) c X (HL.out X hX) HW.out.1 HW.out.2.1 (by have := greatL_tot Hg.out; omega) (by have := greatL_le Hg.out; omega) (fun h => ⟨_, uok_of Hg.out h⟩)
      rwa [HN.out] at this)
    have HY3 := Lib.hid (HY.out W3 H3.out.2.1)
    obtain ⟨n0, n1⟩ := HK.out W3 H3.out.1
    -- the new list
    obtain ⟨m', Hm'⟩ : ∃ m', Hid (renM m a2 c2 q x nA name = m') := ⟨_, Lib.hid rfl⟩
    have hme : m.err = 0 := hE0
    have hst : StMs (fun _ => True) l (l.set k m') := stMs_set HM.out.1 (by rw [← Hm'.out]; exact renM_st hx)
    have hm'e : m'.err = 0 := by rw [← Hm'.out]; exact renM_err hme hx hnB
    have hch : chkL (l.set k m') = chkL l := chkL_set HM.out.1 hme hm'e
    have hcm : ∀ X : World, Below W3.heap.size W3 X → m'.Ok X X.heap.size := fun X hX => by
      rw [← Hm'.out]
      have h1 := H3.out.2.1.trans (hX.mono H3.out.2.1.size)
      obtain ⟨_, _, _, _, _, _, _, hok⟩ := (HL.out X h1).at_ HM.out.1
      have h2 : w2.heap.size ≤ X.heap.size := Nat.le_trans (Nat.le_of_lt H3.out.2.2.2.1) hX.size
      have h3 := H3.out.2.2.2.2.trans (hX.mono H3.out.2.2.2.2.size)
      exact ⟨hok.1, hsd.keep h2 fun p hp => h3.cell hp⟩
    have hmc : m'.cells.toList = [.string m.label, .slice m.uA u1 m.uc, .slice a2 u2 c2] := by
      rw [← Hm'.out]
      unfold renM Mo.cells
      simp only [List.length_set]
      rw [HNU.out, HND.out]
    have hmow : MoW (l.set k m') := stMs_mow hst HW.out.2.1
    have htot : totD (l.set k m') ≤ 1000000 := by rw [stMs_tot hst]; have := greatL_tot Hg.out; omega
    have hlen' : (l.set k m').length = N := by rw [List.length_set, HN.out]
    have hu' : chkL (l.set k m') = 0 → ∃ U, UOk (l.set k m') n U := fun h => ⟨_, uok_of4 h (by rw [hlen']; omega) fun z hz => by
      obtain ⟨j, hj⟩ := List.getElem?_of_mem hz
      have hjl : j < l.length := by have := (List.getElem?_eq_some_iff.1 hj).1; rwa [List.length_set] at this
      rcases List.mem_or_eq_of_mem_set hz with h1 | h1
      · exact (greatL_le Hg.out).2 z h1
      · rw [h1, ← Hm'.out, show (renM m a2 c2 q x nA name).ds.length = m.ds.length from List.length_set ..]
        exact (greatL_le Hg.out).2 m (List.mem_of_getElem? HM.out.1)⟩
    have HFin0 := Lib.hid (show ∀ (X Y : World) (v : Value), Below w.heap.size w X → Below W3.heap.size W3 Y → Below w.heap.size w Y → Y.ownsRow X.heap.size 41 3 v (0 + k + 1 + (N - (k + 1))) ([] ++ moC (l.take k) ++ [.string m.label, .slice m.uA u1 m.uc, .slice a2 u2 c2] ++ moC (l.drop (k + 1))) → ∃ zA zc, v = .slice zA N zc ∧ Calls Tryz.prog 14 #[.slice zA N zc, .agg #[.string n.1, .int .i64 n.2]] Y (KeyP (l.set k m') n Y) from fun X Y v hX hY3 hY hown => by
      have e1 : 0 + k + 1 + (N - (k + 1)) = N := by omega
      rw [e1, List.nil_append, ← hmc, ← moC_set HM.out.2] at hown
      obtain ⟨zA, zc, rfl, hsl⟩ := slM_of_own hlen' hown (ren_ok HW.out.2.2 hY (hcm Y hY3))
      refine ⟨zA, zc, rfl, ?_⟩
      have := dKey_any (l.set k m') n zA zc Y hsl HW.out.1 hmow htot (by rw [hlen']; omega) hu'
      rwa [hlen'] at this)
    have HV := Lib.hid (And.intro hst hch)
    clear hme hst hm'e hch hcm hmc hmow htot hlen' hu' hx hsd hnB hE0
    go_wp2_with fail
    refine HY3.out.mono ?_
    intro e4 w4 hp4
    obtain ⟨hb4, s4, er4, rfl, hv4⟩ := hp4.u
    have hb34 := H3.out.1.trans (hb4.mono H3.out.1.size)
    have hbw4 := H3.out.2.1.trans (hb4.mono H3.out.2.1.size)
    have HV4 := Lib.hid (And.intro hv4 (And.intro hb4 (And.intro hb34 hbw4)))
    have hr4 := (hb4.block _ H3.out.2.2.2.1).trans H3.out.2.2.1
    have HKc := Lib.hid (show ∀ Y : World, Below w4.heap.size w4 Y → Y.cell? ⟨w.heap.size, 0, none⟩ = some (.string n.1) ∧ Y.cell? ⟨w.heap.size, 1, none⟩ = some (.int .i64 n.2) ∧ Y.cell? ⟨w2.heap.size, 0, none⟩ = some (.string m.label) ∧ Y.cell? ⟨w2.heap.size, 1, none⟩ = some (.slice m.uA u1 m.uc) ∧ Y.cell? ⟨w2.heap.size, 2, none⟩ = some (.slice a2 u2 c2) from fun Y hY => by
      obtain ⟨h1, h2⟩ := HK.out Y (hb34.trans (hY.mono hb34.size))
      have h3 := (hY.block _ (Array.getElem?_eq_some_iff.1 hr4).1).trans hr4
      exact ⟨h1, h2, cell_of_row Y _ 0 _ _ (0, 0) h3, cell_of_row Y _ 1 _ _ (0, 0) h3, cell_of_row Y _ 2 _ _ (0, 0) h3⟩)
    have HFin := Lib.hid (show ∀ (Y : World) (v : Value), Below w4.heap.size w4 Y → Y.ownsRow w4.heap.size 41 3 v (0 + k + 1 + (N - (k + 1))) ([] ++ moC (l.take k) ++ [.string m.label, .slice m.uA u1 m.uc, .slice a2 u2 c2] ++ moC (l.drop (k + 1))) → ∃ zA zc, v = .slice zA N zc ∧ Calls Tryz.prog 14 #[.slice zA N zc, .agg #[.string n.1, .int .i64 n.2]] Y (KeyP (l.set k m') n Y) from fun Y v hY hown => HFin0.out w4 Y v hbw4 (hb4.trans (hY.mono hb4.size)) (hbw4.trans (hY.mono hbw4.size)) hown)
    clear hp4 hv4 hb4 hb34 hr4 n0 n1 HFin0
    go_wp2_with fail
    obtain ⟨i0, hi, hz0, hz1, hz2⟩ := info_parts Tryz.infoModule
    have hb0 : Below w4.heap.size w4 w4.drew := below_drew' (Below.refl _ _)
    have HSl := Lib.hid (show ∀ Y : World, Below w4.heap.size w4 Y → SlM Y Y.heap.size (some ⟨b, ob, none⟩) c l from fun Y hY => HL.out Y (hbw4.trans (hY.mono hbw4.size)))
    have HNw := Lib.hid (fun Y (hY : Below w4.heap.size w4 Y) => (HSl.out Y hY).newsT k)
    have HL1 := Lib.hid (show (moC (l.take k)).length = k * 3 by rw [moC_length, List.length_take, HN.out]; omega)
    have HL3 := Lib.hid (show (moC (l.drop (k + 1))).length = (N - (k + 1)) * 3 by rw [moC_length, List.length_drop, HN.out])
    have HO1 := Lib.hid (World.ownsRow_lit (base := w4.heap.size) (e := 41) (size := 3) w4.drew #[] 0 (Nat.le_refl _) (by simp) rfl)
    have HO2 := Lib.hid (HO1.out.alloc (.cells #[.string m.label, .slice m.uA u1 m.uc, .slice a2 u2 c2] 41))
    have ho3 := World.ownsRow_lit (base := w4.heap.size) (e := 41) (size := 3) (w4.drew.alloc (.cells #[.string m.label, .slice m.uA u1 m.uc, .slice a2 u2 c2] 41)) #[] 0 (by simp) (by simp) rfl
    rw [show (w4.drew.alloc (.cells #[.string m.label, .slice m.uA u1 m.uc, .slice a2 u2 c2] 41)).heap.size = w4.heap.size + 1 by simp] at ho3
    have HO3 := Lib.hid ho3
    clear ho3
    have hba : Below w4.heap.size w4 (w4.drew.alloc (.cells #[] 41)) := hb0.alloc (Nat.le_refl _) _
    have hbb : Below w4.heap.size w4 ((w4.drew.alloc (.cells #[] 41)).alloc (.cells #[.string m.label, .slice m.uA u1 m.uc, .slice a2 u2 c2] 41)) := hba.alloc hba.size _
    have hbn : Below w4.heap.size w4 (w4.drew.alloc (.cells #[.string m.label, .slice m.uA u1 m.uc, .slice a2 u2 c2] 41)) := hb0.alloc (Nat.le_refl _) _
    have hbc : Below w4.heap.size w4 ((w4.drew.alloc (.cells #[.string m.label, .slice m.uA u1 m.uc, .slice a2 u2 c2] 41)).alloc (.cells #[] 41)) := hbn.alloc hbn.size _
    have HNa := Lib.hid (HNw.out _ hba)
    have HNb := Lib.hid (HNw.out _ hbb)
    have HNc := Lib.hid (HNw.out _ hbc)
    have HGa := Lib.hid (fun w1 (hg : (w4.drew.alloc (.cells #[] 41)).grownBy w1 (Value.slice (some ⟨w4.drew.heap.size, 0, none⟩) 0 0).ownBlock) => hba.grown hg hba.size (fun q hq => (HO1.out.lt q hq).1))
    have HGb := Lib.hid (fun w1 (hg : ((w4.drew.alloc (.cells #[] 41)).alloc (.cells #[.string m.label, .slice m.uA u1 m.uc, .slice a2 u2 c2] 41)).grownBy w1 (Value.slice (some ⟨w4.drew.heap.size, 0, none⟩) 0 0).ownBlock) => And.intro (hbb.grown hg hbb.size (fun q hq => (HO1.out.lt q hq).1)) (show w1.heap[w4.heap.size + 1]? = some (.cells #[.string m.label, .slice m.uA u1 m.uc, .slice a2 u2 c2] 41 (0, 0)) from (hg.block (w4.heap.size + 1) (by simp) (fun h => by have := Option.some.inj h; change w4.heap.size + 1 = w4.heap.size at this; omega)).trans (by have := heap_alloc_new (w4.drew.alloc (.cells #[] 41)) (.cells #[.string m.label, .slice m.uA u1 m.uc, .slice a2 u2 c2] 41); rwa [show (w4.drew.alloc (.cells #[] 41)).heap.size = w4.heap.size + 1 by simp] at this)))
    have HGc := Lib.hid (fun w1 (hg : ((w4.drew.alloc (.cells #[.string m.label, .slice m.uA u1 m.uc, .slice a2 u2 c2] 41)).alloc (.cells #[] 41)).grownBy w1 (Value.slice (some ⟨w4.heap.size + 1, 0, none⟩) 0 0).ownBlock) => And.intro (hbc.grown hg hbc.size (fun q hq => (HO3.out.lt q hq).1)) (show w1.heap[w4.heap.size]? = some (.cells #[.string m.label, .slice m.uA u1 m.uc, .slice a2 u2 c2] 41 (0, 0)) from (hg.block w4.heap.size (by simp; omega) (fun h => by have := Option.some.inj h; change w4.heap.size = w4.heap.size + 1 at this; omega)).trans (by rw [Below.heap_alloc _ _ _ (by simp)]; exact heap_alloc_new w4.drew _)))
    have m1 : 0 + k ≤ maxLen := by unfold maxLen; omega
    have m2 : (0 + k) * 64 ≤ 140737488355328 := by omega
    have m3 : 0 + k + 1 ≤ maxLen := by unfold maxLen; omega
    have m4 : (0 + k + 1) * 64 ≤ 140737488355328 := by omega
    have m5 : 0 + k + 1 + (N - (k + 1)) ≤ maxLen := by unfold maxLen; omega
    have m6 : (0 + k + 1 + (N - (k + 1))) * 64 ≤ 140737488355328 := by omega
    have HMx := Lib.hid (And.intro m1 (And.intro m2 (And.intro m3 (And.intro m4 (And.intro m5 m6)))))
    have HBB := Lib.hid (And.intro hba (And.intro hbb hbc))
    have HB0' := Lib.hid (And.intro hb0 hbn)
    have hNc := (HSl.out w4 (Below.refl _ _)).1
    rw [HN.out] at hNc
    have i3' : (k : Int) ≤ (c : Int) := by omega
    have i4' : k ≤ c := by omega
    have i5' : (k : Int) + 1 ≤ (N : Int) := by omega
    have i7' : 0 ≤ (k : Int) + 1 := by omega
    clear m1 m2 m3 m4 m5 m6 hba hbb hbc hb0 hbn
    have hcs : c = k + 1 ∨ ¬ c = k + 1 := by omega
    rcases hcs with hc1 | hc1
    · have HNd := Lib.hid (show ∀ Y, Below w4.heap.size w4 Y → ∀ ad, (some ⟨b, ob, none⟩ : Option Addr) = some ad → ∀ j u, (moC (l.drop (k + 1)))[j]? = some u → Y.cell? (ad.add j) = some u from fun Y _ ad _ j u hu => by
        rw [List.drop_eq_nil_of_le (by rw [HN.out]; omega)] at hu
        simp [moC] at hu)
      have hN1 : N - (k + 1) = 0 := by omega
      rw [hN1] at HL3 HFin HMx
      subst hc1
      have j1' : (k : Int) ≤ (k : Int) + 1 := by omega
      have j2' : k ≤ k + 1 := by omega
      have j3' : (k : Int) ≤ ((k + 1 : Nat) : Int) := by omega
      have i8' : IntKind.i64.wrap ((k : Int) + 1) = (k : Int) + 1 := IntWalk.i64_in _ (by omega)
      have i9' : ((k : Int) + 1).toNat = k + 1 := by omega
      go_region_held3 (fun Y => Y.cell? ⟨w.heap.size, 0, none⟩ = some (.string n.1) ∧ Y.cell? ⟨w.heap.size, 1, none⟩ = some (.int .i64 n.2) ∧ Y.cell? ⟨w2.heap.size, 0, none⟩ = some (.string m.label) ∧ Y.cell? ⟨w2.heap.size, 1, none⟩ = some (.slice m.uA u1 m.uc) ∧ Y.cell? ⟨w2.heap.size, 2, none⟩ = some (.slice a2 u2 c2))
        (first | exact HKc.out _ hb6' | exact HKc.out _ hb3' | exact HKc.out _ hb2' | exact HKc.out _ hb1' | exact HKc.out _ (hb1'.alloc hb1'.size _) | exact HKc.out _ HB0'.out.1 | exact HKc.out _ HB0'.out.2 | exact HKc.out _ HBB.out.1 | exact HKc.out _ HBB.out.2.1 | exact HKc.out _ HBB.out.2.2)
        (first
          | (refine step_append_any _ rfl (.tmp 56) (.tmp 59) 22 rfl w4.heap.size 41 i0 _ 3 64 Tryz.underlying22 hi hz0 hz1 hz2 rfl (by decide) _ 0 [] rfl HO1.out _ _ _ (moC (l.take k)) rfl HL1.out (fun h => nomatch h) HNa.out (moC_one _) HMx.out.1 HMx.out.2.1 HBB.out.1.size ?_; intro v1 w1' hown1 hg1; have hb1' := HGa.out w1' hg1; have tokA : True := trivial)
          | (refine step_append_any _ rfl (.tmp 56) (.tmp 59) 22 rfl w4.heap.size 41 i0 _ 3 64 Tryz.underlying22 hi hz0 hz1 hz2 rfl (by decide) _ 0 [] rfl HO2.out _ _ _ (moC (l.take k)) rfl HL1.out (fun h => nomatch h) HNb.out (moC_one _) HMx.out.1 HMx.out.2.1 HBB.out.2.1.size ?_; intro v1 w1' hown1 hg1; obtain ⟨hb1', hD⟩ := HGb.out w1' hg1; have tokB : True := trivial)
          | (refine step_append_any _ rfl (.tmp 56) (.tmp 59) 22 rfl w4.heap.size 41 i0 _ 3 64 Tryz.underlying22 hi hz0 hz1 hz2 rfl (by decide) _ 0 [] rfl HO3.out _ _ _ (moC (l.take k)) rfl HL1.out (fun h => nomatch h) HNc.out (moC_one _) HMx.out.1 HMx.out.2.1 HBB.out.2.2.size ?_; intro v1 w1' hown1 hg1; obtain ⟨hb1', hD⟩ := HGc.out w1' hg1; have tokC : True := trivial)
          | (have _t := tokA; refine step_append_any _ rfl (.tmp 60) (.tmp 62) 22 rfl w4.heap.size 41 i0 _ 3 64 Tryz.underlying22 hi hz0 hz1 hz2 rfl (by decide) v1 _ _ rfl (hown1.alloc _) (some ⟨w1'.heap.size, 0, none⟩) 1 1 [.string m.label, .slice m.uA u1 m.uc, .slice a2 u2 c2] rfl rfl (fun h => nomatch h) (newsM_new _ _ _ _) (by simp [Value.oneCell']) HMx.out.2.2.1 HMx.out.2.2.2.1 (hb1'.alloc hb1'.size _).size ?_; intro v2 w2' hown2 hg2; have hb2' := (hb1'.alloc hb1'.size (.cells #[.string m.label, .slice m.uA u1 m.uc, .slice a2 u2 c2] 41)).grown hg2 (hb1'.alloc hb1'.size _).size (fun q hq => (hown1.lt q hq).1); have tokD : True := trivial; clear tokA)
          | (have _t := tokB; refine step_append_any _ rfl (.tmp 60) (.tmp 62) 22 rfl w4.heap.size 41 i0 _ 3 64 Tryz.underlying22 hi hz0 hz1 hz2 rfl (by decide) v1 _ _ rfl hown1 (some ⟨w4.heap.size + 1, 0, none⟩) 1 1 [.string m.label, .slice m.uA u1 m.uc, .slice a2 u2 c2] rfl rfl (fun h => nomatch h) (newsM_at hD) (by simp [Value.oneCell']) HMx.out.2.2.1 HMx.out.2.2.2.1 hb1'.size ?_; intro v2 w2' hown2 hg2; have hb2' := hb1'.grown hg2 hb1'.size (fun q hq => (hown1.lt q hq).1); have tokD : True := trivial; clear tokB)
          | (have _t := tokC; refine step_append_any _ rfl (.tmp 60) (.tmp 62) 22 rfl w4.heap.size 41 i0 _ 3 64 Tryz.underlying22 hi hz0 hz1 hz2 rfl (by decide) v1 _ _ rfl hown1 (some ⟨w4.heap.size, 0, none⟩) 1 1 [.string m.label, .slice m.uA u1 m.uc, .slice a2 u2 c2] rfl rfl (fun h => nomatch h) (newsM_at hD) (by simp [Value.oneCell']) HMx.out.2.2.1 HMx.out.2.2.2.1 hb1'.size ?_; intro v2 w2' hown2 hg2; have hb2' := hb1'.grown hg2 hb1'.size (fun q hq => (hown1.lt q hq).1); have tokD : True := trivial; clear tokC)
          | (have _t := tokD; refine step_append_any _ rfl (.tmp 63) (.tmp 67) 22 rfl w4.heap.size 41 i0 _ 3 64 Tryz.underlying22 hi hz0 hz1 hz2 rfl (by decide) v2 _ _ rfl hown2 _ _ _ (moC (l.drop (k + 1))) rfl HL3.out (fun h => nomatch h) (HNd.out _ hb2') (moC_one _) HMx.out.2.2.2.2.1 HMx.out.2.2.2.2.2 hb2'.size ?_; intro v3 w3' hown3 hg3; have hb3' := hb2'.grown hg3 hb2'.size (fun q hq => (hown2.lt q hq).1); obtain ⟨zA, zc, rfl, hKey⟩ := HFin.out w3' v3 hb3' hown3; have HKey := Lib.hid hKey; have tokE : True := trivial; clear tokD hKey)
          | (go_at_call 14; have _t := tokE; (with_reducible refine Calls.mono HKey.out ?_); intro e6 w6 hp6; obtain ⟨hb6, s6, er6, rfl, hv6⟩ := hp6.u; have hb6' := hb3'.trans (hb6.mono hb3'.size)))
      all_goals (
        obtain ⟨rfl, rfl⟩ := (st_key HV.out.1 HV.out.2 HV4.out.1).unique hv6
        have hb46 := hb3'.trans (hb6.mono hb3'.size)
        have HAf := Lib.hid (HAw.out w6 (HV4.out.2.2.2.trans (hb46.mono HV4.out.2.2.2.size)))
        have hss := toL_beq s4 s4
        rw [decide_eq_true rfl] at hss
        have hee : (er4 == er4) = true := by simp
        clear i8' i9' hv6 hp6 hb6 hb46
        go_wp2_with fail
        refine HAf.out.mono ?_
        rintro e7 w7 ⟨rfl, hb7⟩
        have HB7 := Lib.hid hb7
        clear hb7
        go_wp2
        go_ret
        exact ⟨rfl, HB7.out⟩)
    · have HNd := Lib.hid (fun Y (hY : Below w4.heap.size w4 Y) => (HSl.out Y hY).newsD (k := k + 1) (by rw [HN.out]; omega))
      have i8' : IntKind.i64.wrap ((k : Int) + 1) = (k : Int) + 1 := IntWalk.i64_in _ (by omega)
      have i9' : ((k : Int) + 1).toNat = k + 1 := by omega
      go_region_held3 (fun Y => Y.cell? ⟨w.heap.size, 0, none⟩ = some (.string n.1) ∧ Y.cell? ⟨w.heap.size, 1, none⟩ = some (.int .i64 n.2) ∧ Y.cell? ⟨w2.heap.size, 0, none⟩ = some (.string m.label) ∧ Y.cell? ⟨w2.heap.size, 1, none⟩ = some (.slice m.uA u1 m.uc) ∧ Y.cell? ⟨w2.heap.size, 2, none⟩ = some (.slice a2 u2 c2))
        (first | exact HKc.out _ hb6' | exact HKc.out _ hb3' | exact HKc.out _ hb2' | exact HKc.out _ hb1' | exact HKc.out _ (hb1'.alloc hb1'.size _) | exact HKc.out _ HB0'.out.1 | exact HKc.out _ HB0'.out.2 | exact HKc.out _ HBB.out.1 | exact HKc.out _ HBB.out.2.1 | exact HKc.out _ HBB.out.2.2)
        (first
          | (refine step_append_any _ rfl (.tmp 56) (.tmp 59) 22 rfl w4.heap.size 41 i0 _ 3 64 Tryz.underlying22 hi hz0 hz1 hz2 rfl (by decide) _ 0 [] rfl HO1.out _ _ _ (moC (l.take k)) rfl HL1.out (fun h => nomatch h) HNa.out (moC_one _) HMx.out.1 HMx.out.2.1 HBB.out.1.size ?_; intro v1 w1' hown1 hg1; have hb1' := HGa.out w1' hg1; have tokA : True := trivial)
          | (refine step_append_any _ rfl (.tmp 56) (.tmp 59) 22 rfl w4.heap.size 41 i0 _ 3 64 Tryz.underlying22 hi hz0 hz1 hz2 rfl (by decide) _ 0 [] rfl HO2.out _ _ _ (moC (l.take k)) rfl HL1.out (fun h => nomatch h) HNb.out (moC_one _) HMx.out.1 HMx.out.2.1 HBB.out.2.1.size ?_; intro v1 w1' hown1 hg1; obtain ⟨hb1', hD⟩ := HGb.out w1' hg1; have tokB : True := trivial)
          | (refine step_append_any _ rfl (.tmp 56) (.tmp 59) 22 rfl w4.heap.size 41 i0 _ 3 64 Tryz.underlying22 hi hz0 hz1 hz2 rfl (by decide) _ 0 [] rfl HO3.out _ _ _ (moC (l.take k)) rfl HL1.out (fun h => nomatch h) HNc.out (moC_one _) HMx.out.1 HMx.out.2.1 HBB.out.2.2.size ?_; intro v1 w1' hown1 hg1; obtain ⟨hb1', hD⟩ := HGc.out w1' hg1; have tokC : True := trivial)
          | (have _t := tokA; refine step_append_any _ rfl (.tmp 60) (.tmp 62) 22 rfl w4.heap.size 41 i0 _ 3 64 Tryz.underlying22 hi hz0 hz1 hz2 rfl (by decide) v1 _ _ rfl (hown1.alloc _) (some ⟨w1'.heap.size, 0, none⟩) 1 1 [.string m.label, .slice m.uA u1 m.uc, .slice a2 u2 c2] rfl rfl (fun h => nomatch h) (newsM_new _ _ _ _) (by simp [Value.oneCell']) HMx.out.2.2.1 HMx.out.2.2.2.1 (hb1'.alloc hb1'.size _).size ?_; intro v2 w2' hown2 hg2; have hb2' := (hb1'.alloc hb1'.size (.cells #[.string m.label, .slice m.uA u1 m.uc, .slice a2 u2 c2] 41)).grown hg2 (hb1'.alloc hb1'.size _).size (fun q hq => (hown1.lt q hq).1); have tokD : True := trivial; clear tokA)
          | (have _t := tokB; refine step_append_any _ rfl (.tmp 60) (.tmp 62) 22 rfl w4.heap.size 41 i0 _ 3 64 Tryz.underlying22 hi hz0 hz1 hz2 rfl (by decide) v1 _ _ rfl hown1 (some ⟨w4.heap.size + 1, 0, none⟩) 1 1 [.string m.label, .slice m.uA u1 m.uc, .slice a2 u2 c2] rfl rfl (fun h => nomatch h) (newsM_at hD) (by simp [Value.oneCell']) HMx.out.2.2.1 HMx.out.2.2.2.1 hb1'.size ?_; intro v2 w2' hown2 hg2; have hb2' := hb1'.grown hg2 hb1'.size (fun q hq => (hown1.lt q hq).1); have tokD : True := trivial; clear tokB)
          | (have _t := tokC; refine step_append_any _ rfl (.tmp 60) (.tmp 62) 22 rfl w4.heap.size 41 i0 _ 3 64 Tryz.underlying22 hi hz0 hz1 hz2 rfl (by decide) v1 _ _ rfl hown1 (some ⟨w4.heap.size, 0, none⟩) 1 1 [.string m.label, .slice m.uA u1 m.uc, .slice a2 u2 c2] rfl rfl (fun h => nomatch h) (newsM_at hD) (by simp [Value.oneCell']) HMx.out.2.2.1 HMx.out.2.2.2.1 hb1'.size ?_; intro v2 w2' hown2 hg2; have hb2' := hb1'.grown hg2 hb1'.size (fun q hq => (hown1.lt q hq).1); have tokD : True := trivial; clear tokC)
          | (have _t := tokD; refine step_append_any _ rfl (.tmp 63) (.tmp 67) 22 rfl w4.heap.size 41 i0 _ 3 64 Tryz.underlying22 hi hz0 hz1 hz2 rfl (by decide) v2 _ _ rfl hown2 _ _ _ (moC (l.drop (k + 1))) rfl HL3.out (fun h => nomatch h) (HNd.out _ hb2') (moC_one _) HMx.out.2.2.2.2.1 HMx.out.2.2.2.2.2 hb2'.size ?_; intro v3 w3' hown3 hg3; have hb3' := hb2'.grown hg3 hb2'.size (fun q hq => (hown2.lt q hq).1); obtain ⟨zA, zc, rfl, hKey⟩ := HFin.out w3' v3 hb3' hown3; have HKey := Lib.hid hKey; have tokE : True := trivial; clear tokD hKey)
          | (go_at_call 14; have _t := tokE; (with_reducible refine Calls.mono HKey.out ?_); intro e6 w6 hp6; obtain ⟨hb6, s6, er6, rfl, hv6⟩ := hp6.u; have hb6' := hb3'.trans (hb6.mono hb3'.size)))
      all_goals (
        obtain ⟨rfl, rfl⟩ := (st_key HV.out.1 HV.out.2 HV4.out.1).unique hv6
        have hb46 := hb3'.trans (hb6.mono hb3'.size)
        have HAf := Lib.hid (HAw.out w6 (HV4.out.2.2.2.trans (hb46.mono HV4.out.2.2.2.size)))
        have hss := toL_beq s4 s4
        rw [decide_eq_true rfl] at hss
        have hee : (er4 == er4) = true := by simp
        clear i8' i9' hv6 hp6 hb6 hb46
        go_wp2_with fail
        refine HAf.out.mono ?_
        rintro e7 w7 ⟨rfl, hb7⟩
        have HB7 := Lib.hid hb7
        clear hb7
        go_wp2
        go_ret
        exact ⟨rfl, HB7.out⟩)
end Go.Proofs.YtdobpmbgngomlaaGreatDoor
