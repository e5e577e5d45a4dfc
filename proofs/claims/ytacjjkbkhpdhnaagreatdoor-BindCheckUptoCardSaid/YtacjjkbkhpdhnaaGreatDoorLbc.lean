/- law24.BindCheck -/
import Derived.Test.YtacjjkbkhpdhnaaGreatDoorZpb
import Derived.Test.YtacjjkbkhpdhnaaGreatDoorZpa
import Derived.Test.YtacjjkbkhpdhnaaGreatDoorZpk
import Derived.Deep.RegionHeld3
import Derived.Deep.DeepCutAuto
namespace Go.Proofs.YtacjjkbkhpdhnaaGreatDoor
open Go.RowKit Go.Proofs Go.Shelf

theorem below_drewC {B : Nat} {w w' : World} (h : Below B w w') : Below B w w'.drew := ⟨h.os, h.tape, h.output, h.size, h.block⟩
theorem own_slN {w : World} {base : Nat} {v : Value} {l : List (ByteArray × Int)} (h : w.ownsRow base 71 2 v l.length (namesC l)) : ∃ A c, v = .slice A l.length c ∧ SlN w w.heap.size A c l := by
  obtain ⟨A, c, rfl⟩ := own_formR h
  exact ⟨A, c, rfl, SlN.of_own h⟩
theorem slN_to {X X' Y : World} {A : Option Addr} {c : Nat} {l : List (ByteArray × Int)} (h : SlN X X.heap.size A c l) (e : X' = X ∨ X' = X.drew) (hb : Below X'.heap.size X' Y) : SlN Y Y.heap.size A c l := by
  rcases e with rfl | rfl
  · exact h.below hb
  · exact (h.below (below_drewC (Below.refl _ _))).below hb
theorem cnt_small {n m : ByteArray} {s : Fo} (h : greatE n m s = false) (hc : s.count ≤ 2000000) : s.count ≤ 100000 := by
  simp only [greatE, Bool.or_eq_false_iff, decide_eq_false_iff_not] at h
  have hw : wrap64 (1 + (s.count : Int)) = 1 + s.count := wrap64_small (by omega) (by omega)
  rw [hw] at h
  have h1 := h.1
  clear hw h
  omega
/-- What a call does that gives a list of names. -/
def RfP (R : List (ByteArray × Int)) (W X : World) (e : Ending) (Y : World) : Prop := ∃ A c, e = .returned (.slice A R.length c) ∧ SlN Y Y.heap.size A c R ∧ Below X.heap.size X Y ∧ Below W.heap.size W Y
set_option maxRecDepth 100000 in
set_option maxHeartbeats 16000000 in
theorem lawBindCheck_any (label : ByteArray) (uses : List ByteArray) (uA : Option Addr) (uc : Nat) (ds : List Dc) (dA : Option Addr) (dc : Nat) (lb : ByteArray) (k : Int) (n m : ByteArray) (i d : Int) (A : Option Addr) (c : Nat) (s : Fo) (w : World)
    (hu : SlS w w.heap.size uA uc uses) (hd : SlD w w.heap.size dA dc ds) (hs : s.Sl w w.heap.size A c) (hcn : ∀ x ∈ ds, x.s.count ≤ 2000000) (hcs : s.count ≤ 2000000) :
    Calls Tryz.prog 3 #[.agg #[.string label, .slice uA uses.length uc, .slice dA ds.length dc], .string lb, .agg #[.int .i64 k, .string n, .string m, .int .i64 i, .int .i64 d, .slice A s.len c]] w fun e w' => e = .returned (.bool true) ∧ Below w.heap.size w w' := by
  obtain ⟨M, HM⟩ : ∃ Q, Hid (uses.length = Q) := ⟨_, Lib.hid rfl⟩
  obtain ⟨N, HN⟩ : ∃ Q, Hid (ds.length = Q) := ⟨_, Lib.hid rfl⟩
  obtain ⟨L, HL⟩ : ∃ Q, Hid (s.len = Q) := ⟨_, Lib.hid rfl⟩
  have hul := hu.1
  have hul2 := hu.2.1
  have hdl := hd.1
  have hdl2 := hd.2.1
  have hsl := hs.1
  have hsl2 := hs.2.1
  unfold maxLen at hul2 hdl2 hsl2
  rw [HM.out] at hul ⊢
  rw [HN.out] at hdl ⊢
  rw [HL.out] at hsl ⊢
  obtain ⟨W0, hW0⟩ : ∃ W0, (w.alloc (.cells #[.string label, .slice uA M uc, .slice dA N dc] 25)).alloc (.cells #[.int .i64 k, .string n, .string m, .int .i64 i, .int .i64 d, .slice A L c] 28) = W0 := ⟨_, rfl⟩
  have hb0 : Below w.heap.size w W0 := by rw [← hW0]; exact ((Below.refl _ _).alloc (Nat.le_refl _) _).alloc (by simp) _
  have hz0 : W0.heap.size = w.heap.size + 2 := by rw [← hW0]; simp
  have hm0 : W0.heap[w.heap.size]? = some (.cells #[.string label, .slice uA M uc, .slice dA N dc] 25 (0, 0)) := by rw [← hW0]; exact (Below.heap_alloc _ _ _ (by simp)).trans (heap_alloc_new w _)
  have hx0 : W0.heap[w.heap.size + 1]? = some (.cells #[.int .i64 k, .string n, .string m, .int .i64 i, .int .i64 d, .slice A L c] 28 (0, 0)) := by
    have h := heap_alloc_new (w.alloc (.cells #[.string label, .slice uA M uc, .slice dA N dc] 25)) (.cells #[.int .i64 k, .string n, .string m, .int .i64 i, .int .i64 d, .slice A L c] 28)
    rw [hW0] at h
    simpa using h
  have HX := Lib.hid (show ∀ X : World, Below W0.heap.size W0 X → Below w.heap.size w X ∧ SlS X X.heap.size uA uc uses ∧ SlD X X.heap.size dA dc ds ∧ s.Sl X X.heap.size A c from fun X hX => by
    have h1 := hb0.trans (hX.mono hb0.size)
    exact ⟨h1, hu.keep h1.size (fun p hp => h1.cell hp), hd.keep h1.size (fun p hp => h1.cell hp), hs.keep h1.size (fun p hp => h1.cell hp)⟩)
  have HC := Lib.hid (show ∀ X : World, Below W0.heap.size W0 X → X.cell? ⟨w.heap.size, 0, none⟩ = some (.string label) ∧ X.cell? ⟨w.heap.size, 1, none⟩ = some (.slice uA M uc) ∧ X.cell? ⟨w.heap.size, 2, none⟩ = some (.slice dA N dc) ∧
      X.cell? ⟨w.heap.size + 1, 0, none⟩ = some (.int .i64 k) ∧ X.cell? ⟨w.heap.size + 1, 1, none⟩ = some (.string n) ∧ X.cell? ⟨w.heap.size + 1, 2, none⟩ = some (.string m) ∧ X.cell? ⟨w.heap.size + 1, 3, none⟩ = some (.int .i64 i) ∧ X.cell? ⟨w.heap.size + 1, 4, none⟩ = some (.int .i64 d) ∧ X.cell? ⟨w.heap.size + 1, 5, none⟩ = some (.slice A L c) from fun X hX => by
    have h1 := (hX.block _ (by omega)).trans hm0
    have h2 := (hX.block _ (by omega)).trans hx0
    exact ⟨cell_of_row X _ 0 _ _ (0, 0) h1, cell_of_row X _ 1 _ _ (0, 0) h1, cell_of_row X _ 2 _ _ (0, 0) h1, cell_of_row X _ 0 _ _ (0, 0) h2, cell_of_row X _ 1 _ _ (0, 0) h2, cell_of_row X _ 2 _ _ (0, 0) h2, cell_of_row X _ 3 _ _ (0, 0) h2, cell_of_row X _ 4 _ _ (0, 0) h2, cell_of_row X _ 5 _ _ (0, 0) h2⟩)
  obtain ⟨G1, HG1⟩ : ∃ Q, Hid (greatM label uses ds = Q) := ⟨_, Lib.hid rfl⟩
  obtain ⟨G2, HG2⟩ : ∃ Q, Hid (greatE n m s = Q) := ⟨_, Lib.hid rfl⟩
  have HGr1 := Lib.hid (show ∀ X : World, Below W0.heap.size W0 X → Calls Tryz.prog 9 #[.agg #[.string label, .slice uA M uc, .slice dA N dc]] X (fun e Y => e = .returned (.bool G1) ∧ Below W0.heap.size W0 Y) from fun X hX => by
    have h := great24_any label uses uA uc ds dA dc X (HX.out X hX).2.1 (HX.out X hX).2.2.1
    rw [HM.out, HN.out, HG1.out] at h
    exact h.mono fun _ _ ⟨h1, h2⟩ => ⟨h1, hX.trans (h2.mono hX.size)⟩)
  have HGr2 := Lib.hid (show ∀ X : World, Below W0.heap.size W0 X → Calls Tryz.prog 10 #[.agg #[.int .i64 k, .string n, .string m, .int .i64 i, .int .i64 d, .slice A L c]] X (fun e Y => e = .returned (.bool G2) ∧ Below W0.heap.size W0 Y) from fun X hX => by
    have h := great21_any k n m i d A c s X (HX.out X hX).2.2.2
    rw [HL.out, HG2.out] at h
    exact h.mono fun _ _ ⟨h1, h2⟩ => ⟨h1, hX.trans (h2.mono hX.size)⟩)
  have HAw := Lib.hid (show ∀ X : World, Below W0.heap.size W0 X → Calls Tryz.prog 11 #[] X (fun e Y => e = .returned (.bool true) ∧ Below W0.heap.size W0 Y) from fun X hX => (awake24_any X).mono fun _ _ ⟨h1, h2⟩ => ⟨h1, hX.trans (h2.mono hX.size)⟩)
  have HN2 := Lib.hid (And.intro hcn hcs)
  obtain ⟨x0, x1, x2, y0, y1, y2, y3, y4, y5⟩ := HC.out W0 (Below.refl _ _)
  clear hu hd hs hcn hcs hb0 hz0 hm0 hx0
  cases G1 with
  | true =>
    go_enter Tryz.func3, Tryz.ntmps3
    go_wp2_with fail
    refine (HGr1.out _ (Below.refl _ _)).mono ?_
    rintro e w1 ⟨rfl, hb1⟩
    clear x0 x1 x2 y0 y1 y2 y3 y4 y5 hW0
    have HA := Lib.hid (HAw.out w1 hb1)
    clear hb1
    go_wp2_with fail
    refine HA.out.mono ?_
    rintro e w2 ⟨rfl, hb2⟩
    have HB2 := Lib.hid (HX.out w2 hb2).1
    clear hb2
    go_wp2
    go_ret
    exact ⟨rfl, HB2.out⟩
  | false =>
  by_cases hlb : 120 < lb.size
  · have hlb1 : decide ((lb.size : Int) > 120) = true := by simp; omega
    have hlb2 : decide (lb.size > 120) = true := by simp; omega
    have hlb3 : decide (120 < lb.size) = true := by simp; omega
    have hlb4 : decide ((120 : Int) < (lb.size : Int)) = true := by simp; omega
    go_enter Tryz.func3, Tryz.ntmps3
    go_wp2_with fail
    refine (HGr1.out _ (Below.refl _ _)).mono ?_
    rintro e w1 ⟨rfl, hb1⟩
    clear x0 x1 x2 y0 y1 y2 y3 y4 y5 hW0
    have HA := Lib.hid (HAw.out w1 hb1)
    clear hb1
    go_wp2_with fail
    refine HA.out.mono ?_
    rintro e w2 ⟨rfl, hb2⟩
    have HB2 := Lib.hid (HX.out w2 hb2).1
    clear hb2
    go_wp2
    go_ret
    exact ⟨rfl, HB2.out⟩
  have HLb := Lib.hid hlb
  have hlb1 : decide ((lb.size : Int) > 120) = false := by simp; omega
  have hlb2 : decide (lb.size > 120) = false := by simp; omega
  have hlb3 : decide (120 < lb.size) = false := by simp; omega
  have hlb4 : decide ((120 : Int) < (lb.size : Int)) = false := by simp; omega
  cases G2 with
  | true =>
    go_enter Tryz.func3, Tryz.ntmps3
    go_wp2_with fail
    refine (HGr1.out _ (Below.refl _ _)).mono ?_
    rintro e w1 ⟨rfl, hb1⟩
    clear x0 x1 x2 y0 y1 y2 y3 y4 y5 hW0
    obtain ⟨x0, x1, x2, y0, y1, y2, y3, y4, y5⟩ := HC.out w1 hb1
    have HG := Lib.hid (HGr2.out w1 hb1)
    clear hb1
    go_wp2_with fail
    refine HG.out.mono ?_
    rintro e w2 ⟨rfl, hb2⟩
    have HA := Lib.hid (HAw.out w2 hb2)
    clear hb2 x0 x1 x2 y0 y1 y2 y3 y4 y5
    go_wp2_with fail
    refine HA.out.mono ?_
    rintro e w3 ⟨rfl, hb3⟩
    have HB3 := Lib.hid (HX.out w3 hb3).1
    clear hb3
    go_wp2
    go_ret
    exact ⟨rfl, HB3.out⟩
  | false =>
  obtain ⟨E, HE⟩ : ∃ Q, Hid (checkE label uses ds = Q) := ⟨_, Lib.hid rfl⟩
  obtain ⟨al, Hal⟩ : ∃ Q, Hid (aliasB lb = Q) := ⟨_, Lib.hid rfl⟩
  obtain ⟨R, HR⟩ : ∃ Q, Hid (refsOf (Fo.cons k n m i d A c s .nil).vis = Q) := ⟨_, Lib.hid rfl⟩
  obtain ⟨RL, HRL⟩ : ∃ Q, Hid (R.length = Q) := ⟨_, Lib.hid rfl⟩
  have HSm := Lib.hid (cnt_small HG2.out HN2.out.2)
  have HMS := Lib.hid (small_mod' HG1.out HN2.out.1).1
  have HK1 := Lib.hid (show ∀ X : World, Below W0.heap.size W0 X → Calls Tryz.prog 12 #[.agg #[.string label, .slice uA M uc, .slice dA N dc]] X (fun e Y => e = .returned (.int .i64 E) ∧ Below W0.heap.size W0 Y) from fun X hX => by
    have h := bCheck_any label uses uA uc ds dA dc X (HX.out X hX).2.1 (HX.out X hX).2.2.1
    rw [HM.out, HN.out, HE.out] at h
    exact h.mono fun _ _ ⟨h1, h2⟩ => ⟨h1, hX.trans (h2.mono hX.size)⟩)
  have HK2 := Lib.hid (show ∀ X : World, Below W0.heap.size W0 X → Calls Tryz.prog 13 #[.agg #[.string label, .slice uA M uc, .slice dA N dc]] X (fun e Y => e = .returned (.int .i64 E) ∧ Below W0.heap.size W0 Y) from fun X hX => by
    have h := check24_any label uses uA uc ds dA dc X (HX.out X hX).2.1 (HX.out X hX).2.2.1 HMS.out
    rw [HM.out, HN.out, HE.out] at h
    exact h.mono fun _ _ ⟨h1, h2⟩ => ⟨h1, hX.trans (h2.mono hX.size)⟩)
  have HK3 := Lib.hid (show ∀ X : World, Below W0.heap.size W0 X → Calls Tryz.prog 14 #[.string lb] X (fun e Y => e = .returned (.string al) ∧ Below W0.heap.size W0 Y) from fun X hX => by
    have h := alias_any lb X
    rw [Hal.out] at h
    exact h.mono fun _ _ ⟨h1, h2⟩ => ⟨h1, hX.trans (h2.mono hX.size)⟩)
  have HK4 := Lib.hid (show ∀ X : World, Below W0.heap.size W0 X → Calls Tryz.prog 15 #[.string lb] X (fun e Y => e = .returned (.string al) ∧ Below W0.heap.size W0 Y) from fun X hX => by
    have h := alias24_any lb X (by have := HLb.out; omega)
    rw [Hal.out] at h
    exact h.mono fun _ _ ⟨h1, h2⟩ => ⟨h1, by rw [← h2]; exact hX⟩)
  have HK5 := Lib.hid (show ∀ X : World, Below W0.heap.size W0 X → Calls Tryz.prog 17 #[.agg #[.int .i64 k, .string n, .string m, .int .i64 i, .int .i64 d, .slice A L c]] X (RfP R W0 X) from fun X hX => by
    have h := refs_any k n m i d A c s X (HX.out X hX).2.2.2 HSm.out
    rw [HL.out, HR.out] at h
    exact h.mono fun _ _ ⟨v, he, ho, hb⟩ => by
      obtain ⟨A1, c1, rfl, hs⟩ := own_slN ho
      exact ⟨A1, c1, he, hs, hb, hX.trans (hb.mono hX.size)⟩)
  have HK6 := Lib.hid (show ∀ X : World, Below W0.heap.size W0 X → Calls Tryz.prog 18 #[.agg #[.int .i64 k, .string n, .string m, .int .i64 i, .int .i64 d, .slice A L c]] X (RfP R W0 X) from fun X hX => by
    have h := refs24_top k n m i d A c s X (HX.out X hX).2.2.2 HSm.out
    rw [HL.out, nodeRef_eq k n m i d A c s, HR.out] at h
    exact h.mono fun _ _ ⟨A1, c1, he, ho, hb⟩ => ⟨A1, c1, he, SlN.of_own ho, hb, hX.trans (hb.mono hX.size)⟩)
  have HK7 := Lib.hid (show ∀ (X : World) (A1 : Option Addr) (c1 : Nat) (A2 : Option Addr) (c2 : Nat), Below W0.heap.size W0 X → SlN X X.heap.size A1 c1 R → SlN X X.heap.size A2 c2 R → Calls Tryz.prog 16 #[.slice A1 RL c1, .slice A2 RL c2] X (fun e Y => e = .returned (.bool true) ∧ Below W0.heap.size W0 Y) from fun X A1 c1 A2 c2 hX h1 h2 => by
    have h := sameNames_any R R A1 c1 A2 c2 X h1 h2
    rw [HRL.out, decide_eq_true rfl] at h
    exact h.mono fun _ _ ⟨h1, q, h2⟩ => ⟨h1, by rw [h2]; exact below_drewN hX q⟩)
  have hee : (E == E) = true := by simp
  have haa : (al.toList == al.toList) = true := by simp
  have HBz := Lib.hid (Below.refl W0.heap.size W0)
  go_enter Tryz.func3, Tryz.ntmps3
  go_wp2_with fail
  refine (HGr1.out _ (Below.refl _ _)).mono ?_
  rintro e w1 ⟨rfl, hb1⟩
  clear x0 x1 x2 y0 y1 y2 y3 y4 y5 hW0
  obtain ⟨x0, x1, x2, y0, y1, y2, y3, y4, y5⟩ := HC.out w1 hb1
  have HG := Lib.hid (HGr2.out w1 hb1)
  clear hb1
  go_wp2_with fail
  refine HG.out.mono ?_
  rintro e w2 ⟨rfl, hb2⟩
  clear x0 x1 x2 y0 y1 y2 y3 y4 y5 HBz
  obtain ⟨x0, x1, x2, y0, y1, y2, y3, y4, y5⟩ := HC.out w2 hb2
  have HBz := Lib.hid hb2
  clear hb2
  go_wp2_with fail
  go_region_held3 (fun X => X.cell? ⟨w.heap.size, 0, none⟩ = some (.string label) ∧ X.cell? ⟨w.heap.size, 1, none⟩ = some (.slice uA M uc) ∧ X.cell? ⟨w.heap.size, 2, none⟩ = some (.slice dA N dc) ∧
      X.cell? ⟨w.heap.size + 1, 0, none⟩ = some (.int .i64 k) ∧ X.cell? ⟨w.heap.size + 1, 1, none⟩ = some (.string n) ∧ X.cell? ⟨w.heap.size + 1, 2, none⟩ = some (.string m) ∧ X.cell? ⟨w.heap.size + 1, 3, none⟩ = some (.int .i64 i) ∧ X.cell? ⟨w.heap.size + 1, 4, none⟩ = some (.int .i64 d) ∧ X.cell? ⟨w.heap.size + 1, 5, none⟩ = some (.slice A L c))
    (focus (refine HC.out _ ?_; (first | with_reducible exact HBz.out | with_reducible exact below_drewC HBz.out)))
    (first
      | (go_at_call 12; (with_reducible refine Calls.mono (HK1.out _ ?_) ?_); (focus (first | with_reducible exact HBz.out | with_reducible exact below_drewC HBz.out)); rintro e Y ⟨rfl, hbY⟩; have HBz := Lib.hid hbY; clear hbY)
      | (go_at_call 13; (with_reducible refine Calls.mono (HK2.out _ ?_) ?_); (focus (first | with_reducible exact HBz.out | with_reducible exact below_drewC HBz.out)); rintro e Y ⟨rfl, hbY⟩; have HBz := Lib.hid hbY; clear hbY)
      | (go_at_call 14; (with_reducible refine Calls.mono (HK3.out _ ?_) ?_); (focus (first | with_reducible exact HBz.out | with_reducible exact below_drewC HBz.out)); rintro e Y ⟨rfl, hbY⟩; have HBz := Lib.hid hbY; clear hbY)
      | (go_at_call 15; (with_reducible refine Calls.mono (HK4.out _ ?_) ?_); (focus (first | with_reducible exact HBz.out | with_reducible exact below_drewC HBz.out)); rintro e Y ⟨rfl, hbY⟩; have HBz := Lib.hid hbY; clear hbY)
      | (go_at_call 17; (with_reducible refine Calls.mono (HK5.out _ ?_) ?_); (focus (first | with_reducible exact HBz.out | with_reducible exact below_drewC HBz.out)); rintro e Y ⟨A1, c1, rfl, hs1, hbX, hbY⟩; have HBz := Lib.hid hbY; have HS1 := Lib.hid hs1; rw [HRL.out]; clear hbY hbX hs1)
      | (go_at_call 18; (with_reducible refine Calls.mono (HK6.out _ ?_) ?_); (focus (first | with_reducible exact HBz.out | with_reducible exact below_drewC HBz.out)); rintro e Y ⟨A2, c2, rfl, hs2, hbX, hbY⟩; have HBz := Lib.hid hbY; have HS2 := Lib.hid (And.intro hs2 (slN_to HS1.out (by first | exact .inl rfl | exact .inr rfl) hbX)); rw [HRL.out]; clear hbY hbX hs2)
      | (go_at_call 16; (with_reducible refine Calls.mono (HK7.out _ _ _ _ _ ?_ ?_ ?_) ?_); (focus (first | with_reducible exact HBz.out | with_reducible exact below_drewC HBz.out)); (focus (first | exact HS2.out.2 | exact HS2.out.2.below (below_drewC (Below.refl _ _)))); (focus (first | exact HS2.out.1 | exact HS2.out.1.below (below_drewC (Below.refl _ _)))); rintro e Y ⟨rfl, hbY⟩; have HBz := Lib.hid hbY; clear hbY)
      | (go_at_call 11; (with_reducible refine Calls.mono (HAw.out _ ?_) ?_); (focus (first | with_reducible exact HBz.out | with_reducible exact below_drewC HBz.out)); rintro e Y ⟨rfl, hbY⟩; have HBz := Lib.hid hbY; clear hbY))
  all_goals (
    clear x0 x1 x2 y0 y1 y2 y3 y4 y5
    go_wp2
    go_ret
    exact ⟨rfl, (HX.out _ HBz.out).1⟩)
end Go.Proofs.YtacjjkbkhpdhnaaGreatDoor
