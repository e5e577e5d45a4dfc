/- law50.TestselectCertify answers true -/
import Derived.Test.YtdobpmbgngomlaaGreatDoorZnd
import Derived.Test.YtdobpmbgngomlaaGreatDoorZnh
namespace Go.Proofs.YtdobpmbgngomlaaGreatDoor
open Go.RowKit Go.Proofs Go.Shelf

/-- What comes of Certify, in plain words. -/
def RelC (l : List Mo) (n m : ByteArray × Int) (L : List (ByteArray × Int)) (k : ByteArray) (er : Int) : Prop :=
  (er ≠ 0 ∧ CertV l n er none ∧ m = (⟨#[]⟩, 0) ∧ L = [] ∧ k = ⟨#[]⟩) ∨ (er = 0 ∧ CertV l n 0 (some L) ∧ m = n ∧ k = certT l n L)
theorem RelC.unique {l : List Mo} {n m m' : ByteArray × Int} {L L' : List (ByteArray × Int)} {k k' : ByteArray} {er er' : Int} (h : RelC l n m L k er) (h' : RelC l n m' L' k' er') : m = m' ∧ L = L' ∧ k = k' ∧ er = er' := by
  rcases h with ⟨h1, h2, rfl, rfl, rfl⟩ | ⟨rfl, h2, rfl, rfl⟩ <;> rcases h' with ⟨g1, g2, rfl, rfl, rfl⟩ | ⟨rfl, g2, rfl, rfl⟩
  · exact ⟨rfl, rfl, rfl, (h2.unique g2).1⟩
  · have := (h2.unique g2).2; cases this
  · have := (h2.unique g2).2; cases this
  · have := (h2.unique g2).2; cases this; exact ⟨rfl, rfl, rfl, rfl⟩
def CertR (l : List Mo) (n : ByteArray × Int) (w : World) (e : Ending) (w' : World) : Prop :=
  ∃ (m : ByteArray × Int) (L : List (ByteArray × Int)) (A : Option Addr) (c : Nat) (k : ByteArray) (er : Int), e = .returned (.tuple #[.agg #[.string m.1, .int .i64 m.2, .slice A (List.length L) c, .string k], .int .i64 er]) ∧ RelC l n m L k er ∧ SlN w' w'.heap.size A c L ∧ Below w.heap.size w w'
theorem CertP.r {l : List Mo} {n : ByteArray × Int} {w w' : World} {e : Ending} (h : CertP l n w e w') : CertR l n w e w' := by
  obtain ⟨hb, ⟨er, hne, hv, rfl⟩ | ⟨L, A, c, hv, rfl, ho, _⟩⟩ := h
  · exact ⟨(⟨#[]⟩, 0), [], none, 0, ⟨#[]⟩, er, rfl, .inl ⟨hne, hv, rfl, rfl, rfl⟩, SlN.nil _ _ _ _ (Nat.zero_le _), hb⟩
  · exact ⟨n, L, A, c, _, 0, rfl, .inr ⟨rfl, hv, rfl, rfl⟩, SlN.of_own ho, hb⟩
theorem CertQ.r {l : List Mo} {n : ByteArray × Int} {w w' : World} {e : Ending} (h : CertQ l n w e w') : CertR l n w e w' := by
  obtain ⟨hb, ⟨er, hne, hv, rfl⟩ | ⟨L, A, c, hv, rfl, ho⟩⟩ := h
  · exact ⟨(⟨#[]⟩, 0), [], none, 0, ⟨#[]⟩, er, rfl, .inl ⟨hne, hv, rfl, rfl, rfl⟩, SlN.nil _ _ _ _ (Nat.zero_le _), hb⟩
  · exact ⟨n, L, A, c, _, 0, rfl, .inr ⟨rfl, hv, rfl, rfl⟩, ho, hb⟩
theorem VerV.is {l : List Mo} {n : ByteArray × Int} {L' : List (ByteArray × Int)} {k : ByteArray} {b q : Bool} (h : VerV l n L' k b) (hq : q = true ↔ (CertV l n 0 (some L') ∧ certT l n L' = k)) : b = q := by
  rw [Bool.eq_iff_iff]
  exact h.trans hq.symm
set_option maxRecDepth 100000 in
set_option maxHeartbeats 8000000 in
theorem lawCertify_any (l : List Mo) (n o : ByteArray × Int) (P : List (ByteArray × Int)) (kp : ByteArray) (A : Option Addr) (c : Nat) (pA : Option Addr) (pc : Nat) (w : World) (hl : SlM w w.heap.size A c l) (hP : SlN w w.heap.size pA pc P) (hn : NOk n) (ho : NOk o) (hw : MoW l) (hcl : CntL l) :
    Calls Tryz.prog 5 #[.slice A l.length c, .agg #[.string n.1, .int .i64 n.2], .agg #[.string o.1, .int .i64 o.2, .slice pA P.length pc, .string kp]] w fun e w' => e = .returned (.bool true) ∧ Below w.heap.size w w' := by
  obtain ⟨NP, HNP⟩ : ∃ Q, Hid (P.length = Q) := ⟨_, Lib.hid rfl⟩
  rw [HNP.out]
  obtain ⟨W0, hW0⟩ : ∃ W0, (w.alloc (.cells #[.string n.1, .int .i64 n.2] 24)).alloc (.cells #[.string o.1, .int .i64 o.2, .slice pA NP pc, .string kp] 54) = W0 := ⟨_, rfl⟩
  have hb0 : Below w.heap.size w W0 := by subst hW0; exact ((Below.refl _ _).alloc (Nat.le_refl _) _).alloc (by simp) _
  have hz0 : w.heap.size + 1 < W0.heap.size := by subst hW0; simp
  have hr0 : W0.heap[w.heap.size]? = some (.cells #[.string n.1, .int .i64 n.2] 24 (0, 0)) := by rw [← hW0]; simp only [heap_push]; rw [if_neg (by simp), if_pos trivial]
  have hr1 : W0.heap[w.heap.size + 1]? = some (.cells #[.string o.1, .int .i64 o.2, .slice pA NP pc, .string kp] 54 (0, 0)) := by rw [← hW0, heap_push, if_pos (by simp)]
  have HK := Lib.hid (show ∀ X : World, Below W0.heap.size W0 X → X.cell? ⟨w.heap.size, 0, none⟩ = some (.string n.1) ∧ X.cell? ⟨w.heap.size, 1, none⟩ = some (.int .i64 n.2) ∧ X.cell? ⟨w.heap.size + 1, 0, none⟩ = some (.string o.1) ∧ X.cell? ⟨w.heap.size + 1, 1, none⟩ = some (.int .i64 o.2) ∧ X.cell? ⟨w.heap.size + 1, 2, none⟩ = some (.slice pA NP pc) ∧ X.cell? ⟨w.heap.size + 1, 3, none⟩ = some (.string kp) from fun X hX => by
    have h0 := (hX.block _ (Nat.lt_of_succ_lt hz0)).trans hr0
    have h1 := (hX.block _ hz0).trans hr1
    exact ⟨cell_of_row X _ 0 _ _ (0, 0) h0, cell_of_row X _ 1 _ _ (0, 0) h0, cell_of_row X _ 0 _ _ (0, 0) h1, cell_of_row X _ 1 _ _ (0, 0) h1, cell_of_row X _ 2 _ _ (0, 0) h1, cell_of_row X _ 3 _ _ (0, 0) h1⟩)
  have HL := Lib.hid (show ∀ X : World, Below W0.heap.size W0 X → Below w.heap.size w X ∧ SlM X X.heap.size A c l ∧ SlN X X.heap.size pA pc P from fun X hX => by
    have h1 := hb0.trans (hX.mono hb0.size)
    exact ⟨h1, (hl.below h1).keep h1.size (fun _ _ => rfl), hP.below h1⟩)
  have HW := Lib.hid (And.intro hn (And.intro ho (And.intro hw hcl)))
  obtain ⟨N, HN⟩ : ∃ Q, Hid (l.length = Q) := ⟨_, Lib.hid rfl⟩
  have HG := Lib.hid (great50_any l A c o.1 o.2 pA NP pc kp W0 (HL.out W0 (Below.refl _ _)).2.1)
  obtain ⟨g, Hg⟩ : ∃ Q, Hid ((greatL l || decide (30 < NP) || decide (3000 < kp.size)) = Q) := ⟨_, Lib.hid rfl⟩
  rw [HN.out, Hg.out] at HG
  rw [HN.out]
  obtain ⟨n0, n1, o0, o1, o2, o3⟩ := HK.out W0 (Below.refl _ _)
  clear hl hP hn ho hw hcl hb0 hz0 hr0 hr1
  go_enter Tryz.func5, Tryz.ntmps5
  cases g with
  | true =>
    go_wp2_with fail
    refine HG.out.mono ?_
    rintro e w1 ⟨rfl, hb1⟩
    have HB1 := Lib.hid (HL.out w1 hb1).1
    clear hb1
    go_wp2_with fail
    refine (awake50_any _).mono ?_
    rintro e w2 ⟨rfl, hb2⟩
    have HB2 := Lib.hid hb2
    clear hb2
    go_wp2
    go_ret
    exact ⟨rfl, HB1.out.trans (HB2.out.mono HB1.out.size)⟩
  | false =>
    have HGG := Lib.hid (show greatL l = false by
      have := Hg.out
      simp only [Bool.or_eq_false_iff] at this
      exact this.1.1)
    have HMS := Lib.hid (show ∀ m ∈ l, ModS m.label m.uses m.ds from fun m hm => (mods_of HGG.out HW.out.2.2.2 m hm).1)
    have HTT := Lib.hid (show totD l ≤ 1000 by have := greatL_tot HGG.out; omega)
    have HCe := Lib.hid (show ∀ X : World, Below W0.heap.size W0 X → Calls Tryz.prog 26 #[.slice A N c, .agg #[.string n.1, .int .i64 n.2]] X (CertR l n X) from fun X hX => by
      have := tsCertify_any l n A c X (HL.out X hX).2.1 HW.out.1 HW.out.2.2.1 HGG.out
      rw [HN.out] at this
      exact this.mono fun _ _ h => h.r)
    have HCr := Lib.hid (show ∀ X : World, Below W0.heap.size W0 X → Calls Tryz.prog 27 #[.slice A N c, .agg #[.string n.1, .int .i64 n.2]] X (CertR l n X) from fun X hX => by
      have := certify50_any l n A c X (HL.out X hX).2.1 HMS.out HTT.out
      rw [HN.out] at this
      exact this.mono fun _ _ h => h.r)
    obtain ⟨vq, hvq⟩ : ∃ q : Bool, q = true ↔ (CertV l o 0 (some P) ∧ certT l o P = kp) := ⟨@decide _ (Classical.propDecidable (CertV l o 0 (some P) ∧ certT l o P = kp)), by simp⟩
    have HVq := Lib.hid hvq
    clear hvq
    go_wp2_with fail
    refine HG.out.mono ?_
    rintro e w1 ⟨rfl, hb1⟩
    obtain ⟨n0', n1', o0', o1', o2', o3'⟩ := HK.out w1 hb1
    have HC1 := Lib.hid (HCe.out w1 hb1)
    have HB1 := Lib.hid hb1
    clear hb1 n0 n1 o0 o1 o2 o3 hW0
    go_wp2_with fail
    refine HC1.out.mono ?_
    rintro e w2 ⟨m, L, vA, vc, k, er, rfl, hr, hs, hb2⟩
    have hb02 := HB1.out.trans (hb2.mono HB1.out.size)
    obtain ⟨M, HM⟩ : ∃ Q, Hid (L.length = Q) := ⟨_, Lib.hid rfl⟩
    have HR := Lib.hid (And.intro hr hs)
    rw [HM.out]
    obtain ⟨W3, hW3⟩ : ∃ W3, w2.alloc (.cells #[.string m.1, .int .i64 m.2, .slice vA M vc, .string k] 54) = W3 := ⟨_, rfl⟩
    have hb3 : Below w2.heap.size w2 W3 := by rw [← hW3]; exact (Below.refl _ _).alloc (Nat.le_refl _) _
    have hr3 : W3.heap[w2.heap.size]? = some (.cells #[.string m.1, .int .i64 m.2, .slice vA M vc, .string k] 54 (0, 0)) := by rw [← hW3]; exact heap_alloc_new _ _
    have hz3 : w2.heap.size < W3.heap.size := by rw [← hW3]; simp
    have hb03 := hb02.trans (hb3.mono hb02.size)
    have HA := Lib.hid (show ∀ X : World, Below W3.heap.size W3 X → SlN X X.heap.size vA vc L ∧ X.cell? ⟨w2.heap.size, 0, none⟩ = some (.string m.1) ∧ X.cell? ⟨w2.heap.size, 1, none⟩ = some (.int .i64 m.2) ∧ X.cell? ⟨w2.heap.size, 2, none⟩ = some (.slice vA M vc) ∧ X.cell? ⟨w2.heap.size, 3, none⟩ = some (.string k) from fun X hX => by
      have h1 := (hX.block _ hz3).trans hr3
      exact ⟨(HR.out.2.below hb3).below hX, cell_of_row X _ 0 _ _ (0, 0) h1, cell_of_row X _ 1 _ _ (0, 0) h1, cell_of_row X _ 2 _ _ (0, 0) h1, cell_of_row X _ 3 _ _ (0, 0) h1⟩)
    obtain ⟨q0, q1, _, _, _, _⟩ := HK.out W3 hb03
    have HC3 := Lib.hid (HCr.out W3 hb03)
    have HB3 := Lib.hid hb03
    clear hr hs hb2 hb02 hb3 hr3 hz3 hb03 n0' n1' o0' o1' o2' o3'
    go_wp2_with fail
    refine HC3.out.mono ?_
    rintro e w4 ⟨m', L', uA, uc, k', er', rfl, hr', hs', hb4⟩
    obtain ⟨e1, e2, e3, e4⟩ := HR.out.1.unique hr'
    subst e1 e2 e3 e4
    rw [HM.out]
    obtain ⟨W5, hW5⟩ : ∃ W5, w4.alloc (.cells #[.string m.1, .int .i64 m.2, .slice uA M uc, .string k] 54) = W5 := ⟨_, rfl⟩
    have hb5 : Below w4.heap.size w4 W5 := by rw [← hW5]; exact (Below.refl _ _).alloc (Nat.le_refl _) _
    have hr5 : W5.heap[w4.heap.size]? = some (.cells #[.string m.1, .int .i64 m.2, .slice uA M uc, .string k] 54 (0, 0)) := by rw [← hW5]; exact heap_alloc_new _ _
    have hz5 : w4.heap.size < W5.heap.size := by rw [← hW5]; simp
    have hb35 := hb4.trans (hb5.mono hb4.size)
    have hb05 := HB3.out.trans (hb35.mono HB3.out.size)
    have HB5 := Lib.hid (And.intro hb35 hb05)
    have HA5 := Lib.hid (show ∀ X : World, Below W5.heap.size W5 X → SlN X X.heap.size uA uc L ∧ X.cell? ⟨w4.heap.size, 0, none⟩ = some (.string m.1) ∧ X.cell? ⟨w4.heap.size, 1, none⟩ = some (.int .i64 m.2) ∧ X.cell? ⟨w4.heap.size, 2, none⟩ = some (.slice uA M uc) ∧ X.cell? ⟨w4.heap.size, 3, none⟩ = some (.string k) from fun X hX => by
      have h1 := (hX.block _ hz5).trans hr5
      exact ⟨(hs'.below hb5).below hX, cell_of_row X _ 0 _ _ (0, 0) h1, cell_of_row X _ 1 _ _ (0, 0) h1, cell_of_row X _ 2 _ _ (0, 0) h1, cell_of_row X _ 3 _ _ (0, 0) h1⟩)
    have HKK := Lib.hid (show ∀ X : World, Below W5.heap.size W5 X → X.cell? ⟨w2.heap.size, 0, none⟩ = some (.string m.1) ∧ X.cell? ⟨w2.heap.size, 1, none⟩ = some (.int .i64 m.2) ∧ X.cell? ⟨w2.heap.size, 2, none⟩ = some (.slice vA M vc) ∧ X.cell? ⟨w2.heap.size, 3, none⟩ = some (.string k) ∧
        X.cell? ⟨w4.heap.size, 0, none⟩ = some (.string m.1) ∧ X.cell? ⟨w4.heap.size, 1, none⟩ = some (.int .i64 m.2) ∧ X.cell? ⟨w4.heap.size, 2, none⟩ = some (.slice uA M uc) ∧ X.cell? ⟨w4.heap.size, 3, none⟩ = some (.string k) ∧
        X.cell? ⟨w.heap.size + 1, 0, none⟩ = some (.string o.1) ∧ X.cell? ⟨w.heap.size + 1, 1, none⟩ = some (.int .i64 o.2) ∧ X.cell? ⟨w.heap.size + 1, 2, none⟩ = some (.slice pA NP pc) ∧ X.cell? ⟨w.heap.size + 1, 3, none⟩ = some (.string kp) from fun X hX => by
      obtain ⟨_, a0, a1, a2, a3⟩ := HA.out X (HB5.out.1.trans (hX.mono HB5.out.1.size))
      obtain ⟨_, b0, b1, b2, b3⟩ := HA5.out X hX
      obtain ⟨_, _, c0, c1, c2, c3⟩ := HK.out X (HB5.out.2.trans (hX.mono HB5.out.2.size))
      exact ⟨a0, a1, a2, a3, b0, b1, b2, b3, c0, c1, c2, c3⟩)
    have HSa := Lib.hid (show ∀ X : World, Below W5.heap.size W5 X → Calls Tryz.prog 28 #[.agg #[.string m.1, .int .i64 m.2, .slice vA M vc, .string k], .agg #[.string m.1, .int .i64 m.2, .slice uA M uc, .string k]] X (fun e Y => e = .returned (.bool true) ∧ Below W5.heap.size W5 Y) from fun X hX => by
      have h1 := same50_any m m L L k k vA vc uA uc X (HA.out X (HB5.out.1.trans (hX.mono HB5.out.1.size))).1 (HA5.out X hX).1
      rw [HM.out, show sameC50 m m L L k k = true by simp [sameC50]] at h1
      exact h1.mono fun e Y ⟨h2, h3⟩ => ⟨h2, hX.trans (h3.mono hX.size)⟩)
    have HVa := Lib.hid (show ∀ X : World, Below W5.heap.size W5 X → Calls Tryz.prog 29 #[.slice A N c, .agg #[.string o.1, .int .i64 o.2, .slice pA NP pc, .string kp]] X (fun e Y => e = .returned (.bool vq) ∧ Below W5.heap.size W5 Y) from fun X hX => by
      have hX0 := HB5.out.2.trans (hX.mono HB5.out.2.size)
      have h1 := tsVerify_any l o P kp A c pA pc X (HL.out X hX0).2.1 (HL.out X hX0).2.2 HW.out.2.1 HW.out.2.2.1 HGG.out
      rw [HN.out, HNP.out] at h1
      refine h1.mono ?_
      rintro e Y ⟨b, rfl, hv, hb⟩
      exact ⟨by rw [hv.is HVq.out], hX.trans (hb.mono hX.size)⟩)
    have HVb := Lib.hid (show ∀ X : World, Below W5.heap.size W5 X → Calls Tryz.prog 30 #[.slice A N c, .agg #[.string o.1, .int .i64 o.2, .slice pA NP pc, .string kp]] X (fun e Y => e = .returned (.bool vq) ∧ Below W5.heap.size W5 Y) from fun X hX => by
      have hX0 := HB5.out.2.trans (hX.mono HB5.out.2.size)
      have h1 := verify50_any l o P kp A c pA pc X (HL.out X hX0).2.1 (HL.out X hX0).2.2 HMS.out HTT.out
      rw [HN.out, HNP.out] at h1
      refine h1.mono ?_
      rintro e Y ⟨b, rfl, hv, hb⟩
      exact ⟨by rw [hv.is HVq.out], hX.trans (hb.mono hX.size)⟩)
    have HAw := Lib.hid (show ∀ X : World, Below W5.heap.size W5 X → Calls Tryz.prog 20 #[] X (fun e Y => e = .returned (.bool true) ∧ Below W5.heap.size W5 Y) from fun X hX => (awake50_any X).mono fun e Y ⟨h1, h2⟩ => ⟨h1, hX.trans (h2.mono hX.size)⟩)
    have HF := Lib.hid (HL.out W5 hb05).1
    have HBz := Lib.hid (Below.refl W5.heap.size W5)
    have hee : (er == er) = true := by simp
    have hqq : (vq == vq) = true := by simp
    clear hr' hs' hb4 hb5 hr5 hz5 hb35 hb05 q0 q1 hW3
    go_wp2_with fail
    go_region_held3 (fun X => X.cell? ⟨w2.heap.size, 0, none⟩ = some (.string m.1) ∧ X.cell? ⟨w2.heap.size, 1, none⟩ = some (.int .i64 m.2) ∧ X.cell? ⟨w2.heap.size, 2, none⟩ = some (.slice vA M vc) ∧ X.cell? ⟨w2.heap.size, 3, none⟩ = some (.string k) ∧
        X.cell? ⟨w4.heap.size, 0, none⟩ = some (.string m.1) ∧ X.cell? ⟨w4.heap.size, 1, none⟩ = some (.int .i64 m.2) ∧ X.cell? ⟨w4.heap.size, 2, none⟩ = some (.slice uA M uc) ∧ X.cell? ⟨w4.heap.size, 3, none⟩ = some (.string k) ∧
        X.cell? ⟨w.heap.size + 1, 0, none⟩ = some (.string o.1) ∧ X.cell? ⟨w.heap.size + 1, 1, none⟩ = some (.int .i64 o.2) ∧ X.cell? ⟨w.heap.size + 1, 2, none⟩ = some (.slice pA NP pc) ∧ X.cell? ⟨w.heap.size + 1, 3, none⟩ = some (.string kp))
      (focus (refine HKK.out _ ?_; (first | with_reducible exact HBz.out | with_reducible exact below_drew' HBz.out)))
      (first
        | (go_at_call 28; (with_reducible refine Calls.mono (HSa.out _ ?_) ?_); (focus (first | with_reducible exact HBz.out | with_reducible exact below_drew' HBz.out)); rintro e Y ⟨rfl, hbY⟩; have HBz := Lib.hid hbY; clear hbY)
        | (go_at_call 29; (with_reducible refine Calls.mono (HVa.out _ ?_) ?_); (focus (first | with_reducible exact HBz.out | with_reducible exact below_drew' HBz.out)); rintro e Y ⟨rfl, hbY⟩; have HBz := Lib.hid hbY; clear hbY)
        | (go_at_call 30; (with_reducible refine Calls.mono (HVb.out _ ?_) ?_); (focus (first | with_reducible exact HBz.out | with_reducible exact below_drew' HBz.out)); rintro e Y ⟨rfl, hbY⟩; have HBz := Lib.hid hbY; clear hbY)
        | (go_at_call 20; (with_reducible refine Calls.mono (HAw.out _ ?_) ?_); (focus (first | with_reducible exact HBz.out | with_reducible exact below_drew' HBz.out)); rintro e Y ⟨rfl, hbY⟩; have HBz := Lib.hid hbY; clear hbY))
    all_goals (
      go_wp2
      go_ret
      exact ⟨rfl, HF.out.trans (HBz.out.mono HF.out.size)⟩)
end Go.Proofs.YtdobpmbgngomlaaGreatDoor
