/- ref24.SameNames, ref50.Same, ref50.Certify, ref50.Verify -/
import Derived.Test.YtdobpmbgngomlaaGreatDoorZmb
import Derived.Test.YtdobpmbgngomlaaGreatDoorZmi
import Derived.Test.YtdobpmbgngomlaaGreatDoorZnb
import Derived.Test.YtdobpmbgngomlaaGreatDoorZlu
import Derived.OpenShut
namespace Go.Proofs.YtdobpmbgngomlaaGreatDoor
open Go.RowKit Go.Proofs Go.Shelf

set_option maxRecDepth 100000 in
set_option maxHeartbeats 2000000 in
theorem sameNames_any (l l' : List (ByteArray × Int)) (A : Option Addr) (c : Nat) (A' : Option Addr) (c' : Nat) (w : World) (hs : SlN w w.heap.size A c l) (hs' : SlN w w.heap.size A' c' l') :
    Calls Tryz.prog 57 #[.slice A l.length c, .slice A' l'.length c'] w fun e w' => e = .returned (.bool (decide (l = l'))) ∧ ∃ q, w' = w.drewN q := by
  have h1 := hs.1
  have h2 := hs.2.1
  have h1' := hs'.1
  have h2' := hs'.2.1
  unfold maxLen at h2 h2'
  obtain ⟨N, HN⟩ : ∃ Q, Hid (l.length = Q) := ⟨_, Lib.hid rfl⟩
  obtain ⟨N', HN'⟩ : ∃ Q, Hid (l'.length = Q) := ⟨_, Lib.hid rfl⟩
  have HO := Lib.hid (And.intro hs hs')
  obtain ⟨E, HE⟩ : ∃ Q, Hid (decide (l = l') = Q) := ⟨_, Lib.hid rfl⟩
  rw [HN.out] at h1 ⊢
  rw [HN'.out] at h1' ⊢
  rw [HE.out]
  clear hs hs'
  go_enter Tryz.func57, Tryz.ntmps57
  by_cases hne : N = N'
  · subst hne
    go_wp2
    go_loopg [5] N (fun gg ct wr => ∃ j : Nat, gg = N - j ∧ j ≤ N ∧ ct = .int .i64 j ∧ (∀ k < j, l[k]? = l'[k]?) ∧ ∃ q, wr = w.drewN q)
    case atStart => exact ⟨0, rfl, by omega, rfl, fun k hk => absurd hk (Nat.not_lt_zero _), 0, rfl⟩
    case round =>
      obtain ⟨j, HG, hj, rfl, hall, q, rfl⟩ := hrel
      by_cases hlt : j < N
      · have hlt1 : j < l.length := by rw [HN.out]; exact hlt
        have hlt2 : j < l'.length := by rw [HN'.out]; exact hlt
        obtain ⟨y, hy⟩ : ∃ y, l[j]? = some y := ⟨_, List.getElem?_eq_getElem hlt1⟩
        obtain ⟨z, hz⟩ : ∃ y, l'[j]? = some y := ⟨_, List.getElem?_eq_getElem hlt2⟩
        obtain ⟨b, o, rfl, hb, hc⟩ := HO.out.1.2.2 (by intro e; rw [e] at hlt1; simp at hlt1)
        obtain ⟨b', o', rfl, hb', hc'⟩ := HO.out.2.2.2 (by intro e; rw [e] at hlt2; simp at hlt2)
        obtain ⟨c0, c1⟩ := hc j y hy
        obtain ⟨d0, d1⟩ := hc' j z hz
        have hE := run_neqN y.1 z.1 y.2 z.2
        have hj0 : (0 : Int) ≤ (j : Int) := by omega
        have hj1 : (j : Int) < (N : Int) := by omega
        have HM := Lib.hid (And.intro HG (And.intro hall (And.intro hy hz)))
        clear HG hall hy hz hc hc'
        cases he : eqN y z with
        | true =>
          have HEQ := Lib.hid (eqN_iff.1 he)
          have he2 : ((y.1.toList == z.1.toList) && (y.2 == z.2)) = true := he
          rw [he2] at hE
          clear he he2
          go_wp2_with fail
          go_quiet (fail)
          clear c0 c1 d0 d1 hE
          go_wp2
          go_roundg (N - (j + 1))
          case measure => rw [HM.out.1]; omega
          case rel =>
            refine ⟨j + 1, rfl, by omega, by go_num, fun k hk => ?_, q + nq, by simp [World.drewN]⟩
            by_cases e : k = j
            · rw [e, HM.out.2.2.1, HM.out.2.2.2, HEQ.out]
            · exact HM.out.2.1 k (by omega)
        | false =>
          have HEQ := Lib.hid (show E = false by
            rw [← HE.out, decide_eq_false_iff_not]
            intro e
            have h3 := HM.out.2.2.1
            rw [e, HM.out.2.2.2] at h3
            cases h3
            rw [eqN_iff.2 rfl] at he
            cases he)
          have he2 : ((y.1.toList == z.1.toList) && (y.2 == z.2)) = false := he
          rw [he2] at hE
          clear he he2
          go_wp2_with fail
          go_quiet (fail)
          clear c0 c1 d0 d1 hE
          go_wp2
          go_ret
          exact ⟨by rw [HEQ.out]; rfl, q + nq, by simp [World.drewN, Nat.add_assoc]⟩
      · obtain rfl : j = N := by omega
        have HEQ := Lib.hid (show E = true by
          rw [← HE.out, decide_eq_true_iff]
          exact eq_take (by rw [HN.out, HN'.out]) (by rw [HN.out]; exact hall))
        clear hall HG
        go_wp2
        go_ret
        exact ⟨by rw [HEQ.out]; rfl, _, rfl⟩
  · have HEQ := Lib.hid (show E = false by
      rw [← HE.out, decide_eq_false_iff_not]
      intro e
      exact hne (by rw [← HN.out, ← HN'.out, e]))
    have hn1 : ((N : Int) != (N' : Int)) = true := by simpa using (by omega : ¬ (N : Int) = (N' : Int))
    have hn2 : (N != N') = true := by simpa using hne
    go_wp2
    go_ret
    exact ⟨by rw [HEQ.out]; rfl, 0, rfl⟩
/-- What ref50.Certify hands back. -/
def CertQ (l : List Mo) (n : ByteArray × Int) (w : World) (e : Ending) (w' : World) : Prop :=
  Below w.heap.size w w' ∧ ((∃ er, er ≠ 0 ∧ CertV l n er none ∧ e = .returned (.tuple #[zeroC, .int .i64 er])) ∨
    ∃ L A c, CertV l n 0 (some L) ∧ e = .returned (.tuple #[.agg #[.string n.1, .int .i64 n.2, .slice A (List.length L) c, .string (certT l n L)], .int .i64 0]) ∧ SlN w' w'.heap.size A c L)
set_option maxRecDepth 100000 in
set_option maxHeartbeats 8000000 in
theorem certify50_any (l : List Mo) (n : ByteArray × Int) (A : Option Addr) (c : Nat) (w : World) (hl : SlM w w.heap.size A c l) (hms : ∀ m ∈ l, ModS m.label m.uses m.ds) (ht : totD l ≤ 1000) :
    Calls Tryz.prog 27 #[.slice A l.length c, .agg #[.string n.1, .int .i64 n.2]] w (CertQ l n w) := by
  obtain ⟨W0, hW0⟩ : ∃ W0, (w.alloc (.cells #[.string n.1, .int .i64 n.2] 24)).alloc (.cells #[.string ⟨#[]⟩, .int .i64 0, .slice none 0 0, .string ⟨#[]⟩] 54) = W0 := ⟨_, rfl⟩
  have hb0 : Below w.heap.size w W0 := by subst hW0; exact ((Below.refl _ _).alloc (Nat.le_refl _) _).alloc (by simp) _
  have hz0 : w.heap.size + 1 < W0.heap.size := by subst hW0; simp
  have n0 : W0.cell? ⟨w.heap.size, 0, none⟩ = some (.string n.1) := by subst hW0; go_simp
  have n1 : W0.cell? ⟨w.heap.size, 1, none⟩ = some (.int .i64 n.2) := by subst hW0; go_simp
  have hrow : W0.heap[w.heap.size + 1]? = some (.cells #[.string ⟨#[]⟩, .int .i64 0, .slice none 0 0, .string ⟨#[]⟩] 54 (0, 0)) := by
    subst hW0
    have := heap_alloc_new (w.alloc (.cells #[.string n.1, .int .i64 n.2] 24)) (.cells #[.string ⟨#[]⟩, .int .i64 0, .slice none 0 0, .string ⟨#[]⟩] 54)
    simpa using this
  have HK := Lib.hid (show ∀ X : World, Below W0.heap.size W0 X → X.cell? ⟨w.heap.size, 0, none⟩ = some (.string n.1) ∧ X.cell? ⟨w.heap.size, 1, none⟩ = some (.int .i64 n.2) from fun X hX =>
    ⟨(hX.cell (p := ⟨w.heap.size, 0, none⟩) (Nat.lt_of_succ_lt hz0)).trans n0, (hX.cell (p := ⟨w.heap.size, 1, none⟩) (Nat.lt_of_succ_lt hz0)).trans n1⟩)
  have HR := Lib.hid (show ∀ X : World, Below W0.heap.size W0 X → X.heap[w.heap.size + 1]? = some (.cells #[.string ⟨#[]⟩, .int .i64 0, .slice none 0 0, .string ⟨#[]⟩] 54 (0, 0)) from fun X hX => (hX.block _ hz0).trans hrow)
  have HL := Lib.hid (show ∀ X : World, Below W0.heap.size W0 X → SlM X X.heap.size A c l ∧ Below w.heap.size w X from fun X hX => ⟨(hl.below (hb0.trans (hX.mono hb0.size))).keep (hb0.trans (hX.mono hb0.size)).size (fun _ _ => rfl), hb0.trans (hX.mono hb0.size)⟩)
  have HKey := Lib.hid (key40_any l n A c W0 (HL.out W0 (Below.refl _ _)).1 hms ht)
  have HIs := Lib.hid (show ∀ X : World, Below W0.heap.size W0 X → Calls Tryz.prog 50 #[.slice A l.length c, .agg #[.string n.1, .int .i64 n.2]] X (fun e w' => e = .returned (.bool (isT l n)) ∧ Below X.heap.size X w') from fun X hX => is50_any l n A c X (HL.out X hX).1)
  have HCl := Lib.hid (show ∀ X : World, Below W0.heap.size W0 X → Calls Tryz.prog 56 #[.slice A l.length c, .agg #[.string n.1, .int .i64 n.2]] X (QcRes l n X) from fun X hX => closure40_any l n A c X (HL.out X hX).1 hms ht)
  obtain ⟨N, HN⟩ : ∃ Q, Hid (l.length = Q) := ⟨_, Lib.hid rfl⟩
  rw [HN.out] at HKey HIs HCl ⊢
  obtain ⟨q, Hq⟩ : ∃ Q, Hid (isT l n = Q) := ⟨_, Lib.hid rfl⟩
  rw [Hq.out] at HIs
  clear hl hms hb0 ht hrow
  go_enter Tryz.func27, Tryz.ntmps27
  go_wp2_with fail
  refine HKey.out.mono ?_
  rintro e w1 ⟨hb1, ⟨hE, rfl⟩ | ⟨hE, hcl, rfl⟩ | ⟨hE, L, hcl, rfl⟩⟩
  · have hE2 : (loadE l n != 0) = true := by simpa using hE
    have hrow := HR.out w1 hb1
    have b0 : w1.cell? ⟨w.heap.size + 1, 0, none⟩ = some (.string ⟨#[]⟩) := cell_of_row w1 _ 0 _ _ (0, 0) hrow
    have f0 : w1.frozen? ⟨w.heap.size + 1, 0, none⟩ = false := frozen_of_row w1 _ 0 _ _ hrow
    have b1 : w1.cell? ⟨w.heap.size + 1, 1, none⟩ = some (.int .i64 0) := cell_of_row w1 _ 1 _ _ (0, 0) hrow
    have f1 : w1.frozen? ⟨w.heap.size + 1, 1, none⟩ = false := frozen_of_row w1 _ 1 _ _ hrow
    have b2 : w1.cell? ⟨w.heap.size + 1, 2, none⟩ = some (.slice none 0 0) := cell_of_row w1 _ 2 _ _ (0, 0) hrow
    have f2 : w1.frozen? ⟨w.heap.size + 1, 2, none⟩ = false := frozen_of_row w1 _ 2 _ _ hrow
    have b3 : w1.cell? ⟨w.heap.size + 1, 3, none⟩ = some (.string ⟨#[]⟩) := cell_of_row w1 _ 3 _ _ (0, 0) hrow
    have f3 : w1.frozen? ⟨w.heap.size + 1, 3, none⟩ = false := frozen_of_row w1 _ 3 _ _ hrow
    have HB1 := Lib.hid (And.intro (HL.out w1 hb1).2 hE)
    obtain ⟨E, HE⟩ : ∃ Q, Hid (loadE l n = Q) := ⟨_, Lib.hid rfl⟩
    rw [HE.out] at hE2 ⊢
    clear hb1 hE n0 n1 hrow hW0
    go_wp2
    refine bodyPost_ret (v := .tuple #[zeroC, .int .i64 E]) (by simp [results, Tryz.results27, go_sem, zeroC, b0, b1, b2, b3]) rfl ?_
    exact ⟨below_set4 HB1.out.1 (Nat.le_succ _), .inl ⟨E, by rw [← HE.out]; exact HB1.out.2, .inl ⟨HB1.out.2, HE.out.symm, rfl⟩, rfl⟩⟩
  · have hrow := HR.out w1 hb1
    have b0 : w1.cell? ⟨w.heap.size + 1, 0, none⟩ = some (.string ⟨#[]⟩) := cell_of_row w1 _ 0 _ _ (0, 0) hrow
    have f0 : w1.frozen? ⟨w.heap.size + 1, 0, none⟩ = false := frozen_of_row w1 _ 0 _ _ hrow
    have b1 : w1.cell? ⟨w.heap.size + 1, 1, none⟩ = some (.int .i64 0) := cell_of_row w1 _ 1 _ _ (0, 0) hrow
    have f1 : w1.frozen? ⟨w.heap.size + 1, 1, none⟩ = false := frozen_of_row w1 _ 1 _ _ hrow
    have b2 : w1.cell? ⟨w.heap.size + 1, 2, none⟩ = some (.slice none 0 0) := cell_of_row w1 _ 2 _ _ (0, 0) hrow
    have f2 : w1.frozen? ⟨w.heap.size + 1, 2, none⟩ = false := frozen_of_row w1 _ 2 _ _ hrow
    have b3 : w1.cell? ⟨w.heap.size + 1, 3, none⟩ = some (.string ⟨#[]⟩) := cell_of_row w1 _ 3 _ _ (0, 0) hrow
    have f3 : w1.frozen? ⟨w.heap.size + 1, 3, none⟩ = false := frozen_of_row w1 _ 3 _ _ hrow
    have HB1 := Lib.hid (And.intro (HL.out w1 hb1).2 (And.intro hE hcl))
    clear hb1 hE hcl n0 n1 hrow hW0
    go_wp2
    refine bodyPost_ret (v := .tuple #[zeroC, .int .i64 21]) (by simp [results, Tryz.results27, go_sem, zeroC, b0, b1, b2, b3]) rfl ?_
    exact ⟨below_set4 HB1.out.1 (Nat.le_succ _), .inl ⟨21, by decide, .inr (.inl ⟨HB1.out.2.1, HB1.out.2.2, rfl, rfl⟩), rfl⟩⟩
  · obtain ⟨T, HTT⟩ : ∃ Q, Hid ((⟨(keyL l n L).toArray⟩ : ByteArray) = Q) := ⟨_, Lib.hid rfl⟩
    rw [HTT.out]
    have HI1 := Lib.hid (HIs.out w1 hb1)
    have HB1 := Lib.hid (And.intro hb1 (And.intro hE hcl))
    obtain ⟨k0, k1⟩ := HK.out w1 hb1
    clear hb1 hE hcl n0 n1 hW0
    go_wp2_with fail
    refine HI1.out.mono ?_
    rintro e w3 ⟨rfl, hb3⟩
    have HB3 := Lib.hid (HB1.out.1.trans (hb3.mono HB1.out.1.size))
    have hbw3 := (HL.out w3 HB3.out).2
    clear hb3 k0 k1
    obtain ⟨k0, k1⟩ := HK.out w3 HB3.out
    cases hq : q with
    | false =>
      have hrow := HR.out w3 HB3.out
      have b0 : w3.cell? ⟨w.heap.size + 1, 0, none⟩ = some (.string ⟨#[]⟩) := cell_of_row w3 _ 0 _ _ (0, 0) hrow
      have f0 : w3.frozen? ⟨w.heap.size + 1, 0, none⟩ = false := frozen_of_row w3 _ 0 _ _ hrow
      have b1 : w3.cell? ⟨w.heap.size + 1, 1, none⟩ = some (.int .i64 0) := cell_of_row w3 _ 1 _ _ (0, 0) hrow
      have f1 : w3.frozen? ⟨w.heap.size + 1, 1, none⟩ = false := frozen_of_row w3 _ 1 _ _ hrow
      have b2 : w3.cell? ⟨w.heap.size + 1, 2, none⟩ = some (.slice none 0 0) := cell_of_row w3 _ 2 _ _ (0, 0) hrow
      have f2 : w3.frozen? ⟨w.heap.size + 1, 2, none⟩ = false := frozen_of_row w3 _ 2 _ _ hrow
      have b3 : w3.cell? ⟨w.heap.size + 1, 3, none⟩ = some (.string ⟨#[]⟩) := cell_of_row w3 _ 3 _ _ (0, 0) hrow
      have f3 : w3.frozen? ⟨w.heap.size + 1, 3, none⟩ = false := frozen_of_row w3 _ 3 _ _ hrow
      have HBw := Lib.hid hbw3
      have HQ := Lib.hid (show isT l n = false by rw [Hq.out, hq])
      clear hbw3 hrow hq
      go_wp2
      refine bodyPost_ret (v := .tuple #[zeroC, .int .i64 9]) (by simp [results, Tryz.results27, go_sem, zeroC, b0, b1, b2, b3]) rfl ?_
      exact ⟨below_set4 HBw.out (Nat.le_succ _), .inl ⟨9, by decide, .inr (.inr (.inl ⟨HB1.out.2.1, L, HB1.out.2.2, HQ.out, rfl, rfl⟩)), rfl⟩⟩
    | true =>
      have HQ := Lib.hid (show isT l n = true by rw [Hq.out, hq])
      have HC3 := Lib.hid (HCl.out w3 HB3.out)
      have HBw := Lib.hid hbw3
      clear hbw3 hq
      go_wp2_with fail
      refine HC3.out.mono ?_
      rintro e w4 ⟨hb4, ⟨hE4, rfl⟩ | ⟨hE4, hcl4, rfl⟩ | ⟨hE4, L4, vA, vc, hcl4, rfl, hO4⟩⟩
      · exact absurd HB1.out.2.1 hE4
      · have := HB1.out.2.2.unique hcl4; cases this
      · have := HB1.out.2.2.unique hcl4
        cases this
        have hown4 : w4.ownsRow 0 24 2 (.slice vA L.length vc) L.length (namesC L) := hO4
        have hbb4 : Below W0.heap.size W0 w4 := HB3.out.trans (hb4.mono HB3.out.size)
        clear k0 k1
        obtain ⟨k0, k1⟩ := HK.out w4 hbb4
        have hrow := HR.out w4 hbb4
        have b0 : w4.cell? ⟨w.heap.size + 1, 0, none⟩ = some (.string ⟨#[]⟩) := cell_of_row w4 _ 0 _ _ (0, 0) hrow
        have f0 : w4.frozen? ⟨w.heap.size + 1, 0, none⟩ = false := frozen_of_row w4 _ 0 _ _ hrow
        have b1 : w4.cell? ⟨w.heap.size + 1, 1, none⟩ = some (.int .i64 0) := cell_of_row w4 _ 1 _ _ (0, 0) hrow
        have f1 : w4.frozen? ⟨w.heap.size + 1, 1, none⟩ = false := frozen_of_row w4 _ 1 _ _ hrow
        have b2 : w4.cell? ⟨w.heap.size + 1, 2, none⟩ = some (.slice none 0 0) := cell_of_row w4 _ 2 _ _ (0, 0) hrow
        have f2 : w4.frozen? ⟨w.heap.size + 1, 2, none⟩ = false := frozen_of_row w4 _ 2 _ _ hrow
        have b3 : w4.cell? ⟨w.heap.size + 1, 3, none⟩ = some (.string ⟨#[]⟩) := cell_of_row w4 _ 3 _ _ (0, 0) hrow
        have f3 : w4.frozen? ⟨w.heap.size + 1, 3, none⟩ = false := frozen_of_row w4 _ 3 _ _ hrow
        have hne : (Value.slice vA L.length vc).ownBlock ≠ some (w.heap.size + 1) := row_ne hown4 hrow (.inr ⟨_, _, rfl, by decide⟩)
        have HF := Lib.hid (And.intro (HL.out w4 hbb4).2 (And.intro hown4 hne))
        obtain ⟨M, HM⟩ : ∃ Q, Hid (L.length = Q) := ⟨_, Lib.hid rfl⟩
        rw [HM.out]
        clear hb4 hE4 hcl4 hown4 hO4 hbb4 hrow hne
        go_wp2
        refine bodyPost_ret (v := .tuple #[.agg #[.string n.1, .int .i64 n.2, .slice vA M vc, .string T], .int .i64 0]) (by simp [results, Tryz.results27, go_sem, b0, b1, b2, b3]) rfl ?_
        refine ⟨below_set4 HF.out.1 (Nat.le_succ _), .inr ⟨L, vA, vc, .inr (.inr (.inr ⟨HB1.out.2.1, L, HB1.out.2.2, HQ.out, rfl, rfl⟩)), by rw [HM.out]; unfold certT; rw [HTT.out], ?_⟩⟩
        exact SlN.of_own (own_set4 HF.out.2.1 HF.out.2.2)
/-- Whether two certificates are equal. -/
def sameC50 (n n' : ByteArray × Int) (L L' : List (ByteArray × Int)) (k k' : ByteArray) : Bool := decide (n = n') && decide (k = k') && decide (L = L')
set_option maxRecDepth 100000 in
set_option maxHeartbeats 4000000 in
theorem same50_any (n n' : ByteArray × Int) (L L' : List (ByteArray × Int)) (k k' : ByteArray) (A : Option Addr) (c : Nat) (A' : Option Addr) (c' : Nat) (w : World) (hs : SlN w w.heap.size A c L) (hs' : SlN w w.heap.size A' c' L') :
    Calls Tryz.prog 28 #[.agg #[.string n.1, .int .i64 n.2, .slice A L.length c, .string k], .agg #[.string n'.1, .int .i64 n'.2, .slice A' L'.length c', .string k']] w fun e w' => e = .returned (.bool (sameC50 n n' L L' k k')) ∧ Below w.heap.size w w' := by
  obtain ⟨N, HN⟩ : ∃ Q, Hid (L.length = Q) := ⟨_, Lib.hid rfl⟩
  obtain ⟨N', HN'⟩ : ∃ Q, Hid (L'.length = Q) := ⟨_, Lib.hid rfl⟩
  rw [HN.out, HN'.out]
  obtain ⟨W0, hW0⟩ : ∃ W0, (w.alloc (.cells #[.string n.1, .int .i64 n.2, .slice A N c, .string k] 54)).alloc (.cells #[.string n'.1, .int .i64 n'.2, .slice A' N' c', .string k'] 54) = W0 := ⟨_, rfl⟩
  have hb0 : Below w.heap.size w W0 := by subst hW0; exact ((Below.refl _ _).alloc (Nat.le_refl _) _).alloc (by simp) _
  have hr0 : W0.heap[w.heap.size]? = some (.cells #[.string n.1, .int .i64 n.2, .slice A N c, .string k] 54 (0, 0)) := by rw [← hW0]; simp only [heap_push]; rw [if_neg (by simp), if_pos trivial]
  have hr1 : W0.heap[w.heap.size + 1]? = some (.cells #[.string n'.1, .int .i64 n'.2, .slice A' N' c', .string k'] 54 (0, 0)) := by rw [← hW0, heap_push, if_pos (by simp)]
  have a0 := cell_of_row W0 _ 0 _ _ (0, 0) hr0
  have a1 := cell_of_row W0 _ 1 _ _ (0, 0) hr0
  have a2 := cell_of_row W0 _ 2 _ _ (0, 0) hr0
  have a3 := cell_of_row W0 _ 3 _ _ (0, 0) hr0
  have b0 := cell_of_row W0 _ 0 _ _ (0, 0) hr1
  have b1 := cell_of_row W0 _ 1 _ _ (0, 0) hr1
  have b2 := cell_of_row W0 _ 2 _ _ (0, 0) hr1
  have b3 := cell_of_row W0 _ 3 _ _ (0, 0) hr1
  have HEq := Lib.hid (sameNames_any L L' A c A' c' W0 (hs.below hb0) (hs'.below hb0))
  rw [HN.out, HN'.out] at HEq
  have HB := Lib.hid hb0
  have hE := run_eqlN n.1 n'.1 n.2 n'.2
  have hst := toL_beq k k'
  clear hs hs' hb0 hr0 hr1
  obtain ⟨R, HR⟩ : ∃ Q, Hid (sameC50 n n' L L' k k' = Q) := ⟨_, Lib.hid rfl⟩
  rw [HR.out]
  by_cases hn : n = n'
  · have he2 : ((n.1.toList == n'.1.toList) && (n.2 == n'.2)) = true := by rw [hn]; simp
    rw [he2] at hE
    by_cases hk : k = k'
    · rw [decide_eq_true hk] at hst
      obtain ⟨q, Hq⟩ : ∃ Q, Hid (decide (L = L') = Q) := ⟨_, Lib.hid rfl⟩
      have HF := Lib.hid (show q = R by rw [← HR.out, ← Hq.out]; simp [sameC50, hn, hk])
      rw [Hq.out] at HEq
      clear hn hk he2
      go_enter Tryz.func28, Tryz.ntmps28
      go_wp2_with fail
      refine HEq.out.mono ?_
      rintro e w1 ⟨rfl, q1, rfl⟩
      go_wp2
      go_ret
      exact ⟨by rw [HF.out]; rfl, below_drewN HB.out _⟩
    · rw [decide_eq_false hk] at hst
      have HF := Lib.hid (show R = false by rw [← HR.out]; simp [sameC50, hk])
      clear hn hk he2 HEq
      go_enter Tryz.func28, Tryz.ntmps28
      go_wp2
      go_ret
      exact ⟨by rw [HF.out]; rfl, HB.out⟩
  · have he2 : ((n.1.toList == n'.1.toList) && (n.2 == n'.2)) = false := by
      rw [Bool.eq_false_iff]
      intro h
      have : eqN n n' = true := h
      exact hn (eqN_iff.1 this)
    rw [he2] at hE
    have HF := Lib.hid (show R = false by rw [← HR.out]; simp [sameC50, hn])
    clear hn he2 HEq hst
    go_enter Tryz.func28, Tryz.ntmps28
    go_wp2
    go_ret
    exact ⟨by rw [HF.out]; rfl, HB.out⟩
set_option maxRecDepth 100000 in
set_option maxHeartbeats 4000000 in
theorem verify50_any (l : List Mo) (n : ByteArray × Int) (L' : List (ByteArray × Int)) (k : ByteArray) (A : Option Addr) (c : Nat) (cA : Option Addr) (cc : Nat) (w : World) (hl : SlM w w.heap.size A c l) (hN : SlN w w.heap.size cA cc L') (hms : ∀ m ∈ l, ModS m.label m.uses m.ds) (ht : totD l ≤ 1000) :
    Calls Tryz.prog 30 #[.slice A l.length c, .agg #[.string n.1, .int .i64 n.2, .slice cA L'.length cc, .string k]] w fun e w' => ∃ b, e = .returned (.bool b) ∧ VerV l n L' k b ∧ Below w.heap.size w w' := by
  obtain ⟨W0, hW0⟩ : ∃ W0, w.alloc (.cells #[.string n.1, .int .i64 n.2, .slice cA L'.length cc, .string k] 54) = W0 := ⟨_, rfl⟩
  have hb0 : Below w.heap.size w W0 := by subst hW0; exact (Below.refl _ _).alloc (Nat.le_refl _) _
  have hz0 : w.heap.size < W0.heap.size := by subst hW0; simp
  have n0 : W0.cell? ⟨w.heap.size, 0, none⟩ = some (.string n.1) := by subst hW0; go_simp
  have n1 : W0.cell? ⟨w.heap.size, 1, none⟩ = some (.int .i64 n.2) := by subst hW0; go_simp
  have n2 : W0.cell? ⟨w.heap.size, 2, none⟩ = some (.slice cA L'.length cc) := by subst hW0; go_simp
  have n3 : W0.cell? ⟨w.heap.size, 3, none⟩ = some (.string k) := by subst hW0; go_simp
  have HC := Lib.hid (certify50_any l n A c W0 ((hl.below hb0).keep hb0.size (fun _ _ => rfl)) hms ht)
  have HN0 := Lib.hid (hN.below hb0)
  obtain ⟨N, HN⟩ : ∃ Q, Hid (l.length = Q) := ⟨_, Lib.hid rfl⟩
  obtain ⟨N', HN'⟩ : ∃ Q, Hid (L'.length = Q) := ⟨_, Lib.hid rfl⟩
  rw [HN.out] at HC ⊢
  rw [HN'.out] at n2 hW0 ⊢
  have HB := Lib.hid (And.intro hb0 hz0)
  clear hl hN hms ht hb0 hz0
  go_enter Tryz.func30, Tryz.ntmps30
  go_wp2_with fail
  refine HC.out.mono ?_
  rintro e w1 ⟨hb1, ⟨er, hne, hv, rfl⟩ | ⟨L, vA, vc, hv, rfl, hsl⟩⟩
  · have hne2 : (er == 0) = false := by simpa using hne
    have HF := Lib.hid (show VerV l n L' k false from ⟨fun h => (by cases h), fun h => absurd (hv.unique h.1).1 hne⟩)
    have HB1 := Lib.hid (HB.out.1.trans (hb1.mono HB.out.1.size))
    clear hne hv hb1 n0 n1 n2 n3 hW0
    unfold zeroC
    go_wp2
    go_ret
    exact ⟨false, rfl, HF.out, HB1.out.alloc HB1.out.size _⟩
  · obtain ⟨T, HT⟩ : ∃ Q, Hid (certT l n L = Q) := ⟨_, Lib.hid rfl⟩
    rw [HT.out]
    obtain ⟨M, HM⟩ : ∃ Q, Hid (L.length = Q) := ⟨_, Lib.hid rfl⟩
    rw [HM.out]
    obtain ⟨W2, hW2⟩ : ∃ W2, w1.alloc (.cells #[.string n.1, .int .i64 n.2, .slice vA M vc, .string T] 54) = W2 := ⟨_, rfl⟩
    have hb2 : Below w1.heap.size w1 W2 := by subst hW2; exact (Below.refl _ _).alloc (Nat.le_refl _) _
    have hb02 : Below W0.heap.size W0 W2 := hb1.trans (hb2.mono hb1.size)
    have hr2 : W2.heap[w1.heap.size]? = some (.cells #[.string n.1, .int .i64 n.2, .slice vA M vc, .string T] 54 (0, 0)) := by rw [← hW2]; exact heap_alloc_new _ _
    have m0 := cell_of_row W2 _ 0 _ _ (0, 0) hr2
    have m1 := cell_of_row W2 _ 1 _ _ (0, 0) hr2
    have m2 := cell_of_row W2 _ 2 _ _ (0, 0) hr2
    have m3 := cell_of_row W2 _ 3 _ _ (0, 0) hr2
    have k0 : W2.cell? ⟨w.heap.size, 0, none⟩ = some (.string n.1) := (hb02.cell (p := ⟨w.heap.size, 0, none⟩) HB.out.2).trans n0
    have k1 : W2.cell? ⟨w.heap.size, 1, none⟩ = some (.int .i64 n.2) := (hb02.cell (p := ⟨w.heap.size, 1, none⟩) HB.out.2).trans n1
    have k2 : W2.cell? ⟨w.heap.size, 2, none⟩ = some (.slice cA N' cc) := (hb02.cell (p := ⟨w.heap.size, 2, none⟩) HB.out.2).trans n2
    have k3 : W2.cell? ⟨w.heap.size, 3, none⟩ = some (.string k) := (hb02.cell (p := ⟨w.heap.size, 3, none⟩) HB.out.2).trans n3
    have HSm := Lib.hid (same50_any n n L L' T k vA vc cA cc W2 (hsl.below hb2) (HN0.out.below hb02))
    rw [HM.out, HN'.out] at HSm
    have HB1 := Lib.hid (HB.out.1.trans (hb02.mono HB.out.1.size))
    have HF := Lib.hid (show VerV l n L' k (sameC50 n n L L' T k) by
      unfold VerV sameC50
      rw [decide_eq_true rfl, Bool.true_and, Bool.and_eq_true, decide_eq_true_iff, decide_eq_true_iff]
      constructor
      · rintro ⟨hTk, rfl⟩
        exact ⟨hv, by rw [HT.out, hTk]⟩
      · intro h
        have := (hv.unique h.1).2
        cases this
        exact ⟨HT.out.symm.trans h.2, rfl⟩)
    obtain ⟨q, Hq⟩ : ∃ Q, Hid (sameC50 n n L L' T k = Q) := ⟨_, Lib.hid rfl⟩
    rw [Hq.out] at HSm HF
    clear hv hb1 hb2 hb02 hsl hr2 n0 n1 n2 n3 hW0
    go_wp2_with fail
    refine HSm.out.mono ?_
    rintro e w3 ⟨rfl, hb3⟩
    have HB3 := Lib.hid (HB1.out.trans (hb3.mono HB1.out.size))
    clear hb3
    go_wp2
    go_ret
    exact ⟨q, rfl, HF.out, HB3.out⟩
end Go.Proofs.YtdobpmbgngomlaaGreatDoor
/- A list of names, a certificate, and a pair of names that came in -/
namespace Go.Proofs.YtdobpmbgngomlaaGreatDoor
open Go.RowKit Go.Proofs Go.ChangeShapes Go.WideShapes Go.Joins

theorem Tryz.cellsNames : Tryz.prog.cellsOf 30 = 1 := by kernel_rfl
theorem Tryz.cellsCert : Tryz.prog.cellsOf 54 = 4 := by kernel_rfl
section
variable {H : Type} {enc : TypeId × Value → H} {W : World}
theorem trod_name {fuel : Nat} {cs : List Value} {x : DataW H × List MemPlace} (h : DataW.trod enc Tryz.prog W 0 (fun _ => true) true fuel 24 cs = some x) (hcs : cs.length = 2) :
    ∃ n : ByteArray × Int, cs = [.string n.1, .int .i64 n.2] ∧ NOk n := by
  match cs, hcs with
  | [c0, c1], _ =>
    obtain ⟨_, _, _, h0⟩ := trod_fields Tryz.underlying24 h 0 _ rfl 9 0 1 rfl rfl Tryz.cellsString
    obtain ⟨_, _, _, h1⟩ := trod_fields Tryz.underlying24 h 1 _ rfl 3 1 1 rfl rfl Tryz.cellsInt
    simp only [List.drop_succ_cons, List.drop_zero, List.take_succ_cons, List.take_zero] at h0 h1
    obtain ⟨s, e0, _, hl⟩ := DataW.trod_string Tryz.underlying9 h0
    obtain ⟨i, e1, _, hw⟩ := DataW.trod_int Tryz.underlying3 h1
    simp only [List.cons.injEq, and_true] at e0 e1
    subst e0 e1
    exact ⟨(s, i), rfl, hl, hw⟩
/-- A slice of names that came in. -/
theorem open_names {fuel : Nat} {v : Value} {x : DataW H × List MemPlace} (h : DataW.trod enc Tryz.prog W 0 (fun _ => true) true fuel 30 [v] = some x) :
    ∃ A l c, v = .slice A (List.length l) c ∧ SlN W W.heap.size A c l ∧ ∀ n ∈ l, NOk n := by
  rcases DataW.trod_slice Tryz.underlying30 h with ⟨h0, _⟩ | ⟨a, len, cap, elems, rest, n, rfl, h0, _, _, hl, hm, hlen, hel, _, _⟩
  · simp only [List.cons.injEq, and_true] at h0
    exact ⟨none, [], 0, h0, ⟨by simp, by simp [maxLen], fun h => absurd rfl h⟩, by simp⟩
  · simp only [List.cons.injEq, and_true] at h0
    subst h0
    rw [Tryz.cellsName] at hel
    have hall : ∀ i, i < len → ∃ d : ByteArray × Int, (∀ q v, ([.string d.1, .int .i64 d.2] : List Value)[q]? = some v → W.cell? ⟨a.block, a.off + i * 2 + q, none⟩ = some v) ∧ NOk d := by
      intro i hi
      have h1 := (hel i hi).trans (List.getElem?_eq_getElem (by omega))
      obtain ⟨cs, hc, h2⟩ := Option.bind_eq_some_iff.1 h1
      obtain ⟨_, hcl, hcell⟩ := World.cells?_some hc
      obtain ⟨d, hd, hok⟩ := trod_name h2 hcl
      refine ⟨d, fun q v hq => ?_, hok⟩
      have hq' : q < 2 := by simpa using (List.getElem?_eq_some_iff.1 hq).1
      have h3 := hcell q hq'
      rw [hd, hq, add_add'] at h3
      rw [add_none h3] at h3
      rw [Nat.add_assoc]
      exact h3
    obtain ⟨l, hll, hP⟩ := list_of len hall
    refine ⟨some a, l, cap, by rw [hll], ⟨by omega, hm, fun hne => ?_⟩, fun d hd => ?_⟩
    · have hpos : 0 < len := by
        rcases Nat.eq_zero_or_pos len with h | h
        · rw [h] at hll; exact absurd (List.length_eq_zero_iff.1 hll) hne
        · exact h
      obtain ⟨d0, h0, _⟩ := hall 0 hpos
      have h00 := h0 0 _ rfl
      have h1 := (hel 0 hpos).trans (List.getElem?_eq_getElem (by omega))
      obtain ⟨cs, hc, h2⟩ := Option.bind_eq_some_iff.1 h1
      obtain ⟨_, hcl, hcell⟩ := World.cells?_some hc
      have h3 := hcell 0 (by omega)
      rw [add_add', List.getElem?_eq_getElem (by omega)] at h3
      have h4 := add_none h3
      simp [Addr.add] at h4
      exact ⟨a.block, a.off, by rw [← h4], World.block_lt_of_cell? W ⟨a.block, a.off + 0 * 2 + 0, none⟩ h00, fun j x hj => ⟨(hP j x hj).1 0 _ rfl, (hP j x hj).1 1 _ rfl⟩⟩
    · obtain ⟨j, hj⟩ := List.getElem?_of_mem hd
      exact (hP j d hj).2
set_option maxRecDepth 100000 in
/-- A certificate that came in. -/
theorem open_cert {b0 : Nat} {v : Value} {d : DataW H} {p : List MemPlace} (hv : Value.okWide Tryz.prog W .any b0 54 v) (h : DataW.Trod enc Tryz.prog W 0 (fun _ => true) true 54 v d p) :
    ∃ (n : ByteArray × Int) (L : List (ByteArray × Int)) (A : Option Addr) (c : Nat) (k : ByteArray), v = .agg #[.string n.1, .int .i64 n.2, .slice A (List.length L) c, .string k] ∧ NOk n ∧ SlN W W.heap.size A c L := by
  obtain ⟨cs, rfl, hsz⟩ := okWide_struct Tryz.underlying54 hv
  obtain ⟨c0, c1, c2, c3, rfl⟩ := array4 (hsz.trans Tryz.cellsCert)
  obtain ⟨fuel, hf⟩ := h
  simp only [Value.cells] at hf
  obtain ⟨_, _, _, h0⟩ := trod_fields Tryz.underlying54 hf 0 _ rfl 24 0 2 rfl rfl Tryz.cellsName
  obtain ⟨_, _, _, h1⟩ := trod_fields Tryz.underlying54 hf 1 _ rfl 30 2 1 rfl rfl Tryz.cellsNames
  obtain ⟨_, _, _, h2⟩ := trod_fields Tryz.underlying54 hf 2 _ rfl 9 3 1 rfl rfl Tryz.cellsString
  simp only [List.drop_succ_cons, List.drop_zero, List.take_succ_cons, List.take_zero] at h0 h1 h2
  obtain ⟨n, e0, hn⟩ := trod_name h0 rfl
  obtain ⟨A, L, c, e1, hL, _⟩ := open_names h1
  obtain ⟨k, e2, _⟩ := DataW.trod_string Tryz.underlying9 h2
  simp only [List.cons.injEq, and_true] at e0 e2
  obtain ⟨rfl, rfl⟩ := e0
  subst e1 e2
  exact ⟨n, L, A, c, k, rfl, hn, hL⟩
end
end Go.Proofs.YtdobpmbgngomlaaGreatDoor
