/- ref24.GreatKnown, Distinct, ref21.GreatSource, law24.great (printed by gen_gkn.py) -/
import Derived.Test.YtacjjkbkhpdhnaaGreatDoorZpe
import Derived.Test.YtacjjkbkhpdhnaaGreatDoorZll
import Derived.BigQuiet
import Derived.Deep.QuietTactic
import Derived.Deep.DeepCutAuto
import Derived.Test.YtacjjkbkhpdhnaaGreatDoorZlj
import Derived.Test.YtacjjkbkhpdhnaaGreatDoorZln
namespace Go.Proofs.YtacjjkbkhpdhnaaGreatDoor
open Go.RowKit Go.Proofs Go.Shelf

/-- Interfaces that are not great. -/
def KnS1 (x : If) : Prop := x.label.size ≤ 120 ∧ x.sigs.length ≤ 8 ∧ ∀ s ∈ x.sigs, s.name.size ≤ 100
def KnS (known : List If) : Prop := known.length ≤ 6 ∧ ∀ x ∈ known, KnS1 x
theorem mem_take_succ {α : Type} {l : List α} {j : Nat} {x y : α} (hj : l[j]? = some x) (hy : y ∈ l.take (j + 1)) : y ∈ l.take j ∨ y = x := by
  obtain ⟨hlt, rfl⟩ := List.getElem?_eq_some_iff.1 hj
  rw [List.take_succ_eq_append_getElem hlt] at hy
  rcases List.mem_append.1 hy with h | h
  · exact .inl h
  · exact .inr (List.mem_singleton.1 h)
set_option maxRecDepth 100000 in
set_option maxHeartbeats 4000000 in
theorem greatKnown_any (known : List If) (kA : Option Addr) (kc : Nat) (w : World) (hk : SlI w w.heap.size kA kc known) :
    Calls Tryz.prog 23 #[.slice kA known.length kc] w fun e w' => ∃ b, e = .returned (.bool b) ∧ (b = false → KnS known) ∧ w' = w := by
  have h1 := hk.1
  have h2 := hk.2.1
  unfold maxLen at h2
  obtain ⟨N, HN⟩ : ∃ Q, Hid (known.length = Q) := ⟨_, Lib.hid rfl⟩
  have HK := Lib.hid hk
  rw [HN.out] at h1 ⊢
  clear hk
  by_cases h6 : 6 < N
  · have p0 : decide ((N : Int) > 6) = true := by simp; omega
    have p1 : decide (N > 6) = true := by simp; omega
    have p2 : decide (6 < N) = true := by simp; omega
    have p3 : decide ((6 : Int) < (N : Int)) = true := by simp; omega
    go_enter Tryz.func23, Tryz.ntmps23
    go_wp2
    go_ret
    exact ⟨true, rfl, by simp, rfl⟩
  have p0 : decide ((N : Int) > 6) = false := by simp; omega
  have p1 : decide (N > 6) = false := by simp; omega
  have p2 : decide (6 < N) = false := by simp; omega
  have p3 : decide ((6 : Int) < (N : Int)) = false := by simp; omega
  go_enter Tryz.func23, Tryz.ntmps23
  go_wp2
  go_loopg [3, 4] N (fun gg ct _ wr => ∃ j : Nat, gg = N - j ∧ j ≤ N ∧ ct = .int .i64 j ∧ Hid (∀ x ∈ known.take j, KnS1 x) ∧ w = wr)
  case atStart => exact ⟨0, rfl, by omega, rfl, Lib.hid (by simp), rfl⟩
  case round =>
    obtain ⟨j, HG, hj, rfl, HP, rfl⟩ := hrel
    by_cases hlt : j < N
    · have hlt' : j < known.length := by rw [HN.out]; exact hlt
      obtain ⟨x, hx⟩ : ∃ y, known[j]? = some y := ⟨_, List.getElem?_eq_getElem hlt'⟩
      obtain ⟨b, o, rfl, hb, c0, c1, hsg⟩ := HK.out.at_ hx
      have HX := Lib.hid (And.intro HG hx)
      obtain ⟨xl, xA, xc, xs⟩ := x
      simp only at c0 c1 hsg
      obtain ⟨M, HM⟩ : ∃ Q, Hid (xs.length = Q) := ⟨_, Lib.hid rfl⟩
      have hs1 := hsg.1
      have hs2 := hsg.2.1
      unfold maxLen at hs2
      rw [HM.out] at c1 hs1
      have HSg := Lib.hid hsg
      have hj0 : (0 : Int) ≤ (j : Int) := by omega
      have hj1 : (j : Int) < (N : Int) := by omega
      clear HG hx hsg
      by_cases hl : 120 < xl.size
      · have r0 : decide ((xl.size : Int) > 120) = true := by simp; omega
        have r1 : decide (xl.size > 120) = true := by simp; omega
        have r2 : decide (120 < xl.size) = true := by simp; omega
        have r3 : decide ((120 : Int) < (xl.size : Int)) = true := by simp; omega
        go_wp2
        go_ret
        exact ⟨true, rfl, by simp, rfl⟩
      have r0 : decide ((xl.size : Int) > 120) = false := by simp; omega
      have r1 : decide (xl.size > 120) = false := by simp; omega
      have r2 : decide (120 < xl.size) = false := by simp; omega
      have r3 : decide ((120 : Int) < (xl.size : Int)) = false := by simp; omega
      by_cases hM : 8 < M
      · have m0 : decide ((M : Int) > 8) = true := by simp; omega
        have m1 : decide (M > 8) = true := by simp; omega
        have m2 : decide (8 < M) = true := by simp; omega
        have m3 : decide ((8 : Int) < (M : Int)) = true := by simp; omega
        go_wp2
        go_ret
        exact ⟨true, rfl, by simp, rfl⟩
      have m0 : decide ((M : Int) > 8) = false := by simp; omega
      have m1 : decide (M > 8) = false := by simp; omega
      have m2 : decide (8 < M) = false := by simp; omega
      have m3 : decide ((8 : Int) < (M : Int)) = false := by simp; omega
      go_wp2
      go_loopg [4] M (fun gg ct wr => ∃ q : Nat, gg = M - q ∧ q ≤ M ∧ ct = .int .i64 q ∧ Hid (∀ s ∈ xs.take q, s.name.size ≤ 100) ∧ w = wr)
      case atStart => exact ⟨0, rfl, by omega, rfl, Lib.hid (by simp), rfl⟩
      case round =>
        obtain ⟨q, HG2, hq, rfl, HQ, rfl⟩ := hrel
        by_cases hlq : q < M
        · have hlq' : q < xs.length := by rw [HM.out]; exact hlq
          obtain ⟨s, hs⟩ : ∃ y, xs[q]? = some y := ⟨_, List.getElem?_eq_getElem hlq'⟩
          obtain ⟨b2, o2, rfl, hb2, e0, e1, _, _, _, _⟩ := HSg.out.at_ hs
          have HS := Lib.hid (And.intro HG2 hs)
          have hq0 : (0 : Int) ≤ (q : Int) := by omega
          have hq1 : (q : Int) < (M : Int) := by omega
          clear HG2 hs e0
          generalize hsn : s.name = sn at e1
          have HSn := Lib.hid hsn
          clear hsn
          by_cases hn : 100 < sn.size
          · have n0 : decide ((sn.size : Int) > 100) = true := by simp; omega
            have n1 : decide (sn.size > 100) = true := by simp; omega
            have n2 : decide (100 < sn.size) = true := by simp; omega
            have n3 : decide ((100 : Int) < (sn.size : Int)) = true := by simp; omega
            go_wp2
            go_ret
            exact ⟨true, rfl, by simp, rfl⟩
          have n0 : decide ((sn.size : Int) > 100) = false := by simp; omega
          have n1 : decide (sn.size > 100) = false := by simp; omega
          have n2 : decide (100 < sn.size) = false := by simp; omega
          have n3 : decide ((100 : Int) < (sn.size : Int)) = false := by simp; omega
          have HN1 := Lib.hid hn
          clear hn
          go_wp2
          go_roundg (M - (q + 1))
          case measure => rw [HS.out.1]; omega
          case rel =>
            refine ⟨q + 1, rfl, by omega, by go_num, Lib.hid fun y hy => ?_, rfl⟩
            rcases mem_take_succ HS.out.2 hy with h | rfl
            · exact HQ.out y h
            · rw [HSn.out]; have := HN1.out; omega
        · obtain rfl : q = M := by omega
          have HAll := Lib.hid (show xl.size ≤ 120 ∧ xs.length ≤ 8 ∧ ∀ s ∈ xs, s.name.size ≤ 100 from ⟨by omega, by rw [HM.out]; omega, fun s hs => HQ.out s (by rw [List.take_of_length_le (by rw [HM.out]; exact Nat.le_refl _)]; exact hs)⟩)
          clear HG2
          go_wp2
          go_roundg (N - (j + 1))
          case measure => rw [HX.out.1]; omega
          case rel =>
            refine ⟨j + 1, rfl, by omega, by go_num, Lib.hid fun y hy => ?_, rfl⟩
            rcases mem_take_succ HX.out.2 hy with h | rfl
            · exact HP.out y h
            · exact HAll.out
    · obtain rfl : j = N := by omega
      have HF := Lib.hid (show KnS known from ⟨by rw [HN.out]; omega, fun x hx => HP.out x (by rw [List.take_of_length_le (by rw [HN.out]; exact Nat.le_refl _)]; exact hx)⟩)
      clear HG
      go_wp2
      go_ret
      exact ⟨false, rfl, fun _ => HF.out, rfl⟩
/-- No two signatures of an interface have the same id or name. -/
def DisK (known : List If) : Prop := ∀ x ∈ known, ∀ (k j : Nat) (s t : Sg), j < k → x.sigs[k]? = some s → x.sigs[j]? = some t → s.id ≠ t.id ∧ s.name ≠ t.name
def DisK1 (l : List Sg) (n : Nat) : Prop := ∀ (k j : Nat) (s t : Sg), k < n → j < k → l[k]? = some s → l[j]? = some t → s.id ≠ t.id ∧ s.name ≠ t.name
set_option maxRecDepth 100000 in
set_option maxHeartbeats 8000000 in
theorem distinct_any (known : List If) (kA : Option Addr) (kc : Nat) (w : World) (hk : SlI w w.heap.size kA kc known) :
    Calls Tryz.prog 29 #[.slice kA known.length kc] w fun e w' => ∃ b, e = .returned (.bool b) ∧ (b = true → DisK known) ∧ ∃ q, w' = w.drewN q := by
  have h1 := hk.1
  have h2 := hk.2.1
  unfold maxLen at h2
  obtain ⟨N, HN⟩ : ∃ Q, Hid (known.length = Q) := ⟨_, Lib.hid rfl⟩
  have HK := Lib.hid hk
  rw [HN.out] at h1 ⊢
  clear hk
  go_enter Tryz.func29, Tryz.ntmps29
  go_wp2
  go_loopg [3, 4, 5, 6] N (fun gg ct _ _ _ wr => ∃ j : Nat, gg = N - j ∧ j ≤ N ∧ ct = .int .i64 j ∧ Hid (∀ x ∈ known.take j, DisK1 x.sigs x.sigs.length) ∧ ∃ z, wr = w.drewN z)
  case atStart => exact ⟨0, rfl, by omega, rfl, Lib.hid (by simp), 0, rfl⟩
  case round =>
    obtain ⟨j, HG, hj, rfl, HP, z, rfl⟩ := hrel
    by_cases hlt : j < N
    · have hlt' : j < known.length := by rw [HN.out]; exact hlt
      obtain ⟨x, hx⟩ : ∃ y, known[j]? = some y := ⟨_, List.getElem?_eq_getElem hlt'⟩
      obtain ⟨b, o, rfl, hb, c0, c1, hsg⟩ := HK.out.at_ hx
      have HX := Lib.hid (And.intro HG hx)
      obtain ⟨xl, xA, xc, xs⟩ := x
      simp only at c0 c1 hsg
      obtain ⟨M, HM⟩ : ∃ Q, Hid (xs.length = Q) := ⟨_, Lib.hid rfl⟩
      have hs1 := hsg.1
      have hs2 := hsg.2.1
      unfold maxLen at hs2
      rw [HM.out] at c1 hs1
      have HSg := Lib.hid hsg
      have hj0 : (0 : Int) ≤ (j : Int) := by omega
      have hj1 : (j : Int) < (N : Int) := by omega
      clear HG hx hsg
      go_wp2
      go_loopg [5, 6] M (fun gg ct _ wr => ∃ q : Nat, gg = M - q ∧ q ≤ M ∧ ct = .int .i64 q ∧ Hid (DisK1 xs q) ∧ ∃ z, wr = w.drewN z)
      case atStart => exact ⟨0, rfl, by omega, rfl, Lib.hid (fun k j s t h => absurd h (Nat.not_lt_zero _)), _, rfl⟩
      case round =>
        obtain ⟨q, HG2, hq, rfl, HQ, z, rfl⟩ := hrel
        by_cases hlq : q < M
        · have hlq' : q < xs.length := by rw [HM.out]; exact hlq
          obtain ⟨s, hs⟩ : ∃ y, xs[q]? = some y := ⟨_, List.getElem?_eq_getElem hlq'⟩
          obtain ⟨b2, o2, rfl, hb2, e0, e1, _, _, _, _⟩ := HSg.out.at_ hs
          have HS := Lib.hid (And.intro HG2 (And.intro hs hb2))
          have hq0 : (0 : Int) ≤ (q : Int) := by omega
          have hq1 : (q : Int) < (M : Int) := by omega
          clear HG2 hs
          obtain ⟨sid, Hsid⟩ : ∃ Q, Hid (s.id = Q) := ⟨_, Lib.hid rfl⟩
          obtain ⟨sn, Hsn⟩ : ∃ Q, Hid (s.name = Q) := ⟨_, Lib.hid rfl⟩
          rw [Hsid.out] at e0
          rw [Hsn.out] at e1
          have HE := Lib.hid (And.intro e0 e1)
          clear e0 e1
          go_wp2
          go_loopg [6] q (fun gg ct wr => ∃ p : Nat, gg = q - p ∧ p ≤ q ∧ ct = .int .i64 p ∧ Hid (∀ (i : Nat) (t : Sg), i < p → xs[i]? = some t → s.id ≠ t.id ∧ s.name ≠ t.name) ∧ ∃ z, wr = w.drewN z)
          case atStart => exact ⟨0, rfl, by omega, rfl, Lib.hid (fun i t h => absurd h (Nat.not_lt_zero _)), _, rfl⟩
          case round =>
            obtain ⟨p, HG3, hp, rfl, HR, z, rfl⟩ := hrel
            by_cases hlp : p < q
            · have hlp' : p < xs.length := by rw [HM.out]; omega
              obtain ⟨t, ht⟩ : ∃ y, xs[p]? = some y := ⟨_, List.getElem?_eq_getElem hlp'⟩
              obtain ⟨b3, o3, hbo, hb3, f0, f1, _, _, _, _⟩ := HSg.out.at_ ht
              simp only [Option.some.injEq, Addr.mk.injEq, and_true] at hbo
              obtain ⟨rfl, rfl⟩ := hbo
              have HT := Lib.hid (And.intro HG3 ht)
              obtain ⟨tid, Htid⟩ : ∃ Q, Hid (t.id = Q) := ⟨_, Lib.hid rfl⟩
              obtain ⟨tn, Htn⟩ : ∃ Q, Hid (t.name = Q) := ⟨_, Lib.hid rfl⟩
              rw [Htid.out] at f0
              rw [Htn.out] at f1
              obtain ⟨e0, e1⟩ := HE.out
              have hp0 : (0 : Int) ≤ (p : Int) := by omega
              have hp1 : (p : Int) < (M : Int) := by omega
              have hpq : (p : Int) < (q : Int) := by omega
              clear HG3 ht
              cases hid' : (sid == tid) with
              | true =>
                go_wp2_with fail
                go_quiet (fail)
                clear e0 e1 f0 f1
                go_wp2
                go_ret
                exact ⟨false, rfl, by simp, z + nq, by simp [World.drewN, Nat.add_assoc]⟩
              | false =>
                have HI := Lib.hid (show sid ≠ tid by simpa using hid')
                cases hnn : (sn.toList == tn.toList) with
                | true =>
                  go_wp2_with fail
                  go_quiet (fail)
                  clear e0 e1 f0 f1
                  go_wp2
                  go_ret
                  exact ⟨false, rfl, by simp, z + nq, by simp [World.drewN, Nat.add_assoc]⟩
                | false =>
                  have HNn := Lib.hid (show sn ≠ tn from fun e => by subst e; simp at hnn)
                  go_wp2_with fail
                  go_quiet (fail)
                  clear e0 e1 f0 f1 hid' hnn
                  go_wp2
                  go_roundg (q - (p + 1))
                  case measure => rw [HT.out.1]; omega
                  case rel =>
                    refine ⟨p + 1, rfl, by omega, by go_num, Lib.hid fun i u hi hu => ?_, z + nq, by simp [World.drewN]⟩
                    by_cases hip : i = p
                    · subst hip
                      rw [HT.out.2] at hu
                      cases hu
                      rw [Hsid.out, Hsn.out, Htid.out, Htn.out]
                      exact ⟨HI.out, HNn.out⟩
                    · exact HR.out i u (by omega) hu
            · obtain rfl : p = q := by omega
              clear HG3
              go_wp2
              go_roundg (M - (p + 1))
              case measure => rw [HS.out.1]; omega
              case rel =>
                refine ⟨p + 1, rfl, by omega, by go_num, Lib.hid fun k i u v hk hi hu hv => ?_, _, rfl⟩
                by_cases hkp : k = p
                · subst hkp
                  rw [HS.out.2.1] at hu
                  cases hu
                  exact HR.out i v hi hv
                · exact HQ.out k i u v (by omega) hi hu hv
        · obtain rfl : q = M := by omega
          clear HG2
          go_wp2
          go_roundg (N - (j + 1))
          case measure => rw [HX.out.1]; omega
          case rel =>
            refine ⟨j + 1, rfl, by omega, by go_num, Lib.hid fun y hy => ?_, _, rfl⟩
            rcases mem_take_succ HX.out.2 hy with h | rfl
            · exact HP.out y h
            · simp only [HM.out]
              exact HQ.out
    · obtain rfl : j = N := by omega
      have HF := Lib.hid (show DisK known from fun x hx k i s t hi hs ht => HP.out x (by rw [List.take_of_length_le (by rw [HN.out]; exact Nat.le_refl _)]; exact hx) k i s t (List.getElem?_eq_some_iff.1 hs).1 hi hs ht)
      clear HG
      go_wp2
      go_ret
      exact ⟨true, rfl, fun _ => HF.out, z, rfl⟩
set_option maxRecDepth 100000 in
set_option maxHeartbeats 4000000 in
theorem greatSource_any (u : List ByteArray) (uA : Option Addr) (uc : Nat) (l : List Dc) (A : Option Addr) (c : Nat) (w : World) (hu : SlS w w.heap.size uA uc u) (hs : SlD w w.heap.size A c l) :
    Calls Tryz.prog 33 #[.agg #[.slice uA u.length uc, .slice A l.length c]] w fun e w' => e = .returned (.bool (greatU u || greatD l)) ∧ Below w.heap.size w w' := by
  obtain ⟨M, HM⟩ : ∃ Q, Hid (u.length = Q) := ⟨_, Lib.hid rfl⟩
  obtain ⟨N, HN⟩ : ∃ Q, Hid (l.length = Q) := ⟨_, Lib.hid rfl⟩
  rw [HM.out, HN.out]
  obtain ⟨W1, hW1⟩ : ∃ W1, w.alloc (.cells #[.slice uA M uc, .slice A N c] 40) = W1 := ⟨_, rfl⟩
  have hb1 : Below w.heap.size w W1 := by rw [← hW1]; exact (Below.refl _ _).alloc (Nat.le_refl _) _
  have hx0 : W1.heap[w.heap.size]? = some (.cells #[.slice uA M uc, .slice A N c] 40 (0, 0)) := by rw [← hW1]; exact heap_alloc_new w _
  have x0 : W1.cell? ⟨w.heap.size, 0, none⟩ = some (.slice uA M uc) := cell_of_row W1 _ 0 _ _ (0, 0) hx0
  have x1 : W1.cell? ⟨w.heap.size, 1, none⟩ = some (.slice A N c) := cell_of_row W1 _ 1 _ _ (0, 0) hx0
  have hg1 := greatUses_any u uA uc W1 (hu.keep hb1.size fun p hp => hb1.cell hp)
  have hg2 := greatDecls_any l A c W1 (hs.keep hb1.size fun p hp => hb1.cell hp)
  obtain ⟨g1, Hg1⟩ : ∃ Q, Hid (greatU u = Q) := ⟨_, Lib.hid rfl⟩
  obtain ⟨g2, Hg2⟩ : ∃ Q, Hid (greatD l = Q) := ⟨_, Lib.hid rfl⟩
  rw [HM.out, Hg1.out] at hg1
  rw [HN.out, Hg2.out] at hg2
  rw [Hg1.out, Hg2.out]
  have H1 := Lib.hid hg1
  have H2 := Lib.hid hg2
  have HB := Lib.hid hb1
  clear hu hs hg1 hg2 hb1 hx0
  go_enter Tryz.func33, Tryz.ntmps33
  go_wp2_with fail
  refine H1.out.mono ?_
  rintro e w2 ⟨rfl, rfl⟩
  cases g1 with
  | true =>
    clear x0 x1
    go_wp2
    go_ret
    exact ⟨rfl, HB.out⟩
  | false =>
    go_wp2_with fail
    refine H2.out.mono ?_
    rintro e w3 ⟨rfl, hb3⟩
    have HB3 := Lib.hid (HB.out.trans (hb3.mono HB.out.size))
    clear x0 x1 hb3
    go_wp2
    go_ret
    exact ⟨by simp, HB3.out⟩
/-- law24.great: where it says no, nothing is great. -/
def GreatLP (label : ByteArray) (u : List ByteArray) (l : List Dc) (known : List If) (w : World) (e : Ending) (w' : World) : Prop := ∃ b, e = .returned (.bool b) ∧ (b = false → label.size ≤ 120 ∧ (greatU u || greatD l) = false ∧ KnS known) ∧ Below w.heap.size w w'
set_option maxRecDepth 100000 in
set_option maxHeartbeats 4000000 in
theorem great24L_any (label : ByteArray) (u : List ByteArray) (uA : Option Addr) (uc : Nat) (l : List Dc) (A : Option Addr) (c : Nat) (known : List If) (kA : Option Addr) (kc : Nat) (w : World) (hu : SlS w w.heap.size uA uc u) (hs : SlD w w.heap.size A c l) (hk : SlI w w.heap.size kA kc known) :
    Calls Tryz.prog 19 #[.string label, .agg #[.slice uA u.length uc, .slice A l.length c], .slice kA known.length kc] w (GreatLP label u l known w) := by
  obtain ⟨M, HM⟩ : ∃ Q, Hid (u.length = Q) := ⟨_, Lib.hid rfl⟩
  obtain ⟨N, HN⟩ : ∃ Q, Hid (l.length = Q) := ⟨_, Lib.hid rfl⟩
  obtain ⟨K, HK⟩ : ∃ Q, Hid (known.length = Q) := ⟨_, Lib.hid rfl⟩
  rw [HM.out, HN.out, HK.out]
  obtain ⟨W1, hW1⟩ : ∃ W1, w.alloc (.cells #[.slice uA M uc, .slice A N c] 40) = W1 := ⟨_, rfl⟩
  have hb1 : Below w.heap.size w W1 := by rw [← hW1]; exact (Below.refl _ _).alloc (Nat.le_refl _) _
  have hx0 : W1.heap[w.heap.size]? = some (.cells #[.slice uA M uc, .slice A N c] 40 (0, 0)) := by rw [← hW1]; exact heap_alloc_new w _
  have x0 : W1.cell? ⟨w.heap.size, 0, none⟩ = some (.slice uA M uc) := cell_of_row W1 _ 0 _ _ (0, 0) hx0
  have x1 : W1.cell? ⟨w.heap.size, 1, none⟩ = some (.slice A N c) := cell_of_row W1 _ 1 _ _ (0, 0) hx0
  have hg1 := greatSource_any u uA uc l A c W1 (hu.keep hb1.size fun p hp => hb1.cell hp) (hs.keep hb1.size fun p hp => hb1.cell hp)
  obtain ⟨g1, Hg1⟩ : ∃ Q, Hid ((greatU u || greatD l) = Q) := ⟨_, Lib.hid rfl⟩
  rw [HM.out, HN.out, Hg1.out] at hg1
  have H1 := Lib.hid hg1
  have H2 := Lib.hid (show ∀ X : World, Below w.heap.size w X → Calls Tryz.prog 23 #[.slice kA K kc] X fun e w' => ∃ b, e = .returned (.bool b) ∧ (b = false → KnS known) ∧ w' = X from fun X hX => by
    have h := greatKnown_any known kA kc X (hk.below hX)
    rwa [HK.out] at h)
  have HB := Lib.hid hb1
  clear hu hs hk hg1 hb1 hx0
  by_cases hl : 120 < label.size
  · have p0 : decide ((label.size : Int) > 120) = true := by simp; omega
    have p1 : decide (label.size > 120) = true := by simp; omega
    have p2 : decide (120 < label.size) = true := by simp; omega
    have p3 : decide ((120 : Int) < (label.size : Int)) = true := by simp; omega
    go_enter Tryz.func19, Tryz.ntmps19
    go_wp2
    go_ret
    exact ⟨true, rfl, by simp, HB.out⟩
  have p0 : decide ((label.size : Int) > 120) = false := by simp; omega
  have p1 : decide (label.size > 120) = false := by simp; omega
  have p2 : decide (120 < label.size) = false := by simp; omega
  have p3 : decide ((120 : Int) < (label.size : Int)) = false := by simp; omega
  have HL := Lib.hid hl
  go_enter Tryz.func19, Tryz.ntmps19
  go_wp2_with fail
  refine H1.out.mono ?_
  rintro e w2 ⟨rfl, hb2⟩
  have hb2' := HB.out.trans (hb2.mono HB.out.size)
  have HB2 := Lib.hid hb2'
  clear hb2 x0 x1 hW1
  cases g1 with
  | true =>
    clear hb2'
    go_wp2
    go_ret
    exact ⟨true, rfl, by simp, HB2.out⟩
  | false =>
    have HC := Lib.hid (H2.out w2 hb2')
    clear hb2'
    go_wp2_with fail
    refine HC.out.mono ?_
    rintro e w3 ⟨b, rfl, hb, rfl⟩
    have HBq := Lib.hid hb
    clear hb
    cases b with
    | true =>
      go_wp2
      go_ret
      exact ⟨true, rfl, by simp, HB2.out⟩
    | false =>
      go_wp2
      go_ret
      exact ⟨false, rfl, fun _ => ⟨by have := HL.out; omega, Hg1.out, HBq.out (by simp)⟩, HB2.out⟩
end Go.Proofs.YtacjjkbkhpdhnaaGreatDoor
/- slices.ContainsFunc at interfaces, as law24.BindRoundTrip calls it -/
namespace Go.Proofs.YtacjjkbkhpdhnaaGreatDoor
open Go.RowKit Go.Proofs Go.Shelf

theorem labEq (a b : ByteArray) : (a.toList == b.toList) = decide (a = b) := by
  rw [Bool.eq_iff_iff, beq_iff_eq, decide_eq_true_iff]
  refine ⟨fun h => ?_, fun h => by rw [h]⟩
  rw [ByteArray.toList_eq, ByteArray.toList_eq] at h
  exact ByteArray.ext (Array.ext' h)
set_option maxHeartbeats 1000000 in
theorem closRT_any (x : If) (u : ByteArray) (p : Nat) (w : World) (hp : w.cell? ⟨p, 0, none⟩ = some (.string u)) :
    Calls Tryz.prog 31 #[.agg #[.string x.label, .slice x.sA x.sigs.length x.sc], .pointer (some ⟨p, 0, none⟩)] w fun e w' => e = .returned (.bool (decide (x.label = u))) ∧ Below w.heap.size w w' := by
  obtain ⟨xl, xA, xc, xs⟩ := x
  simp only
  rw [← labEq]
  obtain ⟨M, HM⟩ : ∃ Q, Hid (xs.length = Q) := ⟨_, Lib.hid rfl⟩
  rw [HM.out]
  obtain ⟨W0, hW0⟩ : ∃ W0, w.alloc (.cells #[.string xl, .slice xA M xc] 55) = W0 := ⟨_, rfl⟩
  have hb0 : Below w.heap.size w W0 := by rw [← hW0]; exact (Below.refl _ _).alloc (Nat.le_refl _) _
  have hx0 : W0.heap[w.heap.size]? = some (.cells #[.string xl, .slice xA M xc] 55 (0, 0)) := by rw [← hW0]; exact heap_alloc_new _ _
  have x0 : W0.cell? ⟨w.heap.size, 0, none⟩ = some (.string xl) := cell_of_row W0 _ 0 _ _ (0, 0) hx0
  have y0 := (hb0.cell (p := ⟨p, 0, none⟩) (World.block_lt_of_cell? w _ hp)).trans hp
  have HB := Lib.hid hb0
  clear hp hb0 hx0
  go_enter Tryz.func31, Tryz.ntmps31
  go_wp2
  go_ret
  exact ⟨rfl, HB.out⟩
def IdxIP (b : Bool) (w : World) (e : Ending) (w' : World) : Prop := ∃ j : Int, e = .returned (.int .i64 j) ∧ decide (0 ≤ j) = b ∧ Below w.heap.size w w'
set_option maxHeartbeats 1000000 in
theorem indexFnI_any (l : List If) (u : ByteArray) (p : Nat) (A : Option Addr) (c : Nat) (w : World) (hs : SlI w w.heap.size A c l) (hp : w.cell? ⟨p, 0, none⟩ = some (.string u)) :
    Calls Tryz.prog 84 #[.slice A l.length c, .func (.func 31) #[] #[.pointer (some ⟨p, 0, none⟩)]] w (IdxIP (faceO l u).isSome w) := by
  obtain ⟨N, HN⟩ : ∃ Q, Hid (l.length = Q) := ⟨_, Lib.hid rfl⟩
  obtain ⟨E, HE⟩ : ∃ Q, Hid ((faceO l u).isSome = Q) := ⟨_, Lib.hid rfl⟩
  have hcap : l.length ≤ 9223372036854775807 := by have := hs.1; have := hs.2.1; unfold maxLen at this; omega
  rw [HN.out] at hcap ⊢
  rw [HE.out]
  have HS := Lib.hid (And.intro hs hp)
  clear hs hp
  go_enter Tryz.func84, Tryz.ntmps84
  go_wp2
  go_loopg [5, 8] N (fun g _ ct wr => ∃ j : Nat, g = N - j ∧ j ≤ N ∧ ct = .int .i64 j ∧ Hid ((faceO (l.drop j) u).isSome = E) ∧ Below w.heap.size w wr)
  case atStart => exact ⟨0, rfl, by omega, rfl, Lib.hid (by rw [List.drop_zero]; exact HE.out), Below.refl _ _⟩
  case round =>
    obtain ⟨j, HG, hj, rfl, HP, hBr⟩ := hrel
    have hz := hBr.size
    by_cases hlt : j < N
    · obtain ⟨x, hx⟩ : ∃ y, l[j]? = some y := ⟨_, List.getElem?_eq_getElem (by rw [HN.out]; exact hlt)⟩
      obtain ⟨b, o, rfl, hb, c0, c1, _⟩ := (HS.out.1.below hBr).at_ hx
      have HE2 := Lib.hid (And.intro HG (And.intro hBr hx))
      have hpr := (hBr.cell (World.block_lt_of_cell? w ⟨p, 0, none⟩ HS.out.2)).trans HS.out.2
      have HD := Lib.hid (HP.out.symm.trans (congrArg Option.isSome (faceO_drop hx)))
      clear HG hBr hx
      have hR := closRT_any x u p wr hpr
      obtain ⟨xl, xA, xc, xs⟩ := x
      simp only at c0 c1 hR HD
      obtain ⟨M, HM⟩ : ∃ Q, Hid (xs.length = Q) := ⟨_, Lib.hid rfl⟩
      rw [HM.out] at c1 hR
      obtain ⟨q, Hq⟩ : ∃ Q, Hid (decide (xl = u) = Q) := ⟨_, Lib.hid rfl⟩
      rw [Hq.out] at hR
      have HR := Lib.hid hR
      clear hpr hR
      go_wp2_with fail
      refine HR.out.mono ?_
      rintro e w1 ⟨rfl, hb1⟩
      have HB1 := Lib.hid (HE2.out.2.1.trans (hb1.mono hz))
      clear hb1 HR c0 c1
      cases q with
      | false =>
        have HN2 := Lib.hid (show E = (faceO (l.drop (j + 1)) u).isSome by rw [HD.out, if_neg (of_decide_eq_false Hq.out)])
        go_wp2
        go_roundg (N - (j + 1))
        case measure => rw [HE2.out.1]; omega
        case rel => exact ⟨j + 1, rfl, by omega, by go_num, Lib.hid HN2.out.symm, HB1.out⟩
      | true =>
        have HN2 := Lib.hid (show E = true by rw [HD.out, if_pos (of_decide_eq_true Hq.out)]; rfl)
        go_wp2
        go_ret
        exact ⟨j, rfl, by rw [HN2.out]; simp, HB1.out⟩
    · obtain rfl : j = N := by omega
      have HN2 := Lib.hid (show E = false by rw [← HP.out, List.drop_eq_nil_of_le (by rw [HN.out]; exact Nat.le_refl _)]; rfl)
      clear HG
      go_wp2
      go_ret
      exact ⟨-1, rfl, by rw [HN2.out]; rfl, hBr⟩
set_option maxHeartbeats 1000000 in
theorem containsFnI_any (l : List If) (u : ByteArray) (p : Nat) (A : Option Addr) (c : Nat) (w : World) (hs : SlI w w.heap.size A c l) (hp : w.cell? ⟨p, 0, none⟩ = some (.string u)) :
    Calls Tryz.prog 30 #[.slice A l.length c, .func (.func 31) #[] #[.pointer (some ⟨p, 0, none⟩)]] w fun e w' => e = .returned (.bool (faceO l u).isSome) ∧ Below w.heap.size w w' := by
  obtain ⟨N, HN⟩ : ∃ Q, Hid (l.length = Q) := ⟨_, Lib.hid rfl⟩
  have hC := indexFnI_any l u p A c w hs hp
  obtain ⟨E, HE⟩ : ∃ Q, Hid ((faceO l u).isSome = Q) := ⟨_, Lib.hid rfl⟩
  rw [HN.out, HE.out] at hC
  rw [HN.out, HE.out]
  have HC := Lib.hid hC
  clear hs hp hC
  go_enter Tryz.func30, Tryz.ntmps30
  go_wp2_with fail
  refine HC.out.mono ?_
  rintro e w1 ⟨j, rfl, hj, hb⟩
  go_wp2
  go_ret
  exact ⟨by simp, hb⟩
end Go.Proofs.YtacjjkbkhpdhnaaGreatDoor
/- The names of valid nodes are short; aliases are no longer than labels -/
namespace Go.Proofs.YtacjjkbkhpdhnaaGreatDoor
open Go.RowKit Go.Proofs Go.Shelf

theorem size_of_empty {s : ByteArray} (h : s.toList.isEmpty = true) : s.size = 0 := by
  rw [List.isEmpty_iff, ByteArray.toList_eq] at h
  have h2 : s.data.toList.length = s.size := by simp
  rw [h] at h2
  simpa using h2.symm
theorem labelB_size90 {s : ByteArray} (h : labelB s = true) : s.size ≤ 90 := by
  unfold labelB at h
  simp at h
  exact h.1
theorem nameB_size {s : ByteArray} (h : nameB s = true) : s.size ≤ 65536 := by
  unfold nameB wordB at h
  simp at h
  omega
/-- What the words and numbers of a valid node are like. -/
theorem err_small {k : Int} {n m : ByteArray} {i d : Int} {len : Nat} (h : nodeE k n m i d len = 0) : (0 ≤ k ∧ k ≤ 15) ∧ n.size ≤ 65536 ∧ m.size ≤ 65536 ∧ (0 ≤ d ∧ d ≤ 999999) := by
  have hk : knownZ k := by
    by_cases hk : knownZ k
    · exact hk
    · unfold nodeE at h
      rw [shapeZ_no hk] at h
      simp at h
  have hkb : 0 ≤ k ∧ k ≤ 15 := by unfold knownZ at hk; omega
  refine ⟨hkb, ?_⟩
  unfold nodeE at h
  obtain ⟨⟨a, b, c, ok⟩, ht⟩ : ∃ t, shapeZ k = t := ⟨_, rfl⟩
  have ha2 : a ≤ 2 ∧ (2 ≤ b → k = 14) := by
    unfold knownZ at hk
    rcases hk with rfl | rfl | rfl | rfl | rfl | rfl | rfl | rfl | rfl | rfl | rfl | rfl | rfl | rfl | rfl <;> (simp [shapeZ] at ht; omega)
  rw [ht] at h
  cases ok
  · simp at h
  · simp only at h
    cases ha : argB a b c n m i d len
    · rw [ha] at h
      simp only [Bool.false_eq_true, if_false] at h
      by_cases hn : namesE k n m a = 0
      · rw [if_pos hn] at h
        unfold argB at ha
        simp only [Bool.or_eq_false_iff, Bool.and_eq_false_iff, decide_eq_false_iff_not, Bool.not_eq_false'] at ha
        obtain ⟨⟨⟨⟨a1, a2⟩, a3⟩, a4⟩, a5⟩ := ha
        unfold namesE at hn
        by_cases h6 : nmB k n a = false ∨ (a = 2 ∧ nameB m = false)
        · rw [if_pos h6] at hn; simp at hn
        · rw [not_or] at h6
          obtain ⟨h7, h8⟩ := h6
          have h7' : nmB k n a = true := by simpa using h7
          refine ⟨?_, ?_, ?_⟩
          · unfold nmB at h7'
            by_cases k5 : k = 5
            · rw [if_pos k5, Bool.or_eq_true] at h7'
              rcases h7' with h9 | h9
              · have := size_of_empty h9; omega
              · have := labelB_size90 h9; omega
            · rw [if_neg k5] at h7'
              by_cases k10 : k = 10
              · rw [if_pos k10] at h7'
                unfold opB at h7'
                simp at h7'
                omega
              · rw [if_neg k10] at h7'
                by_cases ha1 : 1 ≤ a
                · rw [if_pos ha1] at h7'; exact nameB_size h7'
                · rcases a1 with a1 | a1
                  · omega
                  · have := size_of_empty a1; omega
          · rcases a2 with a2 | a2
            · have : a = 2 := by omega
              have h9 : nameB m = true := by
                cases hm : nameB m
                · exact absurd ⟨this, hm⟩ h8
                · rfl
              exact nameB_size h9
            · have := size_of_empty a2; omega
          · rcases a4 with a4 | a4
            · have k14 := ha2.2 (by omega)
              subst k14
              unfold numE at h
              cases hb : numB 14 i d
              · rw [hb] at h; simp at h
              · simp [numB] at hb; omega
            · have : d = 0 := by simpa using a4
              omega
      · rw [if_neg hn] at h; exact absurd h hn
    · rw [ha] at h; simp at h
theorem Fo.str_of : ∀ (s : Fo) (dp : Nat), (∀ x ∈ s.pre dp, x.err = 0) → s.Str
  | .nil, _, _ => trivial
  | .cons k n m i d A c s r, dp, h => by
    simp only [Fo.pre, List.mem_cons, List.mem_append] at h
    obtain ⟨_, h1, h2, _⟩ := err_small (h ⟨dp, k, n, m, i, d, A, s.len, c⟩ (.inl rfl))
    refine ⟨?_, ?_, s.str_of (dp + 1) (fun x hx => h x (.inr (.inl hx))), r.str_of dp (fun x hx => h x (.inr (.inr hx)))⟩
    · unfold maxLen; simp only at h1; omega
    · unfold maxLen; simp only at h2; omega
theorem expr_str {x : Dc} (h : exprE x.pre = 0) : x.n.size ≤ maxLen ∧ x.m.size ≤ maxLen ∧ x.s.Str := by
  obtain ⟨_, _, h3⟩ := exprE_zero h
  obtain ⟨_, h1, h2, _⟩ := err_small (h3 ⟨1, x.k, x.n, x.m, x.i, x.d, x.A, x.s.len, x.c⟩ (by unfold Dc.pre; simp))
  refine ⟨?_, ?_, x.s.str_of 2 fun y hy => h3 y (by unfold Dc.pre; simp [hy])⟩
  · unfold maxLen; simp only at h1; omega
  · unfold maxLen; simp only at h2; omega
theorem alias_size (s : ByteArray) : (aliasB s).size ≤ s.size := by
  unfold aliasB
  split
  · rw [ByteArray.size_extract]
    omega
  · exact Nat.zero_le _
end Go.Proofs.YtacjjkbkhpdhnaaGreatDoor
