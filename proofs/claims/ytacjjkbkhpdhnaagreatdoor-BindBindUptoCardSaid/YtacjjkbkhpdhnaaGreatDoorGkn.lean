/- ref24.GreatKnown, Distinct, ref21.GreatSource, law24.great (printed by gen_gkn.py) -/
import Derived.Test.YtacjjkbkhpdhnaaGreatDoorZpe
import Derived.Test.YtacjjkbkhpdhnaaGreatDoorZll
import Derived.BigQuiet
import Derived.Deep.QuietTactic
import Derived.Deep.DeepCutAuto
namespace Go.Proofs.YtacjjkbkhpdhnaaGreatDoor
open Go.RowKit Go.Proofs Go.Shelf
def KnS1 (x : If) : Prop := x.label.size ≤ 120 ∧ x.sigs.length ≤ 8 ∧ ∀ s ∈ x.sigs, s.name.size ≤ 100
def KnS (known : List If) : Prop := known.length ≤ 6 ∧ ∀ x ∈ known, KnS1 x
theorem mem_take_succ {α : Type} {l : List α} {j : Nat} {x y : α} (hj : l[j]? = some x) (hy : y ∈ l.take (j + 1)) : y ∈ l.take j ∨ y = x := by
  obtain ⟨hlt, rfl⟩ := List.getElem?_eq_some_iff.1 hj
  rw [List.take_succ_eq_append_getElem hlt] at hy
  rcases List.mem_append.1 hy with h | h
  · exact .inl h
  · exact .inr (List.mem_singleton.1 h)
set_option maxRecDepth 100000 in
set_option maxHeartbeats 4000000 in
theorem greatKnown_any (known : List If) (kA : Option Addr) (kc : Nat) (w : World) (hk : SlI w w.heap.size kA kc known) :
    Calls Tryz.prog 23 #[.slice kA known.length kc] w fun e w' => ∃ b, e = .returned (.bool b) ∧ (b = false → KnS known) ∧ w' = w := by
  have h1 := hk.1
  have h2 := hk.2.1
  unfold maxLen at h2
  obtain ⟨N, HN⟩ : ∃ Q, Hid (known.length = Q) := ⟨_, Lib.hid rfl⟩
  have HK := Lib.hid hk
  rw [HN.out] at h1 ⊢
  clear hk
  by_cases h6 : 6 < N
  · have p0 : decide ((N : Int) > 6) = true := by simp; omega
    have p1 : decide (N > 6) = true := by simp; omega
    have p2 : decide (6 < N) = true := by simp; omega
    have p3 : decide ((6 : Int) < (N : Int)) = true := by simp; omega
    go_enter Tryz.func23, Tryz.ntmps23
    go_wp2
    go_ret
    exact ⟨true, rfl, by simp, rfl⟩
  have p0 : decide ((N : Int) > 6) = false := by simp; omega
  have p1 : decide (N > 6) = false := by simp; omega
  have p2 : decide (6 < N) = false := by simp; omega
  have p3 : decide ((6 : Int) < (N : Int)) = false := by simp; omega
  go_enter Tryz.func23, Tryz.ntmps23
  go_wp2
  go_loopg [3, 4] N (fun gg ct _ wr => ∃ j : Nat, gg = N - j ∧ j ≤ N ∧ ct = .int .i64 j ∧ Hid (∀ x ∈ known.take j, KnS1 x) ∧ w = wr)
  case atStart => exact ⟨0, rfl, by omega, rfl, Lib.hid (by simp), rfl⟩
  case round =>
    obtain ⟨j, HG, hj, rfl, HP, rfl⟩ := hrel
    by_cases hlt : j < N
    · have hlt' : j < known.length := by rw [HN.out]; exact hlt
      obtain ⟨x, hx⟩ : ∃ y, known[j]? = some y := ⟨_, List.getElem?_eq_getElem hlt'⟩
      obtain ⟨b, o, rfl, hb, c0, c1, hsg⟩ := HK.out.at_ hx
      have HX := Lib.hid (And.intro HG hx)
      obtain ⟨xl, xA, xc, xs⟩ := x
      simp only at c0 c1 hsg
      obtain ⟨M, HM⟩ : ∃ Q, Hid (xs.length = Q) := ⟨_, Lib.hid rfl⟩
      have hs1 := hsg.1
      have hs2 := hsg.2.1
      unfold maxLen at hs2
      rw [HM.out] at c1 hs1
      have HSg := Lib.hid hsg
      have hj0 : (0 : Int) ≤ (j : Int) := by omega
      have hj1 : (j : Int) < (N : Int) := by omega
      clear HG hx hsg
      by_cases hl : 120 < xl.size
      · have r0 : decide ((xl.size : Int) > 120) = true := by simp; omega
        have r1 : decide (xl.size > 120) = true := by simp; omega
        have r2 : decide (120 < xl.size) = true := by simp; omega
        have r3 : decide ((120 : Int) < (xl.size : Int)) = true := by simp; omega
        go_wp2
        go_ret
        exact ⟨true, rfl, by simp, rfl⟩
      have r0 : decide ((xl.size : Int) > 120) = false := by simp; omega
      have r1 : decide (xl.size > 120) = false := by simp; omega
      have r2 : decide (120 < xl.size) = false := by simp; omega
      have r3 : decide ((120 : Int) < (xl.size : Int)) = false := by simp; omega
      by_cases hM : 8 < M
      · have m0 : decide ((M : Int) > 8) = true := by simp; omega
        have m1 : decide (M > 8) = true := by simp; omega
        have m2 : decide (8 < M) = true := by simp; omega
        have m3 : decide ((8 : Int) < (M : Int)) = true := by simp; omega
        go_wp2
        go_ret
        exact ⟨true, rfl, by simp, rfl⟩
      have m0 : decide ((M : Int) > 8) = false := by simp; omega
      have m1 : decide (M > 8) = false := by simp; omega
      have m2 : decide (8 < M) = false := by simp; omega
      have m3 : decide ((8 : Int) < (M : Int)) = false := by simp; omega
      go_wp2
      go_loopg [4] M (fun gg ct wr => ∃ q : Nat, gg = M - q ∧ q ≤ M ∧ ct = .int .i64 q ∧ Hid (∀ s ∈ xs.take q, s.name.size ≤ 100) ∧ w = wr)
      case atStart => exact ⟨0, rfl, by omega, rfl, Lib.hid (by simp), rfl⟩
      case round =>
        obtain ⟨q, HG2, hq, rfl, HQ, rfl⟩ := hrel
        by_cases hlq : q < M
        · have hlq' : q < xs.length := by rw [HM.out]; exact hlq
          obtain ⟨s, hs⟩ : ∃ y, xs[q]? = some y := ⟨_, List.getElem?_eq_getElem hlq'⟩
          obtain ⟨b2, o2, rfl, hb2, e0, e1, _, _, _, _⟩ := HSg.out.at_ hs
          have HS := Lib.hid (And.intro HG2 hs)
          have hq0 : (0 : Int) ≤ (q : Int) := by omega
          have hq1 : (q : Int) < (M : Int) := by omega
          clear HG2 hs e0
          generalize hsn : s.name = sn at e1
          have HSn := Lib.hid hsn
          clear hsn
          by_cases hn : 100 < sn.size
          · have n0 : decide ((sn.size : Int) > 100) = true := by simp; omega
            have n1 : decide (sn.size > 100) = true := by simp; omega
            have n2 : decide (100 < sn.size) = true := by simp; omega
            have n3 : decide ((100 : Int) < (sn.size : Int)) = true := by simp; omega
            go_wp2
            go_ret
            exact ⟨true, rfl, by simp, rfl⟩
          have n0 : decide ((sn.size : Int) > 100) = false := by simp; omega
          have n1 : decide (sn.size > 100) = false := by simp; omega
          have n2 : decide (100 < sn.size) = false := by simp; omega
          have n3 : decide ((100 : Int) < (sn.size : Int)) = false := by simp; omega
          have HN1 := Lib.hid hn
          clear hn
          go_wp2
          go_roundg (M - (q + 1))
          case measure => rw [HS.out.1]; omega
          case rel =>
            refine ⟨q + 1, rfl, by omega, by go_num, Lib.hid fun y hy => ?_, rfl⟩
            rcases mem_take_succ HS.out.2 hy with h | rfl
            · exact HQ.out y h
            · rw [HSn.out]; have := HN1.out; omega
        · obtain rfl : q = M := by omega
          have HAll := Lib.hid (show xl.size ≤ 120 ∧ xs.length ≤ 8 ∧ ∀ s ∈ xs, s.name.size ≤ 100 from ⟨by omega, by rw [HM.out]; omega, fun s hs => HQ.out s (by rw [List.take_of_length_le (by rw [HM.out]; exact Nat.le_refl _)]; exact hs)⟩)
          clear HG2
          go_wp2
          go_roundg (N - (j + 1))
          case measure => rw [HX.out.1]; omega
          case rel =>
            refine ⟨j + 1, rfl, by omega, by go_num, Lib.hid fun y hy => ?_, rfl⟩
            rcases mem_take_succ HX.out.2 hy with h | rfl
            · exact HP.out y h
            · exact HAll.out
    · obtain rfl : j = N := by omega
      have HF := Lib.hid (show KnS known from ⟨by rw [HN.out]; omega, fun x hx => HP.out x (by rw [List.take_of_length_le (by rw [HN.out]; exact Nat.le_refl _)]; exact hx)⟩)
      clear HG
      go_wp2
      go_ret
      exact ⟨false, rfl, fun _ => HF.out, rfl⟩
set_option maxRecDepth 100000 in
set_option maxHeartbeats 4000000 in
theorem greatSource_any (u : List ByteArray) (uA : Option Addr) (uc : Nat) (l : List Dc) (A : Option Addr) (c : Nat) (w : World) (hu : SlS w w.heap.size uA uc u) (hs : SlD w w.heap.size A c l) :
    Calls Tryz.prog 33 #[.agg #[.slice uA u.length uc, .slice A l.length c]] w fun e w' => e = .returned (.bool (greatU u || greatD l)) ∧ Below w.heap.size w w' := by
  obtain ⟨M, HM⟩ : ∃ Q, Hid (u.length = Q) := ⟨_, Lib.hid rfl⟩
  obtain ⟨N, HN⟩ : ∃ Q, Hid (l.length = Q) := ⟨_, Lib.hid rfl⟩
  rw [HM.out, HN.out]
  obtain ⟨W1, hW1⟩ : ∃ W1, w.alloc (.cells #[.slice uA M uc, .slice A N c] 40) = W1 := ⟨_, rfl⟩
  have hb1 : Below w.heap.size w W1 := by rw [← hW1]; exact (Below.refl _ _).alloc (Nat.le_refl _) _
  have hx0 : W1.heap[w.heap.size]? = some (.cells #[.slice uA M uc, .slice A N c] 40 (0, 0)) := by rw [← hW1]; exact heap_alloc_new w _
  have x0 : W1.cell? ⟨w.heap.size, 0, none⟩ = some (.slice uA M uc) := cell_of_row W1 _ 0 _ _ (0, 0) hx0
  have x1 : W1.cell? ⟨w.heap.size, 1, none⟩ = some (.slice A N c) := cell_of_row W1 _ 1 _ _ (0, 0) hx0
  have hg1 := greatUses_any u uA uc W1 (hu.keep hb1.size fun p hp => hb1.cell hp)
  have hg2 := greatDecls_any l A c W1 (hs.keep hb1.size fun p hp => hb1.cell hp)
  obtain ⟨g1, Hg1⟩ : ∃ Q, Hid (greatU u = Q) := ⟨_, Lib.hid rfl⟩
  obtain ⟨g2, Hg2⟩ : ∃ Q, Hid (greatD l = Q) := ⟨_, Lib.hid rfl⟩
  rw [HM.out, Hg1.out] at hg1
  rw [HN.out, Hg2.out] at hg2
  rw [Hg1.out, Hg2.out]
  have H1 := Lib.hid hg1
  have H2 := Lib.hid hg2
  have HB := Lib.hid hb1
  clear hu hs hg1 hg2 hb1 hx0
  go_enter Tryz.func33, Tryz.ntmps33
  go_wp2_with fail
  refine H1.out.mono ?_
  rintro e w2 ⟨rfl, rfl⟩
  cases g1 with
  | true =>
    clear x0 x1
    go_wp2
    go_ret
    exact ⟨rfl, HB.out⟩
  | false =>
    go_wp2_with fail
    refine H2.out.mono ?_
    rintro e w3 ⟨rfl, hb3⟩
    have HB3 := Lib.hid (HB.out.trans (hb3.mono HB.out.size))
    clear x0 x1 hb3
    go_wp2
    go_ret
    exact ⟨by simp, HB3.out⟩
def GreatLP (label : ByteArray) (u : List ByteArray) (l : List Dc) (known : List If) (w : World) (e : Ending) (w' : World) : Prop := ∃ b, e = .returned (.bool b) ∧ (b = false → label.size ≤ 120 ∧ (greatU u || greatD l) = false ∧ KnS known) ∧ Below w.heap.size w w'
set_option maxRecDepth 100000 in
set_option maxHeartbeats 4000000 in
theorem great24L_any (label : ByteArray) (u : List ByteArray) (uA : Option Addr) (uc : Nat) (l : List Dc) (A : Option Addr) (c : Nat) (known : List If) (kA : Option Addr) (kc : Nat) (w : World) (hu : SlS w w.heap.size uA uc u) (hs : SlD w w.heap.size A c l) (hk : SlI w w.heap.size kA kc known) :
    Calls Tryz.prog 19 #[.string label, .agg #[.slice uA u.length uc, .slice A l.length c], .slice kA known.length kc] w (GreatLP label u l known w) := by
  obtain ⟨M, HM⟩ : ∃ Q, Hid (u.length = Q) := ⟨_, Lib.hid rfl⟩
  obtain ⟨N, HN⟩ : ∃ Q, Hid (l.length = Q) := ⟨_, Lib.hid rfl⟩
  obtain ⟨K, HK⟩ : ∃ Q, Hid (known.length = Q) := ⟨_, Lib.hid rfl⟩
  rw [HM.out, HN.out, HK.out]
  obtain ⟨W1, hW1⟩ : ∃ W1, w.alloc (.cells #[.slice uA M uc, .slice A N c] 40) = W1 := ⟨_, rfl⟩
  have hb1 : Below w.heap.size w W1 := by rw [← hW1]; exact (Below.refl _ _).alloc (Nat.le_refl _) _
  have hx0 : W1.heap[w.heap.size]? = some (.cells #[.slice uA M uc, .slice A N c] 40 (0, 0)) := by rw [← hW1]; exact heap_alloc_new w _
  have x0 : W1.cell? ⟨w.heap.size, 0, none⟩ = some (.slice uA M uc) := cell_of_row W1 _ 0 _ _ (0, 0) hx0
  have x1 : W1.cell? ⟨w.heap.size, 1, none⟩ = some (.slice A N c) := cell_of_row W1 _ 1 _ _ (0, 0) hx0
  have hg1 := greatSource_any u uA uc l A c W1 (hu.keep hb1.size fun p hp => hb1.cell hp) (hs.keep hb1.size fun p hp => hb1.cell hp)
  obtain ⟨g1, Hg1⟩ : ∃ Q, Hid ((greatU u || greatD l) = Q) := ⟨_, Lib.hid rfl⟩
  rw [HM.out, HN.out, Hg1.out] at hg1
  have H1 := Lib.hid hg1
  have H2 := Lib.hid (show ∀ X : World, Below w.heap.size w X → Calls Tryz.prog 23 #[.slice kA K kc] X fun e w' => ∃ b, e = .returned (.bool b) ∧ (b = false → KnS known) ∧ w' = X from fun X hX => by
    have h := greatKnown_any known kA kc X (hk.below hX)
    rwa [HK.out] at h)
  have HB := Lib.hid hb1
  clear hu hs hk hg1 hb1 hx0
  by_cases hl : 120 < label.size
  · have p0 : decide ((label.size : Int) > 120) = true := by simp; omega
    have p1 : decide (label.size > 120) = true := by simp; omega
    have p2 : decide (120 < label.size) = true := by simp; omega
    have p3 : decide ((120 : Int) < (label.size : Int)) = true := by simp; omega
    go_enter Tryz.func19, Tryz.ntmps19
    go_wp2
    go_ret
    exact ⟨true, rfl, by simp, HB.out⟩
  have p0 : decide ((label.size : Int) > 120) = false := by simp; omega
  have p1 : decide (label.size > 120) = false := by simp; omega
  have p2 : decide (120 < label.size) = false := by simp; omega
  have p3 : decide ((120 : Int) < (label.size : Int)) = false := by simp; omega
  have HL := Lib.hid hl
  go_enter Tryz.func19, Tryz.ntmps19
  go_wp2_with fail
  refine H1.out.mono ?_
  rintro e w2 ⟨rfl, hb2⟩
  have hb2' := HB.out.trans (hb2.mono HB.out.size)
  have HB2 := Lib.hid hb2'
  clear hb2 x0 x1 hW1
  cases g1 with
  | true =>
    clear hb2'
    go_wp2
    go_ret
    exact ⟨true, rfl, by simp, HB2.out⟩
  | false =>
    have HC := Lib.hid (H2.out w2 hb2')
    clear hb2'
    go_wp2_with fail
    refine HC.out.mono ?_
    rintro e w3 ⟨b, rfl, hb, rfl⟩
    have HBq := Lib.hid hb
    clear hb
    cases b with
    | true =>
      go_wp2
      go_ret
      exact ⟨true, rfl, by simp, HB2.out⟩
    | false =>
      go_wp2
      go_ret
      exact ⟨false, rfl, fun _ => ⟨by have := HL.out; omega, Hg1.out, HBq.out (by simp)⟩, HB2.out⟩
end Go.Proofs.YtacjjkbkhpdhnaaGreatDoor
