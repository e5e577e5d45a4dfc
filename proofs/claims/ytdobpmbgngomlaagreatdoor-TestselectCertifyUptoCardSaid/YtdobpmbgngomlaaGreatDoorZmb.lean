/- ref40.find, Has -/
import Derived.Test.YtdobpmbgngomlaaGreatDoorZlz
import Derived.Test.YtdobpmbgngomlaaGreatDoorZlr
import Derived.Test.YtdobpmbgngomlaaGreatDoorZlq
import Derived.Test.YtdobpmbgngomlaaGreatDoorZla
import Derived.Test.YtdobpmbgngomlaaGreatDoorZna
namespace Go.Proofs.YtdobpmbgngomlaaGreatDoor
open Go.RowKit Go.Proofs Go.Shelf

def FindP (l : List Mo) (n : ByteArray × Int) (w : World) (e : Ending) (w' : World) : Prop :=
  e = .returned (.tuple #[.agg ((bodyOf l n).getD zeroDc).cells, .bool (bodyOf l n).isSome]) ∧ Below w.heap.size w w'
theorem below_set11 {B b : Nat} {w W : World} (h : Below B w W) (hb : B ≤ b) {v0 v1 v2 v3 v4 v5 v6 v7 v8 v9 v10 : Value} : Below B w (((((((((((W.setCell ⟨b, 0, none⟩ v0).setCell ⟨b, 1, none⟩ v1).setCell ⟨b, 2, none⟩ v2).setCell ⟨b, 3, none⟩ v3).setCell ⟨b, 4, none⟩ v4).setCell ⟨b, 5, none⟩ v5).setCell ⟨b, 6, none⟩ v6).setCell ⟨b, 7, none⟩ v7).setCell ⟨b, 8, none⟩ v8).setCell ⟨b, 9, none⟩ v9).setCell ⟨b, 10, none⟩ v10) := (((((((((((h.setCell (p := ⟨b, 0, none⟩) hb v0).setCell (p := ⟨b, 1, none⟩) hb v1).setCell (p := ⟨b, 2, none⟩) hb v2).setCell (p := ⟨b, 3, none⟩) hb v3).setCell (p := ⟨b, 4, none⟩) hb v4).setCell (p := ⟨b, 5, none⟩) hb v5).setCell (p := ⟨b, 6, none⟩) hb v6).setCell (p := ⟨b, 7, none⟩) hb v7).setCell (p := ⟨b, 8, none⟩) hb v8).setCell (p := ⟨b, 9, none⟩) hb v9).setCell (p := ⟨b, 10, none⟩) hb v10)
theorem toL_beq_false {a b : ByteArray} (h : a ≠ b) : (a.toList == b.toList) = false := by
  rw [beq_eq_false_iff_ne]
  intro e
  rw [ByteArray.toList_eq, ByteArray.toList_eq] at e
  exact h (ByteArray.ext (Array.ext' e))
theorem declAt_drop {ds : List Dc} {i : Nat} {d : Dc} (hd : ds[i]? = some d) (k : Int) : declAt (ds.drop i) k = if d.id = k then some d else declAt (ds.drop (i + 1)) k := by
  obtain ⟨hlt, rfl⟩ := List.getElem?_eq_some_iff.1 hd
  rw [List.drop_eq_getElem_cons hlt]
  unfold declAt
  rw [List.find?_cons]
  by_cases h : ds[i].id = k
  · rw [if_pos h, decide_eq_true h]
  · rw [if_neg h, decide_eq_false h]
theorem bodyOf_drop {l : List Mo} {j : Nat} {m : Mo} (hm : l[j]? = some m) (n : ByteArray × Int) : bodyOf (l.drop j) n = if m.label = n.1 then declAt m.ds n.2 else bodyOf (l.drop (j + 1)) n := by
  obtain ⟨hlt, rfl⟩ := List.getElem?_eq_some_iff.1 hm
  rw [List.drop_eq_getElem_cons hlt]
  rfl
set_option maxRecDepth 100000 in
set_option maxHeartbeats 2000000 in
theorem find40_any (l : List Mo) (n : ByteArray × Int) (A : Option Addr) (c : Nat) (w : World) (hl : SlM w w.heap.size A c l) :
    Calls Tryz.prog 90 #[.slice A l.length c, .agg #[.string n.1, .int .i64 n.2]] w (FindP l n w) := by
  obtain ⟨E, HE⟩ : ∃ E, Hid (bodyOf l n = E) := ⟨_, Lib.hid rfl⟩
  unfold FindP
  rw [HE.out]
  obtain ⟨W0, hW0⟩ : ∃ W0, (w.alloc (.cells #[.string n.1, .int .i64 n.2] 24)).alloc (.cells #[.int .i64 0, .int .i64 0, .bool false, .slice none 0 0, .bool false, .int .i64 0, .string ⟨#[]⟩, .string ⟨#[]⟩, .int .i64 0, .int .i64 0, .slice none 0 0] 44) = W0 := ⟨_, rfl⟩
  have hb0 : Below w.heap.size w W0 := by subst hW0; exact ((Below.refl _ _).alloc (Nat.le_refl _) _).alloc (by simp) _
  have hz0 : W0.heap.size = w.heap.size + 1 + 1 := by subst hW0; simp
  have n0 : W0.cell? ⟨w.heap.size, 0, none⟩ = some (.string n.1) := by subst hW0; go_simp
  have n1 : W0.cell? ⟨w.heap.size, 1, none⟩ = some (.int .i64 n.2) := by subst hW0; go_simp
  have hrow : W0.heap[w.heap.size + 1]? = some (.cells #[.int .i64 0, .int .i64 0, .bool false, .slice none 0 0, .bool false, .int .i64 0, .string ⟨#[]⟩, .string ⟨#[]⟩, .int .i64 0, .int .i64 0, .slice none 0 0] 44 (0, 0)) := by
    subst hW0
    have := heap_alloc_new (w.alloc (.cells #[.string n.1, .int .i64 n.2] 24)) (.cells #[.int .i64 0, .int .i64 0, .bool false, .slice none 0 0, .bool false, .int .i64 0, .string ⟨#[]⟩, .string ⟨#[]⟩, .int .i64 0, .int .i64 0, .slice none 0 0] 44)
    simpa using this
  have b0 : W0.cell? ⟨w.heap.size + 1, 0, none⟩ = some (.int .i64 0) := cell_of_row W0 _ 0 _ _ (0, 0) hrow
  have f0 : W0.frozen? ⟨w.heap.size + 1, 0, none⟩ = false := frozen_of_row W0 _ 0 _ _ hrow
  have b1 : W0.cell? ⟨w.heap.size + 1, 1, none⟩ = some (.int .i64 0) := cell_of_row W0 _ 1 _ _ (0, 0) hrow
  have f1 : W0.frozen? ⟨w.heap.size + 1, 1, none⟩ = false := frozen_of_row W0 _ 1 _ _ hrow
  have b2 : W0.cell? ⟨w.heap.size + 1, 2, none⟩ = some (.bool false) := cell_of_row W0 _ 2 _ _ (0, 0) hrow
  have f2 : W0.frozen? ⟨w.heap.size + 1, 2, none⟩ = false := frozen_of_row W0 _ 2 _ _ hrow
  have b3 : W0.cell? ⟨w.heap.size + 1, 3, none⟩ = some (.slice none 0 0) := cell_of_row W0 _ 3 _ _ (0, 0) hrow
  have f3 : W0.frozen? ⟨w.heap.size + 1, 3, none⟩ = false := frozen_of_row W0 _ 3 _ _ hrow
  have b4 : W0.cell? ⟨w.heap.size + 1, 4, none⟩ = some (.bool false) := cell_of_row W0 _ 4 _ _ (0, 0) hrow
  have f4 : W0.frozen? ⟨w.heap.size + 1, 4, none⟩ = false := frozen_of_row W0 _ 4 _ _ hrow
  have b5 : W0.cell? ⟨w.heap.size + 1, 5, none⟩ = some (.int .i64 0) := cell_of_row W0 _ 5 _ _ (0, 0) hrow
  have f5 : W0.frozen? ⟨w.heap.size + 1, 5, none⟩ = false := frozen_of_row W0 _ 5 _ _ hrow
  have b6 : W0.cell? ⟨w.heap.size + 1, 6, none⟩ = some (.string ⟨#[]⟩) := cell_of_row W0 _ 6 _ _ (0, 0) hrow
  have f6 : W0.frozen? ⟨w.heap.size + 1, 6, none⟩ = false := frozen_of_row W0 _ 6 _ _ hrow
  have b7 : W0.cell? ⟨w.heap.size + 1, 7, none⟩ = some (.string ⟨#[]⟩) := cell_of_row W0 _ 7 _ _ (0, 0) hrow
  have f7 : W0.frozen? ⟨w.heap.size + 1, 7, none⟩ = false := frozen_of_row W0 _ 7 _ _ hrow
  have b8 : W0.cell? ⟨w.heap.size + 1, 8, none⟩ = some (.int .i64 0) := cell_of_row W0 _ 8 _ _ (0, 0) hrow
  have f8 : W0.frozen? ⟨w.heap.size + 1, 8, none⟩ = false := frozen_of_row W0 _ 8 _ _ hrow
  have b9 : W0.cell? ⟨w.heap.size + 1, 9, none⟩ = some (.int .i64 0) := cell_of_row W0 _ 9 _ _ (0, 0) hrow
  have f9 : W0.frozen? ⟨w.heap.size + 1, 9, none⟩ = false := frozen_of_row W0 _ 9 _ _ hrow
  have b10 : W0.cell? ⟨w.heap.size + 1, 10, none⟩ = some (.slice none 0 0) := cell_of_row W0 _ 10 _ _ (0, 0) hrow
  have f10 : W0.frozen? ⟨w.heap.size + 1, 10, none⟩ = false := frozen_of_row W0 _ 10 _ _ hrow
  have HL := Lib.hid (hl.below hb0)
  have h1 := hl.1
  have h2 := hl.2.1
  unfold maxLen at h2
  obtain ⟨N, HN⟩ : ∃ Q, Hid (l.length = Q) := ⟨_, Lib.hid rfl⟩
  rw [HN.out] at h1 ⊢
  have HB := Lib.hid (And.intro hb0 (And.intro hz0 hrow))
  clear hl hb0 hz0 hrow
  go_enter Tryz.func90, Tryz.ntmps90
  go_wp2
  go_loopg [6, 7] N (fun g ct _ wr => ∃ j : Nat, g = N - j ∧ j ≤ N ∧ ct = .int .i64 j ∧ bodyOf (l.drop j) n = E ∧ ∃ q, wr = W0.drewN q)
  case atStart => exact ⟨0, rfl, by omega, rfl, HE.out, 0, rfl⟩
  case round =>
    obtain ⟨j, HG, hj, rfl, hm, q, rfl⟩ := hrel
    by_cases hlt : j < N
    · have hlt' : j < l.length := by rw [HN.out]; exact hlt
      obtain ⟨m, hy⟩ : ∃ y, l[j]? = some y := ⟨_, List.getElem?_eq_getElem hlt'⟩
      obtain ⟨b, o, rfl, hb, d0, d1, d2, hok⟩ := HL.out.at_ hy
      have hD := hok.2
      have hk1 := hD.1
      have hk2 := hD.2.1
      unfold maxLen at hk2
      obtain ⟨K, HK⟩ : ∃ Q, Hid (m.ds.length = Q) := ⟨_, Lib.hid rfl⟩
      rw [HK.out] at d2 hk1
      have hj0 : (0 : Int) ≤ (j : Int) := by omega
      have hj1 : (j : Int) < (N : Int) := by omega
      rw [bodyOf_drop hy] at hm
      have HM := Lib.hid (And.intro HG (And.intro hm hD))
      clear HG hm hok hD hy
      by_cases hlab : m.label = n.1
      · have e1 : (m.label.toList == n.1.toList) = true := by rw [hlab]; simp
        have HE2 := Lib.hid (show declAt m.ds n.2 = E from by have := HM.out.2.1; rwa [if_pos hlab] at this)
        clear hlab
        go_wp2_with fail
        go_quiet (fail)
        clear e1
        go_wp2
        go_loopg [7] K (fun g ct wr => ∃ i : Nat, g = K - i ∧ i ≤ K ∧ ct = .int .i64 i ∧ declAt (m.ds.drop i) n.2 = E ∧ ∃ q, wr = W0.drewN q)
        case atStart => exact ⟨0, rfl, by omega, rfl, HE2.out, q + nq, by simp [World.drewN, Nat.add_assoc]⟩
        case round =>
          obtain ⟨i, HG, hi, rfl, hE, q', rfl⟩ := hrel
          by_cases hlt2 : i < K
          · have hlt2' : i < m.ds.length := by rw [HK.out]; exact hlt2
            obtain ⟨d, hd⟩ : ∃ y, m.ds[i]? = some y := ⟨_, List.getElem?_eq_getElem hlt2'⟩
            obtain ⟨b', o', hA, hb', c0, c1, c2, c3, c4, c5, c6, c7, c8, c9, c10, hdok⟩ := SlD.cells_at (wr := W0) HM.out.2.2 (fun _ _ => rfl) hd
            have i0 : (0 : Int) ≤ (i : Int) := by omega
            have i1 : (i : Int) < (K : Int) := by omega
            rw [declAt_drop hd] at hE
            have HI := Lib.hid (And.intro HG (And.intro hE hA))
            rw [hA] at d2
            clear HG hE hdok hd hA
            by_cases hid : d.id = n.2
            · have e1 : (d.id == n.2) = true := by rw [hid]; simp
              have HE3 := Lib.hid (show some d = E from by have := HI.out.2.1; rwa [if_pos hid] at this)
              clear hid
              go_wp2_with fail
              go_quiet (fail)
              clear e1
              go_wp2
              refine bodyPost_ret (v := .tuple #[.agg d.cells, .bool true]) (by simp [results, Tryz.results90, go_sem, Dc.cells, b0, b1, b2, b3, b4, b5, b6, b7, b8, b9, b10]) rfl ?_
              rw [← HE3.out]
              exact ⟨rfl, below_set11 (below_drewN HB.out.1 _) (Nat.le_succ _)⟩
            · have e1 : (d.id == n.2) = false := by simpa using hid
              have HE3 := Lib.hid (show declAt (m.ds.drop (i + 1)) n.2 = E from by have := HI.out.2.1; rwa [if_neg hid] at this)
              clear hid
              go_wp2_with fail
              go_quiet (fail)
              clear e1 c0 c1 c2 c3 c4 c5 c6 c7 c8 c9 c10
              go_wp2
              go_roundg (K - (i + 1))
              case measure => rw [HI.out.1]; omega
              case rel => exact ⟨i + 1, rfl, by omega, by go_num, HE3.out, q' + nq, by simp [World.drewN]⟩
          · have hik : i = K := by omega
            have HE3 := Lib.hid (show E = none from by rw [← hE, List.drop_of_length_le (by rw [HK.out]; omega)]; rfl)
            clear hE
            go_wp2
            refine bodyPost_ret (v := .tuple #[.agg zeroDc.cells, .bool false]) (by simp [results, Tryz.results90, go_sem, Dc.cells, zeroDc, Fo.len, b0, b1, b2, b3, b4, b5, b6, b7, b8, b9, b10]) rfl ?_
            rw [HE3.out]
            exact ⟨rfl, below_set11 (below_drewN HB.out.1 _) (Nat.le_succ _)⟩
      · have e1 : (m.label.toList == n.1.toList) = false := toL_beq_false hlab
        have HE2 := Lib.hid (show bodyOf (l.drop (j + 1)) n = E from by have := HM.out.2.1; rwa [if_neg hlab] at this)
        clear hlab
        go_wp2_with fail
        go_quiet (fail)
        clear e1 d0 d1 d2
        go_wp2
        go_roundg (N - (j + 1))
        case measure => rw [HM.out.1]; omega
        case rel => exact ⟨j + 1, rfl, by omega, by go_num, HE2.out, q + nq, by simp [World.drewN]⟩
    · have hje : j = N := by omega
      have HE2 := Lib.hid (show E = none from by rw [← hm, List.drop_of_length_le (by rw [HN.out]; omega)]; rfl)
      clear hm
      go_wp2
      refine bodyPost_ret (v := .tuple #[.agg zeroDc.cells, .bool false]) (by simp [results, Tryz.results90, go_sem, Dc.cells, zeroDc, Fo.len, b0, b1, b2, b3, b4, b5, b6, b7, b8, b9, b10]) rfl ?_
      rw [HE2.out]
      exact ⟨rfl, below_set11 (below_drewN HB.out.1 _) (Nat.le_succ _)⟩
end Go.Proofs.YtdobpmbgngomlaaGreatDoor
/- ref24.With at a nil list; ref24.refs, Refs -/
namespace Go.Proofs.YtdobpmbgngomlaaGreatDoor
open Go.RowKit Go.Proofs Go.Shelf

set_option maxRecDepth 100000 in
set_option maxHeartbeats 8000000 in
theorem with24_nil (xa : ByteArray) (xi : Int) (w : World) :
    Calls Tryz.prog 54 #[.slice none 0 0, .agg #[.string xa, .int .i64 xi]] w (WithP24 [(xa, xi)] w) := by
  obtain ⟨i0, hi, hz0, hz1, hz2⟩ := info_parts Tryz.infoName
  obtain ⟨W0, hW0⟩ : ∃ W0, w.alloc (.cells #[.string xa, .int .i64 xi] 24) = W0 := ⟨_, rfl⟩
  have hzw : w.heap.size < W0.heap.size := by subst hW0; simp
  have hB0 : Below w.heap.size w W0 := by subst hW0; exact (Below.refl _ _).alloc (Nat.le_refl _) _
  have hx0 : W0.heap[w.heap.size]? = some (.cells #[.string xa, .int .i64 xi] 24 (0, 0)) := by rw [← hW0]; exact heap_alloc_new w _
  have HC : Hid (∀ X, Below W0.heap.size W0 X → Below w.heap.size w X ∧ X.cell? ⟨w.heap.size, 0, none⟩ = some (.string xa) ∧ X.cell? ⟨w.heap.size, 1, none⟩ = some (.int .i64 xi)) := fun X hX => by
    have h0 := (hX.block w.heap.size hzw).trans hx0
    exact ⟨hB0.trans (hX.mono (Nat.le_of_lt hzw)), cell_of_row X _ 0 _ _ (0, 0) h0, cell_of_row X _ 1 _ _ (0, 0) h0⟩
  clear hB0 hx0
  go_enter Tryz.func54, Tryz.ntmps54
  go_wp2_with fail
  clear hW0
  go_loopg [5] 0 (fun _ ct wr => ct = .int .i64 0 ∧ Below W0.heap.size W0 wr)
  case atStart => exact ⟨rfl, Below.refl _ _⟩
  case round =>
    obtain ⟨rfl, HB⟩ := hrel
    have HG' := Lib.hid HB
    clear HB
    go_wp2_with fail
    go_quiet (fail)
    have hBX0 := below_drewN HG'.out nq
    generalize wr.drewN nq = X0 at hBX0 ⊢
    go_wp2_with fail
    go_quiet (fail)
    have hBX := below_drewN hBX0 nq
    generalize X0.drewN nq = X at hBX ⊢
    clear hBX0
    go_wp2_with fail
    have hb0 : Below X.heap.size X X.drew := below_drew' (Below.refl _ _)
    have HKc : Hid (∀ Y, Below X.heap.size X Y → Y.cell? ⟨w.heap.size, 0, none⟩ = some (.string xa) ∧ Y.cell? ⟨w.heap.size, 1, none⟩ = some (.int .i64 xi)) := fun Y hY => (HC.out Y (hBX.trans (hY.mono hBX.size))).2
    have HO1 := Lib.hid (World.ownsRow_lit (base := X.heap.size) (e := 24) (size := 2) X.drew #[] 0 (Nat.le_refl _) (by simp) rfl)
    have HO2 := Lib.hid (HO1.out.alloc (.cells #[.string xa, .int .i64 xi] 24))
    have ho3 := World.ownsRow_lit (base := X.heap.size) (e := 24) (size := 2) (X.drew.alloc (.cells #[.string xa, .int .i64 xi] 24)) #[] 0 (by simp) (by simp) rfl
    rw [show (X.drew.alloc (.cells #[.string xa, .int .i64 xi] 24)).heap.size = X.heap.size + 1 by simp] at ho3
    have HO3 := Lib.hid ho3
    clear ho3
    have hba : Below X.heap.size X (X.drew.alloc (.cells #[] 24)) := hb0.alloc (Nat.le_refl _) _
    have hbb : Below X.heap.size X ((X.drew.alloc (.cells #[] 24)).alloc (.cells #[.string xa, .int .i64 xi] 24)) := hba.alloc hba.size _
    have hbn : Below X.heap.size X (X.drew.alloc (.cells #[.string xa, .int .i64 xi] 24)) := hb0.alloc (Nat.le_refl _) _
    have hbc : Below X.heap.size X ((X.drew.alloc (.cells #[.string xa, .int .i64 xi] 24)).alloc (.cells #[] 24)) := hbn.alloc hbn.size _
    have HGa := Lib.hid (fun w1 (hg : (X.drew.alloc (.cells #[] 24)).grownBy w1 (Value.slice (some ⟨X.drew.heap.size, 0, none⟩) 0 0).ownBlock) => hba.grown hg hba.size (fun q hq => (HO1.out.lt q hq).1))
    have HGb := Lib.hid (fun w1 (hg : ((X.drew.alloc (.cells #[] 24)).alloc (.cells #[.string xa, .int .i64 xi] 24)).grownBy w1 (Value.slice (some ⟨X.drew.heap.size, 0, none⟩) 0 0).ownBlock) => And.intro (hbb.grown hg hbb.size (fun q hq => (HO1.out.lt q hq).1)) (show w1.heap[X.heap.size + 1]? = some (.cells #[.string xa, .int .i64 xi] 24 (0, 0)) from (hg.block (X.heap.size + 1) (by simp) (fun h => by have := Option.some.inj h; change X.heap.size + 1 = X.heap.size at this; omega)).trans (by have := heap_alloc_new (X.drew.alloc (.cells #[] 24)) (.cells #[.string xa, .int .i64 xi] 24); rwa [show (X.drew.alloc (.cells #[] 24)).heap.size = X.heap.size + 1 by simp] at this)))
    have HGc := Lib.hid (fun w1 (hg : ((X.drew.alloc (.cells #[.string xa, .int .i64 xi] 24)).alloc (.cells #[] 24)).grownBy w1 (Value.slice (some ⟨X.heap.size + 1, 0, none⟩) 0 0).ownBlock) => And.intro (hbc.grown hg hbc.size (fun q hq => (HO3.out.lt q hq).1)) (show w1.heap[X.heap.size]? = some (.cells #[.string xa, .int .i64 xi] 24 (0, 0)) from (hg.block X.heap.size (by simp; omega) (fun h => by have := Option.some.inj h; change X.heap.size = X.heap.size + 1 at this; omega)).trans (by rw [Below.heap_alloc _ _ _ (by simp)]; exact heap_alloc_new X.drew _)))
    have HM : Hid (0 + 0 ≤ maxLen ∧ (0 + 0) * 24 ≤ 140737488355328 ∧ 0 + 0 + 1 ≤ maxLen ∧ (0 + 0 + 1) * 24 ≤ 140737488355328) := by
      refine ⟨?_, ?_, ?_, ?_⟩ <;> decide
    have HBB := Lib.hid (And.intro hba (And.intro hbb hbc))
    have HB0' := Lib.hid (And.intro hb0 hbn)
    clear hba hbb hbc hb0 hbn
    go_region_held3 (fun Y => Y.cell? ⟨w.heap.size, 0, none⟩ = some (.string xa) ∧ Y.cell? ⟨w.heap.size, 1, none⟩ = some (.int .i64 xi))
      (first | exact HKc.out _ hb2 | exact HKc.out _ hb1 | exact HKc.out _ (hb1.alloc hb1.size _) | exact HKc.out _ HB0'.out.1 | exact HKc.out _ HB0'.out.2 | exact HKc.out _ HBB.out.1 | exact HKc.out _ HBB.out.2.1 | exact HKc.out _ HBB.out.2.2)
      (first
        | (refine step_append_any _ rfl (.tmp 34) (.tmp 37) 30 rfl X.heap.size 24 i0 _ 2 24 Tryz.underlying30 hi hz0 hz1 hz2 rfl (Nat.succ_pos 1) _ 0 [] rfl HO1.out none 0 0 [] rfl rfl (fun _ => rfl) (fun _ h => nomatch h) (fun u hu => nomatch hu) HM.out.1 HM.out.2.1 HBB.out.1.size ?_; intro v1 w1 hown1 hg1; have hb1 := HGa.out w1 hg1; have tokA : True := trivial)
        | (refine step_append_any _ rfl (.tmp 34) (.tmp 37) 30 rfl X.heap.size 24 i0 _ 2 24 Tryz.underlying30 hi hz0 hz1 hz2 rfl (Nat.succ_pos 1) _ 0 [] rfl HO2.out none 0 0 [] rfl rfl (fun _ => rfl) (fun _ h => nomatch h) (fun u hu => nomatch hu) HM.out.1 HM.out.2.1 HBB.out.2.1.size ?_; intro v1 w1 hown1 hg1; obtain ⟨hb1, hD⟩ := HGb.out w1 hg1; have tokB : True := trivial)
        | (refine step_append_any _ rfl (.tmp 34) (.tmp 37) 30 rfl X.heap.size 24 i0 _ 2 24 Tryz.underlying30 hi hz0 hz1 hz2 rfl (Nat.succ_pos 1) _ 0 [] rfl HO3.out none 0 0 [] rfl rfl (fun _ => rfl) (fun _ h => nomatch h) (fun u hu => nomatch hu) HM.out.1 HM.out.2.1 HBB.out.2.2.size ?_; intro v1 w1 hown1 hg1; obtain ⟨hb1, hD⟩ := HGc.out w1 hg1; have tokC : True := trivial)
        | (have _t := tokA; refine step_append_any _ rfl (.tmp 38) (.tmp 40) 30 rfl X.heap.size 24 i0 _ 2 24 Tryz.underlying30 hi hz0 hz1 hz2 rfl (Nat.succ_pos 1) v1 _ _ rfl (hown1.alloc _) (some ⟨w1.heap.size, 0, none⟩) 1 1 [.string xa, .int .i64 xi] rfl rfl (fun h => nomatch h) (news_pair _ _ _) (namesC_one [(xa, xi)]) HM.out.2.2.1 HM.out.2.2.2 (hb1.alloc hb1.size _).size ?_; intro v2 w2 hown2 hg2; have hb2 := (hb1.alloc hb1.size (.cells #[.string xa, .int .i64 xi] 24)).grown hg2 (hb1.alloc hb1.size _).size (fun q hq => (hown1.lt q hq).1))
        | (have _t := tokB; refine step_append_any _ rfl (.tmp 38) (.tmp 40) 30 rfl X.heap.size 24 i0 _ 2 24 Tryz.underlying30 hi hz0 hz1 hz2 rfl (Nat.succ_pos 1) v1 _ _ rfl hown1 (some ⟨X.heap.size + 1, 0, none⟩) 1 1 [.string xa, .int .i64 xi] rfl rfl (fun h => nomatch h) (news_at hD) (namesC_one [(xa, xi)]) HM.out.2.2.1 HM.out.2.2.2 hb1.size ?_; intro v2 w2 hown2 hg2; have hb2 := hb1.grown hg2 hb1.size (fun q hq => (hown1.lt q hq).1))
        | (have _t := tokC; refine step_append_any _ rfl (.tmp 38) (.tmp 40) 30 rfl X.heap.size 24 i0 _ 2 24 Tryz.underlying30 hi hz0 hz1 hz2 rfl (Nat.succ_pos 1) v1 _ _ rfl hown1 (some ⟨X.heap.size, 0, none⟩) 1 1 [.string xa, .int .i64 xi] rfl rfl (fun h => nomatch h) (news_at hD) (namesC_one [(xa, xi)]) HM.out.2.2.1 HM.out.2.2.2 hb1.size ?_; intro v2 w2 hown2 hg2; have hb2 := hb1.grown hg2 hb1.size (fun q hq => (hown1.lt q hq).1)))
    all_goals (
      go_wp2_with (at_builtin; refine wpList_append_own_any _ rfl (.tmp 42) (.tmp 45) 30 rfl X.heap.size 24 i0 _ 2 24 Tryz.underlying30 hi hz0 hz1 hz2 rfl (Nat.succ_pos 1) v2 _ _ rfl hown2 none 0 0 [] rfl rfl (fun _ => rfl) (fun _ h => nomatch h) (fun u hu => nomatch hu) HM.out.2.2.1 HM.out.2.2.2 hb2.size ?_; intro v3 w5 hown3 hg3)
      go_ret
      have hb5 := hb2.grown hg3 hb2.size (fun q hq => (hown2.lt q hq).1)
      have hf : w5.ownsRow X.heap.size 24 2 v3 [(xa, xi)].length (namesC [(xa, xi)]) := by
        simpa [namesC, encN] using hown3
      obtain ⟨A', c', rfl, ho⟩ := OwnN.of hf
      exact ⟨A', c', rfl, ho, (HC.out _ (hBX.trans (hb5.mono hBX.size))).1⟩)
theorem with24_any (l : List (ByteArray × Int)) (xa : ByteArray) (xi : Int) (A : Option Addr) (c : Nat) (w : World) (hs : OwnN w A c l) (hl : l.length ≤ 1000000) :
    Calls Tryz.prog 54 #[.slice A l.length c, .agg #[.string xa, .int .i64 xi]] w (WithP24 (withN l (xa, xi)) w) := by
  rcases hs.cells with ⟨rfl, rfl, rfl⟩ | ⟨g, rfl, _⟩
  · exact with24_nil xa xi w
  · exact with24_some l xa xi g c w hs hl
end Go.Proofs.YtdobpmbgngomlaaGreatDoor
/- ref24.refs, Refs -/
namespace Go.Proofs.YtdobpmbgngomlaaGreatDoor
open Go.RowKit Go.Proofs Go.Shelf

/-- The references of a forest, put into a list. -/
def Fo.wr : Fo → List (ByteArray × Int) → List (ByteArray × Int)
  | .nil, l => l
  | .cons k n _ i _ _ _ s r, l => r.wr (s.wr (if k = 5 then withN l (n, i) else l))
def nodeRef (k : Int) (n : ByteArray) (i : Int) (s : Fo) (l : List (ByteArray × Int)) : List (ByteArray × Int) := s.wr (if k = 5 then withN l (n, i) else l)
theorem withN_len (l : List (ByteArray × Int)) (x : ByteArray × Int) : (withN l x).length ≤ l.length + 1 := by
  have h := List.takeWhile_append_dropWhile (p := fun y => lessN y x) (l := l)
  have hl := congrArg List.length h
  rw [List.length_append] at hl
  unfold withN
  split
  · rename_i hd; rw [hd] at hl; simp at hl ⊢; omega
  · rename_i hd
    split
    · omega
    · rw [hd] at hl; simp at hl ⊢; omega
theorem Fo.wr_len : ∀ (s : Fo) (l : List (ByteArray × Int)), (s.wr l).length ≤ l.length + s.count
  | .nil, l => by simp [Fo.wr, Fo.count]
  | .cons k n m i d A c s r, l => by
    simp only [Fo.wr, Fo.count]
    have h1 := wr_len r (s.wr (if k = 5 then withN l (n, i) else l))
    have h2 := wr_len s (if k = 5 then withN l (n, i) else l)
    have h3 : (if k = 5 then withN l (n, i) else l).length ≤ l.length + 1 := by
      split
      · exact withN_len _ _
      · omega
    omega
theorem nodeRef_len (k : Int) (n : ByteArray) (i : Int) (s : Fo) (l : List (ByteArray × Int)) : (nodeRef k n i s l).length ≤ l.length + (1 + s.count) := by
  unfold nodeRef
  have h2 := s.wr_len (if k = 5 then withN l (n, i) else l)
  have h3 : (if k = 5 then withN l (n, i) else l).length ≤ l.length + 1 := by
    split
    · exact withN_len _ _
    · omega
  omega
def RfOK (s : Fo) : Prop := ∀ (k : Int) (n m : ByteArray) (i d : Int) (A : Option Addr) (c : Nat) (l : List (ByteArray × Int)) (lA : Option Addr) (lc : Nat) (w : World), s.Sl w w.heap.size A c → OwnN w lA lc l → l.length + (1 + s.count) ≤ 1000000 →
    Calls Tryz.prog 170 #[.slice lA l.length lc, .agg #[.int .i64 k, .string n, .string m, .int .i64 i, .int .i64 d, .slice A s.len c]] w (WithP24 (nodeRef k n i s l) w)

set_option maxRecDepth 100000 in
set_option maxHeartbeats 4000000 in
theorem rf_step (s : Fo) (ih : s.All RfOK) : RfOK s := by
  intro k n m i d A c l lA lc w hs hl hcnt
  have hcap : s.len ≤ 9223372036854775807 := by have := hs.1; have := hs.2.1; unfold maxLen at this; omega
  obtain ⟨W0, hW0⟩ : ∃ W0, w.alloc (.cells #[.int .i64 k, .string n, .string m, .int .i64 i, .int .i64 d, .slice A s.len c] 27) = W0 := ⟨_, rfl⟩
  have hzw : w.heap.size < W0.heap.size := by subst hW0; simp
  have hB0 : Below w.heap.size w W0 := by subst hW0; exact (Below.refl _ _).alloc (Nat.le_refl _) _
  have hx0 : W0.heap[w.heap.size]? = some (.cells #[.int .i64 k, .string n, .string m, .int .i64 i, .int .i64 d, .slice A s.len c] 27 (0, 0)) := by rw [← hW0]; exact heap_alloc_new w _
  have HC : Hid (∀ X, Below W0.heap.size W0 X → Below w.heap.size w X ∧ X.cell? ⟨w.heap.size, 0, none⟩ = some (.int .i64 k) ∧ X.cell? ⟨w.heap.size, 1, none⟩ = some (.string n) ∧ X.cell? ⟨w.heap.size, 3, none⟩ = some (.int .i64 i) ∧ X.cell? ⟨w.heap.size, 5, none⟩ = some (.slice A s.len c)) := fun X hX => by
    have h0 := (hX.block w.heap.size hzw).trans hx0
    exact ⟨hB0.trans (hX.mono (Nat.le_of_lt hzw)), cell_of_row X _ 0 _ _ (0, 0) h0, cell_of_row X _ 1 _ _ (0, 0) h0, cell_of_row X _ 3 _ _ (0, 0) h0, cell_of_row X _ 5 _ _ (0, 0) h0⟩
  have HS := Lib.hid (And.intro hs ih)
  obtain ⟨R, HR⟩ : ∃ q, Hid (nodeRef k n i s l = q) := ⟨_, Lib.hid rfl⟩
  rw [HR.out]
  have hl0 := hl.below hB0 (Nat.le_refl _)
  obtain ⟨_, x0, x1, x3, x5⟩ := HC.out W0 (Below.refl _ _)
  clear hs ih hl hB0 hx0
  by_cases hk : k = 5
  · subst hk
    have HRs := Lib.hid (show s.wr (withN l (n, i)) = R by rw [← HR.out]; rfl)
    have hwl := withN_len l (n, i)
    have HW := Lib.hid (with24_any l n i lA lc W0 hl0 (by omega))
    clear HR hl0
    obtain ⟨L0, HL0⟩ : ∃ q, Hid (withN l (n, i) = q) := ⟨_, Lib.hid rfl⟩
    rw [HL0.out] at HRs hwl HW
    go_enter Tryz.func170, Tryz.ntmps170
    go_wp2_with fail
    refine HW.out.mono ?_
    rintro e w1 ⟨A1, c1, rfl, ho1, hb1⟩
    have HO1 := Lib.hid (And.intro ho1 hb1)
    clear ho1 hb1 x0 x1 x3 x5 hW0 HW HL0
    go_wp2_with fail
    go_loopg [0, 5] s.len (fun gg lv ct wr => ∃ (j : Nat) (r : Fo) (A2 : Option Addr) (c2 : Nat) (L : List (ByteArray × Int)), gg = r.len ∧ j + r.len = s.len ∧ ct = .int .i64 j ∧ lv = .slice A2 L.length c2 ∧
      OwnN wr A2 c2 L ∧ r.wr L = R ∧ (L.length + r.count ≤ l.length + 1 + s.count ∧ r.count ≤ s.count) ∧ r.All RfOK ∧
      (r ≠ .nil → ∃ b o, A = some ⟨b, o, none⟩ ∧ b < w.heap.size ∧ r.At wr w.heap.size b (o + j * 6)) ∧ Below W0.heap.size W0 wr)
    case atStart =>
      refine ⟨0, s, A1, c1, L0, rfl, by omega, rfl, rfl, HO1.out.1, HRs.out, ⟨by omega, Nat.le_refl _⟩, HS.out.2, ?_, HO1.out.2⟩
      intro hne
      obtain ⟨b, o, e, hb, h⟩ := HS.out.1.2.2 hne
      exact ⟨b, o, e, hb, by rw [Nat.zero_mul, Nat.add_zero]; exact h.keep (Nat.le_refl _) (fun p hp => (HC.out _ HO1.out.2).1.cell hp) hb⟩
    case round =>
      obtain ⟨j, r, A2, c2, L, HG, hjr, rfl, rfl, hown, hR, ⟨hct, hcn⟩, HA, HAt, HB⟩ := hrel
      have HBh := Lib.hid (And.intro HB (And.intro hown (And.intro hR HA)))
      clear hown hR HA HB
      have hzr := HBh.out.1.size
      obtain ⟨hBw, _, _, _, x5⟩ := HC.out wr HBh.out.1
      have HBw := Lib.hid hBw
      clear hBw
      cases r with
      | nil =>
        have hjr2 : s.len ≤ j := by simp only [Fo.len] at hjr; omega
        have hjr1 : j ≤ s.len := by simp only [Fo.len] at hjr; omega
        have HF := Lib.hid (show WithP24 R w (.returned (.slice A2 L.length c2)) wr from ⟨A2, c2, by rw [← HBh.out.2.2.1]; rfl, by rw [← HBh.out.2.2.1]; exact HBh.out.2.1, HBw.out⟩)
        clear hjr HG hct hcn
        go_wp2
        go_ret
        exact HF.out
      | cons rk rn rm ri rd A' rc rs rr =>
        have hjr2 : j < s.len := by simp only [Fo.len] at hjr; omega
        obtain ⟨b, o, rfl, hb, h0, h1, h2, h3, h4, ⟨h5, hc', hm', hs'⟩, hr'⟩ := HAt (by simp)
        simp only [Fo.count] at hct hcn
        have HCL := Lib.hid (HBh.out.2.2.2.1 rk rn rm ri rd A' rc L A2 c2 wr ⟨hc', hm', fun hne => by
          obtain ⟨b', o', e, hb', h'⟩ := hs' hne
          exact ⟨b', o', e, by omega, h'.keep (by omega) (fun _ _ => rfl) hb'⟩⟩ HBh.out.2.1 (by omega))
        have hnl := nodeRef_len rk rn ri rs L
        have HRk := Lib.hid (show rr.wr (nodeRef rk rn ri rs L) = R from HBh.out.2.2.1)
        have HK := Lib.hid hr'
        obtain ⟨L3, HL3⟩ : ∃ q, Hid (nodeRef rk rn ri rs L = q) := ⟨_, Lib.hid rfl⟩
        rw [HL3.out] at HCL hnl HRk
        clear HAt hr' hs' HL3
        go_wp2_with fail
        refine HCL.out.mono ?_
        rintro e w4 ⟨A4, c4, rfl, ho4, hb4⟩
        have HB4 := Lib.hid (And.intro ho4 hb4)
        clear ho4 hb4
        go_wp2
        go_roundg rr.len
        case measure => first | (rw [HG]; simp [Fo.len]; done) | (simp only [Fo.len]; omega)
        case rel =>
          refine ⟨j + 1, rr, A4, c4, L3, rfl, by simp only [Fo.len] at hjr; omega, by go_num, rfl, HB4.out.1, HRk.out, ⟨by omega, by omega⟩, HBh.out.2.2.2.2, ?_, HBh.out.1.trans (HB4.out.2.mono hzr)⟩
          intro hne
          refine ⟨b, o, rfl, hb, ?_⟩
          rw [show o + (j + 1) * 6 = o + j * 6 + 6 by omega]
          exact HK.out.keep (Nat.le_refl _) (fun p hp => HB4.out.2.cell (by omega)) hb
  · have hk' : (k == 5) = false := by simpa using hk
    have HRs := Lib.hid (show s.wr l = R by rw [← HR.out, nodeRef, if_neg hk])
    have HO1 := Lib.hid (And.intro hl0 (Below.refl W0.heap.size W0))
    have hwl : l.length ≤ l.length + 1 := by omega
    clear HR hl0 hk
    go_enter Tryz.func170, Tryz.ntmps170
    go_wp2_with fail
    clear x0 x1 x3 x5 hW0
    go_loopg [0, 5] s.len (fun gg lv ct wr => ∃ (j : Nat) (r : Fo) (A2 : Option Addr) (c2 : Nat) (L : List (ByteArray × Int)), gg = r.len ∧ j + r.len = s.len ∧ ct = .int .i64 j ∧ lv = .slice A2 L.length c2 ∧
      OwnN wr A2 c2 L ∧ r.wr L = R ∧ (L.length + r.count ≤ l.length + 1 + s.count ∧ r.count ≤ s.count) ∧ r.All RfOK ∧
      (r ≠ .nil → ∃ b o, A = some ⟨b, o, none⟩ ∧ b < w.heap.size ∧ r.At wr w.heap.size b (o + j * 6)) ∧ Below W0.heap.size W0 wr)
    case atStart =>
      refine ⟨0, s, lA, lc, l, rfl, by omega, rfl, rfl, HO1.out.1, HRs.out, ⟨by omega, Nat.le_refl _⟩, HS.out.2, ?_, HO1.out.2⟩
      intro hne
      obtain ⟨b, o, e, hb, h⟩ := HS.out.1.2.2 hne
      exact ⟨b, o, e, hb, by rw [Nat.zero_mul, Nat.add_zero]; exact h.keep (Nat.le_refl _) (fun p hp => (HC.out _ HO1.out.2).1.cell hp) hb⟩
    case round =>
      obtain ⟨j, r, A2, c2, L, HG, hjr, rfl, rfl, hown, hR, ⟨hct, hcn⟩, HA, HAt, HB⟩ := hrel
      have HBh := Lib.hid (And.intro HB (And.intro hown (And.intro hR HA)))
      clear hown hR HA HB
      have hzr := HBh.out.1.size
      obtain ⟨hBw, _, _, _, x5⟩ := HC.out wr HBh.out.1
      have HBw := Lib.hid hBw
      clear hBw
      cases r with
      | nil =>
        have hjr2 : s.len ≤ j := by simp only [Fo.len] at hjr; omega
        have hjr1 : j ≤ s.len := by simp only [Fo.len] at hjr; omega
        have HF := Lib.hid (show WithP24 R w (.returned (.slice A2 L.length c2)) wr from ⟨A2, c2, by rw [← HBh.out.2.2.1]; rfl, by rw [← HBh.out.2.2.1]; exact HBh.out.2.1, HBw.out⟩)
        clear hjr HG hct hcn
        go_wp2
        go_ret
        exact HF.out
      | cons rk rn rm ri rd A' rc rs rr =>
        have hjr2 : j < s.len := by simp only [Fo.len] at hjr; omega
        obtain ⟨b, o, rfl, hb, h0, h1, h2, h3, h4, ⟨h5, hc', hm', hs'⟩, hr'⟩ := HAt (by simp)
        simp only [Fo.count] at hct hcn
        have HCL := Lib.hid (HBh.out.2.2.2.1 rk rn rm ri rd A' rc L A2 c2 wr ⟨hc', hm', fun hne => by
          obtain ⟨b', o', e, hb', h'⟩ := hs' hne
          exact ⟨b', o', e, by omega, h'.keep (by omega) (fun _ _ => rfl) hb'⟩⟩ HBh.out.2.1 (by omega))
        have hnl := nodeRef_len rk rn ri rs L
        have HRk := Lib.hid (show rr.wr (nodeRef rk rn ri rs L) = R from HBh.out.2.2.1)
        have HK := Lib.hid hr'
        obtain ⟨L3, HL3⟩ : ∃ q, Hid (nodeRef rk rn ri rs L = q) := ⟨_, Lib.hid rfl⟩
        rw [HL3.out] at HCL hnl HRk
        clear HAt hr' hs' HL3
        go_wp2_with fail
        refine HCL.out.mono ?_
        rintro e w4 ⟨A4, c4, rfl, ho4, hb4⟩
        have HB4 := Lib.hid (And.intro ho4 hb4)
        clear ho4 hb4
        go_wp2
        go_roundg rr.len
        case measure => first | (rw [HG]; simp [Fo.len]; done) | (simp only [Fo.len]; omega)
        case rel =>
          refine ⟨j + 1, rr, A4, c4, L3, rfl, by simp only [Fo.len] at hjr; omega, by go_num, rfl, HB4.out.1, HRk.out, ⟨by omega, by omega⟩, HBh.out.2.2.2.2, ?_, HBh.out.1.trans (HB4.out.2.mono hzr)⟩
          intro hne
          refine ⟨b, o, rfl, hb, ?_⟩
          rw [show o + (j + 1) * 6 = o + j * 6 + 6 by omega]
          exact HK.out.keep (Nat.le_refl _) (fun p hp => HB4.out.2.cell (by omega)) hb
theorem rf_any (s : Fo) : RfOK s := Fo.by_parts rf_step s

set_option maxRecDepth 100000 in
set_option maxHeartbeats 1000000 in
theorem refs24_top (k : Int) (n m : ByteArray) (i d : Int) (A : Option Addr) (c : Nat) (s : Fo) (w : World) (hs : s.Sl w w.heap.size A c) (hcnt : s.count ≤ 100000) :
    Calls Tryz.prog 139 #[.agg #[.int .i64 k, .string n, .string m, .int .i64 i, .int .i64 d, .slice A s.len c]] w (WithP24 (nodeRef k n i s []) w) := by
  obtain ⟨W0, hW0⟩ : ∃ W0, w.alloc (.cells #[.int .i64 k, .string n, .string m, .int .i64 i, .int .i64 d, .slice A s.len c] 27) = W0 := ⟨_, rfl⟩
  have hB0 : Below w.heap.size w W0 := by subst hW0; exact (Below.refl _ _).alloc (Nat.le_refl _) _
  have x0 : W0.cell? ⟨w.heap.size, 0, none⟩ = some (.int .i64 k) := by subst hW0; go_simp
  have x1 : W0.cell? ⟨w.heap.size, 1, none⟩ = some (.string n) := by subst hW0; go_simp
  have x2 : W0.cell? ⟨w.heap.size, 2, none⟩ = some (.string m) := by subst hW0; go_simp
  have x3 : W0.cell? ⟨w.heap.size, 3, none⟩ = some (.int .i64 i) := by subst hW0; go_simp
  have x4 : W0.cell? ⟨w.heap.size, 4, none⟩ = some (.int .i64 d) := by subst hW0; go_simp
  have x5 : W0.cell? ⟨w.heap.size, 5, none⟩ = some (.slice A s.len c) := by subst hW0; go_simp
  have HRF := Lib.hid (rf_any s k n m i d A c [] none 0 W0 (hs.keep hB0.size fun p hp => hB0.cell hp) (OwnN.nil _) (by simp; omega))
  have HB := Lib.hid hB0
  clear hs hB0
  go_enter Tryz.func139, Tryz.ntmps139
  go_wp2_with fail
  refine HRF.out.mono ?_
  rintro e w1 ⟨A1, c1, rfl, ho1, hb1⟩
  have HO := Lib.hid (And.intro ho1 (HB.out.trans (hb1.mono HB.out.size)))
  clear ho1 hb1
  go_wp2
  go_ret
  exact ⟨A1, c1, rfl, HO.out.1, HO.out.2⟩
end Go.Proofs.YtdobpmbgngomlaaGreatDoor
/- ref50.Is, first -/
namespace Go.Proofs.YtdobpmbgngomlaaGreatDoor
open Go.RowKit Go.Proofs Go.Shelf

set_option maxRecDepth 100000 in
set_option maxHeartbeats 2000000 in
theorem is50_any (l : List Mo) (n : ByteArray × Int) (A : Option Addr) (c : Nat) (w : World) (hl : SlM w w.heap.size A c l) :
    Calls Tryz.prog 50 #[.slice A l.length c, .agg #[.string n.1, .int .i64 n.2]] w fun e w' => e = .returned (.bool (isT l n)) ∧ Below w.heap.size w w' := by
  obtain ⟨E, HE⟩ : ∃ E, Hid (isT l n = E) := ⟨_, Lib.hid rfl⟩
  rw [HE.out]
  have HE0 := Lib.hid (show tstO (bodyOf (l.drop 0) n) = E from HE.out)
  obtain ⟨W0, hW0⟩ : ∃ W0, w.alloc (.cells #[.string n.1, .int .i64 n.2] 24) = W0 := ⟨_, rfl⟩
  have hb0 : Below w.heap.size w W0 := by subst hW0; exact (Below.refl _ _).alloc (Nat.le_refl _) _
  have n0 : W0.cell? ⟨w.heap.size, 0, none⟩ = some (.string n.1) := by subst hW0; go_simp
  have n1 : W0.cell? ⟨w.heap.size, 1, none⟩ = some (.int .i64 n.2) := by subst hW0; go_simp
  have HL := Lib.hid (hl.below hb0)
  have h1 := hl.1
  have h2 := hl.2.1
  unfold maxLen at h2
  obtain ⟨N, HN⟩ : ∃ Q, Hid (l.length = Q) := ⟨_, Lib.hid rfl⟩
  rw [HN.out] at h1 ⊢
  have HB := Lib.hid hb0
  clear hl hb0
  go_enter Tryz.func50, Tryz.ntmps50
  go_wp2
  go_loopg [5, 6] N (fun g ct _ wr => ∃ j : Nat, g = N - j ∧ j ≤ N ∧ ct = .int .i64 j ∧ tstO (bodyOf (l.drop j) n) = E ∧ ∃ q, wr = W0.drewN q)
  case atStart => exact ⟨0, rfl, by omega, rfl, HE0.out, 0, rfl⟩
  case round =>
    obtain ⟨j, HG, hj, rfl, hm, q, rfl⟩ := hrel
    by_cases hlt : j < N
    · have hlt' : j < l.length := by rw [HN.out]; exact hlt
      obtain ⟨m, hy⟩ : ∃ y, l[j]? = some y := ⟨_, List.getElem?_eq_getElem hlt'⟩
      obtain ⟨b, o, rfl, hb, d0, d1, d2, hok⟩ := HL.out.at_ hy
      have hD := hok.2
      have hk1 := hD.1
      have hk2 := hD.2.1
      unfold maxLen at hk2
      obtain ⟨K, HK⟩ : ∃ Q, Hid (m.ds.length = Q) := ⟨_, Lib.hid rfl⟩
      rw [HK.out] at d2 hk1
      have hj0 : (0 : Int) ≤ (j : Int) := by omega
      have hj1 : (j : Int) < (N : Int) := by omega
      rw [bodyOf_drop hy] at hm
      have HM := Lib.hid (And.intro HG (And.intro hm hD))
      clear HG hm hok hD hy
      by_cases hlab : m.label = n.1
      · have e1 : (m.label.toList == n.1.toList) = true := by rw [hlab]; simp
        have HE2 := Lib.hid (show tstO (declAt m.ds n.2) = E from by have := HM.out.2.1; rwa [if_pos hlab] at this)
        clear hlab
        go_wp2_with fail
        go_quiet (fail)
        clear e1
        go_wp2
        go_loopg [6] K (fun g ct wr => ∃ i : Nat, g = K - i ∧ i ≤ K ∧ ct = .int .i64 i ∧ tstO (declAt (m.ds.drop i) n.2) = E ∧ ∃ q, wr = W0.drewN q)
        case atStart => exact ⟨0, rfl, by omega, rfl, HE2.out, q + nq, by simp [World.drewN, Nat.add_assoc]⟩
        case round =>
          obtain ⟨i, HG, hi, rfl, hE, q', rfl⟩ := hrel
          by_cases hlt2 : i < K
          · have hlt2' : i < m.ds.length := by rw [HK.out]; exact hlt2
            obtain ⟨d, hd⟩ : ∃ y, m.ds[i]? = some y := ⟨_, List.getElem?_eq_getElem hlt2'⟩
            obtain ⟨b', o', hA, hb', c0, c1, _, _, _, _, _, _, _, _, _, _⟩ := SlD.cells_at (wr := W0) HM.out.2.2 (fun _ _ => rfl) hd
            have i0 : (0 : Int) ≤ (i : Int) := by omega
            have i1 : (i : Int) < (K : Int) := by omega
            rw [declAt_drop hd] at hE
            have HI := Lib.hid (And.intro HG (And.intro hE hA))
            rw [hA] at d2
            clear HG hE hd hA
            by_cases hid : d.id = n.2
            · have e1 : (d.id == n.2) = true := by rw [hid]; simp
              have HE3 := Lib.hid (show decide (d.kind = 2) = E from by have := HI.out.2.1; rwa [if_pos hid] at this)
              have e2 : (d.kind == 2) = E := by rw [← HE3.out]; rfl
              clear hid
              go_wp2_with fail
              go_quiet (fail)
              clear e1
              go_wp2
              go_ret
              exact ⟨rfl, below_drewN HB.out _⟩
            · have e1 : (d.id == n.2) = false := by simpa using hid
              have HE3 := Lib.hid (show tstO (declAt (m.ds.drop (i + 1)) n.2) = E from by have := HI.out.2.1; rwa [if_neg hid] at this)
              clear hid
              go_wp2_with fail
              go_quiet (fail)
              clear e1 c0 c1
              go_wp2
              go_roundg (K - (i + 1))
              case measure => rw [HI.out.1]; omega
              case rel => exact ⟨i + 1, rfl, by omega, by go_num, HE3.out, q' + nq, by simp [World.drewN]⟩
          · have hik : i = K := by omega
            have HE3 := Lib.hid (show E = false from by rw [← hE, List.drop_of_length_le (by rw [HK.out]; omega)]; rfl)
            clear hE
            go_wp2
            go_ret
            exact ⟨by rw [HE3.out]; rfl, below_drewN HB.out _⟩
      · have e1 : (m.label.toList == n.1.toList) = false := toL_beq_false hlab
        have HE2 := Lib.hid (show tstO (bodyOf (l.drop (j + 1)) n) = E from by have := HM.out.2.1; rwa [if_neg hlab] at this)
        clear hlab
        go_wp2_with fail
        go_quiet (fail)
        clear e1 d0 d1 d2
        go_wp2
        go_roundg (N - (j + 1))
        case measure => rw [HM.out.1]; omega
        case rel => exact ⟨j + 1, rfl, by omega, by go_num, HE2.out, q + nq, by simp [World.drewN]⟩
    · have hje : j = N := by omega
      have HE2 := Lib.hid (show E = false from by rw [← hm, List.drop_of_length_le (by rw [HN.out]; omega)]; rfl)
      clear hm
      go_wp2
      go_ret
      exact ⟨by rw [HE2.out]; rfl, below_drewN HB.out _⟩
theorem labs_take {l : List Mo} {j : Nat} {m : Mo} (hj : l[j]? = some m) (a : ByteArray) : labs (l.take (j + 1)) a = (labs (l.take j) a || decide (m.label = a)) := by
  obtain ⟨hlt, rfl⟩ := List.getElem?_eq_some_iff.1 hj
  rw [List.take_succ_eq_append_getElem hlt, labs_snoc]
set_option maxRecDepth 100000 in
set_option maxHeartbeats 2000000 in
theorem first50_any (l : List Mo) (i : Nat) (m : Mo) (A : Option Addr) (c : Nat) (w : World) (hl : SlM w w.heap.size A c l) (hi : l[i]? = some m) :
    Calls Tryz.prog 53 #[.slice A l.length c, .int .i64 i] w fun e w' => e = .returned (.bool (!labs (l.take i) m.label)) ∧ Below w.heap.size w w' := by
  have hil : i < l.length := (List.getElem?_eq_some_iff.1 hi).1
  obtain ⟨b, o, rfl, hb, e0, _, _, _⟩ := hl.at_ hi
  have HL := Lib.hid hl
  have h1 := hl.1
  have h2 := hl.2.1
  unfold maxLen at h2
  obtain ⟨N, HN⟩ : ∃ Q, Hid (l.length = Q) := ⟨_, Lib.hid rfl⟩
  rw [HN.out] at h1 hil ⊢
  clear hl
  have x1 : (0 : Int) ≤ (i : Int) := by omega
  have x2 : (i : Int) < (N : Int) := by omega
  go_enter Tryz.func53, Tryz.ntmps53
  go_wp2
  go_loopg [5] i (fun g ct wr => ∃ k : Nat, g = i - k ∧ k ≤ i ∧ ct = .int .i64 k ∧ labs (l.take k) m.label = false ∧ ∃ q, wr = w.drewN q)
  case atStart => exact ⟨0, rfl, by omega, rfl, rfl, 0, rfl⟩
  case round =>
    obtain ⟨k, HG, hk, rfl, hm, q, rfl⟩ := hrel
    by_cases hlt : k < i
    · obtain ⟨m', hm'⟩ : ∃ y, l[k]? = some y := ⟨_, List.getElem?_eq_getElem (by rw [HN.out]; omega)⟩
      obtain ⟨b', o', hA, hb', d0, _, _, _⟩ := HL.out.at_ hm'
      cases hA
      have x3 : (0 : Int) ≤ (k : Int) := by omega
      have x4 : (k : Int) < (N : Int) := by omega
      have hlt3 := labs_take hm' m.label
      have HT := Lib.hid (And.intro HG (And.intro hm (And.intro hlt3 hm')))
      clear HG hm hlt3 hm'
      by_cases he : m'.label = m.label
      · have e1 : (m'.label.toList == m.label.toList) = true := by rw [he]; simp
        have HF := Lib.hid (show labs (l.take i) m.label = true from by
          unfold labs
          rw [List.any_eq_true]
          obtain ⟨hq1, hq2⟩ := List.getElem?_eq_some_iff.1 HT.out.2.2.2
          exact ⟨m', List.mem_of_getElem? (i := k) (by rw [List.getElem?_take, if_pos hlt]; exact HT.out.2.2.2), by simpa using he⟩)
        clear he
        go_wp2_with fail
        go_quiet (fail)
        clear e1
        go_wp2
        go_ret
        exact ⟨by rw [HF.out]; rfl, below_drewN (below_drewN (Below.refl _ _) _) _⟩
      · have e1 : (m'.label.toList == m.label.toList) = false := toL_beq_false he
        have HF := Lib.hid he
        clear he
        go_wp2_with fail
        go_quiet (fail)
        clear e1 d0
        go_wp2
        go_roundg (i - (k + 1))
        case measure => rw [HT.out.1]; omega
        case rel => exact ⟨k + 1, rfl, by omega, by go_num, by rw [HT.out.2.2.1, HT.out.2.1, decide_eq_false HF.out]; rfl, q + nq, by simp [World.drewN]⟩
    · obtain rfl : k = i := by omega
      have HF := Lib.hid hm
      clear hm HG
      go_wp2
      go_ret
      exact ⟨by rw [HF.out]; rfl, below_drewN (Below.refl _ _) _⟩
end Go.Proofs.YtdobpmbgngomlaaGreatDoor
