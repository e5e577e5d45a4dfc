/- ref40.find, Has -/
import Derived.Test.YtpnfbfnffkbilaaGreatDoorDcg
import Derived.Test.YtpnfbfnffkbilaaGreatDoorZma
import Derived.Test.YtpnfbfnffkbilaaGreatDoorZlr
import Derived.Test.YtpnfbfnffkbilaaGreatDoorZlq
import Derived.Test.YtpnfbfnffkbilaaGreatDoorZla
import Derived.Test.YtpnfbfnffkbilaaGreatDoorZlz
namespace Go.Proofs.YtpnfbfnffkbilaaGreatDoor
open Go.RowKit Go.Proofs Go.Shelf

def FindP (l : List Mo) (n : ByteArray × Int) (w : World) (e : Ending) (w' : World) : Prop :=
  e = .returned (.tuple #[.agg ((bodyOf l n).getD zeroDc).cells, .bool (bodyOf l n).isSome]) ∧ Below w.heap.size w w'
theorem below_set11 {B b : Nat} {w W : World} (h : Below B w W) (hb : B ≤ b) {v0 v1 v2 v3 v4 v5 v6 v7 v8 v9 v10 : Value} : Below B w (((((((((((W.setCell ⟨b, 0, none⟩ v0).setCell ⟨b, 1, none⟩ v1).setCell ⟨b, 2, none⟩ v2).setCell ⟨b, 3, none⟩ v3).setCell ⟨b, 4, none⟩ v4).setCell ⟨b, 5, none⟩ v5).setCell ⟨b, 6, none⟩ v6).setCell ⟨b, 7, none⟩ v7).setCell ⟨b, 8, none⟩ v8).setCell ⟨b, 9, none⟩ v9).setCell ⟨b, 10, none⟩ v10) := (((((((((((h.setCell (p := ⟨b, 0, none⟩) hb v0).setCell (p := ⟨b, 1, none⟩) hb v1).setCell (p := ⟨b, 2, none⟩) hb v2).setCell (p := ⟨b, 3, none⟩) hb v3).setCell (p := ⟨b, 4, none⟩) hb v4).setCell (p := ⟨b, 5, none⟩) hb v5).setCell (p := ⟨b, 6, none⟩) hb v6).setCell (p := ⟨b, 7, none⟩) hb v7).setCell (p := ⟨b, 8, none⟩) hb v8).setCell (p := ⟨b, 9, none⟩) hb v9).setCell (p := ⟨b, 10, none⟩) hb v10)
theorem toL_beq_false {a b : ByteArray} (h : a ≠ b) : (a.toList == b.toList) = false := by
  rw [beq_eq_false_iff_ne]
  intro e
  rw [ByteArray.toList_eq, ByteArray.toList_eq] at e
  exact h (ByteArray.ext (Array.ext' e))
theorem declAt_drop {ds : List Dc} {i : Nat} {d : Dc} (hd : ds[i]? = some d) (k : Int) : declAt (ds.drop i) k = if d.id = k then some d else declAt (ds.drop (i + 1)) k := by
  obtain ⟨hlt, rfl⟩ := List.getElem?_eq_some_iff.1 hd
  rw [List.drop_eq_getElem_cons hlt]
  unfold declAt
  rw [List.find?_cons]
  by_cases h : ds[i].id = k
  · rw [if_pos h, decide_eq_true h]
  · rw [if_neg h, decide_eq_false h]
theorem bodyOf_drop {l : List Mo} {j : Nat} {m : Mo} (hm : l[j]? = some m) (n : ByteArray × Int) : bodyOf (l.drop j) n = if m.label = n.1 then declAt m.ds n.2 else bodyOf (l.drop (j + 1)) n := by
  obtain ⟨hlt, rfl⟩ := List.getElem?_eq_some_iff.1 hm
  rw [List.drop_eq_getElem_cons hlt]
  rfl
set_option maxRecDepth 100000 in
set_option maxHeartbeats 2000000 in
theorem find40_any (l : List Mo) (n : ByteArray × Int) (A : Option Addr) (c : Nat) (w : World) (hl : SlM w w.heap.size A c l) :
    Calls Tryz.prog 47 #[.slice A l.length c, .agg #[.string n.1, .int .i64 n.2]] w (FindP l n w) := by
  obtain ⟨E, HE⟩ : ∃ E, Hid (bodyOf l n = E) := ⟨_, Lib.hid rfl⟩
  unfold FindP
  rw [HE.out]
  obtain ⟨W0, hW0⟩ : ∃ W0, (w.alloc (.cells #[.string n.1, .int .i64 n.2] 28)).alloc (.cells #[.int .i64 0, .int .i64 0, .bool false, .slice none 0 0, .bool false, .int .i64 0, .string ⟨#[]⟩, .string ⟨#[]⟩, .int .i64 0, .int .i64 0, .slice none 0 0] 51) = W0 := ⟨_, rfl⟩
  have hb0 : Below w.heap.size w W0 := by subst hW0; exact ((Below.refl _ _).alloc (Nat.le_refl _) _).alloc (by simp) _
  have hz0 : W0.heap.size = w.heap.size + 1 + 1 := by subst hW0; simp
  have n0 : W0.cell? ⟨w.heap.size, 0, none⟩ = some (.string n.1) := by subst hW0; go_simp
  have n1 : W0.cell? ⟨w.heap.size, 1, none⟩ = some (.int .i64 n.2) := by subst hW0; go_simp
  have hrow : W0.heap[w.heap.size + 1]? = some (.cells #[.int .i64 0, .int .i64 0, .bool false, .slice none 0 0, .bool false, .int .i64 0, .string ⟨#[]⟩, .string ⟨#[]⟩, .int .i64 0, .int .i64 0, .slice none 0 0] 51 (0, 0)) := by
    subst hW0
    have := heap_alloc_new (w.alloc (.cells #[.string n.1, .int .i64 n.2] 28)) (.cells #[.int .i64 0, .int .i64 0, .bool false, .slice none 0 0, .bool false, .int .i64 0, .string ⟨#[]⟩, .string ⟨#[]⟩, .int .i64 0, .int .i64 0, .slice none 0 0] 51)
    simpa using this
  have b0 : W0.cell? ⟨w.heap.size + 1, 0, none⟩ = some (.int .i64 0) := cell_of_row W0 _ 0 _ _ (0, 0) hrow
  have f0 : W0.frozen? ⟨w.heap.size + 1, 0, none⟩ = false := frozen_of_row W0 _ 0 _ _ hrow
  have b1 : W0.cell? ⟨w.heap.size + 1, 1, none⟩ = some (.int .i64 0) := cell_of_row W0 _ 1 _ _ (0, 0) hrow
  have f1 : W0.frozen? ⟨w.heap.size + 1, 1, none⟩ = false := frozen_of_row W0 _ 1 _ _ hrow
  have b2 : W0.cell? ⟨w.heap.size + 1, 2, none⟩ = some (.bool false) := cell_of_row W0 _ 2 _ _ (0, 0) hrow
  have f2 : W0.frozen? ⟨w.heap.size + 1, 2, none⟩ = false := frozen_of_row W0 _ 2 _ _ hrow
  have b3 : W0.cell? ⟨w.heap.size + 1, 3, none⟩ = some (.slice none 0 0) := cell_of_row W0 _ 3 _ _ (0, 0) hrow
  have f3 : W0.frozen? ⟨w.heap.size + 1, 3, none⟩ = false := frozen_of_row W0 _ 3 _ _ hrow
  have b4 : W0.cell? ⟨w.heap.size + 1, 4, none⟩ = some (.bool false) := cell_of_row W0 _ 4 _ _ (0, 0) hrow
  have f4 : W0.frozen? ⟨w.heap.size + 1, 4, none⟩ = false := frozen_of_row W0 _ 4 _ _ hrow
  have b5 : W0.cell? ⟨w.heap.size + 1, 5, none⟩ = some (.int .i64 0) := cell_of_row W0 _ 5 _ _ (0, 0) hrow
  have f5 : W0.frozen? ⟨w.heap.size + 1, 5, none⟩ = false := frozen_of_row W0 _ 5 _ _ hrow
  have b6 : W0.cell? ⟨w.heap.size + 1, 6, none⟩ = some (.string ⟨#[]⟩) := cell_of_row W0 _ 6 _ _ (0, 0) hrow
  have f6 : W0.frozen? ⟨w.heap.size + 1, 6, none⟩ = false := frozen_of_row W0 _ 6 _ _ hrow
  have b7 : W0.cell? ⟨w.heap.size + 1, 7, none⟩ = some (.string ⟨#[]⟩) := cell_of_row W0 _ 7 _ _ (0, 0) hrow
  have f7 : W0.frozen? ⟨w.heap.size + 1, 7, none⟩ = false := frozen_of_row W0 _ 7 _ _ hrow
  have b8 : W0.cell? ⟨w.heap.size + 1, 8, none⟩ = some (.int .i64 0) := cell_of_row W0 _ 8 _ _ (0, 0) hrow
  have f8 : W0.frozen? ⟨w.heap.size + 1, 8, none⟩ = false := frozen_of_row W0 _ 8 _ _ hrow
  have b9 : W0.cell? ⟨w.heap.size + 1, 9, none⟩ = some (.int .i64 0) := cell_of_row W0 _ 9 _ _ (0, 0) hrow
  have f9 : W0.frozen? ⟨w.heap.size + 1, 9, none⟩ = false := frozen_of_row W0 _ 9 _ _ hrow
  have b10 : W0.cell? ⟨w.heap.size + 1, 10, none⟩ = some (.slice none 0 0) := cell_of_row W0 _ 10 _ _ (0, 0) hrow
  have f10 : W0.frozen? ⟨w.heap.size + 1, 10, none⟩ = false := frozen_of_row W0 _ 10 _ _ hrow
  have HL := Lib.hid (hl.below hb0)
  have h1 := hl.1
  have h2 := hl.2.1
  unfold maxLen at h2
  obtain ⟨N, HN⟩ : ∃ Q, Hid (l.length = Q) := ⟨_, Lib.hid rfl⟩
  rw [HN.out] at h1 ⊢
  have HB := Lib.hid (And.intro hb0 (And.intro hz0 hrow))
  clear hl hb0 hz0 hrow
  go_enter Tryz.func47, Tryz.ntmps47
  go_wp2
  go_loopg [6, 7] N (fun g ct _ wr => ∃ j : Nat, g = N - j ∧ j ≤ N ∧ ct = .int .i64 j ∧ bodyOf (l.drop j) n = E ∧ ∃ q, wr = W0.drewN q)
  case atStart => exact ⟨0, rfl, by omega, rfl, HE.out, 0, rfl⟩
  case round =>
    obtain ⟨j, HG, hj, rfl, hm, q, rfl⟩ := hrel
    by_cases hlt : j < N
    · have hlt' : j < l.length := by rw [HN.out]; exact hlt
      obtain ⟨m, hy⟩ : ∃ y, l[j]? = some y := ⟨_, List.getElem?_eq_getElem hlt'⟩
      obtain ⟨b, o, rfl, hb, d0, d1, d2, hok⟩ := HL.out.at_ hy
      have hD := hok.2
      have hk1 := hD.1
      have hk2 := hD.2.1
      unfold maxLen at hk2
      obtain ⟨K, HK⟩ : ∃ Q, Hid (m.ds.length = Q) := ⟨_, Lib.hid rfl⟩
      rw [HK.out] at d2 hk1
      have hj0 : (0 : Int) ≤ (j : Int) := by omega
      have hj1 : (j : Int) < (N : Int) := by omega
      rw [bodyOf_drop hy] at hm
      have HM := Lib.hid (And.intro HG (And.intro hm hD))
      clear HG hm hok hD hy
      by_cases hlab : m.label = n.1
      · have e1 : (m.label.toList == n.1.toList) = true := by rw [hlab]; simp
        have HE2 := Lib.hid (show declAt m.ds n.2 = E from by have := HM.out.2.1; rwa [if_pos hlab] at this)
        clear hlab
        go_wp2_with fail
        go_quiet (fail)
        clear e1
        go_wp2
        go_loopg [7] K (fun g ct wr => ∃ i : Nat, g = K - i ∧ i ≤ K ∧ ct = .int .i64 i ∧ declAt (m.ds.drop i) n.2 = E ∧ ∃ q, wr = W0.drewN q)
        case atStart => exact ⟨0, rfl, by omega, rfl, HE2.out, q + nq, by simp [World.drewN, Nat.add_assoc]⟩
        case round =>
          obtain ⟨i, HG, hi, rfl, hE, q', rfl⟩ := hrel
          by_cases hlt2 : i < K
          · have hlt2' : i < m.ds.length := by rw [HK.out]; exact hlt2
            obtain ⟨d, hd⟩ : ∃ y, m.ds[i]? = some y := ⟨_, List.getElem?_eq_getElem hlt2'⟩
            obtain ⟨b', o', hA, hb', c0, c1, c2, c3, c4, c5, c6, c7, c8, c9, c10, hdok⟩ := SlD.cells_at (wr := W0) HM.out.2.2 (fun _ _ => rfl) hd
            have i0 : (0 : Int) ≤ (i : Int) := by omega
            have i1 : (i : Int) < (K : Int) := by omega
            rw [declAt_drop hd] at hE
            have HI := Lib.hid (And.intro HG (And.intro hE hA))
            rw [hA] at d2
            clear HG hE hdok hd hA
            by_cases hid : d.id = n.2
            · have e1 : (d.id == n.2) = true := by rw [hid]; simp
              have HE3 := Lib.hid (show some d = E from by have := HI.out.2.1; rwa [if_pos hid] at this)
              clear hid
              go_wp2_with fail
              go_quiet (fail)
              clear e1
              go_wp2
              refine bodyPost_ret (v := .tuple #[.agg d.cells, .bool true]) (by simp [results, Tryz.results47, go_sem, Dc.cells, b0, b1, b2, b3, b4, b5, b6, b7, b8, b9, b10]) rfl ?_
              rw [← HE3.out]
              exact ⟨rfl, below_set11 (below_drewN HB.out.1 _) (Nat.le_succ _)⟩
            · have e1 : (d.id == n.2) = false := by simpa using hid
              have HE3 := Lib.hid (show declAt (m.ds.drop (i + 1)) n.2 = E from by have := HI.out.2.1; rwa [if_neg hid] at this)
              clear hid
              go_wp2_with fail
              go_quiet (fail)
              clear e1 c0 c1 c2 c3 c4 c5 c6 c7 c8 c9 c10
              go_wp2
              go_roundg (K - (i + 1))
              case measure => rw [HI.out.1]; omega
              case rel => exact ⟨i + 1, rfl, by omega, by go_num, HE3.out, q' + nq, by simp [World.drewN]⟩
          · have hik : i = K := by omega
            have HE3 := Lib.hid (show E = none from by rw [← hE, List.drop_of_length_le (by rw [HK.out]; omega)]; rfl)
            clear hE
            go_wp2
            refine bodyPost_ret (v := .tuple #[.agg zeroDc.cells, .bool false]) (by simp [results, Tryz.results47, go_sem, Dc.cells, zeroDc, Fo.len, b0, b1, b2, b3, b4, b5, b6, b7, b8, b9, b10]) rfl ?_
            rw [HE3.out]
            exact ⟨rfl, below_set11 (below_drewN HB.out.1 _) (Nat.le_succ _)⟩
      · have e1 : (m.label.toList == n.1.toList) = false := toL_beq_false hlab
        have HE2 := Lib.hid (show bodyOf (l.drop (j + 1)) n = E from by have := HM.out.2.1; rwa [if_neg hlab] at this)
        clear hlab
        go_wp2_with fail
        go_quiet (fail)
        clear e1 d0 d1 d2
        go_wp2
        go_roundg (N - (j + 1))
        case measure => rw [HM.out.1]; omega
        case rel => exact ⟨j + 1, rfl, by omega, by go_num, HE2.out, q + nq, by simp [World.drewN]⟩
    · have hje : j = N := by omega
      have HE2 := Lib.hid (show E = none from by rw [← hm, List.drop_of_length_le (by rw [HN.out]; omega)]; rfl)
      clear hm
      go_wp2
      refine bodyPost_ret (v := .tuple #[.agg zeroDc.cells, .bool false]) (by simp [results, Tryz.results47, go_sem, Dc.cells, zeroDc, Fo.len, b0, b1, b2, b3, b4, b5, b6, b7, b8, b9, b10]) rfl ?_
      rw [HE2.out]
      exact ⟨rfl, below_set11 (below_drewN HB.out.1 _) (Nat.le_succ _)⟩
end Go.Proofs.YtpnfbfnffkbilaaGreatDoor
/- ref24.With at a nil list; ref24.refs, Refs -/
namespace Go.Proofs.YtpnfbfnffkbilaaGreatDoor
open Go.RowKit Go.Proofs Go.Shelf

def WithQ24 (R l : List (ByteArray × Int)) (A0 : Option Addr) (w : World) (e : Ending) (w' : World) : Prop :=
  ∃ A c, e = .returned (.slice A R.length c) ∧ OwnN w' A c R ∧ Below w.heap.size w w' ∧ ((R = l ∧ A = A0) ∨ w'.ownsRow w.heap.size 28 2 (.slice A R.length c) R.length (namesC R))
set_option maxRecDepth 100000 in
set_option maxHeartbeats 8000000 in
theorem withQ_some (l : List (ByteArray × Int)) (xa : ByteArray) (xi : Int) (g c : Nat) (w : World) (hs : OwnN w (some ⟨g, 0, none⟩) c l) (hl : l.length ≤ 1000000) :
    Calls Tryz.prog 42 #[.slice (some ⟨g, 0, none⟩) l.length c, .agg #[.string xa, .int .i64 xi]] w (WithQ24 (withN l (xa, xi)) l (some ⟨g, 0, none⟩) w) := by
  obtain ⟨i0, hi, hz0, hz1, hz2⟩ := info_parts Tryz.infoName
  obtain ⟨n, HN⟩ : ∃ q, Hid (l.length = q) := ⟨_, Lib.hid rfl⟩
  obtain ⟨R, HR⟩ : ∃ q, Hid (withN l (xa, xi) = q) := ⟨_, Lib.hid rfl⟩
  rw [HR.out]
  rw [HN.out] at hl ⊢
  have hcs := hs.cells
  have hcn : n ≤ c ∧ c ≤ 9223372036854775807 := by
    rcases hcs with ⟨_, h, _⟩ | ⟨g', _, _, h1, h2, _⟩
    · cases h
    · rw [HN.out] at h1; exact ⟨h1, h2⟩
  obtain ⟨hc1, hc2⟩ := hcn
  obtain ⟨W0, hW0⟩ : ∃ W0, w.alloc (.cells #[.string xa, .int .i64 xi] 28) = W0 := ⟨_, rfl⟩
  have hzw : w.heap.size < W0.heap.size := by subst hW0; simp
  have hB0 : Below w.heap.size w W0 := by subst hW0; exact (Below.refl _ _).alloc (Nat.le_refl _) _
  have hx0 : W0.heap[w.heap.size]? = some (.cells #[.string xa, .int .i64 xi] 28 (0, 0)) := by rw [← hW0]; exact heap_alloc_new w _
  have HC : Hid (∀ X, Below W0.heap.size W0 X → Below w.heap.size w X ∧ OwnN X (some ⟨g, 0, none⟩) c l ∧ X.cell? ⟨w.heap.size, 0, none⟩ = some (.string xa) ∧ X.cell? ⟨w.heap.size, 1, none⟩ = some (.int .i64 xi)) := fun X hX => by
    have h0 := (hX.block w.heap.size hzw).trans hx0
    have hb := hB0.trans (hX.mono (Nat.le_of_lt hzw))
    exact ⟨hb, hs.below hb (Nat.le_refl _), cell_of_row X _ 0 _ _ (0, 0) h0, cell_of_row X _ 1 _ _ (0, 0) h0⟩
  clear hs hB0 hx0 hcs
  go_enter Tryz.func42, Tryz.ntmps42
  go_wp2_with fail
  clear hW0
  go_loopg [5] n (fun g ct wr => ∃ j : Nat, g = n - j ∧ j ≤ n ∧ ct = .int .i64 j ∧ (∀ y ∈ l.take j, lessN y (xa, xi) = true) ∧ Below W0.heap.size W0 wr)
  case atStart => exact ⟨0, rfl, by omega, rfl, by simp, Below.refl _ _⟩
  case round =>
    obtain ⟨j, HG, hj, rfl, HA, HB⟩ := hrel
    have HG' := Lib.hid (And.intro HG (And.intro HA HB))
    clear HG HA HB
    have hzr := HG'.out.2.2.size
    obtain ⟨hBw, hon, x0, x1⟩ := HC.out wr HG'.out.2.2
    have HBw := Lib.hid (And.intro hBw hon)
    clear hBw hon
    by_cases hlt : j < n
    · have hjl : j < l.length := by rw [HN.out]; exact hlt
      have hj3 : l[j]? = some l[j] := List.getElem?_eq_getElem hjl
      have hcell : ∀ X, Below W0.heap.size W0 X → X.cell? ⟨g, j * 2, none⟩ = some (.string l[j].1) ∧ X.cell? ⟨g, j * 2 + 1, none⟩ = some (.int .i64 l[j].2) := fun X hX => by
        rcases (HC.out X hX).2.1.cells with ⟨h1, _⟩ | ⟨g', hg', _, _, _, hc⟩
        · subst h1; simp at hjl
        · cases hg'
          obtain ⟨n1, n2⟩ := namesC_at _ l j hj3
          exact ⟨hc _ _ n1, hc _ _ n2⟩
      have HCell := Lib.hid hcell
      have HJ := Lib.hid hj3
      clear hcell hj3
      generalize l[j] = y at HCell HJ
      clear hjl
      obtain ⟨ya, yi⟩ := y
      simp only at HCell
      have HSX : Hid (∀ X, Below wr.heap.size wr X → X.cell? ⟨g, j * 2, none⟩ = some (.string ya) ∧ X.cell? ⟨g, j * 2 + 1, none⟩ = some (.int .i64 yi) ∧ X.cell? ⟨w.heap.size, 0, none⟩ = some (.string xa) ∧ X.cell? ⟨w.heap.size, 1, none⟩ = some (.int .i64 xi)) := fun X hX => by
        have hX0 := HG'.out.2.2.trans (hX.mono hzr)
        obtain ⟨h1, h2⟩ := HCell.out X hX0
        obtain ⟨_, _, h3, h4⟩ := HC.out X hX0
        exact ⟨h1, h2, h3, h4⟩
      have HLs := Lib.hid (fun X => less24_any ya xa yi xi X)
      have i0' : (0 : Int) ≤ (j : Int) := by omega
      have i1' : (j : Int) < (n : Int) := by omega
      have i2' : decide ((j : Int) < (n : Int)) = true := by simpa using hlt
      obtain ⟨ls, Hls⟩ : ∃ q, Hid (lessN (ya, yi) (xa, xi) = q) := ⟨_, Lib.hid rfl⟩
      rw [Hls.out] at HLs
      clear x0 x1
      go_wp2_with fail
      go_region_held3 (fun X => X.cell? ⟨g, j * 2, none⟩ = some (.string ya) ∧ X.cell? ⟨g, j * 2 + 1, none⟩ = some (.int .i64 yi) ∧ X.cell? ⟨w.heap.size, 0, none⟩ = some (.string xa) ∧ X.cell? ⟨w.heap.size, 1, none⟩ = some (.int .i64 xi))
        (first | exact HSX.out _ (below_drew' (Below.refl _ _)) | exact HSX.out _ hbb)
        (first | (go_at_call 18; refine (HLs.out _).mono ?_; rintro e w3 ⟨rfl, hb3⟩; have hbb : Below wr.heap.size wr w3 := (below_drew' (Below.refl _ wr)).trans (hb3.mono (Nat.le_refl _))))
      all_goals (
        have HB3 := Lib.hid (HG'.out.2.2.trans (hbb.mono hzr))
        clear hb3 hbb
        cases ls with
        | true =>
          have HNx : Hid (∀ y ∈ l.take (j + 1), lessN y (xa, xi) = true) := fun y hy => by
            obtain ⟨q, hq⟩ := List.mem_iff_getElem?.1 hy
            rw [List.getElem?_take] at hq
            split at hq
            · by_cases hqj : q = j
              · subst hqj
                rw [HJ.out] at hq
                cases hq
                exact Hls.out
              · exact HG'.out.2.1 y (List.mem_iff_getElem?.2 ⟨q, by rw [List.getElem?_take, if_pos (by omega)]; exact hq⟩)
            · cases hq
          go_wp2
          go_roundg (n - (j + 1))
          case measure => rw [HG'.out.1]; omega
          case rel => exact ⟨j + 1, rfl, by omega, by go_num, HNx.out, HB3.out⟩
        | false =>
          have HRm := Lib.hid (show R = if eqN (ya, yi) (xa, xi) = true then l else l.take j ++ (xa, xi) :: l.drop j by rw [← HR.out]; exact withN_mid HG'.out.2.1 HJ.out Hls.out)
          have hE := run_eqlN ya xa yi xi
          obtain ⟨y0, y1⟩ := HCell.out w3 HB3.out
          obtain ⟨hBw3, _, x0, x1⟩ := HC.out w3 HB3.out
          have HBw3 := Lib.hid hBw3
          clear hBw3
          cases he : eqN (ya, yi) (xa, xi) with
          | true =>
            have HRe := Lib.hid (show R = l by rw [HRm.out, if_pos he])
            unfold eqN at he
            simp only at he
            have HF := Lib.hid (HC.out w3 HB3.out).2.1
            go_wp2_with fail
            go_quiet (fail)
            go_wp2
            go_ret
            exact ⟨_, _, by rw [HRe.out, HN.out]; rfl, by rw [HRe.out]; exact HF.out.below (below_drewN (Below.refl _ _) _) (Nat.le_refl _), below_drewN HBw3.out _, .inl ⟨HRe.out, rfl⟩⟩
          | false =>
            have HRe := Lib.hid (show R = l.take j ++ (xa, xi) :: l.drop j by rw [HRm.out, if_neg (by rw [he]; simp)])
            unfold eqN at he
            simp only at he
            go_wp2_with fail
            go_quiet (fail)
            have hBX := below_drewN HB3.out nq
            generalize w3.drewN nq = X at hBX ⊢
            clear hE he
            go_wp2_with fail
            have hb0 : Below X.heap.size X X.drew := below_drew' (Below.refl _ _)
            have HKc : Hid (∀ Y, Below X.heap.size X Y → Y.cell? ⟨w.heap.size, 0, none⟩ = some (.string xa) ∧ Y.cell? ⟨w.heap.size, 1, none⟩ = some (.int .i64 xi)) := fun Y hY => by
              obtain ⟨_, _, h3, h4⟩ := HC.out Y (hBX.trans (hY.mono hBX.size))
              exact ⟨h3, h4⟩
            have HNw := Lib.hid (fun Y (hY : Below X.heap.size X Y) => ((HC.out Y (hBX.trans (hY.mono hBX.size))).2.1.news j).2)
            have HL1 := Lib.hid (show (namesC (l.take j)).length = j * 2 by rw [namesC_length, List.length_take, HN.out]; omega)
            have HO1 := Lib.hid (World.ownsRow_lit (base := X.heap.size) (e := 28) (size := 2) X.drew #[] 0 (Nat.le_refl _) (by simp) rfl)
            have HO2 := Lib.hid (HO1.out.alloc (.cells #[.string xa, .int .i64 xi] 28))
            have ho3 := World.ownsRow_lit (base := X.heap.size) (e := 28) (size := 2) (X.drew.alloc (.cells #[.string xa, .int .i64 xi] 28)) #[] 0 (by simp) (by simp) rfl
            rw [show (X.drew.alloc (.cells #[.string xa, .int .i64 xi] 28)).heap.size = X.heap.size + 1 by simp] at ho3
            have HO3 := Lib.hid ho3
            clear ho3
            have hba : Below X.heap.size X (X.drew.alloc (.cells #[] 28)) := hb0.alloc (Nat.le_refl _) _
            have hbb : Below X.heap.size X ((X.drew.alloc (.cells #[] 28)).alloc (.cells #[.string xa, .int .i64 xi] 28)) := hba.alloc hba.size _
            have hbn : Below X.heap.size X (X.drew.alloc (.cells #[.string xa, .int .i64 xi] 28)) := hb0.alloc (Nat.le_refl _) _
            have hbc : Below X.heap.size X ((X.drew.alloc (.cells #[.string xa, .int .i64 xi] 28)).alloc (.cells #[] 28)) := hbn.alloc hbn.size _
            have HNa := Lib.hid (HNw.out _ hba)
            have HNb := Lib.hid (HNw.out _ hbb)
            have HNc := Lib.hid (HNw.out _ hbc)
            have HGa := Lib.hid (fun w1 (hg : (X.drew.alloc (.cells #[] 28)).grownBy w1 (Value.slice (some ⟨X.drew.heap.size, 0, none⟩) 0 0).ownBlock) => hba.grown hg hba.size (fun q hq => (HO1.out.lt q hq).1))
            have HGb := Lib.hid (fun w1 (hg : ((X.drew.alloc (.cells #[] 28)).alloc (.cells #[.string xa, .int .i64 xi] 28)).grownBy w1 (Value.slice (some ⟨X.drew.heap.size, 0, none⟩) 0 0).ownBlock) => And.intro (hbb.grown hg hbb.size (fun q hq => (HO1.out.lt q hq).1)) (show w1.heap[X.heap.size + 1]? = some (.cells #[.string xa, .int .i64 xi] 28 (0, 0)) from (hg.block (X.heap.size + 1) (by simp) (fun h => by have := Option.some.inj h; change X.heap.size + 1 = X.heap.size at this; omega)).trans (by have := heap_alloc_new (X.drew.alloc (.cells #[] 28)) (.cells #[.string xa, .int .i64 xi] 28); rwa [show (X.drew.alloc (.cells #[] 28)).heap.size = X.heap.size + 1 by simp] at this)))
            have HGc := Lib.hid (fun w1 (hg : ((X.drew.alloc (.cells #[.string xa, .int .i64 xi] 28)).alloc (.cells #[] 28)).grownBy w1 (Value.slice (some ⟨X.heap.size + 1, 0, none⟩) 0 0).ownBlock) => And.intro (hbc.grown hg hbc.size (fun q hq => (HO3.out.lt q hq).1)) (show w1.heap[X.heap.size]? = some (.cells #[.string xa, .int .i64 xi] 28 (0, 0)) from (hg.block X.heap.size (by simp; omega) (fun h => by have := Option.some.inj h; change X.heap.size = X.heap.size + 1 at this; omega)).trans (by rw [Below.heap_alloc _ _ _ (by simp)]; exact heap_alloc_new X.drew _)))
            have m1 : 0 + j ≤ maxLen := by unfold maxLen; omega
            have m2 : (0 + j) * 24 ≤ 140737488355328 := by omega
            have m3 : 0 + j + 1 ≤ maxLen := by unfold maxLen; omega
            have m4 : (0 + j + 1) * 24 ≤ 140737488355328 := by omega
            have HM := Lib.hid (And.intro m1 (And.intro m2 (And.intro m3 m4)))
            have i3' : (j : Int) ≤ (c : Int) := by omega
            have i4' : j ≤ c := by omega
            have HBB := Lib.hid (And.intro hba (And.intro hbb hbc))
            have HB0' := Lib.hid (And.intro hb0 hbn)
            clear m1 m2 m3 m4 hba hbb hbc hb0 hbn
            have HL3 := Lib.hid (show (namesC (l.drop j)).length = (n - j) * 2 by rw [namesC_length, List.length_drop, HN.out])
            have HNd := Lib.hid (fun Y (hY : Below X.heap.size X Y) => ((HC.out Y (hBX.trans (hY.mono hBX.size))).2.1.newsD j))
            have i5' : j < c := by omega
            have i6' : (j : Int) < (c : Int) := by omega
            have m5 : 0 + j + 1 + (n - j) ≤ maxLen := by unfold maxLen; omega
            have m6 : (0 + j + 1 + (n - j)) * 24 ≤ 140737488355328 := by omega
            have HM2 := Lib.hid (And.intro m5 m6)
            clear m5 m6
            go_region_held3 (fun Y => Y.cell? ⟨w.heap.size, 0, none⟩ = some (.string xa) ∧ Y.cell? ⟨w.heap.size, 1, none⟩ = some (.int .i64 xi))
              (first | exact HKc.out _ hb2 | exact HKc.out _ hb1 | exact HKc.out _ (hb1.alloc hb1.size _) | exact HKc.out _ HB0'.out.1 | exact HKc.out _ HB0'.out.2 | exact HKc.out _ HBB.out.1 | exact HKc.out _ HBB.out.2.1 | exact HKc.out _ HBB.out.2.2)
              (first
                | (refine step_append_any _ rfl (.tmp 34) (.tmp 37) 26 rfl X.heap.size 28 i0 _ 2 24 Tryz.underlying26 hi hz0 hz1 hz2 rfl (Nat.succ_pos 1) _ 0 [] rfl HO1.out (some ⟨g, 0, none⟩) j c (namesC (l.take j)) rfl HL1.out (fun h => nomatch h) HNa.out (namesC_one _) HM.out.1 HM.out.2.1 HBB.out.1.size ?_; intro v1 w1 hown1 hg1; have hb1 := HGa.out w1 hg1; have tokA : True := trivial)
                | (refine step_append_any _ rfl (.tmp 34) (.tmp 37) 26 rfl X.heap.size 28 i0 _ 2 24 Tryz.underlying26 hi hz0 hz1 hz2 rfl (Nat.succ_pos 1) _ 0 [] rfl HO2.out (some ⟨g, 0, none⟩) j c (namesC (l.take j)) rfl HL1.out (fun h => nomatch h) HNb.out (namesC_one _) HM.out.1 HM.out.2.1 HBB.out.2.1.size ?_; intro v1 w1 hown1 hg1; obtain ⟨hb1, hD⟩ := HGb.out w1 hg1; have tokB : True := trivial)
                | (refine step_append_any _ rfl (.tmp 34) (.tmp 37) 26 rfl X.heap.size 28 i0 _ 2 24 Tryz.underlying26 hi hz0 hz1 hz2 rfl (Nat.succ_pos 1) _ 0 [] rfl HO3.out (some ⟨g, 0, none⟩) j c (namesC (l.take j)) rfl HL1.out (fun h => nomatch h) HNc.out (namesC_one _) HM.out.1 HM.out.2.1 HBB.out.2.2.size ?_; intro v1 w1 hown1 hg1; obtain ⟨hb1, hD⟩ := HGc.out w1 hg1; have tokC : True := trivial)
                | (have _t := tokA; refine step_append_any _ rfl (.tmp 38) (.tmp 40) 26 rfl X.heap.size 28 i0 _ 2 24 Tryz.underlying26 hi hz0 hz1 hz2 rfl (Nat.succ_pos 1) v1 _ _ rfl (hown1.alloc _) (some ⟨w1.heap.size, 0, none⟩) 1 1 [.string xa, .int .i64 xi] rfl rfl (fun h => nomatch h) (news_pair _ _ _) (namesC_one [(xa, xi)]) HM.out.2.2.1 HM.out.2.2.2 (hb1.alloc hb1.size _).size ?_; intro v2 w2 hown2 hg2; have hb2 := (hb1.alloc hb1.size (.cells #[.string xa, .int .i64 xi] 28)).grown hg2 (hb1.alloc hb1.size _).size (fun q hq => (hown1.lt q hq).1))
                | (have _t := tokB; refine step_append_any _ rfl (.tmp 38) (.tmp 40) 26 rfl X.heap.size 28 i0 _ 2 24 Tryz.underlying26 hi hz0 hz1 hz2 rfl (Nat.succ_pos 1) v1 _ _ rfl hown1 (some ⟨X.heap.size + 1, 0, none⟩) 1 1 [.string xa, .int .i64 xi] rfl rfl (fun h => nomatch h) (news_at hD) (namesC_one [(xa, xi)]) HM.out.2.2.1 HM.out.2.2.2 hb1.size ?_; intro v2 w2 hown2 hg2; have hb2 := hb1.grown hg2 hb1.size (fun q hq => (hown1.lt q hq).1))
                | (have _t := tokC; refine step_append_any _ rfl (.tmp 38) (.tmp 40) 26 rfl X.heap.size 28 i0 _ 2 24 Tryz.underlying26 hi hz0 hz1 hz2 rfl (Nat.succ_pos 1) v1 _ _ rfl hown1 (some ⟨X.heap.size, 0, none⟩) 1 1 [.string xa, .int .i64 xi] rfl rfl (fun h => nomatch h) (news_at hD) (namesC_one [(xa, xi)]) HM.out.2.2.1 HM.out.2.2.2 hb1.size ?_; intro v2 w2 hown2 hg2; have hb2 := hb1.grown hg2 hb1.size (fun q hq => (hown1.lt q hq).1)))
            all_goals (
              go_wp2_with (at_builtin; refine wpList_append_own_any _ rfl (.tmp 42) (.tmp 45) 26 rfl X.heap.size 28 i0 _ 2 24 Tryz.underlying26 hi hz0 hz1 hz2 rfl (Nat.succ_pos 1) v2 _ _ rfl hown2 (some ⟨g, j * 2, none⟩) (n - j) (c - j) (namesC (l.drop j)) rfl HL3.out (fun h => nomatch h) (HNd.out _ hb2) (namesC_one _) HM2.out.1 HM2.out.2 hb2.size ?_; intro v3 w5 hown3 hg3)
              go_ret
              have hb5 := hb2.grown hg3 hb2.size (fun q hq => (hown2.lt q hq).1)
              have hf : w5.ownsRow X.heap.size 28 2 v3 R.length (namesC R) := by
                have e1 : R.length = 0 + j + 1 + (n - j) := by have := HN.out; rw [HRe.out]; simp; omega
                rw [e1, HRe.out, namesC_append]
                simpa [namesC, encN] using hown3
              obtain ⟨A', c', rfl, ho⟩ := OwnN.of hf
              exact ⟨A', c', rfl, ho, (HC.out _ (hBX.trans (hb5.mono hBX.size))).1, .inr (World.ownsRow.mono hf (HC.out X hBX).1.size)⟩))
    · obtain rfl : j = n := by omega
      have HTk := Lib.hid (show l.take j = l from List.take_of_length_le (by rw [HN.out]; exact Nat.le_refl _))
      have HRe := Lib.hid (show R = l ++ [(xa, xi)] by rw [← HR.out]; exact withN_end (by have := HG'.out.2.1; rw [HTk.out] at this; exact this))
      have i2' : decide ((j : Int) < (j : Int)) = false := by simp
      go_wp2_with fail
      go_quiet (fail)
      have hBX0 := below_drewN HG'.out.2.2 nq
      generalize wr.drewN nq = X0 at hBX0 ⊢
      go_wp2_with fail
      go_quiet (fail)
      have hBX := below_drewN hBX0 nq
      generalize X0.drewN nq = X at hBX ⊢
      clear x0 x1 hBX0
      go_wp2_with fail
      rcases Nat.lt_or_ge j c with hjc | hjc
      · have i5' : j < c := hjc
        have i6' : (j : Int) < (c : Int) := by omega
        have hb0 : Below X.heap.size X X.drew := below_drew' (Below.refl _ _)
        have HKc : Hid (∀ Y, Below X.heap.size X Y → Y.cell? ⟨w.heap.size, 0, none⟩ = some (.string xa) ∧ Y.cell? ⟨w.heap.size, 1, none⟩ = some (.int .i64 xi)) := fun Y hY => by
          obtain ⟨_, _, h3, h4⟩ := HC.out Y (hBX.trans (hY.mono hBX.size))
          exact ⟨h3, h4⟩
        have HNw := Lib.hid (fun Y (hY : Below X.heap.size X Y) => ((HC.out Y (hBX.trans (hY.mono hBX.size))).2.1.news j).2)
        have HL1 := Lib.hid (show (namesC (l.take j)).length = j * 2 by rw [namesC_length, List.length_take, HN.out]; omega)
        have HO1 := Lib.hid (World.ownsRow_lit (base := X.heap.size) (e := 28) (size := 2) X.drew #[] 0 (Nat.le_refl _) (by simp) rfl)
        have HO2 := Lib.hid (HO1.out.alloc (.cells #[.string xa, .int .i64 xi] 28))
        have ho3 := World.ownsRow_lit (base := X.heap.size) (e := 28) (size := 2) (X.drew.alloc (.cells #[.string xa, .int .i64 xi] 28)) #[] 0 (by simp) (by simp) rfl
        rw [show (X.drew.alloc (.cells #[.string xa, .int .i64 xi] 28)).heap.size = X.heap.size + 1 by simp] at ho3
        have HO3 := Lib.hid ho3
        clear ho3
        have hba : Below X.heap.size X (X.drew.alloc (.cells #[] 28)) := hb0.alloc (Nat.le_refl _) _
        have hbb : Below X.heap.size X ((X.drew.alloc (.cells #[] 28)).alloc (.cells #[.string xa, .int .i64 xi] 28)) := hba.alloc hba.size _
        have hbn : Below X.heap.size X (X.drew.alloc (.cells #[.string xa, .int .i64 xi] 28)) := hb0.alloc (Nat.le_refl _) _
        have hbc : Below X.heap.size X ((X.drew.alloc (.cells #[.string xa, .int .i64 xi] 28)).alloc (.cells #[] 28)) := hbn.alloc hbn.size _
        have HNa := Lib.hid (HNw.out _ hba)
        have HNb := Lib.hid (HNw.out _ hbb)
        have HNc := Lib.hid (HNw.out _ hbc)
        have HGa := Lib.hid (fun w1 (hg : (X.drew.alloc (.cells #[] 28)).grownBy w1 (Value.slice (some ⟨X.drew.heap.size, 0, none⟩) 0 0).ownBlock) => hba.grown hg hba.size (fun q hq => (HO1.out.lt q hq).1))
        have HGb := Lib.hid (fun w1 (hg : ((X.drew.alloc (.cells #[] 28)).alloc (.cells #[.string xa, .int .i64 xi] 28)).grownBy w1 (Value.slice (some ⟨X.drew.heap.size, 0, none⟩) 0 0).ownBlock) => And.intro (hbb.grown hg hbb.size (fun q hq => (HO1.out.lt q hq).1)) (show w1.heap[X.heap.size + 1]? = some (.cells #[.string xa, .int .i64 xi] 28 (0, 0)) from (hg.block (X.heap.size + 1) (by simp) (fun h => by have := Option.some.inj h; change X.heap.size + 1 = X.heap.size at this; omega)).trans (by have := heap_alloc_new (X.drew.alloc (.cells #[] 28)) (.cells #[.string xa, .int .i64 xi] 28); rwa [show (X.drew.alloc (.cells #[] 28)).heap.size = X.heap.size + 1 by simp] at this)))
        have HGc := Lib.hid (fun w1 (hg : ((X.drew.alloc (.cells #[.string xa, .int .i64 xi] 28)).alloc (.cells #[] 28)).grownBy w1 (Value.slice (some ⟨X.heap.size + 1, 0, none⟩) 0 0).ownBlock) => And.intro (hbc.grown hg hbc.size (fun q hq => (HO3.out.lt q hq).1)) (show w1.heap[X.heap.size]? = some (.cells #[.string xa, .int .i64 xi] 28 (0, 0)) from (hg.block X.heap.size (by simp; omega) (fun h => by have := Option.some.inj h; change X.heap.size = X.heap.size + 1 at this; omega)).trans (by rw [Below.heap_alloc _ _ _ (by simp)]; exact heap_alloc_new X.drew _)))
        have m1 : 0 + j ≤ maxLen := by unfold maxLen; omega
        have m2 : (0 + j) * 24 ≤ 140737488355328 := by omega
        have m3 : 0 + j + 1 ≤ maxLen := by unfold maxLen; omega
        have m4 : (0 + j + 1) * 24 ≤ 140737488355328 := by omega
        have HM := Lib.hid (And.intro m1 (And.intro m2 (And.intro m3 m4)))
        have i3' : (j : Int) ≤ (c : Int) := by omega
        have i4' : j ≤ c := by omega
        have HBB := Lib.hid (And.intro hba (And.intro hbb hbc))
        have HB0' := Lib.hid (And.intro hb0 hbn)
        clear m1 m2 m3 m4 hba hbb hbc hb0 hbn
        have m5 : 0 + j + 1 ≤ maxLen := by unfold maxLen; omega
        have m6 : (0 + j + 1) * 24 ≤ 140737488355328 := by omega
        have HM2 := Lib.hid (And.intro m5 m6)
        clear m5 m6
        go_region_held3 (fun Y => Y.cell? ⟨w.heap.size, 0, none⟩ = some (.string xa) ∧ Y.cell? ⟨w.heap.size, 1, none⟩ = some (.int .i64 xi))
          (first | exact HKc.out _ hb2 | exact HKc.out _ hb1 | exact HKc.out _ (hb1.alloc hb1.size _) | exact HKc.out _ HB0'.out.1 | exact HKc.out _ HB0'.out.2 | exact HKc.out _ HBB.out.1 | exact HKc.out _ HBB.out.2.1 | exact HKc.out _ HBB.out.2.2)
          (first
            | (refine step_append_any _ rfl (.tmp 34) (.tmp 37) 26 rfl X.heap.size 28 i0 _ 2 24 Tryz.underlying26 hi hz0 hz1 hz2 rfl (Nat.succ_pos 1) _ 0 [] rfl HO1.out (some ⟨g, 0, none⟩) j c (namesC (l.take j)) rfl HL1.out (fun h => nomatch h) HNa.out (namesC_one _) HM.out.1 HM.out.2.1 HBB.out.1.size ?_; intro v1 w1 hown1 hg1; have hb1 := HGa.out w1 hg1; have tokA : True := trivial)
            | (refine step_append_any _ rfl (.tmp 34) (.tmp 37) 26 rfl X.heap.size 28 i0 _ 2 24 Tryz.underlying26 hi hz0 hz1 hz2 rfl (Nat.succ_pos 1) _ 0 [] rfl HO2.out (some ⟨g, 0, none⟩) j c (namesC (l.take j)) rfl HL1.out (fun h => nomatch h) HNb.out (namesC_one _) HM.out.1 HM.out.2.1 HBB.out.2.1.size ?_; intro v1 w1 hown1 hg1; obtain ⟨hb1, hD⟩ := HGb.out w1 hg1; have tokB : True := trivial)
            | (refine step_append_any _ rfl (.tmp 34) (.tmp 37) 26 rfl X.heap.size 28 i0 _ 2 24 Tryz.underlying26 hi hz0 hz1 hz2 rfl (Nat.succ_pos 1) _ 0 [] rfl HO3.out (some ⟨g, 0, none⟩) j c (namesC (l.take j)) rfl HL1.out (fun h => nomatch h) HNc.out (namesC_one _) HM.out.1 HM.out.2.1 HBB.out.2.2.size ?_; intro v1 w1 hown1 hg1; obtain ⟨hb1, hD⟩ := HGc.out w1 hg1; have tokC : True := trivial)
            | (have _t := tokA; refine step_append_any _ rfl (.tmp 38) (.tmp 40) 26 rfl X.heap.size 28 i0 _ 2 24 Tryz.underlying26 hi hz0 hz1 hz2 rfl (Nat.succ_pos 1) v1 _ _ rfl (hown1.alloc _) (some ⟨w1.heap.size, 0, none⟩) 1 1 [.string xa, .int .i64 xi] rfl rfl (fun h => nomatch h) (news_pair _ _ _) (namesC_one [(xa, xi)]) HM.out.2.2.1 HM.out.2.2.2 (hb1.alloc hb1.size _).size ?_; intro v2 w2 hown2 hg2; have hb2 := (hb1.alloc hb1.size (.cells #[.string xa, .int .i64 xi] 28)).grown hg2 (hb1.alloc hb1.size _).size (fun q hq => (hown1.lt q hq).1))
            | (have _t := tokB; refine step_append_any _ rfl (.tmp 38) (.tmp 40) 26 rfl X.heap.size 28 i0 _ 2 24 Tryz.underlying26 hi hz0 hz1 hz2 rfl (Nat.succ_pos 1) v1 _ _ rfl hown1 (some ⟨X.heap.size + 1, 0, none⟩) 1 1 [.string xa, .int .i64 xi] rfl rfl (fun h => nomatch h) (news_at hD) (namesC_one [(xa, xi)]) HM.out.2.2.1 HM.out.2.2.2 hb1.size ?_; intro v2 w2 hown2 hg2; have hb2 := hb1.grown hg2 hb1.size (fun q hq => (hown1.lt q hq).1))
            | (have _t := tokC; refine step_append_any _ rfl (.tmp 38) (.tmp 40) 26 rfl X.heap.size 28 i0 _ 2 24 Tryz.underlying26 hi hz0 hz1 hz2 rfl (Nat.succ_pos 1) v1 _ _ rfl hown1 (some ⟨X.heap.size, 0, none⟩) 1 1 [.string xa, .int .i64 xi] rfl rfl (fun h => nomatch h) (news_at hD) (namesC_one [(xa, xi)]) HM.out.2.2.1 HM.out.2.2.2 hb1.size ?_; intro v2 w2 hown2 hg2; have hb2 := hb1.grown hg2 hb1.size (fun q hq => (hown1.lt q hq).1)))
        all_goals (
          go_wp2_with (at_builtin; refine wpList_append_own_any _ rfl (.tmp 42) (.tmp 45) 26 rfl X.heap.size 28 i0 _ 2 24 Tryz.underlying26 hi hz0 hz1 hz2 rfl (Nat.succ_pos 1) v2 _ _ rfl hown2 _ _ _ [] rfl (by simp) (fun h => nomatch h) (fun _ _ q u hu => by simp at hu) (fun u hu => by simp at hu) (by have := HM2.out.1; simpa using this) (by have := HM2.out.2; simpa using this) hb2.size ?_; intro v3 w5 hown3 hg3)
          go_ret
          have hb5 := hb2.grown hg3 hb2.size (fun q hq => (hown2.lt q hq).1)
          have hf : w5.ownsRow X.heap.size 28 2 v3 R.length (namesC R) := by
            have e1 : R.length = 0 + j + 1 := by have := HN.out; rw [HRe.out]; simp; omega
            rw [e1, HRe.out, namesC_append, ← HTk.out]
            simpa [namesC, encN] using hown3
          obtain ⟨A', c', rfl, ho⟩ := OwnN.of hf
          exact ⟨A', c', rfl, ho, (HC.out _ (hBX.trans (hb5.mono hBX.size))).1, .inr (World.ownsRow.mono hf (HC.out X hBX).1.size)⟩)
      · obtain rfl : c = j := by omega
        have hb0 : Below X.heap.size X X.drew := below_drew' (Below.refl _ _)
        have HKc : Hid (∀ Y, Below X.heap.size X Y → Y.cell? ⟨w.heap.size, 0, none⟩ = some (.string xa) ∧ Y.cell? ⟨w.heap.size, 1, none⟩ = some (.int .i64 xi)) := fun Y hY => by
          obtain ⟨_, _, h3, h4⟩ := HC.out Y (hBX.trans (hY.mono hBX.size))
          exact ⟨h3, h4⟩
        have HNw := Lib.hid (fun Y (hY : Below X.heap.size X Y) => ((HC.out Y (hBX.trans (hY.mono hBX.size))).2.1.news c).2)
        have HL1 := Lib.hid (show (namesC (l.take c)).length = c * 2 by rw [namesC_length, List.length_take, HN.out]; omega)
        have HO1 := Lib.hid (World.ownsRow_lit (base := X.heap.size) (e := 28) (size := 2) X.drew #[] 0 (Nat.le_refl _) (by simp) rfl)
        have HO2 := Lib.hid (HO1.out.alloc (.cells #[.string xa, .int .i64 xi] 28))
        have ho3 := World.ownsRow_lit (base := X.heap.size) (e := 28) (size := 2) (X.drew.alloc (.cells #[.string xa, .int .i64 xi] 28)) #[] 0 (by simp) (by simp) rfl
        rw [show (X.drew.alloc (.cells #[.string xa, .int .i64 xi] 28)).heap.size = X.heap.size + 1 by simp] at ho3
        have HO3 := Lib.hid ho3
        clear ho3
        have hba : Below X.heap.size X (X.drew.alloc (.cells #[] 28)) := hb0.alloc (Nat.le_refl _) _
        have hbb : Below X.heap.size X ((X.drew.alloc (.cells #[] 28)).alloc (.cells #[.string xa, .int .i64 xi] 28)) := hba.alloc hba.size _
        have hbn : Below X.heap.size X (X.drew.alloc (.cells #[.string xa, .int .i64 xi] 28)) := hb0.alloc (Nat.le_refl _) _
        have hbc : Below X.heap.size X ((X.drew.alloc (.cells #[.string xa, .int .i64 xi] 28)).alloc (.cells #[] 28)) := hbn.alloc hbn.size _
        have HNa := Lib.hid (HNw.out _ hba)
        have HNb := Lib.hid (HNw.out _ hbb)
        have HNc := Lib.hid (HNw.out _ hbc)
        have HGa := Lib.hid (fun w1 (hg : (X.drew.alloc (.cells #[] 28)).grownBy w1 (Value.slice (some ⟨X.drew.heap.size, 0, none⟩) 0 0).ownBlock) => hba.grown hg hba.size (fun q hq => (HO1.out.lt q hq).1))
        have HGb := Lib.hid (fun w1 (hg : ((X.drew.alloc (.cells #[] 28)).alloc (.cells #[.string xa, .int .i64 xi] 28)).grownBy w1 (Value.slice (some ⟨X.drew.heap.size, 0, none⟩) 0 0).ownBlock) => And.intro (hbb.grown hg hbb.size (fun q hq => (HO1.out.lt q hq).1)) (show w1.heap[X.heap.size + 1]? = some (.cells #[.string xa, .int .i64 xi] 28 (0, 0)) from (hg.block (X.heap.size + 1) (by simp) (fun h => by have := Option.some.inj h; change X.heap.size + 1 = X.heap.size at this; omega)).trans (by have := heap_alloc_new (X.drew.alloc (.cells #[] 28)) (.cells #[.string xa, .int .i64 xi] 28); rwa [show (X.drew.alloc (.cells #[] 28)).heap.size = X.heap.size + 1 by simp] at this)))
        have HGc := Lib.hid (fun w1 (hg : ((X.drew.alloc (.cells #[.string xa, .int .i64 xi] 28)).alloc (.cells #[] 28)).grownBy w1 (Value.slice (some ⟨X.heap.size + 1, 0, none⟩) 0 0).ownBlock) => And.intro (hbc.grown hg hbc.size (fun q hq => (HO3.out.lt q hq).1)) (show w1.heap[X.heap.size]? = some (.cells #[.string xa, .int .i64 xi] 28 (0, 0)) from (hg.block X.heap.size (by simp; omega) (fun h => by have := Option.some.inj h; change X.heap.size = X.heap.size + 1 at this; omega)).trans (by rw [Below.heap_alloc _ _ _ (by simp)]; exact heap_alloc_new X.drew _)))
        have m1 : 0 + c ≤ maxLen := by unfold maxLen; omega
        have m2 : (0 + c) * 24 ≤ 140737488355328 := by omega
        have m3 : 0 + c + 1 ≤ maxLen := by unfold maxLen; omega
        have m4 : (0 + c + 1) * 24 ≤ 140737488355328 := by omega
        have HM := Lib.hid (And.intro m1 (And.intro m2 (And.intro m3 m4)))
        have i3' : (c : Int) ≤ (c : Int) := by omega
        have i4' : c ≤ c := by omega
        have HBB := Lib.hid (And.intro hba (And.intro hbb hbc))
        have HB0' := Lib.hid (And.intro hb0 hbn)
        clear m1 m2 m3 m4 hba hbb hbc hb0 hbn
        have m5 : 0 + c + 1 ≤ maxLen := by unfold maxLen; omega
        have m6 : (0 + c + 1) * 24 ≤ 140737488355328 := by omega
        have HM2 := Lib.hid (And.intro m5 m6)
        clear m5 m6
        go_region_held3 (fun Y => Y.cell? ⟨w.heap.size, 0, none⟩ = some (.string xa) ∧ Y.cell? ⟨w.heap.size, 1, none⟩ = some (.int .i64 xi))
          (first | exact HKc.out _ hb2 | exact HKc.out _ hb1 | exact HKc.out _ (hb1.alloc hb1.size _) | exact HKc.out _ HB0'.out.1 | exact HKc.out _ HB0'.out.2 | exact HKc.out _ HBB.out.1 | exact HKc.out _ HBB.out.2.1 | exact HKc.out _ HBB.out.2.2)
          (first
            | (refine step_append_any _ rfl (.tmp 34) (.tmp 37) 26 rfl X.heap.size 28 i0 _ 2 24 Tryz.underlying26 hi hz0 hz1 hz2 rfl (Nat.succ_pos 1) _ 0 [] rfl HO1.out (some ⟨g, 0, none⟩) c c (namesC (l.take c)) rfl HL1.out (fun h => nomatch h) HNa.out (namesC_one _) HM.out.1 HM.out.2.1 HBB.out.1.size ?_; intro v1 w1 hown1 hg1; have hb1 := HGa.out w1 hg1; have tokA : True := trivial)
            | (refine step_append_any _ rfl (.tmp 34) (.tmp 37) 26 rfl X.heap.size 28 i0 _ 2 24 Tryz.underlying26 hi hz0 hz1 hz2 rfl (Nat.succ_pos 1) _ 0 [] rfl HO2.out (some ⟨g, 0, none⟩) c c (namesC (l.take c)) rfl HL1.out (fun h => nomatch h) HNb.out (namesC_one _) HM.out.1 HM.out.2.1 HBB.out.2.1.size ?_; intro v1 w1 hown1 hg1; obtain ⟨hb1, hD⟩ := HGb.out w1 hg1; have tokB : True := trivial)
            | (refine step_append_any _ rfl (.tmp 34) (.tmp 37) 26 rfl X.heap.size 28 i0 _ 2 24 Tryz.underlying26 hi hz0 hz1 hz2 rfl (Nat.succ_pos 1) _ 0 [] rfl HO3.out (some ⟨g, 0, none⟩) c c (namesC (l.take c)) rfl HL1.out (fun h => nomatch h) HNc.out (namesC_one _) HM.out.1 HM.out.2.1 HBB.out.2.2.size ?_; intro v1 w1 hown1 hg1; obtain ⟨hb1, hD⟩ := HGc.out w1 hg1; have tokC : True := trivial)
            | (have _t := tokA; refine step_append_any _ rfl (.tmp 38) (.tmp 40) 26 rfl X.heap.size 28 i0 _ 2 24 Tryz.underlying26 hi hz0 hz1 hz2 rfl (Nat.succ_pos 1) v1 _ _ rfl (hown1.alloc _) (some ⟨w1.heap.size, 0, none⟩) 1 1 [.string xa, .int .i64 xi] rfl rfl (fun h => nomatch h) (news_pair _ _ _) (namesC_one [(xa, xi)]) HM.out.2.2.1 HM.out.2.2.2 (hb1.alloc hb1.size _).size ?_; intro v2 w2 hown2 hg2; have hb2 := (hb1.alloc hb1.size (.cells #[.string xa, .int .i64 xi] 28)).grown hg2 (hb1.alloc hb1.size _).size (fun q hq => (hown1.lt q hq).1))
            | (have _t := tokB; refine step_append_any _ rfl (.tmp 38) (.tmp 40) 26 rfl X.heap.size 28 i0 _ 2 24 Tryz.underlying26 hi hz0 hz1 hz2 rfl (Nat.succ_pos 1) v1 _ _ rfl hown1 (some ⟨X.heap.size + 1, 0, none⟩) 1 1 [.string xa, .int .i64 xi] rfl rfl (fun h => nomatch h) (news_at hD) (namesC_one [(xa, xi)]) HM.out.2.2.1 HM.out.2.2.2 hb1.size ?_; intro v2 w2 hown2 hg2; have hb2 := hb1.grown hg2 hb1.size (fun q hq => (hown1.lt q hq).1))
            | (have _t := tokC; refine step_append_any _ rfl (.tmp 38) (.tmp 40) 26 rfl X.heap.size 28 i0 _ 2 24 Tryz.underlying26 hi hz0 hz1 hz2 rfl (Nat.succ_pos 1) v1 _ _ rfl hown1 (some ⟨X.heap.size, 0, none⟩) 1 1 [.string xa, .int .i64 xi] rfl rfl (fun h => nomatch h) (news_at hD) (namesC_one [(xa, xi)]) HM.out.2.2.1 HM.out.2.2.2 hb1.size ?_; intro v2 w2 hown2 hg2; have hb2 := hb1.grown hg2 hb1.size (fun q hq => (hown1.lt q hq).1)))
        all_goals (
          go_wp2_with (at_builtin; refine wpList_append_own_any _ rfl (.tmp 42) (.tmp 45) 26 rfl X.heap.size 28 i0 _ 2 24 Tryz.underlying26 hi hz0 hz1 hz2 rfl (Nat.succ_pos 1) v2 _ _ rfl hown2 _ _ _ [] rfl (by simp) (fun h => nomatch h) (fun _ _ q u hu => by simp at hu) (fun u hu => by simp at hu) (by have := HM2.out.1; simpa using this) (by have := HM2.out.2; simpa using this) hb2.size ?_; intro v3 w5 hown3 hg3)
          go_ret
          have hb5 := hb2.grown hg3 hb2.size (fun q hq => (hown2.lt q hq).1)
          have hf : w5.ownsRow X.heap.size 28 2 v3 R.length (namesC R) := by
            have e1 : R.length = 0 + c + 1 := by have := HN.out; rw [HRe.out]; simp; omega
            rw [e1, HRe.out, namesC_append, ← HTk.out]
            simpa [namesC, encN] using hown3
          obtain ⟨A', c', rfl, ho⟩ := OwnN.of hf
          exact ⟨A', c', rfl, ho, (HC.out _ (hBX.trans (hb5.mono hBX.size))).1, .inr (World.ownsRow.mono hf (HC.out X hBX).1.size)⟩)
set_option maxRecDepth 100000 in
set_option maxHeartbeats 8000000 in
theorem withQ_nil (xa : ByteArray) (xi : Int) (w : World) :
    Calls Tryz.prog 42 #[.slice none 0 0, .agg #[.string xa, .int .i64 xi]] w (WithQ24 [(xa, xi)] [] none w) := by
  obtain ⟨i0, hi, hz0, hz1, hz2⟩ := info_parts Tryz.infoName
  obtain ⟨W0, hW0⟩ : ∃ W0, w.alloc (.cells #[.string xa, .int .i64 xi] 28) = W0 := ⟨_, rfl⟩
  have hzw : w.heap.size < W0.heap.size := by subst hW0; simp
  have hB0 : Below w.heap.size w W0 := by subst hW0; exact (Below.refl _ _).alloc (Nat.le_refl _) _
  have hx0 : W0.heap[w.heap.size]? = some (.cells #[.string xa, .int .i64 xi] 28 (0, 0)) := by rw [← hW0]; exact heap_alloc_new w _
  have HC : Hid (∀ X, Below W0.heap.size W0 X → Below w.heap.size w X ∧ X.cell? ⟨w.heap.size, 0, none⟩ = some (.string xa) ∧ X.cell? ⟨w.heap.size, 1, none⟩ = some (.int .i64 xi)) := fun X hX => by
    have h0 := (hX.block w.heap.size hzw).trans hx0
    exact ⟨hB0.trans (hX.mono (Nat.le_of_lt hzw)), cell_of_row X _ 0 _ _ (0, 0) h0, cell_of_row X _ 1 _ _ (0, 0) h0⟩
  clear hB0 hx0
  go_enter Tryz.func42, Tryz.ntmps42
  go_wp2_with fail
  clear hW0
  go_loopg [5] 0 (fun _ ct wr => ct = .int .i64 0 ∧ Below W0.heap.size W0 wr)
  case atStart => exact ⟨rfl, Below.refl _ _⟩
  case round =>
    obtain ⟨rfl, HB⟩ := hrel
    have HG' := Lib.hid HB
    clear HB
    go_wp2_with fail
    go_quiet (fail)
    have hBX0 := below_drewN HG'.out nq
    generalize wr.drewN nq = X0 at hBX0 ⊢
    go_wp2_with fail
    go_quiet (fail)
    have hBX := below_drewN hBX0 nq
    generalize X0.drewN nq = X at hBX ⊢
    clear hBX0
    go_wp2_with fail
    have hb0 : Below X.heap.size X X.drew := below_drew' (Below.refl _ _)
    have HKc : Hid (∀ Y, Below X.heap.size X Y → Y.cell? ⟨w.heap.size, 0, none⟩ = some (.string xa) ∧ Y.cell? ⟨w.heap.size, 1, none⟩ = some (.int .i64 xi)) := fun Y hY => (HC.out Y (hBX.trans (hY.mono hBX.size))).2
    have HO1 := Lib.hid (World.ownsRow_lit (base := X.heap.size) (e := 28) (size := 2) X.drew #[] 0 (Nat.le_refl _) (by simp) rfl)
    have HO2 := Lib.hid (HO1.out.alloc (.cells #[.string xa, .int .i64 xi] 28))
    have ho3 := World.ownsRow_lit (base := X.heap.size) (e := 28) (size := 2) (X.drew.alloc (.cells #[.string xa, .int .i64 xi] 28)) #[] 0 (by simp) (by simp) rfl
    rw [show (X.drew.alloc (.cells #[.string xa, .int .i64 xi] 28)).heap.size = X.heap.size + 1 by simp] at ho3
    have HO3 := Lib.hid ho3
    clear ho3
    have hba : Below X.heap.size X (X.drew.alloc (.cells #[] 28)) := hb0.alloc (Nat.le_refl _) _
    have hbb : Below X.heap.size X ((X.drew.alloc (.cells #[] 28)).alloc (.cells #[.string xa, .int .i64 xi] 28)) := hba.alloc hba.size _
    have hbn : Below X.heap.size X (X.drew.alloc (.cells #[.string xa, .int .i64 xi] 28)) := hb0.alloc (Nat.le_refl _) _
    have hbc : Below X.heap.size X ((X.drew.alloc (.cells #[.string xa, .int .i64 xi] 28)).alloc (.cells #[] 28)) := hbn.alloc hbn.size _
    have HGa := Lib.hid (fun w1 (hg : (X.drew.alloc (.cells #[] 28)).grownBy w1 (Value.slice (some ⟨X.drew.heap.size, 0, none⟩) 0 0).ownBlock) => hba.grown hg hba.size (fun q hq => (HO1.out.lt q hq).1))
    have HGb := Lib.hid (fun w1 (hg : ((X.drew.alloc (.cells #[] 28)).alloc (.cells #[.string xa, .int .i64 xi] 28)).grownBy w1 (Value.slice (some ⟨X.drew.heap.size, 0, none⟩) 0 0).ownBlock) => And.intro (hbb.grown hg hbb.size (fun q hq => (HO1.out.lt q hq).1)) (show w1.heap[X.heap.size + 1]? = some (.cells #[.string xa, .int .i64 xi] 28 (0, 0)) from (hg.block (X.heap.size + 1) (by simp) (fun h => by have := Option.some.inj h; change X.heap.size + 1 = X.heap.size at this; omega)).trans (by have := heap_alloc_new (X.drew.alloc (.cells #[] 28)) (.cells #[.string xa, .int .i64 xi] 28); rwa [show (X.drew.alloc (.cells #[] 28)).heap.size = X.heap.size + 1 by simp] at this)))
    have HGc := Lib.hid (fun w1 (hg : ((X.drew.alloc (.cells #[.string xa, .int .i64 xi] 28)).alloc (.cells #[] 28)).grownBy w1 (Value.slice (some ⟨X.heap.size + 1, 0, none⟩) 0 0).ownBlock) => And.intro (hbc.grown hg hbc.size (fun q hq => (HO3.out.lt q hq).1)) (show w1.heap[X.heap.size]? = some (.cells #[.string xa, .int .i64 xi] 28 (0, 0)) from (hg.block X.heap.size (by simp; omega) (fun h => by have := Option.some.inj h; change X.heap.size = X.heap.size + 1 at this; omega)).trans (by rw [Below.heap_alloc _ _ _ (by simp)]; exact heap_alloc_new X.drew _)))
    have HM : Hid (0 + 0 ≤ maxLen ∧ (0 + 0) * 24 ≤ 140737488355328 ∧ 0 + 0 + 1 ≤ maxLen ∧ (0 + 0 + 1) * 24 ≤ 140737488355328) := by
      refine ⟨?_, ?_, ?_, ?_⟩ <;> decide
    have HBB := Lib.hid (And.intro hba (And.intro hbb hbc))
    have HB0' := Lib.hid (And.intro hb0 hbn)
    clear hba hbb hbc hb0 hbn
    go_region_held3 (fun Y => Y.cell? ⟨w.heap.size, 0, none⟩ = some (.string xa) ∧ Y.cell? ⟨w.heap.size, 1, none⟩ = some (.int .i64 xi))
      (first | exact HKc.out _ hb2 | exact HKc.out _ hb1 | exact HKc.out _ (hb1.alloc hb1.size _) | exact HKc.out _ HB0'.out.1 | exact HKc.out _ HB0'.out.2 | exact HKc.out _ HBB.out.1 | exact HKc.out _ HBB.out.2.1 | exact HKc.out _ HBB.out.2.2)
      (first
        | (refine step_append_any _ rfl (.tmp 34) (.tmp 37) 26 rfl X.heap.size 28 i0 _ 2 24 Tryz.underlying26 hi hz0 hz1 hz2 rfl (Nat.succ_pos 1) _ 0 [] rfl HO1.out none 0 0 [] rfl rfl (fun _ => rfl) (fun _ h => nomatch h) (fun u hu => nomatch hu) HM.out.1 HM.out.2.1 HBB.out.1.size ?_; intro v1 w1 hown1 hg1; have hb1 := HGa.out w1 hg1; have tokA : True := trivial)
        | (refine step_append_any _ rfl (.tmp 34) (.tmp 37) 26 rfl X.heap.size 28 i0 _ 2 24 Tryz.underlying26 hi hz0 hz1 hz2 rfl (Nat.succ_pos 1) _ 0 [] rfl HO2.out none 0 0 [] rfl rfl (fun _ => rfl) (fun _ h => nomatch h) (fun u hu => nomatch hu) HM.out.1 HM.out.2.1 HBB.out.2.1.size ?_; intro v1 w1 hown1 hg1; obtain ⟨hb1, hD⟩ := HGb.out w1 hg1; have tokB : True := trivial)
        | (refine step_append_any _ rfl (.tmp 34) (.tmp 37) 26 rfl X.heap.size 28 i0 _ 2 24 Tryz.underlying26 hi hz0 hz1 hz2 rfl (Nat.succ_pos 1) _ 0 [] rfl HO3.out none 0 0 [] rfl rfl (fun _ => rfl) (fun _ h => nomatch h) (fun u hu => nomatch hu) HM.out.1 HM.out.2.1 HBB.out.2.2.size ?_; intro v1 w1 hown1 hg1; obtain ⟨hb1, hD⟩ := HGc.out w1 hg1; have tokC : True := trivial)
        | (have _t := tokA; refine step_append_any _ rfl (.tmp 38) (.tmp 40) 26 rfl X.heap.size 28 i0 _ 2 24 Tryz.underlying26 hi hz0 hz1 hz2 rfl (Nat.succ_pos 1) v1 _ _ rfl (hown1.alloc _) (some ⟨w1.heap.size, 0, none⟩) 1 1 [.string xa, .int .i64 xi] rfl rfl (fun h => nomatch h) (news_pair _ _ _) (namesC_one [(xa, xi)]) HM.out.2.2.1 HM.out.2.2.2 (hb1.alloc hb1.size _).size ?_; intro v2 w2 hown2 hg2; have hb2 := (hb1.alloc hb1.size (.cells #[.string xa, .int .i64 xi] 28)).grown hg2 (hb1.alloc hb1.size _).size (fun q hq => (hown1.lt q hq).1))
        | (have _t := tokB; refine step_append_any _ rfl (.tmp 38) (.tmp 40) 26 rfl X.heap.size 28 i0 _ 2 24 Tryz.underlying26 hi hz0 hz1 hz2 rfl (Nat.succ_pos 1) v1 _ _ rfl hown1 (some ⟨X.heap.size + 1, 0, none⟩) 1 1 [.string xa, .int .i64 xi] rfl rfl (fun h => nomatch h) (news_at hD) (namesC_one [(xa, xi)]) HM.out.2.2.1 HM.out.2.2.2 hb1.size ?_; intro v2 w2 hown2 hg2; have hb2 := hb1.grown hg2 hb1.size (fun q hq => (hown1.lt q hq).1))
        | (have _t := tokC; refine step_append_any _ rfl (.tmp 38) (.tmp 40) 26 rfl X.heap.size 28 i0 _ 2 24 Tryz.underlying26 hi hz0 hz1 hz2 rfl (Nat.succ_pos 1) v1 _ _ rfl hown1 (some ⟨X.heap.size, 0, none⟩) 1 1 [.string xa, .int .i64 xi] rfl rfl (fun h => nomatch h) (news_at hD) (namesC_one [(xa, xi)]) HM.out.2.2.1 HM.out.2.2.2 hb1.size ?_; intro v2 w2 hown2 hg2; have hb2 := hb1.grown hg2 hb1.size (fun q hq => (hown1.lt q hq).1)))
    all_goals (
      go_wp2_with (at_builtin; refine wpList_append_own_any _ rfl (.tmp 42) (.tmp 45) 26 rfl X.heap.size 28 i0 _ 2 24 Tryz.underlying26 hi hz0 hz1 hz2 rfl (Nat.succ_pos 1) v2 _ _ rfl hown2 none 0 0 [] rfl rfl (fun _ => rfl) (fun _ h => nomatch h) (fun u hu => nomatch hu) HM.out.2.2.1 HM.out.2.2.2 hb2.size ?_; intro v3 w5 hown3 hg3)
      go_ret
      have hb5 := hb2.grown hg3 hb2.size (fun q hq => (hown2.lt q hq).1)
      have hf : w5.ownsRow X.heap.size 28 2 v3 [(xa, xi)].length (namesC [(xa, xi)]) := by
        simpa [namesC, encN] using hown3
      obtain ⟨A', c', rfl, ho⟩ := OwnN.of hf
      exact ⟨A', c', rfl, ho, (HC.out _ (hBX.trans (hb5.mono hBX.size))).1, .inr (World.ownsRow.mono hf (HC.out X hBX).1.size)⟩)

theorem withQ_any (l : List (ByteArray × Int)) (xa : ByteArray) (xi : Int) (A : Option Addr) (c : Nat) (w : World) (hs : OwnN w A c l) (hl : l.length ≤ 1000000) :
    Calls Tryz.prog 42 #[.slice A l.length c, .agg #[.string xa, .int .i64 xi]] w (WithQ24 (withN l (xa, xi)) l A w) := by
  rcases hs.cells with ⟨rfl, rfl, rfl⟩ | ⟨g, rfl, _⟩
  · exact withQ_nil xa xi w
  · exact withQ_some l xa xi g c w hs hl
theorem with24_any (l : List (ByteArray × Int)) (xa : ByteArray) (xi : Int) (A : Option Addr) (c : Nat) (w : World) (hs : OwnN w A c l) (hl : l.length ≤ 1000000) :
    Calls Tryz.prog 42 #[.slice A l.length c, .agg #[.string xa, .int .i64 xi]] w (WithP24 (withN l (xa, xi)) w) :=
  (withQ_any l xa xi A c w hs hl).mono fun _ _ ⟨A', c', h1, h2, h3, _⟩ => ⟨A', c', h1, h2, h3⟩
end Go.Proofs.YtpnfbfnffkbilaaGreatDoor
/- ref24.refs, Refs -/
namespace Go.Proofs.YtpnfbfnffkbilaaGreatDoor
open Go.RowKit Go.Proofs Go.Shelf

/-- The references of a forest, put into a list. -/
def Fo.wr : Fo → List (ByteArray × Int) → List (ByteArray × Int)
  | .nil, l => l
  | .cons k n _ i _ _ _ s r, l => r.wr (s.wr (if k = 5 then withN l (n, i) else l))
def nodeRef (k : Int) (n : ByteArray) (i : Int) (s : Fo) (l : List (ByteArray × Int)) : List (ByteArray × Int) := s.wr (if k = 5 then withN l (n, i) else l)
theorem withN_len (l : List (ByteArray × Int)) (x : ByteArray × Int) : (withN l x).length ≤ l.length + 1 := by
  have h := List.takeWhile_append_dropWhile (p := fun y => lessN y x) (l := l)
  have hl := congrArg List.length h
  rw [List.length_append] at hl
  unfold withN
  split
  · rename_i hd; rw [hd] at hl; simp at hl ⊢; omega
  · rename_i hd
    split
    · omega
    · rw [hd] at hl; simp at hl ⊢; omega
theorem Fo.wr_len : ∀ (s : Fo) (l : List (ByteArray × Int)), (s.wr l).length ≤ l.length + s.count
  | .nil, l => by simp [Fo.wr, Fo.count]
  | .cons k n m i d A c s r, l => by
    simp only [Fo.wr, Fo.count]
    have h1 := wr_len r (s.wr (if k = 5 then withN l (n, i) else l))
    have h2 := wr_len s (if k = 5 then withN l (n, i) else l)
    have h3 : (if k = 5 then withN l (n, i) else l).length ≤ l.length + 1 := by
      split
      · exact withN_len _ _
      · omega
    omega
theorem nodeRef_len (k : Int) (n : ByteArray) (i : Int) (s : Fo) (l : List (ByteArray × Int)) : (nodeRef k n i s l).length ≤ l.length + (1 + s.count) := by
  unfold nodeRef
  have h2 := s.wr_len (if k = 5 then withN l (n, i) else l)
  have h3 : (if k = 5 then withN l (n, i) else l).length ≤ l.length + 1 := by
    split
    · exact withN_len _ _
    · omega
  omega
def RfOK (s : Fo) : Prop := ∀ (k : Int) (n m : ByteArray) (i d : Int) (A : Option Addr) (c : Nat) (l : List (ByteArray × Int)) (lA : Option Addr) (lc : Nat) (w : World), s.Sl w w.heap.size A c → OwnN w lA lc l → l.length + (1 + s.count) ≤ 1000000 →
    Calls Tryz.prog 116 #[.slice lA l.length lc, .agg #[.int .i64 k, .string n, .string m, .int .i64 i, .int .i64 d, .slice A s.len c]] w (WithP24 (nodeRef k n i s l) w)

set_option maxRecDepth 100000 in
set_option maxHeartbeats 4000000 in
theorem rf_step (s : Fo) (ih : s.All RfOK) : RfOK s := by
  intro k n m i d A c l lA lc w hs hl hcnt
  have hcap : s.len ≤ 9223372036854775807 := by have := hs.1; have := hs.2.1; unfold maxLen at this; omega
  obtain ⟨W0, hW0⟩ : ∃ W0, w.alloc (.cells #[.int .i64 k, .string n, .string m, .int .i64 i, .int .i64 d, .slice A s.len c] 43) = W0 := ⟨_, rfl⟩
  have hzw : w.heap.size < W0.heap.size := by subst hW0; simp
  have hB0 : Below w.heap.size w W0 := by subst hW0; exact (Below.refl _ _).alloc (Nat.le_refl _) _
  have hx0 : W0.heap[w.heap.size]? = some (.cells #[.int .i64 k, .string n, .string m, .int .i64 i, .int .i64 d, .slice A s.len c] 43 (0, 0)) := by rw [← hW0]; exact heap_alloc_new w _
  have HC : Hid (∀ X, Below W0.heap.size W0 X → Below w.heap.size w X ∧ X.cell? ⟨w.heap.size, 0, none⟩ = some (.int .i64 k) ∧ X.cell? ⟨w.heap.size, 1, none⟩ = some (.string n) ∧ X.cell? ⟨w.heap.size, 3, none⟩ = some (.int .i64 i) ∧ X.cell? ⟨w.heap.size, 5, none⟩ = some (.slice A s.len c)) := fun X hX => by
    have h0 := (hX.block w.heap.size hzw).trans hx0
    exact ⟨hB0.trans (hX.mono (Nat.le_of_lt hzw)), cell_of_row X _ 0 _ _ (0, 0) h0, cell_of_row X _ 1 _ _ (0, 0) h0, cell_of_row X _ 3 _ _ (0, 0) h0, cell_of_row X _ 5 _ _ (0, 0) h0⟩
  have HS := Lib.hid (And.intro hs ih)
  obtain ⟨R, HR⟩ : ∃ q, Hid (nodeRef k n i s l = q) := ⟨_, Lib.hid rfl⟩
  rw [HR.out]
  have hl0 := hl.below hB0 (Nat.le_refl _)
  obtain ⟨_, x0, x1, x3, x5⟩ := HC.out W0 (Below.refl _ _)
  clear hs ih hl hB0 hx0
  by_cases hk : k = 5
  · subst hk
    have HRs := Lib.hid (show s.wr (withN l (n, i)) = R by rw [← HR.out]; rfl)
    have hwl := withN_len l (n, i)
    have HW := Lib.hid (with24_any l n i lA lc W0 hl0 (by omega))
    clear HR hl0
    obtain ⟨L0, HL0⟩ : ∃ q, Hid (withN l (n, i) = q) := ⟨_, Lib.hid rfl⟩
    rw [HL0.out] at HRs hwl HW
    go_enter Tryz.func116, Tryz.ntmps116
    go_wp2_with fail
    refine HW.out.mono ?_
    rintro e w1 ⟨A1, c1, rfl, ho1, hb1⟩
    have HO1 := Lib.hid (And.intro ho1 hb1)
    clear ho1 hb1 x0 x1 x3 x5 hW0 HW HL0
    go_wp2_with fail
    go_loopg [0, 5] s.len (fun gg lv ct wr => ∃ (j : Nat) (r : Fo) (A2 : Option Addr) (c2 : Nat) (L : List (ByteArray × Int)), gg = r.len ∧ j + r.len = s.len ∧ ct = .int .i64 j ∧ lv = .slice A2 L.length c2 ∧
      OwnN wr A2 c2 L ∧ r.wr L = R ∧ (L.length + r.count ≤ l.length + 1 + s.count ∧ r.count ≤ s.count) ∧ r.All RfOK ∧
      (r ≠ .nil → ∃ b o, A = some ⟨b, o, none⟩ ∧ b < w.heap.size ∧ r.At wr w.heap.size b (o + j * 6)) ∧ Below W0.heap.size W0 wr)
    case atStart =>
      refine ⟨0, s, A1, c1, L0, rfl, by omega, rfl, rfl, HO1.out.1, HRs.out, ⟨by omega, Nat.le_refl _⟩, HS.out.2, ?_, HO1.out.2⟩
      intro hne
      obtain ⟨b, o, e, hb, h⟩ := HS.out.1.2.2 hne
      exact ⟨b, o, e, hb, by rw [Nat.zero_mul, Nat.add_zero]; exact h.keep (Nat.le_refl _) (fun p hp => (HC.out _ HO1.out.2).1.cell hp) hb⟩
    case round =>
      obtain ⟨j, r, A2, c2, L, HG, hjr, rfl, rfl, hown, hR, ⟨hct, hcn⟩, HA, HAt, HB⟩ := hrel
      have HBh := Lib.hid (And.intro HB (And.intro hown (And.intro hR HA)))
      clear hown hR HA HB
      have hzr := HBh.out.1.size
      obtain ⟨hBw, _, _, _, x5⟩ := HC.out wr HBh.out.1
      have HBw := Lib.hid hBw
      clear hBw
      cases r with
      | nil =>
        have hjr2 : s.len ≤ j := by simp only [Fo.len] at hjr; omega
        have hjr1 : j ≤ s.len := by simp only [Fo.len] at hjr; omega
        have HF := Lib.hid (show WithP24 R w (.returned (.slice A2 L.length c2)) wr from ⟨A2, c2, by rw [← HBh.out.2.2.1]; rfl, by rw [← HBh.out.2.2.1]; exact HBh.out.2.1, HBw.out⟩)
        clear hjr HG hct hcn
        go_wp2
        go_ret
        exact HF.out
      | cons rk rn rm ri rd A' rc rs rr =>
        have hjr2 : j < s.len := by simp only [Fo.len] at hjr; omega
        obtain ⟨b, o, rfl, hb, h0, h1, h2, h3, h4, ⟨h5, hc', hm', hs'⟩, hr'⟩ := HAt (by simp)
        simp only [Fo.count] at hct hcn
        have HCL := Lib.hid (HBh.out.2.2.2.1 rk rn rm ri rd A' rc L A2 c2 wr ⟨hc', hm', fun hne => by
          obtain ⟨b', o', e, hb', h'⟩ := hs' hne
          exact ⟨b', o', e, by omega, h'.keep (by omega) (fun _ _ => rfl) hb'⟩⟩ HBh.out.2.1 (by omega))
        have hnl := nodeRef_len rk rn ri rs L
        have HRk := Lib.hid (show rr.wr (nodeRef rk rn ri rs L) = R from HBh.out.2.2.1)
        have HK := Lib.hid hr'
        obtain ⟨L3, HL3⟩ : ∃ q, Hid (nodeRef rk rn ri rs L = q) := ⟨_, Lib.hid rfl⟩
        rw [HL3.out] at HCL hnl HRk
        clear HAt hr' hs' HL3
        go_wp2_with fail
        refine HCL.out.mono ?_
        rintro e w4 ⟨A4, c4, rfl, ho4, hb4⟩
        have HB4 := Lib.hid (And.intro ho4 hb4)
        clear ho4 hb4
        go_wp2
        go_roundg rr.len
        case measure => first | (rw [HG]; simp [Fo.len]; done) | (simp only [Fo.len]; omega)
        case rel =>
          refine ⟨j + 1, rr, A4, c4, L3, rfl, by simp only [Fo.len] at hjr; omega, by go_num, rfl, HB4.out.1, HRk.out, ⟨by omega, by omega⟩, HBh.out.2.2.2.2, ?_, HBh.out.1.trans (HB4.out.2.mono hzr)⟩
          intro hne
          refine ⟨b, o, rfl, hb, ?_⟩
          rw [show o + (j + 1) * 6 = o + j * 6 + 6 by omega]
          exact HK.out.keep (Nat.le_refl _) (fun p hp => HB4.out.2.cell (by omega)) hb
  · have hk' : (k == 5) = false := by simpa using hk
    have HRs := Lib.hid (show s.wr l = R by rw [← HR.out, nodeRef, if_neg hk])
    have HO1 := Lib.hid (And.intro hl0 (Below.refl W0.heap.size W0))
    have hwl : l.length ≤ l.length + 1 := by omega
    clear HR hl0 hk
    go_enter Tryz.func116, Tryz.ntmps116
    go_wp2_with fail
    clear x0 x1 x3 x5 hW0
    go_loopg [0, 5] s.len (fun gg lv ct wr => ∃ (j : Nat) (r : Fo) (A2 : Option Addr) (c2 : Nat) (L : List (ByteArray × Int)), gg = r.len ∧ j + r.len = s.len ∧ ct = .int .i64 j ∧ lv = .slice A2 L.length c2 ∧
      OwnN wr A2 c2 L ∧ r.wr L = R ∧ (L.length + r.count ≤ l.length + 1 + s.count ∧ r.count ≤ s.count) ∧ r.All RfOK ∧
      (r ≠ .nil → ∃ b o, A = some ⟨b, o, none⟩ ∧ b < w.heap.size ∧ r.At wr w.heap.size b (o + j * 6)) ∧ Below W0.heap.size W0 wr)
    case atStart =>
      refine ⟨0, s, lA, lc, l, rfl, by omega, rfl, rfl, HO1.out.1, HRs.out, ⟨by omega, Nat.le_refl _⟩, HS.out.2, ?_, HO1.out.2⟩
      intro hne
      obtain ⟨b, o, e, hb, h⟩ := HS.out.1.2.2 hne
      exact ⟨b, o, e, hb, by rw [Nat.zero_mul, Nat.add_zero]; exact h.keep (Nat.le_refl _) (fun p hp => (HC.out _ HO1.out.2).1.cell hp) hb⟩
    case round =>
      obtain ⟨j, r, A2, c2, L, HG, hjr, rfl, rfl, hown, hR, ⟨hct, hcn⟩, HA, HAt, HB⟩ := hrel
      have HBh := Lib.hid (And.intro HB (And.intro hown (And.intro hR HA)))
      clear hown hR HA HB
      have hzr := HBh.out.1.size
      obtain ⟨hBw, _, _, _, x5⟩ := HC.out wr HBh.out.1
      have HBw := Lib.hid hBw
      clear hBw
      cases r with
      | nil =>
        have hjr2 : s.len ≤ j := by simp only [Fo.len] at hjr; omega
        have hjr1 : j ≤ s.len := by simp only [Fo.len] at hjr; omega
        have HF := Lib.hid (show WithP24 R w (.returned (.slice A2 L.length c2)) wr from ⟨A2, c2, by rw [← HBh.out.2.2.1]; rfl, by rw [← HBh.out.2.2.1]; exact HBh.out.2.1, HBw.out⟩)
        clear hjr HG hct hcn
        go_wp2
        go_ret
        exact HF.out
      | cons rk rn rm ri rd A' rc rs rr =>
        have hjr2 : j < s.len := by simp only [Fo.len] at hjr; omega
        obtain ⟨b, o, rfl, hb, h0, h1, h2, h3, h4, ⟨h5, hc', hm', hs'⟩, hr'⟩ := HAt (by simp)
        simp only [Fo.count] at hct hcn
        have HCL := Lib.hid (HBh.out.2.2.2.1 rk rn rm ri rd A' rc L A2 c2 wr ⟨hc', hm', fun hne => by
          obtain ⟨b', o', e, hb', h'⟩ := hs' hne
          exact ⟨b', o', e, by omega, h'.keep (by omega) (fun _ _ => rfl) hb'⟩⟩ HBh.out.2.1 (by omega))
        have hnl := nodeRef_len rk rn ri rs L
        have HRk := Lib.hid (show rr.wr (nodeRef rk rn ri rs L) = R from HBh.out.2.2.1)
        have HK := Lib.hid hr'
        obtain ⟨L3, HL3⟩ : ∃ q, Hid (nodeRef rk rn ri rs L = q) := ⟨_, Lib.hid rfl⟩
        rw [HL3.out] at HCL hnl HRk
        clear HAt hr' hs' HL3
        go_wp2_with fail
        refine HCL.out.mono ?_
        rintro e w4 ⟨A4, c4, rfl, ho4, hb4⟩
        have HB4 := Lib.hid (And.intro ho4 hb4)
        clear ho4 hb4
        go_wp2
        go_roundg rr.len
        case measure => first | (rw [HG]; simp [Fo.len]; done) | (simp only [Fo.len]; omega)
        case rel =>
          refine ⟨j + 1, rr, A4, c4, L3, rfl, by simp only [Fo.len] at hjr; omega, by go_num, rfl, HB4.out.1, HRk.out, ⟨by omega, by omega⟩, HBh.out.2.2.2.2, ?_, HBh.out.1.trans (HB4.out.2.mono hzr)⟩
          intro hne
          refine ⟨b, o, rfl, hb, ?_⟩
          rw [show o + (j + 1) * 6 = o + j * 6 + 6 by omega]
          exact HK.out.keep (Nat.le_refl _) (fun p hp => HB4.out.2.cell (by omega)) hb
theorem rf_any (s : Fo) : RfOK s := Fo.by_parts rf_step s

set_option maxRecDepth 100000 in
set_option maxHeartbeats 1000000 in
theorem refs24_top (k : Int) (n m : ByteArray) (i d : Int) (A : Option Addr) (c : Nat) (s : Fo) (w : World) (hs : s.Sl w w.heap.size A c) (hcnt : s.count ≤ 100000) :
    Calls Tryz.prog 85 #[.agg #[.int .i64 k, .string n, .string m, .int .i64 i, .int .i64 d, .slice A s.len c]] w (WithP24 (nodeRef k n i s []) w) := by
  obtain ⟨W0, hW0⟩ : ∃ W0, w.alloc (.cells #[.int .i64 k, .string n, .string m, .int .i64 i, .int .i64 d, .slice A s.len c] 43) = W0 := ⟨_, rfl⟩
  have hB0 : Below w.heap.size w W0 := by subst hW0; exact (Below.refl _ _).alloc (Nat.le_refl _) _
  have x0 : W0.cell? ⟨w.heap.size, 0, none⟩ = some (.int .i64 k) := by subst hW0; go_simp
  have x1 : W0.cell? ⟨w.heap.size, 1, none⟩ = some (.string n) := by subst hW0; go_simp
  have x2 : W0.cell? ⟨w.heap.size, 2, none⟩ = some (.string m) := by subst hW0; go_simp
  have x3 : W0.cell? ⟨w.heap.size, 3, none⟩ = some (.int .i64 i) := by subst hW0; go_simp
  have x4 : W0.cell? ⟨w.heap.size, 4, none⟩ = some (.int .i64 d) := by subst hW0; go_simp
  have x5 : W0.cell? ⟨w.heap.size, 5, none⟩ = some (.slice A s.len c) := by subst hW0; go_simp
  have HRF := Lib.hid (rf_any s k n m i d A c [] none 0 W0 (hs.keep hB0.size fun p hp => hB0.cell hp) (OwnN.nil _) (by simp; omega))
  have HB := Lib.hid hB0
  clear hs hB0
  go_enter Tryz.func85, Tryz.ntmps85
  go_wp2_with fail
  refine HRF.out.mono ?_
  rintro e w1 ⟨A1, c1, rfl, ho1, hb1⟩
  have HO := Lib.hid (And.intro ho1 (HB.out.trans (hb1.mono HB.out.size)))
  clear ho1 hb1
  go_wp2
  go_ret
  exact ⟨A1, c1, rfl, HO.out.1, HO.out.2⟩
end Go.Proofs.YtpnfbfnffkbilaaGreatDoor
/- ref40.Names -/
namespace Go.Proofs.YtpnfbfnffkbilaaGreatDoor
open Go.RowKit Go.Proofs Go.Shelf

/-- What a round of Names adds. -/
def addX (l : List Mo) (R : List (ByteArray × Int)) (n : ByteArray × Int) : List (ByteArray × Int) := if (bodyOf l n).isSome = true then withN R n else R
def namesM (l : List Mo) (R : List (ByteArray × Int)) (m : Mo) : List (ByteArray × Int) := (m.ds.map fun d => (m.label, d.id)).foldl (addX l) R
def namesOf (l : List Mo) : List (ByteArray × Int) := l.foldl (namesM l) []
theorem addX_sorted {l : List Mo} {R : List (ByteArray × Int)} (h : R.Pairwise ltN) (n : ByteArray × Int) : (addX l R n).Pairwise ltN := by
  unfold addX
  split
  · exact withN_sorted h n
  · exact h
theorem mem_addX (l : List Mo) (R : List (ByteArray × Int)) (n x : ByteArray × Int) : x ∈ addX l R n ↔ x ∈ R ∨ (x = n ∧ (bodyOf l n).isSome = true) := by
  unfold addX
  by_cases h : (bodyOf l n).isSome = true
  · rw [if_pos h, mem_withN]; simp [h]
  · rw [if_neg h]; simp [h]
theorem foldX (l : List Mo) : ∀ (ns R : List (ByteArray × Int)), R.Pairwise ltN → (ns.foldl (addX l) R).Pairwise ltN ∧ ∀ x, x ∈ ns.foldl (addX l) R ↔ x ∈ R ∨ (x ∈ ns ∧ (bodyOf l x).isSome = true)
  | [], R, h => ⟨h, fun x => by simp⟩
  | n :: ns, R, h => by
    obtain ⟨h1, h2⟩ := foldX l ns (addX l R n) (addX_sorted h n)
    refine ⟨h1, fun x => ?_⟩
    rw [List.foldl_cons, h2, mem_addX, List.mem_cons]
    constructor
    · rintro ((h | ⟨rfl, h⟩) | ⟨h, h'⟩)
      · exact .inl h
      · exact .inr ⟨.inl rfl, h⟩
      · exact .inr ⟨.inr h, h'⟩
    · rintro (h | ⟨rfl | h, h'⟩)
      · exact .inl (.inl h)
      · exact .inl (.inr ⟨rfl, h'⟩)
      · exact .inr ⟨h, h'⟩
theorem foldM (l : List Mo) : ∀ (ms : List Mo) (R : List (ByteArray × Int)), R.Pairwise ltN → (ms.foldl (namesM l) R).Pairwise ltN ∧ ∀ x, x ∈ ms.foldl (namesM l) R ↔ x ∈ R ∨ (x ∈ allN ms ∧ (bodyOf l x).isSome = true)
  | [], R, h => ⟨h, fun x => by simp [allN]⟩
  | m :: ms, R, h => by
    obtain ⟨g1, g2⟩ := foldX l (m.ds.map fun d => (m.label, d.id)) R h
    obtain ⟨h1, h2⟩ := foldM l ms (namesM l R m) g1
    refine ⟨h1, fun x => ?_⟩
    have g3 : x ∈ namesM l R m ↔ _ := g2 x
    rw [List.foldl_cons, h2, g3]
    have e : x ∈ allN (m :: ms) ↔ x ∈ (m.ds.map fun d => (m.label, d.id)) ∨ x ∈ allN ms := by
      simp only [allN, List.flatMap_cons, List.mem_append]
    rw [e]
    constructor
    · rintro ((h | ⟨h, h'⟩) | ⟨h, h'⟩)
      · exact .inl h
      · exact .inr ⟨.inl h, h'⟩
      · exact .inr ⟨.inr h, h'⟩
    · rintro (h | ⟨h | h, h'⟩)
      · exact .inl (.inl h)
      · exact .inl (.inr ⟨h, h'⟩)
      · exact .inr ⟨h, h'⟩
theorem namesOf_sorted (l : List Mo) : (namesOf l).Pairwise ltN := (foldM l l [] List.Pairwise.nil).1
theorem mem_namesOf (l : List Mo) (x : ByteArray × Int) : x ∈ namesOf l ↔ (bodyOf l x).isSome = true := by
  unfold namesOf
  rw [(foldM l l [] List.Pairwise.nil).2]
  simp only [List.not_mem_nil, false_or]
  exact ⟨fun h => h.2, fun h => ⟨mem_allN h, h⟩⟩
theorem addX_len (l : List Mo) (R : List (ByteArray × Int)) (n : ByteArray × Int) : (addX l R n).length ≤ R.length + 1 := by
  unfold addX
  split
  · exact withN_len R n
  · omega

set_option maxRecDepth 100000 in
set_option maxHeartbeats 4000000 in
theorem names40_any (l : List Mo) (A : Option Addr) (c : Nat) (w : World) (hl : SlM w w.heap.size A c l) (ht : totD l ≤ 10000) :
    Calls Tryz.prog 28 #[.slice A l.length c] w (WithP24 (namesOf l) w) := by
  obtain ⟨E, HE⟩ : ∃ E, Hid (namesOf l = E) := ⟨_, Lib.hid rfl⟩
  rw [HE.out]
  have HL := Lib.hid (show ∀ X : World, Below w.heap.size w X → SlM X X.heap.size A c l from fun X hX => (hl.below hX).keep hX.size (fun _ _ => rfl))
  have h1 := hl.1
  have h2 := hl.2.1
  unfold maxLen at h2
  obtain ⟨N, HN⟩ : ∃ Q, Hid (l.length = Q) := ⟨_, Lib.hid rfl⟩
  rw [HN.out] at h1 ⊢
  clear hl
  go_enter Tryz.func28, Tryz.ntmps28
  go_wp2
  go_loopg [3, 4, 5, 6, 7, 8] N (fun g rv ct _ _ _ _ wr => ∃ (j : Nat) (R : List (ByteArray × Int)) (rA : Option Addr) (rc : Nat), g = N - j ∧ j ≤ N ∧ ct = .int .i64 j ∧ rv = .slice rA R.length rc ∧ (l.drop j).foldl (namesM l) R = E ∧ R.length ≤ totD (l.take j) ∧ OwnN wr rA rc R ∧ Below w.heap.size w wr)
  case atStart => exact ⟨0, [], none, 0, rfl, by omega, rfl, rfl, HE.out, by simp, OwnN.nil _, Below.refl _ _⟩
  case round =>
    obtain ⟨j, R, rA, rc, HG, hj, rfl, rfl, hE, hRl, hR, hB⟩ := hrel
    have hz := hB.size
    by_cases hlt : j < N
    · have hlt' : j < l.length := by rw [HN.out]; exact hlt
      obtain ⟨m, hm⟩ : ∃ y, l[j]? = some y := ⟨_, List.getElem?_eq_getElem hlt'⟩
      have hdr : l.drop j = m :: l.drop (j + 1) := by
        obtain ⟨_, rfl⟩ := List.getElem?_eq_some_iff.1 hm
        exact List.drop_eq_getElem_cons _
      rw [hdr, List.foldl_cons] at hE
      obtain ⟨htk1, htk2⟩ := totD_take hm
      obtain ⟨K, HK⟩ : ∃ Q, Hid (m.ds.length = Q) := ⟨_, Lib.hid rfl⟩
      rw [HK.out] at htk1
      obtain ⟨E2, HE2⟩ : ∃ E2, Hid (namesM l R m = E2) := ⟨_, Lib.hid rfl⟩
      rw [HE2.out] at hE
      obtain ⟨b, o, rfl, hb, d0, d1, d2, hok⟩ := (HL.out wr hB).at_ hm
      have hk1 := hok.2.1
      have hk2 := hok.2.2.1
      unfold maxLen at hk2
      rw [HK.out] at hk1 d2
      have j1 : (0 : Int) ≤ (j : Int) := by omega
      have j2 : (j : Int) < (N : Int) := by omega
      have HT := Lib.hid (And.intro HG (And.intro hE (And.intro hR (And.intro hB hm))))
      obtain ⟨wo, rfl⟩ : ∃ wo : World, wo = wr := ⟨_, rfl⟩
      clear HG hE hB hdr hm hok
      clear hR
      go_wp2
      go_loopg [3, 5, 6, 7, 8] K (fun g rv ct _ _ _ wq => ∃ (k : Nat) (R : List (ByteArray × Int)) (rA : Option Addr) (rc : Nat), g = K - k ∧ k ≤ K ∧ ct = .int .i64 k ∧ rv = .slice rA R.length rc ∧ ((m.ds.drop k).map fun d => (m.label, d.id)).foldl (addX l) R = E2 ∧ R.length ≤ totD (l.take j) + k ∧ OwnN wq rA rc R ∧ Below wo.heap.size wo wq)
      case atStart => exact ⟨0, R, rA, rc, rfl, by omega, rfl, rfl, HE2.out, by omega, HT.out.2.2.1, Below.refl _ _⟩
      case round =>
        obtain ⟨k, R2, rA2, rc2, HG2, hk, rfl, rfl, hE2, hR2l, hR2, hB2⟩ := hrel
        have hBw := HT.out.2.2.2.1.trans (hB2.mono hz)
        have hz2 := hB2.size
        have hz3 := hBw.size
        have d0' := (hB2.cell (p := ⟨b, o + j * 3, none⟩) hb).trans d0
        have d2' := (hB2.cell (p := ⟨b, o + j * 3 + 2, none⟩) hb).trans d2
        by_cases hlt2 : k < K
        · have hlt2' : k < m.ds.length := by rw [HK.out]; exact hlt2
          obtain ⟨d, hd⟩ : ∃ y, m.ds[k]? = some y := ⟨_, List.getElem?_eq_getElem hlt2'⟩
          have hdr : m.ds.drop k = d :: m.ds.drop (k + 1) := by
            obtain ⟨_, rfl⟩ := List.getElem?_eq_some_iff.1 hd
            exact List.drop_eq_getElem_cons _
          rw [hdr, List.map_cons, List.foldl_cons] at hE2
          have hokm := ((HL.out wr hBw).2.2 (by intro e; have := HT.out.2.2.2.2; rw [e] at this; simp at this))
          obtain ⟨b2, o2, he2, _, hall⟩ := hokm
          clear he2
          obtain ⟨b', o', hA, hb', c0, _⟩ := SlD.cells_at (wr := wr) (hall j m HT.out.2.2.2.2).2.2 (fun _ _ => rfl) hd
          rw [hA] at d2'
          have hbz : b < wr.heap.size := by omega
          have k1 : (0 : Int) ≤ (k : Int) := by omega
          have k2 : (k : Int) < (K : Int) := by omega
          obtain ⟨dd, hdd⟩ : ∃ dd, (bodyOf l (m.label, d.id)).getD zeroDc = dd := ⟨_, rfl⟩
          obtain ⟨q, hq⟩ : ∃ q, (bodyOf l (m.label, d.id)).isSome = q := ⟨_, rfl⟩
          have HF := Lib.hid (show ∀ X : World, Below wr.heap.size wr X → Calls Tryz.prog 47 #[.slice (some ⟨b, o, none⟩) N c, .agg #[.string m.label, .int .i64 d.id]] X (fun e w' => e = .returned (.tuple #[.agg #[.int .i64 dd.id, .int .i64 dd.kind, .bool dd.pub, .slice dd.nA dd.names.length dd.nc, .bool dd.doubt, .int .i64 dd.k, .string dd.n, .string dd.m, .int .i64 dd.i, .int .i64 dd.d, .slice dd.A dd.s.len dd.c], .bool q]) ∧ Below X.heap.size X w') from fun X hX => by
            have := find40_any l (m.label, d.id) (some ⟨b, o, none⟩) c X (HL.out X (hBw.trans (hX.mono hz3)))
            rw [HN.out] at this
            unfold FindP at this
            rw [hdd, hq] at this
            exact this)
          have HQ := Lib.hid hq
          clear hdd hq
          have HI := Lib.hid (And.intro HG2 (And.intro hE2 (And.intro hR2 (And.intro hB2 hBw))))
          clear HG2 hE2 hR2 hB2 hall hdr hd hA hBw
          go_wp2_with fail
          go_region
          go_wp2_with fail
          obtain ⟨X8, hX8⟩ : ∃ X8, (wr.alloc (.cells #[.string m.label, .int .i64 d.id] 28)).drew = X8 := ⟨_, rfl⟩
          rw [hX8]
          have hb8 : Below wr.heap.size wr X8 := by rw [← hX8]; exact below_drew' ((Below.refl _ _).alloc (Nat.le_refl _) _)
          have b0 : X8.cell? ⟨wr.heap.size, 0, none⟩ = some (.string m.label) := by subst hX8; go_simp
          have b1 : X8.cell? ⟨wr.heap.size, 1, none⟩ = some (.int .i64 d.id) := by subst hX8; go_simp
          have hz8 : wr.heap.size < X8.heap.size := by subst hX8; show _ < (wr.alloc _).heap.size; simp
          refine (HF.out X8 hb8).mono ?_
          rintro e w9 ⟨rfl, hb9⟩
          have q0 := (hb9.cell (p := ⟨wr.heap.size, 0, none⟩) hz8).trans b0
          have q1 := (hb9.cell (p := ⟨wr.heap.size, 1, none⟩) hz8).trans b1
          have hb89 : Below wr.heap.size wr w9 := hb8.trans (hb9.mono (Nat.le_of_lt hz8))
          obtain ⟨W10, hW10⟩ : ∃ W10, w9.alloc (.cells #[.int .i64 dd.id, .int .i64 dd.kind, .bool dd.pub, .slice dd.nA dd.names.length dd.nc, .bool dd.doubt, .int .i64 dd.k, .string dd.n, .string dd.m, .int .i64 dd.i, .int .i64 dd.d, .slice dd.A dd.s.len dd.c] 51) = W10 := ⟨_, rfl⟩
          have hz9 : wr.heap.size < w9.heap.size := Nat.lt_of_lt_of_le hz8 hb9.size
          have hb10 : Below wr.heap.size wr W10 := by rw [← hW10]; exact hb89.alloc hb89.size _
          have r0 : W10.cell? ⟨wr.heap.size, 0, none⟩ = some (.string m.label) := by rw [← hW10]; exact (World.cell?_alloc_lt _ _ ⟨wr.heap.size, 0, none⟩ hz9).trans q0
          have r1 : W10.cell? ⟨wr.heap.size, 1, none⟩ = some (.int .i64 d.id) := by rw [← hW10]; exact (World.cell?_alloc_lt _ _ ⟨wr.heap.size, 1, none⟩ hz9).trans q1
          have HB10 := Lib.hid hb10
          have HOW := Lib.hid (HI.out.2.2.1.below hb10 (Nat.le_refl _))
          clear hb8 hb9 hX8 b0 b1 q0 q1 hb89 hb10
          cases q with
          | false =>
            have HE3 := Lib.hid (show ((m.ds.drop (k + 1)).map fun d => (m.label, d.id)).foldl (addX l) R2 = E2 by
              have := HI.out.2.1
              rw [addX, if_neg (by rw [HQ.out]; simp)] at this
              exact this)
            go_wp2
            go_roundg (K - (k + 1))
            case measure => rw [HI.out.1]; omega
            case rel => exact ⟨k + 1, R2, rA2, rc2, rfl, by omega, by go_num, rfl, HE3.out, by omega, HOW.out, HI.out.2.2.2.1.trans (HB10.out.mono hz2)⟩
          | true =>
            have HE3 := Lib.hid (show ((m.ds.drop (k + 1)).map fun d => (m.label, d.id)).foldl (addX l) (withN R2 (m.label, d.id)) = E2 by
              have := HI.out.2.1
              rw [addX, if_pos HQ.out] at this
              exact this)
            have HWT := Lib.hid (with24_any R2 m.label d.id rA2 rc2 W10 HOW.out (by omega))
            go_wp2_with fail
            refine HWT.out.mono ?_
            rintro e w11 ⟨A3, c3, rfl, hO3, hb11⟩
            have H11 := Lib.hid (And.intro hO3 (HB10.out.trans (hb11.mono HB10.out.size)))
            obtain ⟨R3, HR3⟩ : ∃ R3, Hid (withN R2 (m.label, d.id) = R3) := ⟨_, Lib.hid rfl⟩
            have hR3l : R3.length ≤ R2.length + 1 := by rw [← HR3.out]; exact withN_len _ _
            rw [HR3.out] at HE3 H11 ⊢
            clear hO3 hb11
            go_wp2
            go_roundg (K - (k + 1))
            case measure => rw [HI.out.1]; omega
            case rel => exact ⟨k + 1, R3, A3, c3, rfl, by omega, by go_num, rfl, HE3.out, by omega, H11.out.1, HI.out.2.2.2.1.trans (H11.out.2.mono hz2)⟩
        · have hke : k = K := by omega
          have HE3 := Lib.hid (show R2 = E2 by
            rw [List.drop_of_length_le (by rw [HK.out]; omega)] at hE2
            exact hE2)
          have HF := Lib.hid (And.intro hR2 hBw)
          have hR2l' : R2.length ≤ totD (l.take (j + 1)) := by omega
          clear hE2 hR2 hB2 hBw HG2
          go_wp2
          go_roundg (N - (j + 1))
          case measure => rw [HT.out.1]; omega
          case rel => exact ⟨j + 1, R2, rA2, rc2, rfl, by omega, by go_num, rfl, by rw [HE3.out]; exact HT.out.2.1, hR2l', HF.out.1, HF.out.2⟩
    · have hje : j = N := by omega
      have HE3 := Lib.hid (show R = E by
        rw [List.drop_of_length_le (by rw [HN.out]; omega)] at hE
        exact hE)
      have HF := Lib.hid (And.intro hR hB)
      clear hE hR hB HG
      go_wp2
      go_ret
      exact ⟨rA, rc, by rw [← HE3.out]; rfl, by rw [← HE3.out]; exact HF.out.1, HF.out.2⟩
end Go.Proofs.YtpnfbfnffkbilaaGreatDoor
