/- ref24.face, counts, used -/
import Derived.Test.YtacjjkbkhpdhnaaGreatDoorSxg
import Derived.Test.YtacjjkbkhpdhnaaGreatDoorZpg
import Derived.Test.YtacjjkbkhpdhnaaGreatDoorZlo
import Derived.Test.YtacjjkbkhpdhnaaGreatDoorZpf
import Derived.Test.YtacjjkbkhpdhnaaGreatDoorChk
import Derived.Test.YtacjjkbkhpdhnaaGreatDoorZpa
import Derived.Test.YtacjjkbkhpdhnaaGreatDoorZlp
import Derived.Deep.RegionHeld3
namespace Go.Proofs.YtacjjkbkhpdhnaaGreatDoor
open Go.RowKit Go.Proofs Go.Shelf

theorem below_drewK {B : Nat} {w w' : World} (h : Below B w w') : Below B w w'.drew := ⟨h.os, h.tape, h.output, h.size, h.block⟩
theorem sigO_drop' {sigs : List Sg} {p : Sg → Bool} {j : Nat} {x : Sg} (hx : sigs[j]? = some x) : sigO (sigs.drop j) p = if (sgB x && p x) = true then some x else sigO (sigs.drop (j + 1)) p := by
  obtain ⟨hlt, rfl⟩ := List.getElem?_eq_some_iff.1 hx
  unfold sigO
  rw [List.drop_eq_getElem_cons hlt, List.find?_cons]
  by_cases h : (sgB sigs[j] && p sigs[j]) = true
  · rw [if_pos h]
    simp only [h]
  · rw [if_neg h]
    simp only [show (sgB sigs[j] && p sigs[j]) = false by simpa using h]

set_option maxRecDepth 100000 in
set_option maxHeartbeats 2000000 in
theorem face24_any (known : List If) (label : ByteArray) (A : Option Addr) (c : Nat) (w : World) (hk : SlI w w.heap.size A c known) :
    Calls Tryz.prog 70 #[.slice A known.length c, .string label] w fun e w' => e = .returned (.tuple #[.agg ((faceO known label).getD noIf).cells, .bool (faceO known label).isSome]) ∧ Below w.heap.size w w' := by
  obtain ⟨W0, hW0⟩ : ∃ W0, w.alloc (.cells #[.string ⟨#[]⟩, .slice none 0 0] 55) = W0 := ⟨_, rfl⟩
  have hb0 : Below w.heap.size w W0 := by rw [← hW0]; exact (Below.refl _ _).alloc (Nat.le_refl _) _
  have hr0 : W0.heap[w.heap.size]? = some (.cells #[.string ⟨#[]⟩, .slice none 0 0] 55 (0, 0)) := by rw [← hW0]; exact heap_alloc_new _ _
  have hc2 := hk.2.1
  have hc1 := hk.1
  unfold maxLen at hc2
  obtain ⟨N, HN⟩ : ∃ Q, Hid (known.length = Q) := ⟨_, Lib.hid rfl⟩
  have H0 := Lib.hid (And.intro hk (And.intro hb0 hr0))
  rw [HN.out] at hc1 ⊢
  clear hk hb0 hr0
  go_enter Tryz.func70, Tryz.ntmps70
  go_wp2
  go_loopg [5, 6] N (fun gg _ ct wr => ∃ j : Nat, gg = N - j ∧ j ≤ N ∧ ct = .int .i64 j ∧ Hid (faceO known label = faceO (known.drop j) label) ∧ Below w.heap.size w wr ∧ wr.heap[w.heap.size]? = some (.cells #[.string ⟨#[]⟩, .slice none 0 0] 55 (0, 0)))
  case atStart => exact ⟨0, rfl, by omega, rfl, Lib.hid rfl, H0.out.2.1, H0.out.2.2⟩
  case round =>
    obtain ⟨j, HG, hj, rfl, HA, hB, hr⟩ := hrel
    have hrl : w.heap.size < wr.heap.size := (Array.getElem?_eq_some_iff.1 hr).1
    by_cases hlt : j < N
    · have hlt' : j < known.length := by rw [HN.out]; exact hlt
      obtain ⟨x, hx⟩ : ∃ x, known[j]? = some x := ⟨_, List.getElem?_eq_getElem hlt'⟩
      have hSl : SlI wr wr.heap.size A c known := H0.out.1.below hB
      obtain ⟨b, o, rfl, hb, d0, d1, hsg⟩ := hSl.at_ hx
      obtain ⟨NS, HNS⟩ : ∃ Q, Hid (x.sigs.length = Q) := ⟨_, Lib.hid rfl⟩
      rw [HNS.out] at d1
      have hstep := faceO_drop (label := label) hx
      have hst := str_beq x.label label
      by_cases hL : x.label = label
      · rw [decide_eq_true hL] at hst
        have r0 : wr.cell? ⟨w.heap.size, 0, none⟩ = some (.string ⟨#[]⟩) := cell_of_row wr _ 0 _ _ (0, 0) hr
        have r1 : wr.cell? ⟨w.heap.size, 1, none⟩ = some (.slice none 0 0) := cell_of_row wr _ 1 _ _ (0, 0) hr
        have f0 : wr.frozen? ⟨w.heap.size, 0, none⟩ = false := frozen_of_row wr _ 0 _ _ hr
        have f1 : wr.frozen? ⟨w.heap.size, 1, none⟩ = false := frozen_of_row wr _ 1 _ _ hr
        have HR := Lib.hid (show faceO known label = some x by rw [HA.out, hstep, if_pos hL])
        have HS := Lib.hid (pair_set hr (.string x.label) (.slice x.sA NS x.sc))
        have HB3 := Lib.hid hB
        clear hSl hx hstep hL HA hB hr hsg
        go_wp2
        obtain ⟨W9, hW9, s0, s1, hBf, hsz, hbk⟩ := out2 HS.out HB3.out (by omega)
        rw [hW9]
        refine bodyPost_ret (v := .tuple #[.agg #[.string x.label, .slice x.sA NS x.sc], .bool true]) (by simp [results, Tryz.results70, go_sem, s0, s1]) rfl ⟨?_, hBf⟩
        rw [HR.out, Option.getD_some, Option.isSome_some, If.cells, HNS.out]
      · rw [decide_eq_false hL] at hst
        have HR := Lib.hid (show faceO known label = faceO (known.drop (j + 1)) label by rw [HA.out, hstep, if_neg hL])
        have HT := Lib.hid (And.intro HG (And.intro hB hr))
        clear hSl hx hstep hL hr HA hB hsg HG
        go_wp2
        go_roundg (N - (j + 1))
        case measure => rw [HT.out.1]; omega
        case rel => exact ⟨j + 1, rfl, by omega, by go_num, HR, HT.out.2.1, HT.out.2.2⟩
    · have hjN : N = j := by omega
      have HR := Lib.hid (show faceO known label = none by rw [HA.out, List.drop_of_length_le (by rw [HN.out]; omega)]; rfl)
      have i2 : decide ((j : Int) < (N : Int)) = false := decide_eq_false (by omega)
      have i3 : decide (j < N) = false := decide_eq_false (by omega)
      have r0 : wr.cell? ⟨w.heap.size, 0, none⟩ = some (.string ⟨#[]⟩) := cell_of_row wr _ 0 _ _ (0, 0) hr
      have r1 : wr.cell? ⟨w.heap.size, 1, none⟩ = some (.slice none 0 0) := cell_of_row wr _ 1 _ _ (0, 0) hr
      have f0 : wr.frozen? ⟨w.heap.size, 0, none⟩ = false := frozen_of_row wr _ 0 _ _ hr
      have f1 : wr.frozen? ⟨w.heap.size, 1, none⟩ = false := frozen_of_row wr _ 1 _ _ hr
      have HS := Lib.hid (pair_set hr (.string ⟨#[]⟩) (.slice none 0 0))
      have HB3 := Lib.hid hB
      clear HA hjN hB hr
      go_wp2
      obtain ⟨W9, hW9, s0, s1, hBf, hsz, hbk⟩ := out2 HS.out HB3.out (by omega)
      rw [hW9]
      refine bodyPost_ret (v := .tuple #[.agg #[.string ⟨#[]⟩, .slice none 0 0], .bool false]) (by simp [results, Tryz.results70, go_sem, s0, s1]) rfl ⟨?_, hBf⟩
      rw [HR.out]
      rfl

set_option maxRecDepth 100000 in
set_option maxHeartbeats 2000000 in
theorem counts24_any (x : Sg) (hs : x.name.size ≤ 9223372036854775807) (w : World) :
    Calls Tryz.prog 114 #[.agg x.cells] w fun e w' => e = .returned (.bool (sgB x)) ∧ Below w.heap.size w w' := by
  obtain ⟨W3, hW3⟩ : ∃ W3, w.alloc (.cells #[.int .i64 x.id, .string x.name, .int .i64 x.vars, .int .i64 x.kind, .int .i64 x.var, .slice x.tA x.tn x.tc] 100) = W3 := ⟨_, rfl⟩
  have hb3 : Below w.heap.size w W3 := by rw [← hW3]; exact (Below.refl _ _).alloc (Nat.le_refl _) _
  have hx3 : W3.heap[w.heap.size]? = some (.cells #[.int .i64 x.id, .string x.name, .int .i64 x.vars, .int .i64 x.kind, .int .i64 x.var, .slice x.tA x.tn x.tc] 100 (0, 0)) := by rw [← hW3]; exact heap_alloc_new _ _
  have e0 : W3.cell? ⟨w.heap.size, 0, none⟩ = some (.int .i64 x.id) := cell_of_row W3 _ 0 _ _ (0, 0) hx3
  have e1 : W3.cell? ⟨w.heap.size, 1, none⟩ = some (.string x.name) := cell_of_row W3 _ 1 _ _ (0, 0) hx3
  have HB := Lib.hid hb3
  have HNm := Lib.hid (name21_any x.name W3 hs)
  clear hb3 hx3
  simp only [Sg.cells]
  by_cases c1 : 1 ≤ x.id
  rotate_left
  · have k1 : decide (1 ≤ x.id) = false := decide_eq_false c1
    have HR := Lib.hid (show sgB x = false by unfold sgB; rw [k1]; rfl)
    rw [HR.out]
    clear c1 HNm
    go_enter Tryz.func114, Tryz.ntmps114
    go_wp2
    go_ret
    exact ⟨rfl, HB.out⟩
  have k1 : decide (1 ≤ x.id) = true := decide_eq_true c1
  by_cases c2 : x.id ≤ 999999
  rotate_left
  · have k2 : decide (x.id ≤ 999999) = false := decide_eq_false c2
    have HR := Lib.hid (show sgB x = false by unfold sgB; rw [k2]; simp)
    rw [HR.out]
    clear c1 c2 HNm
    go_enter Tryz.func114, Tryz.ntmps114
    go_wp2
    go_ret
    exact ⟨rfl, HB.out⟩
  have k2 : decide (x.id ≤ 999999) = true := decide_eq_true c2
  have HR := Lib.hid (show sgB x = nameB x.name by unfold sgB; rw [k1, k2]; rfl)
  rw [HR.out]
  clear c1 c2
  obtain ⟨bn, Hbn⟩ : ∃ Q, Hid (nameB x.name = Q) := ⟨_, Lib.hid rfl⟩
  rw [Hbn.out] at HNm ⊢
  go_enter Tryz.func114, Tryz.ntmps114
  go_wp2_with fail
  refine HNm.out.mono ?_
  rintro e w4 ⟨rfl, hb4⟩
  have HB4 := Lib.hid (HB.out.trans (hb4.mono HB.out.size))
  clear hb4
  go_wp2
  go_ret
  exact ⟨rfl, HB4.out⟩

set_option maxRecDepth 100000 in
set_option maxHeartbeats 2000000 in
theorem used24_any (decls : List Dc) (dA : Option Addr) (dc : Nat) (id : Int) (w : World) (hd : SlD w w.heap.size dA dc decls) :
    Calls Tryz.prog 69 #[.slice dA decls.length dc, .int .i64 id] w fun e w' => e = .returned (.bool (decls.any fun x => x.id == id)) ∧ w = w' := by
  have hdl := hd.1
  have hdl2 := hd.2.1
  unfold maxLen at hdl2
  obtain ⟨N, HN⟩ : ∃ Q, Hid (decls.length = Q) := ⟨_, Lib.hid rfl⟩
  obtain ⟨E, HE⟩ : ∃ Q, Hid ((decls.any fun x => x.id == id) = Q) := ⟨_, Lib.hid rfl⟩
  have H0 := Lib.hid hd
  rw [HN.out] at hdl ⊢
  rw [HE.out]
  clear hd
  go_enter Tryz.func69, Tryz.ntmps69
  go_wp2
  go_loopg [4, 5] N (fun gg _ ct wr => ∃ j : Nat, gg = N - j ∧ j ≤ N ∧ ct = .int .i64 j ∧ Hid (∀ i x, i < j → decls[i]? = some x → x.id ≠ id) ∧ w = wr)
  case atStart => exact ⟨0, rfl, by omega, rfl, Lib.hid (fun i _ hi => absurd hi (Nat.not_lt_zero i)), rfl⟩
  case round =>
    obtain ⟨j, HG, hj, rfl, HA, rfl⟩ := hrel
    by_cases hlt : j < N
    · obtain ⟨x, hx⟩ : ∃ x, decls[j]? = some x := ⟨_, List.getElem?_eq_getElem (by rw [HN.out]; exact hlt)⟩
      obtain ⟨b, o, hb, hdb, hall⟩ := H0.out.2.2 (by intro e; rw [e] at hx; simp at hx)
      subst hb
      have e0 : w.cell? ⟨b, o + j * 11, none⟩ = some (.int .i64 x.id) := (hall j x hx).1 0 _ rfl
      by_cases hL : x.id = id
      · have hid : (x.id == id) = true := by simpa using hL
        have HR := Lib.hid (show (decls.any fun x => x.id == id) = true from List.any_eq_true.2 ⟨x, List.mem_of_getElem? hx, by simpa using hL⟩)
        obtain rfl : E = true := HE.out.symm.trans HR.out
        clear hall hx hL
        go_wp2
        go_ret
        exact ⟨rfl, rfl⟩
      · have hid : (x.id == id) = false := by simpa using hL
        have HR := Lib.hid (show ∀ i y, i < j + 1 → decls[i]? = some y → y.id ≠ id from fun i y hi hy => by
          by_cases h : i = j
          · subst h
            rw [hx] at hy
            cases hy
            exact hL
          · exact HA.out i y (by omega) hy)
        clear hall hx hL HA
        go_wp2
        go_roundg (N - (j + 1))
        case measure => rw [HG]; omega
        case rel => exact ⟨j + 1, rfl, by omega, by go_num, HR, rfl⟩
    · have hjN : N = j := by omega
      have HR := Lib.hid (show (decls.any fun x => x.id == id) = false from List.any_eq_false.2 fun y hy => by
        obtain ⟨i, hi⟩ := List.getElem?_of_mem hy
        have h1 := HA.out i y (by have := (List.getElem?_eq_some_iff.1 hi).1; rw [HN.out] at this; omega) hi
        simpa using h1)
      obtain rfl : E = false := HE.out.symm.trans HR.out
      have i2 : decide ((j : Int) < (N : Int)) = false := decide_eq_false (by omega)
      have i3 : decide (j < N) = false := decide_eq_false (by omega)
      clear HA hjN
      go_wp2
      go_ret
      exact ⟨rfl, rfl⟩
end Go.Proofs.YtacjjkbkhpdhnaaGreatDoor
/- ref24.Clash -/
namespace Go.Proofs.YtacjjkbkhpdhnaaGreatDoor
open Go.RowKit Go.Proofs Go.Shelf
def sameN (x y : Dc) : Bool := (decide (x.names.length = 1) && decide (y.names.length = 1)) && ((nameOf x).toList == (nameOf y).toList)
theorem name_cell {W : World} {B : Nat} {A : Option Addr} {c : Nat} {l : List ByteArray} (h : SlS W B A c l) (h1 : l.length = 1) : ∃ b o, A = some ⟨b, o, none⟩ ∧ b < B ∧ W.cell? ⟨b, o, none⟩ = some (.string (l.headD ⟨#[]⟩)) := by
  obtain ⟨s, rfl⟩ := List.length_eq_one_iff.1 h1
  obtain ⟨b, o, e, hb, hc⟩ := h.2.2 (by simp)
  exact ⟨b, o, e, hb, by have := hc 0 s rfl; simpa using this⟩
end Go.Proofs.YtacjjkbkhpdhnaaGreatDoor
