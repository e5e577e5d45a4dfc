/- ref24.face, counts, used -/
import Derived.Test.YtacjjkbkhpdhnaaGreatDoorSxg
import Derived.Test.YtacjjkbkhpdhnaaGreatDoorZpg
import Derived.Test.YtacjjkbkhpdhnaaGreatDoorZlo
import Derived.Test.YtacjjkbkhpdhnaaGreatDoorZpf
import Derived.Test.YtacjjkbkhpdhnaaGreatDoorChk
import Derived.Test.YtacjjkbkhpdhnaaGreatDoorZpa
import Derived.Test.YtacjjkbkhpdhnaaGreatDoorZlp
import Derived.Deep.RegionHeld3
namespace Go.Proofs.YtacjjkbkhpdhnaaGreatDoor
open Go.RowKit Go.Proofs Go.Shelf

set_option maxRecDepth 100000 in
set_option maxHeartbeats 2000000 in
theorem face24_any (known : List If) (label : ByteArray) (A : Option Addr) (c : Nat) (w : World) (hk : SlI w w.heap.size A c known) :
    Calls Tryz.prog 70 #[.slice A known.length c, .string label] w fun e w' => e = .returned (.tuple #[.agg ((faceO known label).getD noIf).cells, .bool (faceO known label).isSome]) ∧ Below w.heap.size w w' := by
  obtain ⟨W0, hW0⟩ : ∃ W0, w.alloc (.cells #[.string ⟨#[]⟩, .slice none 0 0] 55) = W0 := ⟨_, rfl⟩
  have hb0 : Below w.heap.size w W0 := by rw [← hW0]; exact (Below.refl _ _).alloc (Nat.le_refl _) _
  have hr0 : W0.heap[w.heap.size]? = some (.cells #[.string ⟨#[]⟩, .slice none 0 0] 55 (0, 0)) := by rw [← hW0]; exact heap_alloc_new _ _
  have hc2 := hk.2.1
  have hc1 := hk.1
  unfold maxLen at hc2
  obtain ⟨N, HN⟩ : ∃ Q, Hid (known.length = Q) := ⟨_, Lib.hid rfl⟩
  have H0 := Lib.hid (And.intro hk (And.intro hb0 hr0))
  rw [HN.out] at hc1 ⊢
  clear hk hb0 hr0
  go_enter Tryz.func70, Tryz.ntmps70
  go_wp2
  go_loopg [5, 6] N (fun gg _ ct wr => ∃ j : Nat, gg = N - j ∧ j ≤ N ∧ ct = .int .i64 j ∧ Hid (faceO known label = faceO (known.drop j) label) ∧ Below w.heap.size w wr ∧ wr.heap[w.heap.size]? = some (.cells #[.string ⟨#[]⟩, .slice none 0 0] 55 (0, 0)))
  case atStart => exact ⟨0, rfl, by omega, rfl, Lib.hid rfl, H0.out.2.1, H0.out.2.2⟩
  case round =>
    obtain ⟨j, HG, hj, rfl, HA, hB, hr⟩ := hrel
    have hrl : w.heap.size < wr.heap.size := (Array.getElem?_eq_some_iff.1 hr).1
    by_cases hlt : j < N
    · have hlt' : j < known.length := by rw [HN.out]; exact hlt
      obtain ⟨x, hx⟩ : ∃ x, known[j]? = some x := ⟨_, List.getElem?_eq_getElem hlt'⟩
      have hSl : SlI wr wr.heap.size A c known := H0.out.1.below hB
      obtain ⟨b, o, rfl, hb, d0, d1, hsg⟩ := hSl.at_ hx
      obtain ⟨NS, HNS⟩ : ∃ Q, Hid (x.sigs.length = Q) := ⟨_, Lib.hid rfl⟩
      rw [HNS.out] at d1
      have hstep := faceO_drop (label := label) hx
      have hst := str_beq x.label label
      by_cases hL : x.label = label
      · rw [decide_eq_true hL] at hst
        have r0 : wr.cell? ⟨w.heap.size, 0, none⟩ = some (.string ⟨#[]⟩) := cell_of_row wr _ 0 _ _ (0, 0) hr
        have r1 : wr.cell? ⟨w.heap.size, 1, none⟩ = some (.slice none 0 0) := cell_of_row wr _ 1 _ _ (0, 0) hr
        have f0 : wr.frozen? ⟨w.heap.size, 0, none⟩ = false := frozen_of_row wr _ 0 _ _ hr
        have f1 : wr.frozen? ⟨w.heap.size, 1, none⟩ = false := frozen_of_row wr _ 1 _ _ hr
        have HR := Lib.hid (show faceO known label = some x by rw [HA.out, hstep, if_pos hL])
        have HS := Lib.hid (pair_set hr (.string x.label) (.slice x.sA NS x.sc))
        have HB3 := Lib.hid hB
        clear hSl hx hstep hL HA hB hr hsg
        go_wp2
        obtain ⟨W9, hW9, s0, s1, hBf, hsz, hbk⟩ := out2 HS.out HB3.out (by omega)
        rw [hW9]
        refine bodyPost_ret (v := .tuple #[.agg #[.string x.label, .slice x.sA NS x.sc], .bool true]) (by simp [results, Tryz.results70, go_sem, s0, s1]) rfl ⟨?_, hBf⟩
        rw [HR.out, Option.getD_some, Option.isSome_some, If.cells, HNS.out]
      · rw [decide_eq_false hL] at hst
        have HR := Lib.hid (show faceO known label = faceO (known.drop (j + 1)) label by rw [HA.out, hstep, if_neg hL])
        have HT := Lib.hid (And.intro HG (And.intro hB hr))
        clear hSl hx hstep hL hr HA hB hsg HG
        go_wp2
        go_roundg (N - (j + 1))
        case measure => rw [HT.out.1]; omega
        case rel => exact ⟨j + 1, rfl, by omega, by go_num, HR, HT.out.2.1, HT.out.2.2⟩
    · have hjN : N = j := by omega
      have HR := Lib.hid (show faceO known label = none by rw [HA.out, List.drop_of_length_le (by rw [HN.out]; omega)]; rfl)
      have i2 : decide ((j : Int) < (N : Int)) = false := decide_eq_false (by omega)
      have i3 : decide (j < N) = false := decide_eq_false (by omega)
      have r0 : wr.cell? ⟨w.heap.size, 0, none⟩ = some (.string ⟨#[]⟩) := cell_of_row wr _ 0 _ _ (0, 0) hr
      have r1 : wr.cell? ⟨w.heap.size, 1, none⟩ = some (.slice none 0 0) := cell_of_row wr _ 1 _ _ (0, 0) hr
      have f0 : wr.frozen? ⟨w.heap.size, 0, none⟩ = false := frozen_of_row wr _ 0 _ _ hr
      have f1 : wr.frozen? ⟨w.heap.size, 1, none⟩ = false := frozen_of_row wr _ 1 _ _ hr
      have HS := Lib.hid (pair_set hr (.string ⟨#[]⟩) (.slice none 0 0))
      have HB3 := Lib.hid hB
      clear HA hjN hB hr
      go_wp2
      obtain ⟨W9, hW9, s0, s1, hBf, hsz, hbk⟩ := out2 HS.out HB3.out (by omega)
      rw [hW9]
      refine bodyPost_ret (v := .tuple #[.agg #[.string ⟨#[]⟩, .slice none 0 0], .bool false]) (by simp [results, Tryz.results70, go_sem, s0, s1]) rfl ⟨?_, hBf⟩
      rw [HR.out]
      rfl

set_option maxRecDepth 100000 in
set_option maxHeartbeats 2000000 in
theorem counts24_any (x : Sg) (hs : x.name.size ≤ 9223372036854775807) (w : World) :
    Calls Tryz.prog 114 #[.agg x.cells] w fun e w' => e = .returned (.bool (sgB x)) ∧ Below w.heap.size w w' := by
  obtain ⟨W3, hW3⟩ : ∃ W3, w.alloc (.cells #[.int .i64 x.id, .string x.name, .int .i64 x.vars, .int .i64 x.kind, .int .i64 x.var, .slice x.tA x.tn x.tc] 100) = W3 := ⟨_, rfl⟩
  have hb3 : Below w.heap.size w W3 := by rw [← hW3]; exact (Below.refl _ _).alloc (Nat.le_refl _) _
  have hx3 : W3.heap[w.heap.size]? = some (.cells #[.int .i64 x.id, .string x.name, .int .i64 x.vars, .int .i64 x.kind, .int .i64 x.var, .slice x.tA x.tn x.tc] 100 (0, 0)) := by rw [← hW3]; exact heap_alloc_new _ _
  have e0 : W3.cell? ⟨w.heap.size, 0, none⟩ = some (.int .i64 x.id) := cell_of_row W3 _ 0 _ _ (0, 0) hx3
  have e1 : W3.cell? ⟨w.heap.size, 1, none⟩ = some (.string x.name) := cell_of_row W3 _ 1 _ _ (0, 0) hx3
  have HB := Lib.hid hb3
  have HNm := Lib.hid (name21_any x.name W3 hs)
  clear hb3 hx3
  simp only [Sg.cells]
  by_cases c1 : 1 ≤ x.id
  rotate_left
  · have k1 : decide (1 ≤ x.id) = false := decide_eq_false c1
    have HR := Lib.hid (show sgB x = false by unfold sgB; rw [k1]; rfl)
    rw [HR.out]
    clear c1 HNm
    go_enter Tryz.func114, Tryz.ntmps114
    go_wp2
    go_ret
    exact ⟨rfl, HB.out⟩
  have k1 : decide (1 ≤ x.id) = true := decide_eq_true c1
  by_cases c2 : x.id ≤ 999999
  rotate_left
  · have k2 : decide (x.id ≤ 999999) = false := decide_eq_false c2
    have HR := Lib.hid (show sgB x = false by unfold sgB; rw [k2]; simp)
    rw [HR.out]
    clear c1 c2 HNm
    go_enter Tryz.func114, Tryz.ntmps114
    go_wp2
    go_ret
    exact ⟨rfl, HB.out⟩
  have k2 : decide (x.id ≤ 999999) = true := decide_eq_true c2
  have HR := Lib.hid (show sgB x = nameB x.name by unfold sgB; rw [k1, k2]; rfl)
  rw [HR.out]
  clear c1 c2
  obtain ⟨bn, Hbn⟩ : ∃ Q, Hid (nameB x.name = Q) := ⟨_, Lib.hid rfl⟩
  rw [Hbn.out] at HNm ⊢
  go_enter Tryz.func114, Tryz.ntmps114
  go_wp2_with fail
  refine HNm.out.mono ?_
  rintro e w4 ⟨rfl, hb4⟩
  have HB4 := Lib.hid (HB.out.trans (hb4.mono HB.out.size))
  clear hb4
  go_wp2
  go_ret
  exact ⟨rfl, HB4.out⟩

set_option maxRecDepth 100000 in
set_option maxHeartbeats 2000000 in
theorem used24_any (decls : List Dc) (dA : Option Addr) (dc : Nat) (id : Int) (w : World) (hd : SlD w w.heap.size dA dc decls) :
    Calls Tryz.prog 69 #[.slice dA decls.length dc, .int .i64 id] w fun e w' => e = .returned (.bool (decls.any fun x => x.id == id)) ∧ w = w' := by
  have hdl := hd.1
  have hdl2 := hd.2.1
  unfold maxLen at hdl2
  obtain ⟨N, HN⟩ : ∃ Q, Hid (decls.length = Q) := ⟨_, Lib.hid rfl⟩
  obtain ⟨E, HE⟩ : ∃ Q, Hid ((decls.any fun x => x.id == id) = Q) := ⟨_, Lib.hid rfl⟩
  have H0 := Lib.hid hd
  rw [HN.out] at hdl ⊢
  rw [HE.out]
  clear hd
  go_enter Tryz.func69, Tryz.ntmps69
  go_wp2
  go_loopg [4, 5] N (fun gg _ ct wr => ∃ j : Nat, gg = N - j ∧ j ≤ N ∧ ct = .int .i64 j ∧ Hid (∀ i x, i < j → decls[i]? = some x → x.id ≠ id) ∧ w = wr)
  case atStart => exact ⟨0, rfl, by omega, rfl, Lib.hid (fun i _ hi => absurd hi (Nat.not_lt_zero i)), rfl⟩
  case round =>
    obtain ⟨j, HG, hj, rfl, HA, rfl⟩ := hrel
    by_cases hlt : j < N
    · obtain ⟨x, hx⟩ : ∃ x, decls[j]? = some x := ⟨_, List.getElem?_eq_getElem (by rw [HN.out]; exact hlt)⟩
      obtain ⟨b, o, hb, hdb, hall⟩ := H0.out.2.2 (by intro e; rw [e] at hx; simp at hx)
      subst hb
      have e0 : w.cell? ⟨b, o + j * 11, none⟩ = some (.int .i64 x.id) := (hall j x hx).1 0 _ rfl
      by_cases hL : x.id = id
      · have hid : (x.id == id) = true := by simpa using hL
        have HR := Lib.hid (show (decls.any fun x => x.id == id) = true from List.any_eq_true.2 ⟨x, List.mem_of_getElem? hx, by simpa using hL⟩)
        obtain rfl : E = true := HE.out.symm.trans HR.out
        clear hall hx hL
        go_wp2
        go_ret
        exact ⟨rfl, rfl⟩
      · have hid : (x.id == id) = false := by simpa using hL
        have HR := Lib.hid (show ∀ i y, i < j + 1 → decls[i]? = some y → y.id ≠ id from fun i y hi hy => by
          by_cases h : i = j
          · subst h
            rw [hx] at hy
            cases hy
            exact hL
          · exact HA.out i y (by omega) hy)
        clear hall hx hL HA
        go_wp2
        go_roundg (N - (j + 1))
        case measure => rw [HG]; omega
        case rel => exact ⟨j + 1, rfl, by omega, by go_num, HR, rfl⟩
    · have hjN : N = j := by omega
      have HR := Lib.hid (show (decls.any fun x => x.id == id) = false from List.any_eq_false.2 fun y hy => by
        obtain ⟨i, hi⟩ := List.getElem?_of_mem hy
        have h1 := HA.out i y (by have := (List.getElem?_eq_some_iff.1 hi).1; rw [HN.out] at this; omega) hi
        simpa using h1)
      obtain rfl : E = false := HE.out.symm.trans HR.out
      have i2 : decide ((j : Int) < (N : Int)) = false := decide_eq_false (by omega)
      have i3 : decide (j < N) = false := decide_eq_false (by omega)
      clear HA hjN
      go_wp2
      go_ret
      exact ⟨rfl, rfl⟩
end Go.Proofs.YtacjjkbkhpdhnaaGreatDoor
/- ref24.Clash -/
namespace Go.Proofs.YtacjjkbkhpdhnaaGreatDoor
open Go.RowKit Go.Proofs Go.Shelf
def sameN (x y : Dc) : Bool := (decide (x.names.length = 1) && decide (y.names.length = 1)) && ((nameOf x).toList == (nameOf y).toList)
def clashAt (l : List Dc) (i : Nat) : Bool := match l[i]? with | some x => (l.take i).any (sameN x) | none => false
def clashB (l : List Dc) : Bool := (List.range l.length).any (clashAt l)
theorem name_cell {W : World} {B : Nat} {A : Option Addr} {c : Nat} {l : List ByteArray} (h : SlS W B A c l) (h1 : l.length = 1) : ∃ b o, A = some ⟨b, o, none⟩ ∧ b < B ∧ W.cell? ⟨b, o, none⟩ = some (.string (l.headD ⟨#[]⟩)) := by
  obtain ⟨s, rfl⟩ := List.length_eq_one_iff.1 h1
  obtain ⟨b, o, e, hb, hc⟩ := h.2.2 (by simp)
  exact ⟨b, o, e, hb, by have := hc 0 s rfl; simpa using this⟩
set_option maxRecDepth 100000 in
set_option maxHeartbeats 8000000 in
theorem clash24_any (decls : List Dc) (dA : Option Addr) (dc : Nat) (w : World) (hd : SlD w w.heap.size dA dc decls) :
    Calls Tryz.prog 77 #[.slice dA decls.length dc] w fun e w' => e = .returned (.bool (clashB decls)) ∧ Below w.heap.size w w' := by
  obtain ⟨N, HN⟩ : ∃ Q, Hid (decls.length = Q) := ⟨_, Lib.hid rfl⟩
  obtain ⟨E, HE⟩ : ∃ Q, Hid (clashB decls = Q) := ⟨_, Lib.hid rfl⟩
  have hdl := hd.1
  have hdl2 := hd.2.1
  unfold maxLen at hdl2
  rw [HE.out]
  rw [HN.out] at hdl ⊢
  have HD := Lib.hid hd
  have HYes := Lib.hid (show ∀ i, i < N → clashAt decls i = true → E = true from fun i hi h => by
    rw [← HE.out, clashB, List.any_eq_true]
    exact ⟨i, by rw [HN.out]; exact List.mem_range.2 hi, h⟩)
  have HNo := Lib.hid (show (∀ i, i < N → clashAt decls i = false) → E = false from fun h => by
    rw [← HE.out, clashB, List.any_eq_false]
    intro i hi
    rw [h i (by rw [HN.out] at hi; exact List.mem_range.1 hi)]
    simp)
  clear hd HE
  go_enter Tryz.func77, Tryz.ntmps77
  go_wp2_with fail
  go_loopg [3, 4] N (fun g ct _ wr => ∃ j : Nat, g = N - j ∧ j ≤ N ∧ ct = .int .i64 j ∧ (∀ i, i < j → clashAt decls i = false) ∧ Below w.heap.size w wr)
  case atStart => exact ⟨0, rfl, by omega, rfl, fun i hi => by omega, Below.refl _ _⟩
  case round =>
    obtain ⟨j, HG, hj, rfl, HA, HB⟩ := hrel
    have HG' := Lib.hid (And.intro HG (And.intro HA HB))
    clear HG HA HB
    by_cases hlt : j < N
    · have hjl : j < decls.length := by rw [HN.out]; exact hlt
      have hj3 : decls[j]? = some decls[j] := List.getElem?_eq_getElem hjl
      have HAt := Lib.hid (show clashAt decls j = (decls.take j).any (sameN decls[j]) by unfold clashAt; rw [hj3])
      have HJ := Lib.hid hj3
      clear hj3
      generalize decls[j] = x at HAt HJ
      clear hjl
      go_wp2_with fail
      go_loopg [4] j (fun g ct wq => ∃ i : Nat, g = j - i ∧ i ≤ j ∧ ct = .int .i64 i ∧ (decls.take i).any (sameN x) = false ∧ Below w.heap.size w wq)
      case atStart => exact ⟨0, rfl, by omega, rfl, by simp, HG'.out.2.2⟩
      case round =>
        obtain ⟨i, HGi, hij, rfl, HAi, HBi⟩ := hrel
        have HGi' := Lib.hid (And.intro HGi (And.intro HAi HBi))
        clear HGi HAi HBi
        by_cases hilt : i < j
        · have hil : i < decls.length := by rw [HN.out]; omega
          have hi3 : decls[i]? = some decls[i] := List.getElem?_eq_getElem hil
          have HT := Lib.hid (show (decls.take (i + 1)).any (sameN x) = sameN x decls[i] by
            rw [List.take_succ_eq_append_getElem hil, List.any_append, HGi'.out.2.1]
            simp)
          have HY := Lib.hid (show sameN x decls[i] = true → (decls.take j).any (sameN x) = true from fun h => List.any_eq_true.2 ⟨decls[i], List.mem_take_iff_getElem.2 ⟨i, by omega, rfl⟩, h⟩)
          obtain ⟨b, o, hA, hb, x0, x1, x2, x3, x4, x5, x6, x7, x8, x9, x10, xok⟩ := HD.out.cells_at (wr := wr) (fun p hp => HGi'.out.2.2.cell hp) HJ.out
          obtain ⟨b', o', hA', hb', y0, y1, y2, y3, y4, y5, y6, y7, y8, y9, y10, yok⟩ := HD.out.cells_at (wr := wr) (fun p hp => HGi'.out.2.2.cell hp) hi3
          subst hA
          simp only [Option.some.injEq, Addr.mk.injEq, and_true] at hA'
          obtain ⟨rfl, rfl⟩ := hA'
          clear x0 x1 x2 x4 x5 x6 x7 x8 x9 x10 y0 y1 y2 y4 y5 y6 y7 y8 y9 y10 hi3
          generalize decls[i] = y at y3 yok HT HY
          clear hil
          have xn := xok.1.keep (w' := wr) (Nat.le_refl _) fun p hp => HGi'.out.2.2.cell hp
          have yn := yok.1.keep (w' := wr) (Nat.le_refl _) fun p hp => HGi'.out.2.2.cell hp
          clear xok yok
          have xc1 := xn.1
          have xc2 := xn.2.1
          have yc1 := yn.1
          have yc2 := yn.2.1
          unfold maxLen at xc2 yc2
          have i0 : (0 : Int) ≤ (i : Int) := by omega
          have i1 : (i : Int) < (N : Int) := by omega
          have j0 : (0 : Int) ≤ (j : Int) := by omega
          have j1 : (j : Int) < (N : Int) := by omega
          by_cases hx1 : x.names.length = 1
          rotate_left
          · have HS := Lib.hid (show sameN x y = false by simp [sameN, hx1])
            have n1 : ((x.names.length : Int) == 1) = false := by simp; omega
            clear hx1 xn yn
            generalize x.names.length = nx at x3 n1 xc1
            go_wp2_with fail
            go_quiet (fail)
            go_wp2
            go_roundg (j - (i + 1))
            case measure => rw [HGi'.out.1]; omega
            case rel => exact ⟨i + 1, rfl, by omega, by go_num, by rw [HT.out, HS.out], below_drewN HGi'.out.2.2 _⟩
          by_cases hy1 : y.names.length = 1
          rotate_left
          · have HS := Lib.hid (show sameN x y = false by simp [sameN, hy1])
            have n1 : ((y.names.length : Int) == 1) = false := by simp; omega
            rw [hx1] at x3
            clear hx1 hy1 xn yn xc1
            generalize y.names.length = ny at y3 n1 yc1
            go_wp2_with fail
            go_quiet (fail)
            go_wp2
            go_roundg (j - (i + 1))
            case measure => rw [HGi'.out.1]; omega
            case rel => exact ⟨i + 1, rfl, by omega, by go_num, by rw [HT.out, HS.out], below_drewN HGi'.out.2.2 _⟩
          have HS := Lib.hid (show sameN x y = ((nameOf x).toList == (nameOf y).toList) by simp [sameN, hx1, hy1])
          obtain ⟨xb, xo, ex, hxb, cx⟩ := name_cell xn hx1
          obtain ⟨yb, yo, ey, hyb, cy⟩ := name_cell yn hy1
          rw [hx1, ex] at x3
          rw [hy1, ey] at y3
          rw [hx1] at xc1
          rw [hy1] at yc1
          change wr.cell? ⟨xb, xo, none⟩ = some (.string (nameOf x)) at cx
          change wr.cell? ⟨yb, yo, none⟩ = some (.string (nameOf y)) at cy
          clear xn yn hx1 hy1 ex ey
          generalize nameOf x = sx at cx HS
          generalize nameOf y = sy at cy HS
          cases heq : sx.toList == sy.toList with
          | true =>
            obtain rfl : E = true := HYes.out j hlt (by rw [HAt.out]; exact HY.out (by rw [HS.out, heq]))
            go_wp2_with fail
            go_quiet (fail)
            go_wp2
            go_ret
            exact ⟨rfl, below_drewN HGi'.out.2.2 _⟩
          | false =>
            go_wp2_with fail
            go_quiet (fail)
            go_wp2
            go_roundg (j - (i + 1))
            case measure => rw [HGi'.out.1]; omega
            case rel => exact ⟨i + 1, rfl, by omega, by go_num, by rw [HT.out, HS.out, heq], below_drewN HGi'.out.2.2 _⟩
        · obtain rfl : i = j := by omega
          have HR : Hid (∀ q, q < i + 1 → clashAt decls q = false) := fun q hq => by
            by_cases h : q = i
            · subst h; rw [HAt.out]; exact HGi'.out.2.1
            · exact HG'.out.2.1 q (by omega)
          go_wp2
          go_roundg (N - (i + 1))
          case measure => rw [HG'.out.1]; omega
          case rel => exact ⟨i + 1, rfl, by omega, by go_num, HR.out, HGi'.out.2.2⟩
    · obtain rfl : E = false := HNo.out fun q hq => HG'.out.2.1 q (by omega)
      have hjn : N ≤ j := by omega
      go_wp2
      go_ret
      exact ⟨rfl, HG'.out.2.2⟩
theorem hasN_snoc (met : List ByteArray) (x y : ByteArray) : hasN (met ++ [x]) y = (hasN met y || (x.toList == y.toList)) := by
  simp [hasN, List.any_append, ByteArray.toList_eq]
theorem sameN_iff (x y : Dc) : sameN x y = true ↔ x.names.length = 1 ∧ y.names.length = 1 ∧ ((nameOf x).toList == (nameOf y).toList) = true := by
  unfold sameN
  rw [Bool.and_eq_true, Bool.and_eq_true, decide_eq_true_iff, decide_eq_true_iff, and_assoc]
theorem twB_iff : ∀ (l : List Dc) (met : List ByteArray), twB met l = true ↔ (∃ x ∈ l, x.names.length = 1 ∧ hasN met (nameOf x) = true) ∨ ∃ (i k : Nat) (x y : Dc), k < i ∧ l[i]? = some x ∧ l[k]? = some y ∧ sameN x y = true
  | [], met => by simp [twB]
  | x :: r, met => by
    rw [twB]
    by_cases h1 : x.names.length = 1
    · rw [if_pos h1]
      by_cases hm : hasN met (nameOf x) = true
      · rw [if_pos hm]
        simp only [true_iff]
        exact .inl ⟨x, List.mem_cons_self .., h1, hm⟩
      · rw [if_neg hm, twB_iff r]
        constructor
        · rintro (⟨y, hy, hy1, hh⟩ | ⟨i, k, a, c, hk, ha, hc, hh⟩)
          · rw [hasN_snoc, Bool.or_eq_true] at hh
            rcases hh with hh | hh
            · exact .inl ⟨y, List.mem_cons_of_mem _ hy, hy1, hh⟩
            · obtain ⟨q, hq⟩ := List.mem_iff_getElem?.1 hy
              exact .inr ⟨q + 1, 0, y, x, by omega, by simpa using hq, rfl, (sameN_iff _ _).2 ⟨hy1, h1, by rw [Bool.beq_comm]; exact hh⟩⟩
          · exact .inr ⟨i + 1, k + 1, a, c, by omega, by simpa using ha, by simpa using hc, hh⟩
        · rintro (⟨y, hy, hy1, hh⟩ | ⟨i, k, a, c, hk, ha, hc, hh⟩)
          · rcases List.mem_cons.1 hy with rfl | hy
            · exact absurd hh hm
            · exact .inl ⟨y, hy, hy1, by rw [hasN_snoc, hh]; rfl⟩
          · cases i with
            | zero => omega
            | succ i =>
              cases k with
              | zero =>
                simp only [List.getElem?_cons_zero, Option.some.injEq] at hc
                subst hc
                rw [List.getElem?_cons_succ] at ha
                obtain ⟨ha1, _, hh⟩ := (sameN_iff _ _).1 hh
                exact .inl ⟨a, List.mem_of_getElem? ha, ha1, by rw [hasN_snoc, show ((nameOf x).toList == (nameOf a).toList) = true by rw [Bool.beq_comm]; exact hh, Bool.or_true]⟩
              | succ k => exact .inr ⟨i, k, a, c, by omega, by simpa using ha, by simpa using hc, hh⟩
    · rw [if_neg h1, twB_iff r]
      constructor
      · rintro (⟨y, hy, hy1, hh⟩ | ⟨i, k, a, c, hk, ha, hc, hh⟩)
        · exact .inl ⟨y, List.mem_cons_of_mem _ hy, hy1, hh⟩
        · exact .inr ⟨i + 1, k + 1, a, c, by omega, by simpa using ha, by simpa using hc, hh⟩
      · rintro (⟨y, hy, hy1, hh⟩ | ⟨i, k, a, c, hk, ha, hc, hh⟩)
        · rcases List.mem_cons.1 hy with rfl | hy
          · exact absurd hy1 h1
          · exact .inl ⟨y, hy, hy1, hh⟩
        · cases i with
          | zero => omega
          | succ i =>
            cases k with
            | zero =>
              simp only [List.getElem?_cons_zero, Option.some.injEq] at hc
              subst hc
              exact absurd ((sameN_iff _ _).1 hh).2.1 h1
            | succ k => exact .inr ⟨i, k, a, c, by omega, by simpa using ha, by simpa using hc, hh⟩
theorem clash_tw (l : List Dc) : clashB l = twB [] l := by
  rw [Bool.eq_iff_iff, twB_iff]
  unfold clashB
  rw [List.any_eq_true]
  constructor
  · rintro ⟨i, hi, h⟩
    unfold clashAt at h
    cases hx : l[i]? with
    | none => rw [hx] at h; exact absurd h (by simp)
    | some x =>
      rw [hx] at h
      simp only at h
      rw [List.any_eq_true] at h
      obtain ⟨y, hy, hs⟩ := h
      obtain ⟨k, hk⟩ := List.mem_iff_getElem?.1 hy
      have hkl := (List.getElem?_eq_some_iff.1 hk).1
      rw [List.length_take] at hkl
      exact .inr ⟨i, k, x, y, by omega, hx, by rwa [List.getElem?_take_of_lt (by omega)] at hk, hs⟩
  · rintro (⟨x, _, _, h⟩ | ⟨i, k, x, y, hk, hx, hy, hs⟩)
    · exact absurd h (by simp [hasN])
    · refine ⟨i, List.mem_range.2 (List.getElem?_eq_some_iff.1 hx).1, ?_⟩
      unfold clashAt
      rw [hx]
      simp only
      rw [List.any_eq_true]
      exact ⟨y, List.mem_iff_getElem?.2 ⟨k, by rw [List.getElem?_take_of_lt hk]; exact hy⟩, hs⟩
end Go.Proofs.YtacjjkbkhpdhnaaGreatDoor
