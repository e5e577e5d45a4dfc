/- compile.reader: block -/
import Derived.Test.YtlpipoihinceiaaGreatDoorZhe
import Derived.Test.YtlpipoihinceiaaGreatDoorGkt
import Derived.Deep.RegionLaw
import Derived.Deep.DrawnRows
import Derived.Deep.AppendLies
import Derived.Test.YtlpipoihinceiaaGreatDoorMdw
namespace Go.Proofs.YtlpipoihinceiaaGreatDoor
open Go.RowKit Go.Proofs Go.Shelf

attribute [local go_sem ↓] Go.wp_at_zero Go.wp_at_succ

/-- In the midst of reading a block. -/
structure RB (rb B : Nat) (w0 : World) (cap : Int) (par : Bool) (v : Value) (ins : List Ins) (l : List UInt8) (X : World) : Prop where
  rd : RdAt rb l X
  rs : X.heap[B]? = some (.cells #[.int .i64 0, .bool false, .slice none 0 0] 133 (0, 0))
  bk : X.heap[B + 1]? = some (.cells #[.int .i64 cap, .bool par, v] 133 (0, 0))
  own : InsAt B X v ins
  kp : Keeps (fun k => k ≠ rb) w0 X
  lt : rb < B
  hb : B = w0.heap.size
theorem RB.drew {rb B : Nat} {w0 : World} {cap : Int} {par : Bool} {v : Value} {ins : List Ins} {l : List UInt8} {X : World} (h : RB rb B w0 cap par v ins l X) : RB rb B w0 cap par v ins l X.drew :=
  ⟨h.rd, h.rs, h.bk, h.own, h.kp.drew, h.lt, h.hb⟩
theorem RB.set {rb B : Nat} {w0 : World} {cap : Int} {par : Bool} {v : Value} {ins : List Ins} {l : List UInt8} {X : World} (h : RB rb B w0 cap par v ins l X) (k : Nat) :
    RB rb B w0 cap par v ins (l.drop k) (X.setCell ⟨rb, 0, none⟩ (.string ⟨(l.drop k).toArray⟩)) :=
  ⟨h.rd.set k, (Below.heap_setCell _ _ _ _ (by have := h.lt; simp; omega)).trans h.rs, (Below.heap_setCell _ _ _ _ (by have := h.lt; simp; omega)).trans h.bk,
    h.own.keep fun k cur fz hB _ => Below.heap_setCell _ _ _ _ (by have := h.lt; simp; omega), h.kp.setCell (by simp) _, h.lt, h.hb⟩
theorem RB.num {rb B : Nat} {w0 : World} {cap : Int} {par : Bool} {v : Value} {ins : List Ins} {l : List UInt8} {X : World} (h : RB rb B w0 cap par v ins l X) {n : Nat} {r : List UInt8} (hg : getN l = some (n, r)) :
    Calls Tryz.prog 145 #[.pointer (some ⟨rb, 0, none⟩)] X fun e Y => e = .returned (.int .i64 (n : Int)) ∧ RB rb B w0 cap par v ins r Y := by
  refine (rNumber_ok rb l n r X h.rd hg).mono ?_
  rintro e Y ⟨rfl, rfl⟩
  obtain ⟨k, _, _, _, rfl⟩ := getN_suffix hg
  exact ⟨rfl, h.set k⟩
theorem RB.sgn {rb B : Nat} {w0 : World} {cap : Int} {par : Bool} {v : Value} {ins : List Ins} {l : List UInt8} {X : World} (h : RB rb B w0 cap par v ins l X) {n : Int} {r : List UInt8} (hg : getS l = some (n, r)) :
    Calls Tryz.prog 193 #[.pointer (some ⟨rb, 0, none⟩)] X fun e Y => e = .returned (.int .i64 n) ∧ RB rb B w0 cap par v ins r Y := by
  refine (rSigned_ok rb l n r X h.rd hg).mono ?_
  rintro e Y ⟨rfl, rfl⟩
  obtain ⟨m, hm, _⟩ := getS_N hg
  obtain ⟨k, _, _, _, rfl⟩ := getN_suffix hm
  exact ⟨rfl, h.set k⟩
theorem getT_suffix {l t r : List UInt8} (h : getT l = some (t, r)) : ∃ k, r = l.drop k := by
  unfold getT at h
  split at h
  · rename_i p hp
    obtain ⟨n, q⟩ := p
    split at h
    · simp only [Option.some.injEq, Prod.mk.injEq] at h
      obtain ⟨k, _, _, _, hk⟩ := getN_suffix hp
      exact ⟨k + n, by rw [← h.2, hk, List.drop_drop]⟩
    · simp at h
  · simp at h
theorem RB.txt {rb B : Nat} {w0 : World} {cap : Int} {par : Bool} {v : Value} {ins : List Ins} {l : List UInt8} {X : World} (h : RB rb B w0 cap par v ins l X) {t r : List UInt8} (hg : getT l = some (t, r)) :
    Calls Tryz.prog 144 #[.pointer (some ⟨rb, 0, none⟩)] X fun e Y => e = .returned (.string ⟨t.toArray⟩) ∧ RB rb B w0 cap par v ins r Y := by
  refine (rText_ok rb l t r X h.rd hg).mono ?_
  rintro e Y ⟨rfl, rfl⟩
  obtain ⟨k, rfl⟩ := getT_suffix hg
  exact ⟨rfl, h.set k⟩
theorem RB.num_no {rb B : Nat} {w0 : World} {cap : Int} {par : Bool} {v : Value} {ins : List Ins} {l : List UInt8} {X : World} (h : RB rb B w0 cap par v ins l X) (hg : getN l = none) :
    Calls Tryz.prog 145 #[.pointer (some ⟨rb, 0, none⟩)] X fun e Y => e = .panicked gaveUp ∧ Keeps (fun k => k ≠ rb) w0 Y :=
  (rNumber_no rb l X h.rd hg).mono fun _ _ ⟨h1, h2⟩ => ⟨h1, by rw [← h2]; exact h.kp⟩
theorem RB.sgn_no {rb B : Nat} {w0 : World} {cap : Int} {par : Bool} {v : Value} {ins : List Ins} {l : List UInt8} {X : World} (h : RB rb B w0 cap par v ins l X) (hg : getS l = none) :
    Calls Tryz.prog 193 #[.pointer (some ⟨rb, 0, none⟩)] X fun e Y => e = .panicked gaveUp ∧ Keeps (fun k => k ≠ rb) w0 Y :=
  (rSigned_no rb l X h.rd hg).mono fun _ _ ⟨h1, h2⟩ => ⟨h1, h.kp.trans h2⟩
theorem RB.txt_no {rb B : Nat} {w0 : World} {cap : Int} {par : Bool} {v : Value} {ins : List Ins} {l : List UInt8} {X : World} (h : RB rb B w0 cap par v ins l X) (hg : getT l = none) :
    Calls Tryz.prog 144 #[.pointer (some ⟨rb, 0, none⟩)] X fun e Y => e = .panicked gaveUp ∧ Keeps (fun k => k ≠ rb) w0 Y :=
  (rText_no rb l X h.rd hg).mono fun _ _ ⟨h1, h2⟩ => ⟨h1, by rw [← h2]; exact h.kp⟩
theorem RB.setPar {rb B : Nat} {w0 : World} {cap : Int} {par : Bool} {v : Value} {ins : List Ins} {l : List UInt8} {X : World} (h : RB rb B w0 cap par v ins l X) (p : Bool) :
    RB rb B w0 cap p v ins l (X.setCell ⟨B + 1, 1, none⟩ (.bool p)) := by
  have hlt := h.lt
  refine ⟨⟨(Below.heap_setCell _ _ _ _ (by simp; omega)).trans h.rd.1, h.rd.2⟩, (Below.heap_setCell _ _ _ _ (by simp)).trans h.rs, ?_, h.own.keep fun k cur fz hk hc => Below.heap_setCell _ _ _ _ fun e => ?_, ⟨h.kp.os, h.kp.tape, h.kp.output, by have := h.kp.size; simpa [World.setCell] using this, fun k hk hs => (Below.heap_setCell _ _ _ _ (by have := h.hb; simp; omega)).trans (h.kp.block k hk hs)⟩, h.lt, h.hb⟩
  · simp [World.setCell, Array.getElem?_modify, h.bk]
  · simp only at e
    rw [e, h.bk] at hc
    simp only [Option.some.injEq, Obj.cells.injEq] at hc
    exact absurd hc.2.1 (by decide)
theorem RB.at2 {rb B : Nat} {w0 : World} {cap : Int} {par : Bool} {v : Value} {ins : List Ins} {l : List UInt8} {X : World} (h : RB rb B w0 cap par v ins l X) : X.cell? ⟨B + 1, 2, none⟩ = some v :=
  cell_of_row X (B + 1) 2 _ _ (0, 0) h.bk
theorem RB.at2a {rb B : Nat} {w0 : World} {cap : Int} {par : Bool} {v : Value} {ins : List Ins} {l : List UInt8} {X : World} (h : RB rb B w0 cap par v ins l X) (o : Obj) : (X.alloc o).cell? ⟨B + 1, 2, none⟩ = some v :=
  (((Below.refl X.heap.size X).alloc (Nat.le_refl _) o).cell (p := ⟨B + 1, 2, none⟩) (lt_of_block h.bk)).trans h.at2
theorem RB.sz {rb B : Nat} {w0 : World} {cap : Int} {par : Bool} {v : Value} {ins : List Ins} {l : List UInt8} {X : World} (h : RB rb B w0 cap par v ins l X) (o : Obj) : B ≤ (X.alloc o).heap.size := by
  have := lt_of_block h.bk
  simp
  omega
theorem RB.row {rb B : Nat} {w0 : World} {cap : Int} {par : Bool} {v : Value} {ins : List Ins} {l : List UInt8} {X : World} (h : RB rb B w0 cap par v ins l X) {j : Nat} (hj : ins.length = j) : X.ownsRow B 130 4 v j (insC ins) := by
  have := h.own
  unfold InsAt at this
  rwa [hj] at this
theorem RB.bkx {rb B : Nat} {w0 : World} {cap : Int} {par : Bool} {v : Value} {ins : List Ins} {l : List UInt8} {X : World} (h : RB rb B w0 cap par v ins l X) (o : Obj) {w7 : World} (hg : (X.alloc o).grownBy w7 v.ownBlock) :
    w7.heap[B + 1]? = some (.cells #[.int .i64 cap, .bool par, v] 133 (0, 0)) := by
  have hlt := lt_of_block h.bk
  exact (hg.block (B + 1) (by simp; omega) (fun e => own_ne h.own h.bk (by decide) e.symm)).trans ((Below.heap_alloc _ _ _ hlt).trans h.bk)
theorem RB.push {rb B : Nat} {w0 : World} {cap : Int} {par : Bool} {v : Value} {ins : List Ins} {l : List UInt8} {X : World} (h : RB rb B w0 cap par v ins l X) {o : Obj} {w7 : World} (hg : (X.alloc o).grownBy w7 v.ownBlock)
    {gg j dc : Nat} {x : Ins} (hj : ins.length = j) (hown : w7.ownsRow B 130 4 (.slice (some ⟨gg, 0, none⟩) (j + 1) dc) (j + 1) (insC ins ++ x.cells)) :
    RB rb B w0 cap par (.slice (some ⟨gg, 0, none⟩) (j + 1) dc) (ins ++ [x]) l (w7.setCell ⟨B + 1, 2, none⟩ (.slice (some ⟨gg, 0, none⟩) (j + 1) dc)) := by
  have hlt := lt_of_block h.bk
  have hrl := h.lt
  have hkb : ∀ k, k < X.heap.size → some k ≠ v.ownBlock → k ≠ B + 1 → (w7.setCell ⟨B + 1, 2, none⟩ (.slice (some ⟨gg, 0, none⟩) (j + 1) dc)).heap[k]? = X.heap[k]? := fun k hk hv hb =>
    (Below.heap_setCell _ _ _ _ hb).trans ((hg.block k (by simp; omega) hv).trans (Below.heap_alloc _ _ _ hk))
  have hvB : ∀ k, k < B → some k ≠ v.ownBlock := fun k hk e => by have := (World.ownsRow.lt h.own k e.symm).1; omega
  refine ⟨⟨(hkb rb (by omega) (hvB rb hrl) (by omega)).trans h.rd.1, h.rd.2⟩, (hkb B (by omega) (fun e => own_ne h.own h.rs (by decide) e.symm) (by omega)).trans h.rs, ?_, ?_, ⟨hg.os.trans h.kp.os, hg.tape.trans h.kp.tape, hg.output.trans h.kp.output, ?_, fun k hk hs => (hkb k (by have := h.kp.size; omega) (hvB k (by have := h.hb; omega)) (by have := h.hb; omega)).trans (h.kp.block k hk hs)⟩, hrl, h.hb⟩
  · have hb := h.bkx o hg
    simp [World.setCell, Array.getElem?_modify, hb]
  · unfold InsAt
    rw [List.length_append, insC_append, hj]
    refine ownsRow_setCell_other (by simpa [insC] using hown) ?_ _
    exact own_ne hown (h.bkx o hg) (by decide)
  · have h1 := hg.size
    have h2 := h.kp.size
    simp [World.setCell] at h1 ⊢
    omega

/-- A way through a region that ends at a panic: nothing follows. -/
theorem way_shut {P : Program} {p : Prop} (h : p) (_ : wpAny P .any #[] (fun _ _ _ => True) 0 #[] { tmps := #[], defers := [] } default) : p := h

/-- What reader.block answers. -/
def BlkR (rb : Nat) (l : List UInt8) (w : World) (e : Ending) (w' : World) : Prop := match getB l with
  | some p => ∃ v, e = .returned (.agg #[.int .i64 p.1.cap, .bool p.1.par, v]) ∧ InsAt w.heap.size w' v p.1.l ∧ RdAt rb p.2 w' ∧ Keeps (fun k => k ≠ rb) w w'
  | none => GaveUp rb w e w'
theorem BlkR.no {rb : Nat} {l : List UInt8} {w w' : World} (h : getB l = none) (hk : Keeps (fun k => k ≠ rb) w w') : BlkR rb l w (.panicked gaveUp) w' := by
  unfold BlkR
  rw [h]
  exact ⟨rfl, hk⟩

theorem tri_set {W : World} {b : Nat} {t : TypeId} {c0 c1 c2 : Value} (h : W.heap[b]? = some (.cells #[c0, c1, c2] t (0, 0))) (u0 u1 u2 : Value) :
    (((W.setCell ⟨b, 0, none⟩ u0).setCell ⟨b, 1, none⟩ u1).setCell ⟨b, 2, none⟩ u2).heap[b]? = some (.cells #[u0, u1, u2] t (0, 0)) := by
  simp [World.setCell, Array.getElem?_modify, h]
theorem tri_other {W : World} {b k : Nat} (hk : k ≠ b) (u0 u1 u2 : Value) :
    (((W.setCell ⟨b, 0, none⟩ u0).setCell ⟨b, 1, none⟩ u1).setCell ⟨b, 2, none⟩ u2).heap[k]? = W.heap[k]? :=
  (Below.heap_setCell _ _ _ _ hk).trans ((Below.heap_setCell _ _ _ _ hk).trans (Below.heap_setCell _ _ _ _ hk))
theorem BlkR.yes {rb : Nat} {l rest : List UInt8} {w X : World} {cap : Int} {par : Bool} {v : Value} {ins : List Ins} (hg : getB l = some (⟨cap, par, ins⟩, rest)) (h : RB rb w.heap.size w cap par v ins rest X) :
    BlkR rb l w (.returned (.agg #[.int .i64 cap, .bool par, v])) (((X.setCell ⟨w.heap.size, 0, none⟩ (.int .i64 cap)).setCell ⟨w.heap.size, 1, none⟩ (.bool par)).setCell ⟨w.heap.size, 2, none⟩ v) := by
  have hlt := h.lt
  unfold BlkR
  rw [hg]
  refine ⟨v, rfl, h.own.keep fun k cur fz hk hc => tri_other (fun e => ?_) _ _ _, ⟨(tri_other (by omega) _ _ _).trans h.rd.1, h.rd.2⟩, ⟨h.kp.os, h.kp.tape, h.kp.output, ?_, fun k hk hs => (tri_other (by omega) _ _ _).trans (h.kp.block k hk hs)⟩⟩
  · rw [e, h.rs] at hc
    simp only [Option.some.injEq, Obj.cells.injEq] at hc
    exact absurd hc.2.1 (by decide)
  · have := h.kp.size
    simpa [World.setCell] using this

set_option maxRecDepth 100000 in
set_option maxHeartbeats 16000000 in
theorem rBlock_any (rb : Nat) (l : List UInt8) (w : World) (h : RdAt rb l w) (hl : l.length ≤ 1000000) : Calls Tryz.prog 146 #[.pointer (some ⟨rb, 0, none⟩)] w (BlkR rb l w) := by
  have hrl : rb < w.heap.size := lt_of_block h.1
  obtain ⟨W0, hW0⟩ : ∃ W0, w.alloc (.cells #[.int .i64 0, .bool false, .slice none 0 0] 133) = W0 := ⟨_, rfl⟩
  have hB0 : Below w.heap.size w W0 := by rw [← hW0]; exact (Below.refl _ _).alloc (Nat.le_refl _) _
  have hz0 : w.heap.size + 1 = W0.heap.size := by rw [← hW0]; simp
  have hx0 : W0.heap[w.heap.size]? = some (.cells #[.int .i64 0, .bool false, .slice none 0 0] 133 (0, 0)) := by rw [← hW0]; exact heap_alloc_new w _
  have hrd0 : RdAt rb l W0 := ⟨(hB0.block rb hrl).trans h.1, h.2⟩
  have hk0 : Keeps (fun k => k ≠ rb) w W0 := Keeps.whole hB0 _
  have HB0 := Lib.hid (And.intro hB0 (And.intro hz0 (And.intro hx0 (And.intro hrd0 (And.intro hk0 hrl)))))
  have HL := Lib.hid hl
  clear h hB0 hz0 hx0 hk0 hrl hl
  cases hc : getN l with
  | none =>
    have HN := Lib.hid (rNumber_no rb l W0 hrd0 hc)
    have HG := Lib.hid (show getB l = none by rw [getB, hc])
    clear hc hrd0
    go_enter Tryz.func146, Tryz.ntmps146
    go_wp2_with fail
    refine HN.out.mono ?_
    rintro e w1 ⟨rfl, rfl⟩
    go_wp2
    exact ⟨rfl, BlkR.no HG.out HB0.out.2.2.2.2.1⟩
  | some pc =>
  obtain ⟨cap, l1⟩ := pc
  have HN := Lib.hid (rNumber_ok rb l cap l1 W0 hrd0 hc)
  have HCL := Lib.hid (getN_len hc)
  obtain ⟨k1, _, _, _, hl1⟩ := getN_suffix hc
  have HG1 := Lib.hid hc
  obtain ⟨X1, hX1⟩ : ∃ X1, (W0.setCell ⟨rb, 0, none⟩ (.string ⟨l1.toArray⟩)).alloc (.cells #[.int .i64 (cap : Int), .bool false, .slice none 0 0] 133) = X1 := ⟨_, rfl⟩
  have hrb1 : RB rb w.heap.size w cap false (.slice none 0 0) [] l1 X1 := by
    have hz1 : (W0.setCell ⟨rb, 0, none⟩ (.string ⟨l1.toArray⟩)).heap.size = w.heap.size + 1 := by simp [World.setCell, HB0.out.2.1]
    have hrl := HB0.out.2.2.2.2.2
    rw [← hX1]
    refine ⟨⟨(Below.heap_alloc _ _ _ (by omega)).trans ?_, ?_⟩, (Below.heap_alloc _ _ _ (by omega)).trans ((Below.heap_setCell _ _ _ _ (by simp; omega)).trans HB0.out.2.2.1), ?_, World.ownsRow_nil _ _ _ _, ?_, hrl, rfl⟩
    · rw [hl1]
      exact (HB0.out.2.2.2.1.set k1).1
    · have := HB0.out.2.2.2.1.2
      have := HCL.out
      omega
    · have := heap_alloc_new (W0.setCell ⟨rb, 0, none⟩ (.string ⟨l1.toArray⟩)) (.cells #[.int .i64 (cap : Int), .bool false, .slice none 0 0] 133)
      rwa [hz1] at this
    · exact (HB0.out.2.2.2.2.1.setCell (by simp) _).alloc _
  have hz1 : W0.heap.size = w.heap.size + 1 := HB0.out.2.1.symm
  have HZ1 := Lib.hid hz1
  have HR1 := Lib.hid hrb1
  have HX1 := Lib.hid hX1
  clear hc hrd0 hl1 hrb1 hX1
  cases hp : getN l1 with
  | none =>
    have HN2 := Lib.hid (HR1.out.num_no hp)
    have HG := Lib.hid (show getB l = none by rw [getB, HG1.out]; simp only [hp])
    clear hp
    go_enter Tryz.func146, Tryz.ntmps146
    go_wp2_with fail
    refine HN.out.mono ?_
    rintro e w1 ⟨rfl, rfl⟩
    go_wp2_with fail
    rw [HX1.out]
    refine HN2.out.mono ?_
    rintro e w1 ⟨rfl, hk⟩
    have HK := Lib.hid hk
    clear hk
    go_wp2
    exact ⟨rfl, BlkR.no HG.out HK.out⟩
  | some pp =>
  obtain ⟨pn, l2⟩ := pp
  have HN2 := Lib.hid (HR1.out.num hp)
  have HPL := Lib.hid (getN_len hp)
  have HG2 := Lib.hid hp
  clear hp
  by_cases h1p : 1 < pn
  · have HG := Lib.hid (show getB l = none by rw [getB, HG1.out]; simp only [HG2.out]; rw [if_pos h1p])
    have t1 : (1 : Int) < (pn : Int) := by omega
    go_enter Tryz.func146, Tryz.ntmps146
    go_wp2_with fail
    refine HN.out.mono ?_
    rintro e w1 ⟨rfl, rfl⟩
    go_wp2_with fail
    rw [HX1.out]
    refine HN2.out.mono ?_
    rintro e w1 ⟨rfl, hr⟩
    have HK := Lib.hid hr.kp
    clear hr
    go_wp2
    exact ⟨rfl, BlkR.no HG.out HK.out⟩
  have t1 : ¬ (1 : Int) < (pn : Int) := by omega
  have hpn : pn = 0 ∨ pn = 1 := by omega
  have HPN := Lib.hid hpn
  clear hpn h1p
  go_enter Tryz.func146, Tryz.ntmps146
  go_wp2_with fail
  refine HN.out.mono ?_
  rintro e w1 ⟨rfl, rfl⟩
  go_wp2_with fail
  rw [HX1.out]
  refine HN2.out.mono ?_
  rintro e X2 ⟨rfl, hr2⟩
  have HR2 := Lib.hid hr2
  clear hr2
  go_upto_region 5 with fail
  go_cut [] (fun wx => RB rb w.heap.size w cap (pn == 1) (.slice none 0 0) [] l2 wx)
  case first =>
    have c1 := cell_of_row X2 (w.heap.size + 1) 1 _ _ (0, 0) HR2.out.bk
    have c2 := frozen_of_row X2 (w.heap.size + 1) 1 _ _ HR2.out.bk
    simp at c1
    have HQ0 := Lib.hid (HR2.out.setPar false)
    have HQ1 := Lib.hid (HR2.out.setPar true)
    rcases HPN.out with rfl | rfl
    · go_wp2
      go_meet
      exact HQ0.out
    · go_wp2
      go_meet
      exact HQ1.out
  case rest =>
  clear t1
  have HR3 := Lib.hid hcut
  clear hcut
  have HPF := Lib.hid (show ¬ 1 < pn by rcases HPN.out with rfl | rfl <;> omega)
  obtain ⟨par, HPA⟩ : ∃ q, Hid ((pn == 1) = q) := ⟨_, Lib.hid rfl⟩
  rw [HPA.out] at HR3
  cases hk : getN l2 with
  | none =>
    have HN3 := Lib.hid (HR3.out.num_no hk)
    have HG := Lib.hid (show getB l = none by rw [getB, HG1.out]; simp only [HG2.out]; rw [if_neg HPF.out]; simp only [hk])
    clear hk
    go_wp2_with fail
    refine HN3.out.mono ?_
    rintro e w1 ⟨rfl, hr⟩
    have HK := Lib.hid hr
    clear hr
    go_wp2
    exact ⟨rfl, BlkR.no HG.out HK.out⟩
  | some pk =>
  obtain ⟨N, l3⟩ := pk
  have HN3 := Lib.hid (HR3.out.num hk)
  have HKL := Lib.hid (getN_len hk)
  have HG3 := Lib.hid (show getB l = match rep getI N l3 with | some i => some (⟨(cap : Int), par, i.1⟩, i.2) | none => none by
    rw [getB, HG1.out]
    simp only [HG2.out]
    rw [if_neg HPF.out]
    simp only [hk, HPA.out]
    cases rep getI N l3 <;> rfl)
  have hNb := (getN_of hk).2
  clear hk
  go_wp2_with fail
  refine HN3.out.mono ?_
  rintro e w4 ⟨rfl, hr4⟩
  have HR4 := Lib.hid hr4
  clear hr4
  go_wp2_with fail
  go_loopg [19] N (fun g ct wr => ∃ (j : Nat) (A : Option Addr) (c : Nat) (ins : List Ins) (rest : List UInt8), g = N - j ∧ j ≤ N ∧ ct = .int .i64 j ∧ RB rb w.heap.size w cap par (.slice A j c) ins rest wr ∧ Hid (Mid getI N l3 j ins rest) ∧ ins.length = j ∧ j + rest.length ≤ 1000000)
  case atStart => exact ⟨0, none, 0, [], l3, rfl, by omega, rfl, HR4.out, Lib.hid (Mid.start _ _ _), rfl, by have := HL.out; have := HCL.out; have := HPL.out; have := HKL.out; omega⟩
  case round =>
    obtain ⟨j, A, c, ins, rest, HG, hj, rfl, hRB, HM, hil, hjr⟩ := hrel
    have HG' := Lib.hid HG
    have HIL := Lib.hid hil
    clear HG hil
    by_cases hlt : j < N
    · have i1 : (j : Int) < (N : Int) := by omega
      have HRB := Lib.hid hRB
      have hrd := hRB.drew
      have b2 := cell_of_row wr (w.heap.size + 1) 2 _ _ (0, 0) hRB.bk
      simp at b2
      clear hRB
      have hrb := HRB.out
      cases hq1 : getN rest with
      | none =>
        have HGN := Lib.hid (show getB l = none by rw [HG3.out, HM.out.no hlt (by rw [getI, hq1])])
        have HC1 := Lib.hid (fun X (hX : RB rb w.heap.size w cap par (.slice A j c) ins rest X) => hX.num_no hq1)
        clear hq1
        go_upto_region 8 with fail
        go_region_law (first
          | (go_simp; go_at_call 145; (with_reducible refine Calls.mono (HC1.out _ ?_) ?_); (focus ((repeat (first | with_reducible exact hrb | with_reducible refine RB.drew ?_)); done)); rintro e w6 ⟨rfl, hk6⟩; refine way_shut (P := Tryz.prog) ⟨rfl, BlkR.no HGN.out hk6⟩ ?_))
        all_goals exact trivial
      | some p1 =>
      obtain ⟨op, r1⟩ := p1
      have HC1 := Lib.hid (fun X (hX : RB rb w.heap.size w cap par (.slice A j c) ins rest X) => hX.num hq1)
      have HQ1 := Lib.hid hq1
      clear hq1
      cases hq2 : getS r1 with
      | none =>
        have HGN := Lib.hid (show getB l = none by rw [HG3.out, HM.out.no hlt (by rw [getI, HQ1.out]; simp only [hq2])])
        have HC2 := Lib.hid (fun X (hX : RB rb w.heap.size w cap par (.slice A j c) ins r1 X) => hX.sgn_no hq2)
        clear hq2
        go_upto_region 8 with fail
        go_region_law (first
          | (go_simp; go_at_call 145; (with_reducible refine Calls.mono (HC1.out _ ?_) ?_); (focus ((repeat (first | with_reducible exact hrb | with_reducible refine RB.drew ?_)); done)); rintro e w6 ⟨rfl, hrb⟩; have b2 := hrb.at2)
          | (go_simp; go_at_call 193; (with_reducible refine Calls.mono (HC2.out _ ?_) ?_); (focus ((repeat (first | with_reducible exact hrb | with_reducible refine RB.drew ?_)); done)); rintro e w6 ⟨rfl, hk6⟩; refine way_shut (P := Tryz.prog) ⟨rfl, BlkR.no HGN.out hk6⟩ ?_))
        all_goals exact trivial
      | some p2 =>
      obtain ⟨sa, r2⟩ := p2
      have HC2 := Lib.hid (fun X (hX : RB rb w.heap.size w cap par (.slice A j c) ins r1 X) => hX.sgn hq2)
      have HQ2 := Lib.hid hq2
      clear hq2
      cases hq3 : getN r2 with
      | none =>
        have HGN := Lib.hid (show getB l = none by rw [HG3.out, HM.out.no hlt (by rw [getI, HQ1.out]; simp only [HQ2.out]; simp only [hq3])])
        have HC3 := Lib.hid (fun X (hX : RB rb w.heap.size w cap par (.slice A j c) ins r2 X) => hX.num_no hq3)
        clear hq3
        go_upto_region 8 with fail
        go_region_law (first
          | (go_simp; go_at_call 145; (with_reducible refine Calls.mono (HC1.out _ ?_) ?_); (focus ((repeat (first | with_reducible exact hrb | with_reducible refine RB.drew ?_)); done)); rintro e w6 ⟨rfl, hrb⟩; have b2 := hrb.at2)
          | (go_simp; go_at_call 193; (with_reducible refine Calls.mono (HC2.out _ ?_) ?_); (focus ((repeat (first | with_reducible exact hrb | with_reducible refine RB.drew ?_)); done)); rintro e w6 ⟨rfl, hrb⟩; have b2 := hrb.at2)
          | (go_simp; go_at_call 145; (with_reducible refine Calls.mono (HC3.out _ ?_) ?_); (focus ((repeat (first | with_reducible exact hrb | with_reducible refine RB.drew ?_)); done)); rintro e w6 ⟨rfl, hk6⟩; refine way_shut (P := Tryz.prog) ⟨rfl, BlkR.no HGN.out hk6⟩ ?_))
        all_goals exact trivial
      | some p3 =>
      obtain ⟨xb, r3⟩ := p3
      have HC3 := Lib.hid (fun X (hX : RB rb w.heap.size w cap par (.slice A j c) ins r2 X) => hX.num hq3)
      have HQ3 := Lib.hid hq3
      clear hq3
      cases hq4 : getT r3 with
      | none =>
        have HGN := Lib.hid (show getB l = none by rw [HG3.out, HM.out.no hlt (by rw [getI, HQ1.out]; simp only [HQ2.out]; simp only [HQ3.out]; simp only [hq4])])
        have HC4 := Lib.hid (fun X (hX : RB rb w.heap.size w cap par (.slice A j c) ins r3 X) => hX.txt_no hq4)
        clear hq4
        go_upto_region 8 with fail
        go_region_law (first
          | (go_simp; go_at_call 145; (with_reducible refine Calls.mono (HC1.out _ ?_) ?_); (focus ((repeat (first | with_reducible exact hrb | with_reducible refine RB.drew ?_)); done)); rintro e w6 ⟨rfl, hrb⟩; have b2 := hrb.at2)
          | (go_simp; go_at_call 193; (with_reducible refine Calls.mono (HC2.out _ ?_) ?_); (focus ((repeat (first | with_reducible exact hrb | with_reducible refine RB.drew ?_)); done)); rintro e w6 ⟨rfl, hrb⟩; have b2 := hrb.at2)
          | (go_simp; go_at_call 145; (with_reducible refine Calls.mono (HC3.out _ ?_) ?_); (focus ((repeat (first | with_reducible exact hrb | with_reducible refine RB.drew ?_)); done)); rintro e w6 ⟨rfl, hrb⟩; have b2 := hrb.at2)
          | (go_simp; go_at_call 144; (with_reducible refine Calls.mono (HC4.out _ ?_) ?_); (focus ((repeat (first | with_reducible exact hrb | with_reducible refine RB.drew ?_)); done)); rintro e w6 ⟨rfl, hk6⟩; refine way_shut (P := Tryz.prog) ⟨rfl, BlkR.no HGN.out hk6⟩ ?_))
        all_goals exact trivial
      | some p4 =>
      obtain ⟨nm, r4⟩ := p4
      have HC4 := Lib.hid (fun X (hX : RB rb w.heap.size w cap par (.slice A j c) ins r3 X) => hX.txt hq4)
      have HQ4 := Lib.hid hq4
      clear hq4
      obtain ⟨i0, hi, hz0, hz1, hz2⟩ := info_parts Tryz.infoInstr
      have HMS := Lib.hid (HM.out.step hlt (x := ⟨(op : Int), sa, (xb : Int), ⟨nm.toArray⟩⟩) (r := r4) (by rw [getI, HQ1.out]; simp only [HQ2.out]; simp only [HQ3.out]; simp only [HQ4.out]))
      have HLL := Lib.hid (show r4.length + 1 ≤ rest.length by have h1 := getN_len HQ1.out; have h2 := getS_len HQ2.out; have h3 := getN_len HQ3.out; have h4 := getT_len HQ4.out; omega)
      go_upto_region 8 with fail
      go_region_law (first
        | (go_simp; go_at_call 145; (with_reducible refine Calls.mono (HC1.out _ ?_) ?_); (focus ((repeat (first | with_reducible exact hrb | with_reducible refine RB.drew ?_)); done)); rintro e w6 ⟨rfl, hrb⟩; have b2 := hrb.at2)
        | (go_simp; go_at_call 193; (with_reducible refine Calls.mono (HC2.out _ ?_) ?_); (focus ((repeat (first | with_reducible exact hrb | with_reducible refine RB.drew ?_)); done)); rintro e w6 ⟨rfl, hrb⟩; have b2 := hrb.at2)
        | (go_simp; go_at_call 145; (with_reducible refine Calls.mono (HC3.out _ ?_) ?_); (focus ((repeat (first | with_reducible exact hrb | with_reducible refine RB.drew ?_)); done)); rintro e w6 ⟨rfl, hrb⟩; have b2 := hrb.at2)
        | (go_simp; go_at_call 144; (with_reducible refine Calls.mono (HC4.out _ ?_) ?_); (focus ((repeat (first | with_reducible exact hrb | with_reducible refine RB.drew ?_)); done)); rintro e w6 ⟨rfl, hrb⟩; have b2 := hrb.at2; have b3 := hrb.at2a (.cells #[.int .i64 (op : Int), .int .i64 sa, .int .i64 (xb : Int), .string ⟨nm.toArray⟩] 130); have HRW := Lib.hid hrb; have tokA : True := trivial)
        | (have _t := tokA; refine step_append_lies _ rfl (.tmp 22) (.tmp 32) 131 rfl w.heap.size 130 i0 _ 4 40 Tryz.underlying131 hi hz0 hz1 hz2 rfl (by omega) (.slice A j c) j (insC ins) rfl ((HRW.out.row HIL.out).alloc _) ⟨w6.heap.size, 0, none⟩ 1 1 [.int .i64 (op : Int), .int .i64 sa, .int .i64 (xb : Int), .string ⟨nm.toArray⟩] rfl rfl (World.news_of_block (cs := #[.int .i64 (op : Int), .int .i64 sa, .int .i64 (xb : Int), .string ⟨nm.toArray⟩]) (t := 130) (fr := (0, 0)) (heap_alloc_new _ _)) (by simp [Value.oneCell']) (by omega) (by unfold maxLen; omega) (by omega) (HRW.out.sz _) _ rfl ?_; intro gg dc w7 hown7 hgrow7 hat7 hlt7; have hcb7 := HRW.out.bkx _ hgrow7; have hc7 := cell_of_row w7 (w.heap.size + 1) 2 _ _ (0, 0) hcb7; have hf7 := frozen_of_row w7 (w.heap.size + 1) 2 _ _ hcb7))
      all_goals (
        go_wp2
        go_roundg (N - (j + 1))
        case measure => rw [HG'.out]; omega
        case rel => exact ⟨j + 1, _, _, _, r4, rfl, by omega, by go_num, HRW.out.push (x := ⟨(op : Int), sa, (xb : Int), ⟨nm.toArray⟩⟩) hgrow7 HIL.out hown7, HMS, by rw [List.length_append, HIL.out]; rfl, by have := HLL.out; omega⟩)
    · have hjN : N = j := by omega
      subst hjN
      have HGD := Lib.hid (show getB l = some (⟨(cap : Int), par, ins⟩, rest) by rw [HG3.out, HM.out.done])
      have b0 := cell_of_row wr (w.heap.size + 1) 0 _ _ (0, 0) hRB.bk
      have b1 := cell_of_row wr (w.heap.size + 1) 1 _ _ (0, 0) hRB.bk
      have b2 := cell_of_row wr (w.heap.size + 1) 2 _ _ (0, 0) hRB.bk
      have r0 := cell_of_row wr w.heap.size 0 _ _ (0, 0) hRB.rs
      have r1 := cell_of_row wr w.heap.size 1 _ _ (0, 0) hRB.rs
      have r2 := cell_of_row wr w.heap.size 2 _ _ (0, 0) hRB.rs
      have q0 := frozen_of_row wr w.heap.size 0 _ _ hRB.rs
      have q1 := frozen_of_row wr w.heap.size 1 _ _ hRB.rs
      have q2 := frozen_of_row wr w.heap.size 2 _ _ hRB.rs
      simp at b0 b1 b2 r0 r1 r2
      have HRB := Lib.hid hRB
      clear hRB
      go_wp2
      have hs := tri_set HRB.out.rs (.int .i64 (cap : Int)) (.bool par) (.slice A N c)
      have s0 := cell_of_row _ w.heap.size 0 _ _ (0, 0) hs
      have s1 := cell_of_row _ w.heap.size 1 _ _ (0, 0) hs
      have s2 := cell_of_row _ w.heap.size 2 _ _ (0, 0) hs
      have HR := BlkR.yes HGD.out HRB.out
      generalize ((wr.setCell ⟨w.heap.size, 0, none⟩ (.int .i64 (cap : Int))).setCell ⟨w.heap.size, 1, none⟩ (.bool par)).setCell ⟨w.heap.size, 2, none⟩ (.slice A N c) = W9 at s0 s1 s2 HR ⊢
      exact bodyPost_ret (v := .agg #[.int .i64 (cap : Int), .bool par, .slice A N c]) (by simp [results, Tryz.results146, go_sem, s0, s1, s2]) rfl HR
end Go.Proofs.YtlpipoihinceiaaGreatDoor
/- compile.reader: code -/
namespace Go.Proofs.YtlpipoihinceiaaGreatDoor
open Go.RowKit Go.Proofs Go.Shelf

attribute [local go_sem ↓] Go.wp_at_zero Go.wp_at_succ

theorem rep_cnt {α : Type} {g : List UInt8 → Option (α × List UInt8)} (hg : ∀ l x r, g l = some (x, r) → r.length + 1 ≤ l.length) : ∀ (k : Nat) (l : List UInt8) (xs : List α) (r : List UInt8), rep g k l = some (xs, r) → xs.length + r.length ≤ l.length
  | 0, l, xs, r, h => by
    simp only [rep, Option.some.injEq, Prod.mk.injEq] at h
    rw [← h.1, ← h.2]
    simp
  | k + 1, l, xs, r, h => by
    cases hc : g l with
    | none => rw [rep_no hc] at h; simp at h
    | some p =>
      obtain ⟨x, q⟩ := p
      rw [rep_step hc] at h
      cases hr : rep g k q with
      | none => rw [hr] at h; simp at h
      | some s =>
        rw [hr] at h
        obtain ⟨ys, r'⟩ := s
        simp only [Option.map_some, Option.some.injEq, Prod.mk.injEq] at h
        have h1 := rep_cnt hg k q ys r' hr
        have h2 := hg l x q hc
        rw [← h.1, ← h.2]
        simp only [List.length_cons]
        omega
theorem getI_len {l : List UInt8} {x : Ins} {r : List UInt8} (h : getI l = some (x, r)) : r.length + 1 ≤ l.length := by
  unfold getI at h
  split at h
  · rename_i p hp
    split at h
    · rename_i q hq
      split at h
      · rename_i s hs
        split at h
        · rename_i t ht
          simp only [Option.some.injEq, Prod.mk.injEq] at h
          have h1 := getN_len (r := p.2) (n := p.1) hp
          have h2 := getS_len (r := q.2) (v := q.1) hq
          have h3 := getN_len (r := s.2) (n := s.1) hs
          have h4 := getT_len (r := t.2) (t := t.1) ht
          rw [← h.2]
          omega
        · simp at h
      · simp at h
    · simp at h
  · simp at h
theorem getB_len {l : List UInt8} {x : Blk} {r : List UInt8} (h : getB l = some (x, r)) : x.l.length + r.length + 1 ≤ l.length := by
  unfold getB at h
  split at h
  · rename_i p hp
    split at h
    · rename_i q hq
      split at h
      · simp at h
      split at h
      · rename_i s hs
        split at h
        · rename_i t ht
          simp only [Option.some.injEq, Prod.mk.injEq] at h
          have h1 := getN_len (r := p.2) (n := p.1) hp
          have h2 := getN_len (r := q.2) (n := q.1) hq
          have h3 := getN_len (r := s.2) (n := s.1) hs
          have h4 := rep_cnt (fun _ _ _ => getI_len) s.1 s.2 t.1 t.2 ht
          rw [← h.1, ← h.2]
          simp only
          omega
        · simp at h
      · simp at h
    · simp at h
  · simp at h
theorem getD_len {l : List UInt8} {x : Int × Int × Int} {r : List UInt8} (h : getD l = some (x, r)) : r.length + 1 ≤ l.length := by
  unfold getD at h
  split at h
  · rename_i p hp
    split at h
    · rename_i q hq
      split at h
      · rename_i s hs
        simp only [Option.some.injEq, Prod.mk.injEq] at h
        have h1 := getN_len (r := p.2) (n := p.1) hp
        have h2 := getN_len (r := q.2) (n := q.1) hq
        have h3 := getN_len (r := s.2) (n := s.1) hs
        rw [← h.2]
        omega
      · simp at h
    · simp at h
  · simp at h

def cdZ : List (Int × Int × Int) → List Value
  | [] => []
  | x :: r => [.int .i64 x.1, .int .i64 x.2.1, .int .i64 x.2.2] ++ cdZ r
theorem cdZ_append (l m : List (Int × Int × Int)) : cdZ (l ++ m) = cdZ l ++ cdZ m := by
  induction l with
  | nil => rfl
  | cons x l ih => simp [cdZ, ih]
theorem row_keep {B : Nat} {e : TypeId} {size : Nat} {X Y : World} {v : Value} {n : Nat} {xs : List Value} (h : X.ownsRow B e size v n xs) (hk : ∀ (k : Nat) (cur : Array Value) (fz : Nat × Nat), B ≤ k → X.heap[k]? = some (.cells cur e fz) → Y.heap[k]? = X.heap[k]?) : Y.ownsRow B e size v n xs := by
  refine ⟨h.1, ?_⟩
  rcases h.2 with h | ⟨g, cap, cur, h1, h2, h3, h4⟩
  · exact .inl h
  · exact .inr ⟨g, cap, cur, h1, h2, (hk g _ _ h2 h3).trans h3, h4⟩
/-- In the midst of reading code. -/
structure RC (rb B : Nat) (w0 : World) (lab : ByteArray) (bv dv : Value) (BS : List Bg) (bl : List Blk) (ds : List (Int × Int × Int)) (l : List UInt8) (X : World) : Prop where
  rd : RdAt rb l X
  rs : X.heap[B]? = some (.cells #[.string ⟨#[]⟩, .slice none 0 0, .slice none 0 0] 62 (0, 0))
  ck : X.heap[B + 1]? = some (.cells #[.string lab, bv, dv] 62 (0, 0))
  bown : X.ownsRow B 133 3 bv BS.length (bgC BS)
  blks : BlksAt B X BS bl
  down : X.ownsRow B 135 3 dv ds.length (cdZ ds)
  kp : Keeps (fun k => k ≠ rb) w0 X
  lt : rb < B
  hb : B = w0.heap.size
section
variable {rb B : Nat} {w0 : World} {lab : ByteArray} {bv dv : Value} {BS : List Bg} {bl : List Blk} {ds : List (Int × Int × Int)} {l : List UInt8} {X : World}
theorem RC.drew (h : RC rb B w0 lab bv dv BS bl ds l X) : RC rb B w0 lab bv dv BS bl ds l X.drew :=
  ⟨h.rd, h.rs, h.ck, h.bown, BlksAt.keep (X := X) (Y := X.drew) (fun _ _ _ _ _ => rfl) h.blks, h.down, h.kp.drew, h.lt, h.hb⟩
/-- A world in which all but the reader stands. -/
theorem RC.turn (h : RC rb B w0 lab bv dv BS bl ds l X) {Y : World} {r : List UInt8} (hr : RdAt rb r Y) (hk : Keeps (fun k => k ≠ rb) X Y) : RC rb B w0 lab bv dv BS bl ds r Y := by
  have hlt := h.lt
  have hb : ∀ k o, B ≤ k → X.heap[k]? = some o → Y.heap[k]? = X.heap[k]? := fun k o hB ho => hk.block k (Array.getElem?_eq_some_iff.1 ho).1 (by omega)
  exact ⟨hr, (hb _ _ (Nat.le_refl _) h.rs).trans h.rs, (hb _ _ (by omega) h.ck).trans h.ck, row_keep h.bown fun k _ _ hB hc => hb k _ hB hc, BlksAt.keep (fun k _ _ hB hc => hb k _ hB hc) h.blks, row_keep h.down fun k _ _ hB hc => hb k _ hB hc, h.kp.trans hk, h.lt, h.hb⟩
theorem RC.num (h : RC rb B w0 lab bv dv BS bl ds l X) {n : Nat} {r : List UInt8} (hg : getN l = some (n, r)) :
    Calls Tryz.prog 145 #[.pointer (some ⟨rb, 0, none⟩)] X fun e Y => e = .returned (.int .i64 (n : Int)) ∧ RC rb B w0 lab bv dv BS bl ds r Y := by
  refine (rNumber_ok rb l n r X h.rd hg).mono ?_
  rintro e Y ⟨rfl, rfl⟩
  obtain ⟨k, _, _, _, rfl⟩ := getN_suffix hg
  exact ⟨rfl, h.turn (h.rd.set k) ((Keeps.refl _ _).setCell (by simp) _)⟩
theorem RC.num_no (h : RC rb B w0 lab bv dv BS bl ds l X) (hg : getN l = none) :
    Calls Tryz.prog 145 #[.pointer (some ⟨rb, 0, none⟩)] X fun e Y => e = .panicked gaveUp ∧ Keeps (fun k => k ≠ rb) w0 Y :=
  (rNumber_no rb l X h.rd hg).mono fun _ _ ⟨h1, h2⟩ => ⟨h1, by rw [← h2]; exact h.kp⟩
theorem RC.blk (h : RC rb B w0 lab bv dv BS bl ds l X) (hl : l.length ≤ 1000000) {b : Blk} {r : List UInt8} (hg : getB l = some (b, r)) :
    Calls Tryz.prog 146 #[.pointer (some ⟨rb, 0, none⟩)] X fun e Y => ∃ A c, e = .returned (.agg #[.int .i64 b.cap, .bool b.par, .slice A b.l.length c]) ∧ RC rb B w0 lab bv dv BS bl ds r Y ∧ InsAt B Y (.slice A b.l.length c) b.l := by
  refine (rBlock_any rb l X h.rd hl).mono ?_
  intro e Y hR
  unfold BlkR at hR
  rw [hg] at hR
  obtain ⟨v, rfl, hv, hr, hk⟩ := hR
  obtain ⟨A, c, rfl⟩ := own_form hv
  have := h.kp.size
  have := h.hb
  exact ⟨A, c, rfl, h.turn hr hk, World.ownsRow.mono hv (by omega)⟩
theorem RC.blk_no (h : RC rb B w0 lab bv dv BS bl ds l X) (hl : l.length ≤ 1000000) (hg : getB l = none) :
    Calls Tryz.prog 146 #[.pointer (some ⟨rb, 0, none⟩)] X fun e Y => e = .panicked gaveUp ∧ Keeps (fun k => k ≠ rb) w0 Y := by
  refine (rBlock_any rb l X h.rd hl).mono ?_
  intro e Y hR
  unfold BlkR at hR
  rw [hg] at hR
  exact ⟨hR.1, h.kp.trans hR.2⟩
theorem RC.at1 (h : RC rb B w0 lab bv dv BS bl ds l X) : X.cell? ⟨B + 1, 1, none⟩ = some bv := cell_of_row X (B + 1) 1 _ _ (0, 0) h.ck
theorem RC.at2 (h : RC rb B w0 lab bv dv BS bl ds l X) : X.cell? ⟨B + 1, 2, none⟩ = some dv := cell_of_row X (B + 1) 2 _ _ (0, 0) h.ck
theorem RC.at1a (h : RC rb B w0 lab bv dv BS bl ds l X) (o : Obj) : (X.alloc o).cell? ⟨B + 1, 1, none⟩ = some bv :=
  (((Below.refl X.heap.size X).alloc (Nat.le_refl _) o).cell (p := ⟨B + 1, 1, none⟩) (lt_of_block h.ck)).trans h.at1
theorem RC.at2a (h : RC rb B w0 lab bv dv BS bl ds l X) (o : Obj) : (X.alloc o).cell? ⟨B + 1, 2, none⟩ = some dv :=
  (((Below.refl X.heap.size X).alloc (Nat.le_refl _) o).cell (p := ⟨B + 1, 2, none⟩) (lt_of_block h.ck)).trans h.at2
theorem RC.sz (h : RC rb B w0 lab bv dv BS bl ds l X) (o : Obj) : B ≤ (X.alloc o).heap.size := by
  have := lt_of_block h.ck
  simp
  omega
/-- What stands when a row of e's has grown, and a cell of the code has been set. -/
theorem grown_keep {X w7 : World} {o : Obj} {e : TypeId} {size : Nat} {v : Value} {n : Nat} {xs : List Value} (ho : X.ownsRow B e size v n xs) (hg : (X.alloc o).grownBy w7 v.ownBlock) (i : Nat) (u : Value) :
    ∀ (k : Nat) (cur : Array Value) (t : TypeId) (fz : Nat × Nat), X.heap[k]? = some (.cells cur t fz) → e ≠ t → k ≠ B + 1 → (w7.setCell ⟨B + 1, i, none⟩ u).heap[k]? = X.heap[k]? := fun k cur t fz hc ht hk => by
  have hlt := (Array.getElem?_eq_some_iff.1 hc).1
  exact (Below.heap_setCell _ _ _ _ hk).trans ((hg.block k (by simp; omega) (fun h => own_ne ho hc ht h.symm)).trans (Below.heap_alloc _ _ _ hlt))
theorem RC.bkx (h : RC rb B w0 lab bv dv BS bl ds l X) (o : Obj) {w7 : World} (hg : (X.alloc o).grownBy w7 bv.ownBlock) : w7.heap[B + 1]? = some (.cells #[.string lab, bv, dv] 62 (0, 0)) := by
  have hlt := lt_of_block h.ck
  exact (hg.block (B + 1) (by simp; omega) (fun e => own_ne h.bown h.ck (by decide) e.symm)).trans ((Below.heap_alloc _ _ _ hlt).trans h.ck)
theorem RC.dkx (h : RC rb B w0 lab bv dv BS bl ds l X) (o : Obj) {w7 : World} (hg : (X.alloc o).grownBy w7 dv.ownBlock) : w7.heap[B + 1]? = some (.cells #[.string lab, bv, dv] 62 (0, 0)) := by
  have hlt := lt_of_block h.ck
  exact (hg.block (B + 1) (by simp; omega) (fun e => own_ne h.down h.ck (by decide) e.symm)).trans ((Below.heap_alloc _ _ _ hlt).trans h.ck)
theorem RC.pushB (h : RC rb B w0 lab bv dv BS bl ds l X) {o : Obj} {w7 : World} (hg : (X.alloc o).grownBy w7 bv.ownBlock) {gg j dc : Nat} {b : Blk} {A : Option Addr} {c : Nat} (hj : BS.length = j) (hi : InsAt B X (.slice A b.l.length c) b.l)
    (hown : w7.ownsRow B 133 3 (.slice (some ⟨gg, 0, none⟩) (j + 1) dc) (j + 1) (bgC BS ++ [.int .i64 b.cap, .bool b.par, .slice A b.l.length c])) :
    RC rb B w0 lab (.slice (some ⟨gg, 0, none⟩) (j + 1) dc) dv (BS ++ [⟨b.cap, b.par, .slice A b.l.length c⟩]) (bl ++ [b]) ds l (w7.setCell ⟨B + 1, 1, none⟩ (.slice (some ⟨gg, 0, none⟩) (j + 1) dc)) := by
  have hk := grown_keep h.bown hg 1 (.slice (some ⟨gg, 0, none⟩) (j + 1) dc)
  have hrl := h.lt
  have hlt := lt_of_block h.ck
  have hne : ∀ (k : Nat) (cur : Array Value) (t : TypeId) (fz : Nat × Nat), X.heap[k]? = some (.cells cur t fz) → t ≠ 62 → k ≠ B + 1 := fun k cur t fz hc ht e => by
    rw [e, h.ck] at hc
    simp only [Option.some.injEq, Obj.cells.injEq] at hc
    exact ht hc.2.1.symm
  refine ⟨⟨(hk rb _ _ _ h.rd.1 (by decide) (by omega)).trans h.rd.1, h.rd.2⟩, (hk B _ _ _ h.rs (by decide) (by omega)).trans h.rs, ?_, ?_, ?_, row_keep h.down fun k cur fz _ hc => hk k cur _ fz hc (by decide) (hne k cur _ fz hc (by decide)), ⟨hg.os.trans h.kp.os, hg.tape.trans h.kp.tape, hg.output.trans h.kp.output, ?_, fun k hk' hs => ?_⟩, hrl, h.hb⟩
  · have hb := h.bkx o hg
    simp [World.setCell, Array.getElem?_modify, hb]
  · rw [List.length_append, bgC_append, hj]
    refine ownsRow_setCell_other hown ?_ _
    exact own_ne hown (h.bkx o hg) (by decide)
  · have h1 : InsAt B (w7.setCell ⟨B + 1, 1, none⟩ (.slice (some ⟨gg, 0, none⟩) (j + 1) dc)) (.slice A b.l.length c) b.l := hi.keep fun k cur fz _ hc => hk k cur _ fz hc (by decide) (hne k cur _ fz hc (by decide))
    exact BlksAt.append (l' := [⟨b.cap, b.par, .slice A b.l.length c⟩]) (m' := [b]) ⟨rfl, rfl, h1, trivial⟩ (BlksAt.keep (fun k cur fz _ hc => hk k cur _ fz hc (by decide) (hne k cur _ fz hc (by decide))) h.blks)
  · have h1 := hg.size
    have h2 := h.kp.size
    simp [World.setCell] at h1 ⊢
    omega
  · have h2 := h.kp.size
    have h3 := h.hb
    refine (Below.heap_setCell _ _ _ _ (by simp; omega)).trans ((hg.block k (by simp; omega) (fun e => ?_)).trans ((Below.heap_alloc _ _ _ (by omega)).trans (h.kp.block k hk' hs)))
    have := (World.ownsRow.lt h.bown k e.symm).1
    omega
theorem RC.pushD (h : RC rb B w0 lab bv dv BS bl ds l X) {o : Obj} {w7 : World} (hg : (X.alloc o).grownBy w7 dv.ownBlock) {gg j dc : Nat} {t : Int × Int × Int} (hj : ds.length = j)
    (hown : w7.ownsRow B 135 3 (.slice (some ⟨gg, 0, none⟩) (j + 1) dc) (j + 1) (cdZ ds ++ [.int .i64 t.1, .int .i64 t.2.1, .int .i64 t.2.2])) :
    RC rb B w0 lab bv (.slice (some ⟨gg, 0, none⟩) (j + 1) dc) BS bl (ds ++ [t]) l (w7.setCell ⟨B + 1, 2, none⟩ (.slice (some ⟨gg, 0, none⟩) (j + 1) dc)) := by
  have hk := grown_keep h.down hg 2 (.slice (some ⟨gg, 0, none⟩) (j + 1) dc)
  have hrl := h.lt
  have hlt := lt_of_block h.ck
  have hne : ∀ (k : Nat) (cur : Array Value) (t : TypeId) (fz : Nat × Nat), X.heap[k]? = some (.cells cur t fz) → t ≠ 62 → k ≠ B + 1 := fun k cur t fz hc ht e => by
    rw [e, h.ck] at hc
    simp only [Option.some.injEq, Obj.cells.injEq] at hc
    exact ht hc.2.1.symm
  refine ⟨⟨(hk rb _ _ _ h.rd.1 (by decide) (by omega)).trans h.rd.1, h.rd.2⟩, (hk B _ _ _ h.rs (by decide) (by omega)).trans h.rs, ?_, row_keep h.bown fun k cur fz _ hc => hk k cur _ fz hc (by decide) (hne k cur _ fz hc (by decide)), BlksAt.keep (fun k cur fz _ hc => hk k cur _ fz hc (by decide) (hne k cur _ fz hc (by decide))) h.blks, ?_, ⟨hg.os.trans h.kp.os, hg.tape.trans h.kp.tape, hg.output.trans h.kp.output, ?_, fun k hk' hs => ?_⟩, hrl, h.hb⟩
  · have hb := h.dkx o hg
    simp [World.setCell, Array.getElem?_modify, hb]
  · rw [List.length_append, cdZ_append, hj]
    refine ownsRow_setCell_other (by simpa [cdZ] using hown) ?_ _
    exact own_ne hown (h.dkx o hg) (by decide)
  · have h1 := hg.size
    have h2 := h.kp.size
    simp [World.setCell] at h1 ⊢
    omega
  · have h2 := h.kp.size
    have h3 := h.hb
    refine (Below.heap_setCell _ _ _ _ (by simp; omega)).trans ((hg.block k (by simp; omega) (fun e => ?_)).trans ((Below.heap_alloc _ _ _ (by omega)).trans (h.kp.block k hk' hs)))
    have := (World.ownsRow.lt h.down k e.symm).1
    omega
end
end Go.Proofs.YtlpipoihinceiaaGreatDoor
/- compile.reader: code, the walk -/
namespace Go.Proofs.YtlpipoihinceiaaGreatDoor
open Go.RowKit Go.Proofs Go.Shelf

attribute [local go_sem ↓] Go.wp_at_zero Go.wp_at_succ

/-- What reader.code answers. -/
def CodR (rb : Nat) (l : List UInt8) (w : World) (e : Ending) (w' : World) : Prop := match getC l with
  | some p => ∃ bv dv BS, e = .returned (.agg #[.string ⟨p.1.1.toArray⟩, bv, dv]) ∧ w'.ownsRow w.heap.size 133 3 bv BS.length (bgC BS) ∧ BlksAt w.heap.size w' BS p.1.2.1 ∧ w'.ownsRow w.heap.size 135 3 dv p.1.2.2.length (cdZ p.1.2.2) ∧ RdAt rb p.2 w' ∧ Keeps (fun k => k ≠ rb) w w'
  | none => GaveUp rb w e w'
theorem CodR.no {rb : Nat} {l : List UInt8} {w w' : World} (h : getC l = none) (hk : Keeps (fun k => k ≠ rb) w w') : CodR rb l w (.panicked gaveUp) w' := by
  unfold CodR
  rw [h]
  exact ⟨rfl, hk⟩
theorem CodR.yes {rb : Nat} {l rest t : List UInt8} {w X : World} {bv dv : Value} {BS : List Bg} {bl : List Blk} {ds : List (Int × Int × Int)} (hg : getC l = some ((t, bl, ds), rest)) (h : RC rb w.heap.size w ⟨t.toArray⟩ bv dv BS bl ds rest X) :
    CodR rb l w (.returned (.agg #[.string ⟨t.toArray⟩, bv, dv])) (((X.setCell ⟨w.heap.size, 0, none⟩ (.string ⟨t.toArray⟩)).setCell ⟨w.heap.size, 1, none⟩ bv).setCell ⟨w.heap.size, 2, none⟩ dv) := by
  have hlt := h.lt
  have hne : ∀ (k : Nat) (cur : Array Value) (t : TypeId) (fz : Nat × Nat), X.heap[k]? = some (.cells cur t fz) → t ≠ 62 → k ≠ w.heap.size := fun k cur t fz hc ht e => by
    rw [e, h.rs] at hc
    simp only [Option.some.injEq, Obj.cells.injEq] at hc
    exact ht hc.2.1.symm
  unfold CodR
  rw [hg]
  refine ⟨bv, dv, BS, rfl, row_keep h.bown fun k cur fz _ hc => tri_other (hne k cur _ fz hc (by decide)) _ _ _, BlksAt.keep (fun k cur fz _ hc => tri_other (hne k cur _ fz hc (by decide)) _ _ _) h.blks, row_keep h.down fun k cur fz _ hc => tri_other (hne k cur _ fz hc (by decide)) _ _ _, ⟨(tri_other (by omega) _ _ _).trans h.rd.1, h.rd.2⟩, ⟨h.kp.os, h.kp.tape, h.kp.output, ?_, fun k hk hs => (tri_other (by omega) _ _ _).trans (h.kp.block k hk hs)⟩⟩
  have := h.kp.size
  simpa [World.setCell] using this

set_option maxRecDepth 100000 in
set_option maxHeartbeats 16000000 in
theorem rCode_any (rb : Nat) (l : List UInt8) (w : World) (h : RdAt rb l w) (hl : l.length ≤ 1000000) : Calls Tryz.prog 92 #[.pointer (some ⟨rb, 0, none⟩)] w (CodR rb l w) := by
  have hrl : rb < w.heap.size := lt_of_block h.1
  obtain ⟨W0, hW0⟩ : ∃ W0, w.alloc (.cells #[.string ⟨#[]⟩, .slice none 0 0, .slice none 0 0] 62) = W0 := ⟨_, rfl⟩
  have hB0 : Below w.heap.size w W0 := by rw [← hW0]; exact (Below.refl _ _).alloc (Nat.le_refl _) _
  have hz0 : W0.heap.size = w.heap.size + 1 := by rw [← hW0]; simp
  have hx0 : W0.heap[w.heap.size]? = some (.cells #[.string ⟨#[]⟩, .slice none 0 0, .slice none 0 0] 62 (0, 0)) := by rw [← hW0]; exact heap_alloc_new w _
  have hrd0 : RdAt rb l W0 := ⟨(hB0.block rb hrl).trans h.1, h.2⟩
  have hk0 : Keeps (fun k => k ≠ rb) w W0 := Keeps.whole hB0 _
  have HB0 := Lib.hid (And.intro hz0 (And.intro hx0 (And.intro hrd0 (And.intro hk0 hrl))))
  have HL := Lib.hid hl
  clear h hB0 hx0 hk0 hrl hl
  cases hc : getT l with
  | none =>
    have HN := Lib.hid (rText_no rb l W0 hrd0 hc)
    have HG := Lib.hid (show getC l = none by rw [getC, hc])
    clear hc hrd0
    go_enter Tryz.func92, Tryz.ntmps92
    go_wp2_with fail
    refine HN.out.mono ?_
    rintro e w1 ⟨rfl, rfl⟩
    go_wp2
    exact ⟨rfl, CodR.no HG.out HB0.out.2.2.2.1⟩
  | some pt =>
  obtain ⟨t, l1⟩ := pt
  have hN := rText_ok rb l t l1 W0 hrd0 hc
  have HCL := Lib.hid (getT_len hc)
  obtain ⟨k1, hl1⟩ := getT_suffix hc
  have HG1 := Lib.hid hc
  obtain ⟨lab, HLAB⟩ : ∃ q : ByteArray, Hid (⟨t.toArray⟩ = q) := ⟨_, Lib.hid rfl⟩
  obtain ⟨X1, hX1⟩ : ∃ X1, (W0.setCell ⟨rb, 0, none⟩ (.string ⟨l1.toArray⟩)).alloc (.cells #[.string lab, .slice none 0 0, .slice none 0 0] 62) = X1 := ⟨_, rfl⟩
  have hrc1 : RC rb w.heap.size w lab (.slice none 0 0) (.slice none 0 0) [] [] [] l1 X1 := by
    have hz1 : (W0.setCell ⟨rb, 0, none⟩ (.string ⟨l1.toArray⟩)).heap.size = w.heap.size + 1 := by simp [World.setCell, hz0]
    have hrl := HB0.out.2.2.2.2
    rw [← hX1]
    refine ⟨⟨(Below.heap_alloc _ _ _ (by omega)).trans ?_, ?_⟩, (Below.heap_alloc _ _ _ (by omega)).trans ((Below.heap_setCell _ _ _ _ (by simp; omega)).trans HB0.out.2.1), ?_, World.ownsRow_nil _ _ _ _, trivial, World.ownsRow_nil _ _ _ _, ?_, hrl, rfl⟩
    · rw [hl1]
      exact (HB0.out.2.2.1.set k1).1
    · have := HB0.out.2.2.1.2
      have := HCL.out
      omega
    · have := heap_alloc_new (W0.setCell ⟨rb, 0, none⟩ (.string ⟨l1.toArray⟩)) (.cells #[.string lab, .slice none 0 0, .slice none 0 0] 62)
      rwa [hz1] at this
    · exact (HB0.out.2.2.2.1.setCell (by simp) _).alloc _
  rw [HLAB.out] at hN
  have HN := Lib.hid hN
  have HR1 := Lib.hid hrc1
  have HX1 := Lib.hid hX1
  clear hc hrd0 hl1 hrc1 hX1 hN
  cases hp : getN l1 with
  | none =>
    have HN2 := Lib.hid (HR1.out.num_no hp)
    have HG := Lib.hid (show getC l = none by rw [getC, HG1.out]; simp only [hp])
    clear hp
    go_enter Tryz.func92, Tryz.ntmps92
    go_wp2_with fail
    refine HN.out.mono ?_
    rintro e w1 ⟨rfl, rfl⟩
    go_wp2_with fail
    rw [HX1.out]
    refine HN2.out.mono ?_
    rintro e w1 ⟨rfl, hk⟩
    have HK := Lib.hid hk
    clear hk
    go_wp2
    exact ⟨rfl, CodR.no HG.out HK.out⟩
  | some pp =>
  obtain ⟨N, l2⟩ := pp
  have HN2 := Lib.hid (HR1.out.num hp)
  have HPL := Lib.hid (getN_len hp)
  have HG2 := Lib.hid hp
  have hNb := (getN_of hp).2
  clear hp
  go_enter Tryz.func92, Tryz.ntmps92
  go_wp2_with fail
  refine HN.out.mono ?_
  rintro e w1 ⟨rfl, rfl⟩
  go_wp2_with fail
  rw [HX1.out]
  refine HN2.out.mono ?_
  rintro e X2 ⟨rfl, hr2⟩
  have HR2 := Lib.hid hr2
  clear hr2
  go_wp2_with fail
  go_loopg [9] N (fun g ct wr => ∃ (j : Nat) (A : Option Addr) (c : Nat) (BS : List Bg) (bl : List Blk) (rest : List UInt8), g = N - j ∧ j ≤ N ∧ ct = .int .i64 j ∧ RC rb w.heap.size w lab (.slice A j c) (.slice none 0 0) BS bl [] rest wr ∧ Hid (Mid getB N l2 j bl rest) ∧ BS.length = j ∧ j + rest.length ≤ 1000000)
  case atStart => exact ⟨0, none, 0, [], [], l2, rfl, by omega, rfl, HR2.out, Lib.hid (Mid.start _ _ _), rfl, by have := HL.out; have := HCL.out; have := HPL.out; omega⟩
  case round =>
    obtain ⟨j, A, c, BS, bl, rest, HG, hj, rfl, hRC, HM, hil, hjr⟩ := hrel
    have HG' := Lib.hid HG
    have HIL := Lib.hid hil
    clear HG hil
    by_cases hlt : j < N
    · have i1 : (j : Int) < (N : Int) := by omega
      have hrb := hRC
      have HRC0 := Lib.hid hRC
      have b1 := hRC.at1
      clear hRC
      cases hq1 : getB rest with
      | none =>
        have HGN := Lib.hid (show getC l = none by rw [getC, HG1.out]; simp only [HG2.out]; simp only [HM.out.no hlt hq1])
        have HC1 := Lib.hid (fun X (hX : RC rb w.heap.size w lab (.slice A j c) (.slice none 0 0) BS bl [] rest X) => hX.blk_no (by omega) hq1)
        clear hq1
        go_upto_region 4 with fail
        go_region_law (first
          | (go_simp; go_at_call 146; (with_reducible refine Calls.mono (HC1.out _ ?_) ?_); (focus ((repeat (first | with_reducible exact hrb | with_reducible refine RC.drew ?_)); done)); rintro e w6 ⟨rfl, hk6⟩; refine way_shut (P := Tryz.prog) ⟨rfl, CodR.no HGN.out hk6⟩ ?_))
        all_goals exact trivial
      | some p1 =>
      obtain ⟨bk, r1⟩ := p1
      have HC1 := Lib.hid (fun X (hX : RC rb w.heap.size w lab (.slice A j c) (.slice none 0 0) BS bl [] rest X) => hX.blk (by omega) hq1)
      have HQ1 := Lib.hid hq1
      have HLL := Lib.hid (show r1.length + 1 ≤ rest.length by have := getB_len hq1; omega)
      have HMS := Lib.hid (HM.out.step hlt hq1)
      obtain ⟨bn, HBN⟩ : ∃ q, Hid (bk.l.length = q) := ⟨_, Lib.hid rfl⟩
      rw [HBN.out] at HC1
      clear hq1
      obtain ⟨i0, hi, hz0', hz1', hz2'⟩ := info_parts Tryz.infoBlock
      go_upto_region 4 with fail
      go_region_law (first
        | (go_simp; go_at_call 146; (with_reducible refine Calls.mono (HC1.out _ ?_) ?_); (focus ((repeat (first | with_reducible exact hrb | with_reducible refine RC.drew ?_)); done)); rintro e w6 ⟨bA, bc, rfl, hrc, hin⟩; have b1 := hrc.at1; have b3 := hrc.at1a (.cells #[.int .i64 bk.cap, .bool bk.par, .slice bA bn bc] 133); have HRW := Lib.hid hrc; have HIN := Lib.hid hin; clear hrc hin; have tokA : True := trivial)
        | (have _t := tokA; refine step_append_lies _ rfl (.tmp 12) (.tmp 15) 59 rfl w.heap.size 133 i0 _ 3 40 Tryz.underlying59 hi hz0' hz1' hz2' rfl (by omega) (.slice A j c) j (bgC BS) rfl ((HIL.out ▸ HRW.out.bown).alloc _) ⟨w6.heap.size, 0, none⟩ 1 1 [.int .i64 bk.cap, .bool bk.par, .slice bA bn bc] rfl rfl (World.news_of_block (cs := #[.int .i64 bk.cap, .bool bk.par, .slice bA bn bc]) (t := 133) (fr := (0, 0)) (heap_alloc_new _ _)) (by simp [Value.oneCell']) (by omega) (by unfold maxLen; omega) (by omega) (HRW.out.sz _) _ rfl ?_; intro gg dc w7 hown7 hgrow7 hat7 hlt7; have hcb7 := HRW.out.bkx _ hgrow7; have hc7 := cell_of_row w7 (w.heap.size + 1) 1 _ _ (0, 0) hcb7; have hf7 := frozen_of_row w7 (w.heap.size + 1) 1 _ _ hcb7))
      all_goals (
        go_wp2
        go_roundg (N - (j + 1))
        case measure => rw [HG'.out]; omega
        case rel => exact ⟨j + 1, _, _, _, _, r1, rfl, by omega, by go_num, HRW.out.pushB (b := bk) hgrow7 HIL.out (HBN.out.symm ▸ HIN.out) (HBN.out.symm ▸ hown7), HMS, by rw [List.length_append, HIL.out]; rfl, by have := HLL.out; omega⟩)
    · have hjN : N = j := by omega
      subst hjN
      have HBD := Lib.hid (HM.out.done)
      have HR3 := Lib.hid hRC
      clear hRC
      cases hp2 : getN rest with
      | none =>
        have HN3 := Lib.hid (HR3.out.num_no hp2)
        have HG := Lib.hid (show getC l = none by rw [getC, HG1.out]; simp only [HG2.out]; simp only [HBD.out]; simp only [hp2])
        clear hp2
        go_wp2_with fail
        refine HN3.out.mono ?_
        rintro e w1 ⟨rfl, hk⟩
        have HK := Lib.hid hk
        clear hk
        go_wp2
        exact ⟨rfl, CodR.no HG.out HK.out⟩
      | some pp =>
      obtain ⟨ND, l3⟩ := pp
      have HN3 := Lib.hid (HR3.out.num hp2)
      have HQL := Lib.hid (getN_len hp2)
      have HG3 := Lib.hid hp2
      have hNDb := (getN_of hp2).2
      have HJR := Lib.hid hjr
      clear hp2
      go_wp2_with fail
      refine HN3.out.mono ?_
      rintro e X3 ⟨rfl, hr3⟩
      have HR4 := Lib.hid hr3
      clear hr3
      obtain ⟨bA, HbA⟩ : ∃ q, Hid (A = q) := ⟨_, Lib.hid rfl⟩
      obtain ⟨bn, Hbn⟩ : ∃ q, Hid (N = q) := ⟨_, Lib.hid rfl⟩
      obtain ⟨bc, Hbc⟩ : ∃ q, Hid (c = q) := ⟨_, Lib.hid rfl⟩
      rw [HbA.out, Hbn.out, Hbc.out] at HR4
      go_wp2_with fail
      go_loopg [21] ND (fun g ct wr => ∃ (j : Nat) (A : Option Addr) (c : Nat) (ds : List (Int × Int × Int)) (rest : List UInt8), g = ND - j ∧ j ≤ ND ∧ ct = .int .i64 j ∧ RC rb w.heap.size w lab (.slice bA bn bc) (.slice A j c) BS bl ds rest wr ∧ Hid (Mid getD ND l3 j ds rest) ∧ ds.length = j ∧ j + rest.length ≤ 1000000)
      case atStart => exact ⟨0, none, 0, [], l3, rfl, by omega, rfl, HR4.out, Lib.hid (Mid.start _ _ _), rfl, by have := HQL.out; have := HJR.out; omega⟩
      case round =>
        clear HG' hlt hjr hj HM
        rename_i jj AA cc rr
        obtain ⟨j, A, c, ds, rest, HG, hj, rfl, hRC, HM, hil, hjr⟩ := hrel
        have HG' := Lib.hid HG
        have HIL := Lib.hid hil
        clear HG hil
        by_cases hlt : j < ND
        · have i1 : (j : Int) < (ND : Int) := by omega
          have hrb := hRC
          have b2 := hRC.at2
          clear hRC
          cases hq1 : getN rest with
          | none =>
            have HGN := Lib.hid (show getC l = none by rw [getC, HG1.out]; simp only [HG2.out]; simp only [HBD.out]; simp only [HG3.out]; simp only [HM.out.no hlt (by rw [getD, hq1])])
            have HD1 := Lib.hid (fun X (hX : RC rb w.heap.size w lab (.slice bA bn bc) (.slice A j c) BS bl ds rest X) => hX.num_no hq1)
            clear hq1
            go_upto_region 8 with fail
            go_region_law (first
              | (go_simp; go_at_call 145; (with_reducible refine Calls.mono (HD1.out _ ?_) ?_); (focus ((repeat (first | with_reducible exact hrb | with_reducible refine RC.drew ?_)); done)); rintro e w6 ⟨rfl, hk6⟩; refine way_shut (P := Tryz.prog) ⟨rfl, CodR.no HGN.out hk6⟩ ?_))
            all_goals exact trivial
          | some p1 =>
          obtain ⟨x1, r1⟩ := p1
          have HD1 := Lib.hid (fun X (hX : RC rb w.heap.size w lab (.slice bA bn bc) (.slice A j c) BS bl ds rest X) => hX.num hq1)
          have HQ1 := Lib.hid hq1
          clear hq1
          cases hq2 : getN r1 with
          | none =>
            have HGN := Lib.hid (show getC l = none by rw [getC, HG1.out]; simp only [HG2.out]; simp only [HBD.out]; simp only [HG3.out]; simp only [HM.out.no hlt (by rw [getD, HQ1.out]; simp only [hq2])])
            have HD2 := Lib.hid (fun X (hX : RC rb w.heap.size w lab (.slice bA bn bc) (.slice A j c) BS bl ds r1 X) => hX.num_no hq2)
            clear hq2
            go_upto_region 8 with fail
            go_region_law (first
              | (go_simp; go_at_call 145; (with_reducible refine Calls.mono (HD1.out _ ?_) ?_); (focus ((repeat (first | with_reducible exact hrb | with_reducible refine RC.drew ?_)); done)); rintro e w6 ⟨rfl, hrb⟩; have b2 := hrb.at2)
              | (go_simp; go_at_call 145; (with_reducible refine Calls.mono (HD2.out _ ?_) ?_); (focus ((repeat (first | with_reducible exact hrb | with_reducible refine RC.drew ?_)); done)); rintro e w6 ⟨rfl, hk6⟩; refine way_shut (P := Tryz.prog) ⟨rfl, CodR.no HGN.out hk6⟩ ?_))
            all_goals exact trivial
          | some p2 =>
          obtain ⟨x2, r2⟩ := p2
          have HD2 := Lib.hid (fun X (hX : RC rb w.heap.size w lab (.slice bA bn bc) (.slice A j c) BS bl ds r1 X) => hX.num hq2)
          have HQ2 := Lib.hid hq2
          clear hq2
          cases hq3 : getN r2 with
          | none =>
            have HGN := Lib.hid (show getC l = none by rw [getC, HG1.out]; simp only [HG2.out]; simp only [HBD.out]; simp only [HG3.out]; simp only [HM.out.no hlt (by rw [getD, HQ1.out]; simp only [HQ2.out]; simp only [hq3])])
            have HD3 := Lib.hid (fun X (hX : RC rb w.heap.size w lab (.slice bA bn bc) (.slice A j c) BS bl ds r2 X) => hX.num_no hq3)
            clear hq3
            go_upto_region 8 with fail
            go_region_law (first
              | (go_simp; go_at_call 145; (with_reducible refine Calls.mono (HD1.out _ ?_) ?_); (focus ((repeat (first | with_reducible exact hrb | with_reducible refine RC.drew ?_)); done)); rintro e w6 ⟨rfl, hrb⟩; have b2 := hrb.at2)
              | (go_simp; go_at_call 145; (with_reducible refine Calls.mono (HD2.out _ ?_) ?_); (focus ((repeat (first | with_reducible exact hrb | with_reducible refine RC.drew ?_)); done)); rintro e w6 ⟨rfl, hrb⟩; have b2 := hrb.at2)
              | (go_simp; go_at_call 145; (with_reducible refine Calls.mono (HD3.out _ ?_) ?_); (focus ((repeat (first | with_reducible exact hrb | with_reducible refine RC.drew ?_)); done)); rintro e w6 ⟨rfl, hk6⟩; refine way_shut (P := Tryz.prog) ⟨rfl, CodR.no HGN.out hk6⟩ ?_))
            all_goals exact trivial
          | some p3 =>
          obtain ⟨x3, r3⟩ := p3
          have HD3 := Lib.hid (fun X (hX : RC rb w.heap.size w lab (.slice bA bn bc) (.slice A j c) BS bl ds r2 X) => hX.num hq3)
          have HQ3 := Lib.hid hq3
          clear hq3
          have HMS := Lib.hid (HM.out.step hlt (x := ((x1 : Int), (x2 : Int), (x3 : Int))) (r := r3) (by rw [getD, HQ1.out]; simp only [HQ2.out]; simp only [HQ3.out]))
          have HLL := Lib.hid (show r3.length + 1 ≤ rest.length by have h1 := getN_len HQ1.out; have h2 := getN_len HQ2.out; have h3 := getN_len HQ3.out; omega)
          obtain ⟨i0, hi, hz0', hz1', hz2'⟩ := info_parts Tryz.infoCodeDecl
          go_upto_region 8 with fail
          go_region_law (first
            | (go_simp; go_at_call 145; (with_reducible refine Calls.mono (HD1.out _ ?_) ?_); (focus ((repeat (first | with_reducible exact hrb | with_reducible refine RC.drew ?_)); done)); rintro e w6 ⟨rfl, hrb⟩; have b2 := hrb.at2)
            | (go_simp; go_at_call 145; (with_reducible refine Calls.mono (HD2.out _ ?_) ?_); (focus ((repeat (first | with_reducible exact hrb | with_reducible refine RC.drew ?_)); done)); rintro e w6 ⟨rfl, hrb⟩; have b2 := hrb.at2)
            | (go_simp; go_at_call 145; (with_reducible refine Calls.mono (HD3.out _ ?_) ?_); (focus ((repeat (first | with_reducible exact hrb | with_reducible refine RC.drew ?_)); done)); rintro e w6 ⟨rfl, hrb⟩; have b2 := hrb.at2; have b3 := hrb.at2a (.cells #[.int .i64 (x1 : Int), .int .i64 (x2 : Int), .int .i64 (x3 : Int)] 135); have HRW := Lib.hid hrb; have tokA : True := trivial)
            | (have _t := tokA; refine step_append_lies _ rfl (.tmp 24) (.tmp 32) 60 rfl w.heap.size 135 i0 _ 3 24 Tryz.underlying60 hi hz0' hz1' hz2' rfl (by omega) (.slice A j c) j (cdZ ds) rfl ((HIL.out ▸ HRW.out.down).alloc _) ⟨w6.heap.size, 0, none⟩ 1 1 [.int .i64 (x1 : Int), .int .i64 (x2 : Int), .int .i64 (x3 : Int)] rfl rfl (World.news_of_block (cs := #[.int .i64 (x1 : Int), .int .i64 (x2 : Int), .int .i64 (x3 : Int)]) (t := 135) (fr := (0, 0)) (heap_alloc_new _ _)) (by simp [Value.oneCell']) (by omega) (by unfold maxLen; omega) (by omega) (HRW.out.sz _) _ rfl ?_; intro gg dc w7 hown7 hgrow7 hat7 hlt7; have hcb7 := HRW.out.dkx _ hgrow7; have hc7 := cell_of_row w7 (w.heap.size + 1) 2 _ _ (0, 0) hcb7; have hf7 := frozen_of_row w7 (w.heap.size + 1) 2 _ _ hcb7))
          all_goals (
            go_wp2
            go_roundg (ND - (j + 1))
            case measure => rw [HG'.out]; omega
            case rel => exact ⟨j + 1, _, _, _, r3, rfl, by omega, by go_num, HRW.out.pushD (t := ((x1 : Int), (x2 : Int), (x3 : Int))) hgrow7 HIL.out hown7, HMS, by rw [List.length_append, HIL.out]; rfl, by have := HLL.out; omega⟩)
        · have hjN : ND = j := by omega
          subst hjN
          have HGD := Lib.hid (show getC l = some ((t, bl, ds), rest) by rw [getC, HG1.out]; simp only [HG2.out]; simp only [HBD.out]; simp only [HG3.out]; simp only [HM.out.done])
          have b0 := cell_of_row wr (w.heap.size + 1) 0 _ _ (0, 0) hRC.ck
          have b1 := cell_of_row wr (w.heap.size + 1) 1 _ _ (0, 0) hRC.ck
          have b2 := cell_of_row wr (w.heap.size + 1) 2 _ _ (0, 0) hRC.ck
          have r0 := cell_of_row wr w.heap.size 0 _ _ (0, 0) hRC.rs
          have r1 := cell_of_row wr w.heap.size 1 _ _ (0, 0) hRC.rs
          have r2 := cell_of_row wr w.heap.size 2 _ _ (0, 0) hRC.rs
          have q0 := frozen_of_row wr w.heap.size 0 _ _ hRC.rs
          have q1 := frozen_of_row wr w.heap.size 1 _ _ hRC.rs
          have q2 := frozen_of_row wr w.heap.size 2 _ _ hRC.rs
          simp at b0 b1 b2 r0 r1 r2
          have HRC := Lib.hid hRC
          clear hRC
          go_wp2
          have hs := tri_set HRC.out.rs (.string lab) (.slice bA bn bc) (.slice A ND c)
          have s0 := cell_of_row _ w.heap.size 0 _ _ (0, 0) hs
          have s1 := cell_of_row _ w.heap.size 1 _ _ (0, 0) hs
          have s2 := cell_of_row _ w.heap.size 2 _ _ (0, 0) hs
          have HR := CodR.yes HGD.out (by rw [HLAB.out]; exact HRC.out)
          rw [HLAB.out] at HR
          generalize ((wr.setCell ⟨w.heap.size, 0, none⟩ (.string lab)).setCell ⟨w.heap.size, 1, none⟩ (.slice bA bn bc)).setCell ⟨w.heap.size, 2, none⟩ (.slice A ND c) = W9 at s0 s1 s2 HR ⊢
          exact bodyPost_ret (v := .agg #[.string lab, .slice bA bn bc, .slice A ND c]) (by simp [results, Tryz.results92, go_sem, s0, s1, s2]) rfl HR
end Go.Proofs.YtlpipoihinceiaaGreatDoor
