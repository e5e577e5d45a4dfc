/- Code as bytes, in plain words -/
import Derived.Test.YtlpipoihinceiaaGreatDoorZhb
import Derived.Test.YtlpipoihinceiaaGreatDoorZha
import Derived.Deep.RegionHeld3
import Derived.Test.YtlpipoihinceiaaGreatDoorAwm
namespace Go.Proofs.YtlpipoihinceiaaGreatDoor
open Go

/-- What an instruction's number A is written as. -/
def sgnI (a : Int) : Int := if a < 0 then 2 * -a + 1 else 2 * a
theorem sgnI_neg {a : Int} (h : a < 0) : sgnI a = 2 * -a + 1 := by rw [sgnI, if_pos h]
theorem sgnI_pos {a : Int} (h : ¬ a < 0) : sgnI a = 2 * a := by rw [sgnI, if_neg h]
def catL {α : Type} (f : α → List UInt8) : List α → List UInt8
  | [] => []
  | x :: r => f x ++ catL f r
theorem catL_at {α : Type} (f : α → List UInt8) {l : List α} {j : Nat} {x : α} (hx : l[j]? = some x) : catL f (l.drop j) = f x ++ catL f (l.drop (j + 1)) := by
  have hj := (List.getElem?_eq_some_iff.1 hx).1
  have he : l[j] = x := (List.getElem?_eq_some_iff.1 hx).2
  rw [List.drop_eq_getElem_cons hj, catL, he]
theorem catL_end {α : Type} (f : α → List UInt8) (l : List α) : catL f (l.drop l.length) = [] := by
  rw [List.drop_length]
  rfl
theorem catL_len {α : Type} (f : α → List UInt8) (K : Nat) : ∀ (l : List α), (∀ x ∈ l, (f x).length ≤ K) → (catL f l).length ≤ l.length * K
  | [], _ => by simp [catL]
  | x :: r, h => by
    have h1 := h x (by simp)
    have h2 := catL_len f K r (fun y hy => h y (by simp [hy]))
    rw [catL, List.length_append, List.length_cons, Nat.succ_mul]
    omega
def insL (x : Ins) : List UInt8 := numL x.op ++ (numL (sgnI x.a) ++ (numL x.b ++ txtL x.nm))
def parI (p : Bool) : Int := if p = true then 1 else 0
def blkL (b : Blk) : List UInt8 := numL b.cap ++ (numL (parI b.par) ++ (numL b.l.length ++ catL insL b.l))
def decL (t : Int × Int × Int) : List UInt8 := numL t.1 ++ (numL t.2.1 ++ numL t.2.2)
/-- The bytes of code. -/
def codeL (lb : ByteArray) (bl : List Blk) (ds : List (Int × Int × Int)) : List UInt8 :=
  txtL lb ++ (numL bl.length ++ (catL blkL bl ++ (numL ds.length ++ catL decL ds)))
def codeS (lb : ByteArray) (bl : List Blk) (ds : List (Int × Int × Int)) : ByteArray := ⟨(codeL lb bl ds).toArray⟩
end Go.Proofs.YtlpipoihinceiaaGreatDoor
/- ref28.EncodeBlocks, Encode -/
namespace Go.Proofs.YtlpipoihinceiaaGreatDoor
open Go.RowKit Go.Proofs Go.Shelf

theorem numS_size (n : Int) : (numS n).size ≤ 6 := by
  show (numL n).toArray.size ≤ 6
  rw [List.size_toArray]
  exact numL_len n
theorem txtS_size (s : ByteArray) : (txtS s).size ≤ 65542 := by
  show (txtL s).toArray.size ≤ 65542
  rw [List.size_toArray]
  unfold txtL
  split
  · have := encL_40 (n := s.size) (by omega)
    have hz : s.data.toList.length = s.size := by simp
    rw [List.length_append]
    omega
  · simp
/-- A string holds these bytes. -/
def StrL (o : ByteArray) (l : List UInt8) : Prop := o.data.toList = l
theorem StrL.num {o : ByteArray} {l : List UInt8} (h : StrL o l) (v : Int) : StrL (o ++ numS v) (l ++ numL v) := by
  unfold StrL at h ⊢
  rw [ByteArray.data_append, Array.toList_append, h]
  rfl
theorem StrL.txt {o : ByteArray} {l : List UInt8} (h : StrL o l) (s : ByteArray) : StrL (o ++ txtS s) (l ++ txtL s) := by
  unfold StrL at h ⊢
  rw [ByteArray.data_append, Array.toList_append, h]
  rfl
theorem StrL.size {o : ByteArray} {l : List UInt8} (h : StrL o l) : o.size = l.length := by
  rw [← h, Array.length_toList]
  rfl
theorem StrL.eq {o : ByteArray} {l : List UInt8} (h : StrL o l) : o = ⟨l.toArray⟩ := by
  apply ByteArray.ext
  rw [← h]
theorem StrL.at_num (v : Int) : StrL (numS v) (numL v) := rfl
theorem StrL.at_txt (s : ByteArray) : StrL (txtS s) (txtL s) := rfl

set_option maxRecDepth 100000 in
set_option maxHeartbeats 16000000 in
theorem EncodeBlocks28_any (A1 : Option Addr) (c1 : Nat) (bl : List Blk) (w : World) (hp : BlkC w A1 c1 bl)
    (hsm : ∀ b ∈ bl, ∀ x ∈ b.l, -4000000000000000000 ≤ x.a ∧ x.a ≤ 4000000000000000000) (hlen : (numL bl.length ++ catL blkL bl).length ≤ 70368744177664) :
    Calls Tryz.prog 105 #[.slice A1 bl.length c1] w fun e w' => e = .returned (.string ⟨(numL bl.length ++ catL blkL bl).toArray⟩) ∧ Below w.heap.size w w' := by
  obtain ⟨N, HN⟩ : ∃ Q, Hid (bl.length = Q) := ⟨_, Lib.hid rfl⟩
  obtain ⟨T, HT⟩ : ∃ Q, Hid (numL bl.length ++ catL blkL bl = Q) := ⟨_, Lib.hid rfl⟩
  have hn1 := hp.1
  have hn2 := hp.2.1
  rw [HT.out] at hlen ⊢
  rw [HN.out] at hn1 ⊢
  have HT0 := Lib.hid (show numL N ++ catL blkL (bl.drop 0) = T by rw [← HT.out, HN.out]; rfl)
  have HL := Lib.hid hlen
  have HP := Lib.hid (And.intro hp hsm)
  have HNU := Lib.hid (number28_any (N : Int) w)
  clear hp hsm hlen
  go_enter Tryz.func105, Tryz.ntmps105
  go_wp2_with fail
  refine HNU.out.mono ?_
  rintro e w1 ⟨rfl, hb1⟩
  have HB1 := Lib.hid hb1
  clear hb1 HNU
  go_wp2_with fail
  go_loopg [3, 4, 5, 6, 7, 8] N (fun g s3 ct _ _ _ _ wr => ∃ (j : Nat) (out : ByteArray) (acc : List UInt8), g = N - j ∧ j ≤ N ∧ s3 = .string out ∧ ct = .int .i64 j ∧ Below w.heap.size w wr ∧ StrL out acc ∧ acc ++ catL blkL (bl.drop j) = T)
  case atStart => exact ⟨0, _, _, rfl, by omega, rfl, rfl, HB1.out, StrL.at_num _, HT0.out⟩
  case round =>
    obtain ⟨j, out, acc, HG, hj, rfl, rfl, hBr, hSt, hTj⟩ := hrel
    obtain ⟨X0, hX0⟩ : ∃ X0, X0 = wr := ⟨_, rfl⟩
    subst hX0
    have HTJ := Lib.hid hTj
    have HSt := Lib.hid hSt
    have hos : out.size ≤ 70368744177664 := by
      have h1 := hSt.size
      have h2 := HL.out
      rw [← hTj, List.length_append] at h2
      omega
    clear hTj hSt
    by_cases hlt : j < N
    · obtain ⟨b, hj3⟩ : ∃ b, bl[j]? = some b := ⟨_, List.getElem?_eq_getElem (by rw [HN.out]; exact hlt)⟩
      obtain ⟨g, o, rfl, f0, f1, lA, lc, f2, hic⟩ := (HP.out.1.keep hBr).2.2 _ _ hj3
      have HA := Lib.hid (HP.out.2 b (List.mem_of_getElem? hj3))
      have HJ3 := Lib.hid (catL_at blkL hj3)
      obtain ⟨cap, par, l⟩ := b
      simp only at f0 f1 f2 hic HA
      obtain ⟨M, HM⟩ : ∃ Q, Hid (l.length = Q) := ⟨_, Lib.hid rfl⟩
      rw [HM.out] at f2
      have hm1 := hic.1
      have hm2 := hic.2.1
      rw [HM.out] at hm1
      have HI := Lib.hid hic
      have HS : Hid (∀ X, Below X0.heap.size X0 X → X.cell? ⟨g, o + j * 3, none⟩ = some (.int .i64 cap) ∧ X.cell? ⟨g, o + j * 3 + 2, none⟩ = some (.slice lA M lc)) := Lib.hid fun X hX => by
        have hl : g < X0.heap.size := World.block_lt_of_cell? X0 ⟨g, o + j * 3, none⟩ f0
        exact ⟨(hX.cell hl).trans f0, (hX.cell hl).trans f2⟩
      have i1 : (j : Int) < (N : Int) := by omega
      clear hj3 hic
      go_upto_if 22 with (fail)
      go_cut [5] (fun s5 wx => s5 = .int .i64 (parI par) ∧ X0 = wx)
      case first =>
        cases par
        all_goals (
          go_wp2
          go_meet
          exact ⟨rfl, rfl⟩)
      case rest =>
      obtain ⟨rfl, hw⟩ := hcut
      subst hw
      clear f0 f1 f2
      obtain ⟨pi, HPI⟩ : ∃ q, Hid (parI par = q) := ⟨_, Lib.hid rfl⟩
      rw [HPI.out]
      have hs1 := numS_size cap
      have hs2 := numS_size pi
      have hs3 := numS_size M
      have hno1 : ¬ (9223372036854775807 < out.size + (numS cap).size) := by omega
      have hno2 : ¬ (9223372036854775807 < out.size + (numS cap).size + (numS pi).size) := by omega
      have hno3 : ¬ (9223372036854775807 < out.size + (numS cap).size + (numS pi).size + (numS M).size) := by omega
      clear hs1 hs2 hs3
      have hbY : Below X0.heap.size X0 X0 := Below.refl _ _
      have HCN : Hid (∀ (v : Int) (X : World), Below X0.heap.size X0 X → Calls Tryz.prog 106 #[.int .i64 v] X fun e Y => e = .returned (.string (numS v)) ∧ Below X0.heap.size X0 Y) := Lib.hid fun v X hX => (number28_any v X).mono fun e Y ⟨h1, h2⟩ => ⟨h1, hX.trans (h2.mono hX.size)⟩
      have HB := Lib.hid hBr
      clear hBr
      go_upto_region 8 with fail
      go_cut [3] (fun s3 wx => s3 = .string (out ++ numS cap ++ numS pi ++ numS M) ∧ Below X0.heap.size X0 wx)
      case first =>
        go_region_held3 (fun W => W.cell? ⟨g, o + j * 3, none⟩ = some (.int .i64 cap) ∧ W.cell? ⟨g, o + j * 3 + 2, none⟩ = some (.slice lA M lc))
          (exact HS.out _ (by repeat (first | with_reducible exact hbY | with_reducible refine Below.drew ?_)))
          (first | (go_at_call 106; (with_reducible refine Calls.mono (HCN.out _ _ ?_) ?_); (focus (repeat (first | with_reducible exact hbY | with_reducible refine Below.drew ?_))); rintro e w6 ⟨rfl, hbY⟩))
        all_goals (
          go_wp2_with fail
          go_meet
          exact ⟨rfl, by repeat (first | with_reducible exact hbY | with_reducible refine Below.drew ?_)⟩)
      case rest =>
      obtain ⟨rfl, hb2⟩ := hcut
      have HT2 := Lib.hid (show (acc ++ numL cap ++ numL pi ++ numL M) ++ (catL insL (l.drop 0) ++ catL blkL (bl.drop (j + 1))) = T by
        rw [← HTJ.out, HJ3.out, ← HPI.out, ← HM.out]
        simp only [blkL, List.append_assoc, List.drop_zero])
      have HS2 := Lib.hid (((HSt.out.num cap).num pi).num M)
      generalize out ++ numS cap ++ numS pi ++ numS M = out2 at HS2
      generalize acc ++ numL cap ++ numL pi ++ numL M = acc2 at HS2 HT2
      have HB2 := Lib.hid hb2
      clear hb2 hno1 hno2 hno3 hos hbY
      obtain ⟨f0, f2⟩ := HS.out wc HB2.out
      go_wp2_with fail
      clear f0 f2
      go_loopg [3, 6, 7, 8] M (fun g s3 ct _ _ wq => ∃ (q : Nat) (out : ByteArray) (acc : List UInt8), g = M - q ∧ q ≤ M ∧ s3 = .string out ∧ ct = .int .i64 q ∧ Below X0.heap.size X0 wq ∧ StrL out acc ∧ acc ++ (catL insL (l.drop q) ++ catL blkL (bl.drop (j + 1))) = T)
      case atStart => exact ⟨0, _, _, rfl, by omega, rfl, rfl, HB2.out, HS2.out, HT2.out⟩
      case round =>
        obtain ⟨q, ou, ac, HG2, hq, rfl, rfl, hBq, hSq, hTq⟩ := hrel
        have HTQ := Lib.hid hTq
        have HSQ := Lib.hid hSq
        have hos : ou.size ≤ 70368744177664 := by
          have h1 := hSq.size
          have h2 := HL.out
          rw [← hTq, List.length_append] at h2
          omega
        clear hTq hSq HT2 HS2 HB2
        obtain ⟨f0, f2⟩ := HS.out _ hBq
        by_cases hlq : q < M
        · obtain ⟨x, hq3⟩ : ∃ x, l[q]? = some x := ⟨_, List.getElem?_eq_getElem (by rw [HM.out]; exact hlq)⟩
          obtain ⟨lg, lo, rfl, e0, e1, e2, e3⟩ := (HI.out.keep hBq).2.2.2 _ _ hq3
          have ha := HA.out x (List.mem_of_getElem? hq3)
          have HQ3 := Lib.hid (catL_at insL hq3)
          obtain ⟨op, xa, xb, nm⟩ := x
          simp only at e0 e1 e2 e3 ha
          obtain ⟨ha1, ha2⟩ := ha
          obtain ⟨W3, hW3⟩ : ∃ W3, wr.alloc (.cells #[.int .i64 op, .int .i64 xa, .int .i64 xb, .string nm] 130) = W3 := ⟨_, rfl⟩
          have hB3 : Below X0.heap.size X0 W3 := by rw [← hW3]; exact hBq.alloc hBq.size _
          have hx3 : W3.heap[wr.heap.size]? = some (.cells #[.int .i64 op, .int .i64 xa, .int .i64 xb, .string nm] 130 (0, 0)) := by rw [← hW3]; exact heap_alloc_new wr _
          have hz3 : wr.heap.size < W3.heap.size := by rw [← hW3]; simp
          have g0 := cell_of_row W3 wr.heap.size 0 _ _ (0, 0) hx3
          have g1 := cell_of_row W3 wr.heap.size 1 _ _ (0, 0) hx3
          have g2 := cell_of_row W3 wr.heap.size 2 _ _ (0, 0) hx3
          have g3 := cell_of_row W3 wr.heap.size 3 _ _ (0, 0) hx3
          simp at g0 g1 g2 g3
          have HS3 : Hid (∀ X, Below W3.heap.size W3 X → X.cell? ⟨wr.heap.size, 0, none⟩ = some (.int .i64 op) ∧ X.cell? ⟨wr.heap.size, 2, none⟩ = some (.int .i64 xb) ∧ X.cell? ⟨wr.heap.size, 3, none⟩ = some (.string nm)) := Lib.hid fun X hX =>
            ⟨(hX.cell (p := ⟨wr.heap.size, 0, none⟩) hz3).trans g0, (hX.cell (p := ⟨wr.heap.size, 2, none⟩) hz3).trans g2, (hX.cell (p := ⟨wr.heap.size, 3, none⟩) hz3).trans g3⟩
          have i2 : (q : Int) < (M : Int) := by omega
          have HBQ := Lib.hid hB3
          clear hq3 hx3 hB3 hBq hz3
          obtain ⟨sa, HSA⟩ : ∃ v, Hid (sgnI xa = v) := ⟨_, Lib.hid rfl⟩
          go_upto_if 65 with (fail)
          go_cut [8] (fun s8 wx => s8 = .int .i64 sa ∧ W3 = wx)
          case first =>
            cases hneg : decide (xa < 0) with
            | true =>
              have HV := Lib.hid (show sa = -2 * xa + 1 by rw [← HSA.out, sgnI_neg (of_decide_eq_true hneg)]; omega)
              go_wp2
              go_meet
              exact ⟨by rw [HV.out], rfl⟩
            | false =>
              have HV := Lib.hid (show sa = 2 * xa by rw [← HSA.out, sgnI_pos (of_decide_eq_false hneg)])
              go_wp2
              go_meet
              exact ⟨by rw [HV.out], rfl⟩
          case rest =>
          obtain ⟨rfl, hw⟩ := hcut
          subst hw
          clear g0 g1 g2 g3 e0 e1 e2 e3 f0 f2 ha1 ha2 hW3
          have hs1 := numS_size op
          have hs2 := numS_size sa
          have hs3 := numS_size xb
          have hs4 := txtS_size nm
          have hno1 : ¬ (9223372036854775807 < ou.size + (numS op).size) := by omega
          have hno2 : ¬ (9223372036854775807 < ou.size + (numS op).size + (numS sa).size) := by omega
          have hno3 : ¬ (9223372036854775807 < ou.size + (numS op).size + (numS sa).size + (numS xb).size) := by omega
          have hno4 : ¬ (9223372036854775807 < ou.size + (numS op).size + (numS sa).size + (numS xb).size + (txtS nm).size) := by omega
          clear hs1 hs2 hs3 hs4 HCN
          have hbY : Below W3.heap.size W3 W3 := Below.refl _ _
          have HCN : Hid (∀ (v : Int) (X : World), Below W3.heap.size W3 X → Calls Tryz.prog 106 #[.int .i64 v] X fun e Y => e = .returned (.string (numS v)) ∧ Below W3.heap.size W3 Y) := Lib.hid fun v X hX => (number28_any v X).mono fun e Y ⟨h1, h2⟩ => ⟨h1, hX.trans (h2.mono hX.size)⟩
          have HCW : Hid (∀ (v : ByteArray) (X : World), Below W3.heap.size W3 X → Calls Tryz.prog 104 #[.string v] X fun e Y => e = .returned (.string (txtS v)) ∧ Below W3.heap.size W3 Y) := Lib.hid fun v X hX => (word28_any v X).mono fun e Y ⟨h1, h2⟩ => ⟨h1, hX.trans (h2.mono hX.size)⟩
          go_upto_region 16 with fail
          have HT5 := Lib.hid (show (ac ++ numL op ++ numL sa ++ numL xb ++ txtL nm) ++ (catL insL (l.drop (q + 1)) ++ catL blkL (bl.drop (j + 1))) = T by
            rw [← HTQ.out, HQ3.out, ← HSA.out]
            simp only [insL, List.append_assoc])
          have HS5 := Lib.hid ((((HSQ.out.num op).num sa).num xb).txt nm)
          go_region_held3 (fun W => W.cell? ⟨wr.heap.size, 0, none⟩ = some (.int .i64 op) ∧ W.cell? ⟨wr.heap.size, 2, none⟩ = some (.int .i64 xb) ∧ W.cell? ⟨wr.heap.size, 3, none⟩ = some (.string nm))
            (exact HS3.out _ (by repeat (first | with_reducible exact hbY | with_reducible refine Below.drew ?_)))
            (first
              | (go_at_call 106; (with_reducible refine Calls.mono (HCN.out _ _ ?_) ?_); (focus (repeat (first | with_reducible exact hbY | with_reducible refine Below.drew ?_))); rintro e w6 ⟨rfl, hbY⟩)
              | (go_at_call 104; (with_reducible refine Calls.mono (HCW.out _ _ ?_) ?_); (focus (repeat (first | with_reducible exact hbY | with_reducible refine Below.drew ?_))); rintro e w6 ⟨rfl, hbY⟩))
          all_goals (
            have HB5 := Lib.hid (HBQ.out.trans (Below.mono (show Below W3.heap.size W3 _ by repeat (first | with_reducible exact hbY | with_reducible refine Below.drew ?_)) HBQ.out.size))
            clear hno1 hno2 hno3 hno4 hos hbY
            go_wp2
            go_roundg (M - (q + 1))
            case measure => rw [HG2]; omega
            case rel => exact ⟨q + 1, _, _, rfl, by omega, rfl, by go_num, HB5.out, HS5.out, HT5.out⟩)
        · have hqM : M = q := by omega
          subst hqM
          have HB5 := Lib.hid (HB.out.trans (hBq.mono HB.out.size))
          have HT5 := Lib.hid (show ac ++ catL blkL (bl.drop (j + 1)) = T by
            have := HTQ.out
            rw [← HM.out, catL_end, List.nil_append] at this
            exact this)
          have HG' := Lib.hid HG
          clear hBq HG HG2
          go_wp2
          go_roundg (N - (j + 1))
          case measure => rw [HG'.out]; omega
          case rel => exact ⟨j + 1, _, _, rfl, by omega, rfl, by go_num, HB5.out, HSQ.out, HT5.out⟩
    · have hjN : N = j := by omega
      subst hjN
      have HB5 := Lib.hid hBr
      have HT5 := Lib.hid (show acc = T by
        have := HTJ.out
        rw [← HN.out, catL_end, List.append_nil] at this
        exact this)
      clear hBr HG
      go_wp2
      go_ret
      exact ⟨by rw [← HT5.out, ← HSt.out.eq]; rfl, HB5.out⟩
end Go.Proofs.YtlpipoihinceiaaGreatDoor
/- ref28.Encode -/
namespace Go.Proofs.YtlpipoihinceiaaGreatDoor
open Go.RowKit Go.Proofs Go.Shelf

set_option maxRecDepth 100000 in
set_option maxHeartbeats 16000000 in
theorem Encode28_err (lb : ByteArray) (bl : List Blk) (ds : List (Int × Int × Int)) (A1 : Option Addr) (c1 : Nat) (A2 : Option Addr) (c2 : Nat) (w : World) (hp : BlkC w A1 c1 bl) (hd : DecC w A2 c2 ds)
    (hlb : lb.size ≤ 9223372036854775807) (herr : codeE lb bl ds ≠ 0) :
    Calls Tryz.prog 40 #[.agg #[.string lb, .slice A1 bl.length c1, .slice A2 ds.length c2]] w fun e w' => e = .returned (.tuple #[.string ⟨#[]⟩, .int .i64 (codeE lb bl ds)]) ∧ Below w.heap.size w w' := by
  obtain ⟨W0, hW0⟩ : ∃ W0, w.alloc (.cells #[.string lb, .slice A1 bl.length c1, .slice A2 ds.length c2] 62) = W0 := ⟨_, rfl⟩
  have hB0 : Below w.heap.size w W0 := by rw [← hW0]; exact (Below.refl _ _).alloc (Nat.le_refl _) _
  have hx0 : W0.heap[w.heap.size]? = some (.cells #[.string lb, .slice A1 bl.length c1, .slice A2 ds.length c2] 62 (0, 0)) := by rw [← hW0]; exact heap_alloc_new w _
  have HCK := Lib.hid (Check28_gen lb bl ds A1 c1 A2 c2 W0 (hp.keep hB0) (hd.keep hB0) hlb)
  have x0 : W0.cell? ⟨w.heap.size, 0, none⟩ = some (.string lb) := cell_of_row W0 _ 0 _ _ (0, 0) hx0
  have x1 : W0.cell? ⟨w.heap.size, 1, none⟩ = some (.slice A1 bl.length c1) := cell_of_row W0 _ 1 _ _ (0, 0) hx0
  have x2 : W0.cell? ⟨w.heap.size, 2, none⟩ = some (.slice A2 ds.length c2) := cell_of_row W0 _ 2 _ _ (0, 0) hx0
  obtain ⟨E, HE⟩ : ∃ Q, Hid (codeE lb bl ds = Q) := ⟨_, Lib.hid rfl⟩
  rw [HE.out] at HCK herr ⊢
  have HB := Lib.hid hB0
  have he : (E != 0) = true := by simpa using herr
  clear hp hd hlb herr hB0 hx0
  go_enter Tryz.func40, Tryz.ntmps40
  go_wp2_with fail
  refine HCK.out.mono ?_
  rintro e w1 ⟨rfl, hb1⟩
  have HB1 := Lib.hid (HB.out.trans (hb1.mono HB.out.size))
  clear hb1 x0 x1 x2 hW0
  go_wp2
  go_ret2
  exact ⟨rfl, HB1.out⟩

set_option maxRecDepth 100000 in
set_option maxHeartbeats 16000000 in
theorem Encode28_ok (lb : ByteArray) (bl : List Blk) (ds : List (Int × Int × Int)) (A1 : Option Addr) (c1 : Nat) (A2 : Option Addr) (c2 : Nat) (w : World) (hp : BlkC w A1 c1 bl) (hd : DecC w A2 c2 ds)
    (hsm : ∀ b ∈ bl, ∀ x ∈ b.l, -4000000000000000000 ≤ x.a ∧ x.a ≤ 4000000000000000000) (hlen : (codeL lb bl ds).length ≤ 70368744177664) (hlb : lb.size ≤ 9223372036854775807) (hok : codeE lb bl ds = 0) :
    Calls Tryz.prog 40 #[.agg #[.string lb, .slice A1 bl.length c1, .slice A2 ds.length c2]] w fun e w' => e = .returned (.tuple #[.string (codeS lb bl ds), .int .i64 0]) ∧ Below w.heap.size w w' := by
  obtain ⟨W0, hW0⟩ : ∃ W0, w.alloc (.cells #[.string lb, .slice A1 bl.length c1, .slice A2 ds.length c2] 62) = W0 := ⟨_, rfl⟩
  have hB0 : Below w.heap.size w W0 := by rw [← hW0]; exact (Below.refl _ _).alloc (Nat.le_refl _) _
  have hz0 : w.heap.size + 1 = W0.heap.size := by rw [← hW0]; simp
  have hx0 : W0.heap[w.heap.size]? = some (.cells #[.string lb, .slice A1 bl.length c1, .slice A2 ds.length c2] 62 (0, 0)) := by rw [← hW0]; exact heap_alloc_new w _
  have hck := Check28_gen lb bl ds A1 c1 A2 c2 W0 (hp.keep hB0) (hd.keep hB0) hlb
  rw [hok] at hck
  have hel : (numL bl.length ++ catL blkL bl).length ≤ 70368744177664 := by
    simp only [codeL, List.length_append] at hlen ⊢
    omega
  have heb := fun X (hX : Below w.heap.size w X) => EncodeBlocks28_any A1 c1 bl X (hp.keep hX) hsm hel
  obtain ⟨EB, HEB⟩ : ∃ Q : ByteArray, Hid (⟨(numL bl.length ++ catL blkL bl).toArray⟩ = Q) := ⟨_, Lib.hid rfl⟩
  obtain ⟨T, hT⟩ : ∃ T, Hid (codeL lb bl ds = T) := ⟨_, Lib.hid rfl⟩
  obtain ⟨N1, HN1⟩ : ∃ Q, Hid (bl.length = Q) := ⟨_, Lib.hid rfl⟩
  obtain ⟨N2, HN2⟩ : ∃ Q, Hid (ds.length = Q) := ⟨_, Lib.hid rfl⟩
  have hd1 := hd.1
  have hd2 := hd.2.1
  have HSB := Lib.hid (show StrL EB (numL bl.length ++ catL blkL bl) by rw [← HEB.out]; rfl)
  have heS : EB.size ≤ 70368744177664 := by rw [HSB.out.size]; exact hel
  rw [HEB.out] at heb
  rw [HN1.out] at hck hW0 hx0 heb ⊢
  rw [HN2.out] at hd1 hck hW0 hx0 ⊢
  rw [show codeS lb bl ds = ⟨T.toArray⟩ by rw [codeS, hT.out]]
  rw [hT.out] at hlen
  have HT := Lib.hid (show (txtL lb ++ (numL bl.length ++ catL blkL bl) ++ numL N2) ++ catL decL (ds.drop 0) = T by rw [← hT.out, codeL, HN2.out]; simp only [List.append_assoc, List.drop_zero])
  have HL := Lib.hid hlen
  have HCK := Lib.hid hck
  have HD := Lib.hid hd
  have HEBC := Lib.hid heb
  have x0 : W0.cell? ⟨w.heap.size, 0, none⟩ = some (.string lb) := cell_of_row W0 _ 0 _ _ (0, 0) hx0
  have x1 : W0.cell? ⟨w.heap.size, 1, none⟩ = some (.slice A1 N1 c1) := cell_of_row W0 _ 1 _ _ (0, 0) hx0
  have x2 : W0.cell? ⟨w.heap.size, 2, none⟩ = some (.slice A2 N2 c2) := cell_of_row W0 _ 2 _ _ (0, 0) hx0
  have HC : Hid (∀ X, Below W0.heap.size W0 X → Below w.heap.size w X ∧ X.cell? ⟨w.heap.size, 0, none⟩ = some (.string lb) ∧ X.cell? ⟨w.heap.size, 1, none⟩ = some (.slice A1 N1 c1) ∧ X.cell? ⟨w.heap.size, 2, none⟩ = some (.slice A2 N2 c2)) := Lib.hid fun X hX => by
    have h0 := (hX.block w.heap.size (by omega)).trans hx0
    exact ⟨hB0.trans (hX.mono (by omega)), cell_of_row X _ 0 _ _ (0, 0) h0, cell_of_row X _ 1 _ _ (0, 0) h0, cell_of_row X _ 2 _ _ (0, 0) h0⟩
  clear hp hd hsm hlen hel hlb hok hck heb hB0 hx0 hz0
  go_enter Tryz.func40, Tryz.ntmps40
  go_wp2_with fail
  refine HCK.out.mono ?_
  rintro e w1 ⟨rfl, hbY⟩
  clear x0 x1 x2 hW0
  have hs1 := txtS_size lb
  have hs2 := numS_size N2
  have hno1 : ¬ (9223372036854775807 < (txtS lb).size + EB.size) := by omega
  have hno2 : ¬ (9223372036854775807 < (txtS lb).size + EB.size + (numS N2).size) := by omega
  clear hs1 hs2 heS
  have HCN : Hid (∀ (v : Int) (X : World), Below W0.heap.size W0 X → Calls Tryz.prog 106 #[.int .i64 v] X fun e Y => e = .returned (.string (numS v)) ∧ Below W0.heap.size W0 Y) := Lib.hid fun v X hX => (number28_any v X).mono fun e Y ⟨h1, h2⟩ => ⟨h1, hX.trans (h2.mono hX.size)⟩
  have HCW : Hid (∀ (v : ByteArray) (X : World), Below W0.heap.size W0 X → Calls Tryz.prog 104 #[.string v] X fun e Y => e = .returned (.string (txtS v)) ∧ Below W0.heap.size W0 Y) := Lib.hid fun v X hX => (word28_any v X).mono fun e Y ⟨h1, h2⟩ => ⟨h1, hX.trans (h2.mono hX.size)⟩
  have HCE : Hid (∀ (X : World), Below W0.heap.size W0 X → Calls Tryz.prog 105 #[.slice A1 N1 c1] X fun e Y => e = .returned (.string EB) ∧ Below W0.heap.size W0 Y) := Lib.hid fun X hX => (HEBC.out X (HC.out X hX).1).mono fun e Y ⟨h1, h2⟩ => ⟨h1, hX.trans (h2.mono hX.size)⟩
  go_upto_region 4 with fail
  go_cut [5] (fun s5 wx => s5 = .string (txtS lb ++ EB ++ numS N2) ∧ Below W0.heap.size W0 wx)
  case first =>
    go_region_held3 (fun W => W.cell? ⟨w.heap.size, 0, none⟩ = some (.string lb) ∧ W.cell? ⟨w.heap.size, 1, none⟩ = some (.slice A1 N1 c1) ∧ W.cell? ⟨w.heap.size, 2, none⟩ = some (.slice A2 N2 c2))
      (exact (HC.out _ (by repeat (first | with_reducible exact hbY | with_reducible refine Below.drew ?_))).2)
      (first
        | (go_at_call 106; (with_reducible refine Calls.mono (HCN.out _ _ ?_) ?_); (focus (repeat (first | with_reducible exact hbY | with_reducible refine Below.drew ?_))); rintro e w6 ⟨rfl, hbY⟩)
        | (go_at_call 104; (with_reducible refine Calls.mono (HCW.out _ _ ?_) ?_); (focus (repeat (first | with_reducible exact hbY | with_reducible refine Below.drew ?_))); rintro e w6 ⟨rfl, hbY⟩)
        | (go_at_call 105; (with_reducible refine Calls.mono (HCE.out _ ?_) ?_); (focus (repeat (first | with_reducible exact hbY | with_reducible refine Below.drew ?_))); rintro e w6 ⟨rfl, hbY⟩))
    all_goals (
      go_wp2_with fail
      go_meet
      exact ⟨rfl, by repeat (first | with_reducible exact hbY | with_reducible refine Below.drew ?_)⟩)
  case rest =>
  obtain ⟨rfl, hb2⟩ := hcut
  have HS2 := Lib.hid (show StrL (txtS lb ++ EB ++ numS N2) (txtL lb ++ (numL bl.length ++ catL blkL bl) ++ numL N2) from StrL.num (by
    have h := HSB.out
    unfold StrL at h ⊢
    rw [ByteArray.data_append, Array.toList_append, h]
    rfl) N2)
  generalize txtS lb ++ EB ++ numS N2 = out2 at HS2
  generalize txtL lb ++ (numL bl.length ++ catL blkL bl) ++ numL N2 = acc2 at HS2 HT
  have HB2 := Lib.hid hb2
  clear hb2 hno1 hno2 hbY
  go_wp2_with fail
  go_loopg [5, 6] N2 (fun g s5 ct wr => ∃ (q : Nat) (out : ByteArray) (acc : List UInt8), g = N2 - q ∧ q ≤ N2 ∧ s5 = .string out ∧ ct = .int .i64 q ∧ Below W0.heap.size W0 wr ∧ StrL out acc ∧ acc ++ catL decL (ds.drop q) = T)
  case atStart => exact ⟨0, _, _, rfl, by omega, rfl, rfl, HB2.out, HS2.out, HT.out⟩
  case round =>
    obtain ⟨q, ou, ac, HG, hq, rfl, rfl, hbY, hSq, hTq⟩ := hrel
    have HTQ := Lib.hid hTq
    have HSQ := Lib.hid hSq
    have hos : ou.size ≤ 70368744177664 := by
      have h1 := hSq.size
      have h2 := HL.out
      rw [← hTq, List.length_append] at h2
      omega
    clear hTq hSq HT HS2 HB2
    obtain ⟨hbw, y0, y1, y2⟩ := HC.out _ hbY
    by_cases hlq : q < N2
    · obtain ⟨t, hq3⟩ : ∃ t, ds[q]? = some t := ⟨_, List.getElem?_eq_getElem (by rw [HN2.out]; exact hlq)⟩
      have HQ3 := Lib.hid (catL_at decL hq3)
      have HDD : Hid (∃ g o, A2 = some ⟨g, o, none⟩ ∧ ∀ X, Below W0.heap.size W0 X → X.cell? ⟨w.heap.size, 2, none⟩ = some (.slice A2 N2 c2) ∧ X.cell? ⟨g, o + q * 3, none⟩ = some (.int .i64 t.1) ∧ X.cell? ⟨g, o + q * 3 + 1, none⟩ = some (.int .i64 t.2.1) ∧ X.cell? ⟨g, o + q * 3 + 2, none⟩ = some (.int .i64 t.2.2)) := Lib.hid (by
        obtain ⟨g, o, e1, e4, e5, e6⟩ := HD.out.2.2 _ _ hq3
        have hl : g < w.heap.size := World.block_lt_of_cell? w ⟨g, o + q * 3, none⟩ e4
        exact ⟨g, o, e1, fun X hX => ⟨(HC.out X hX).2.2.2, ((HC.out X hX).1.cell hl).trans e4, ((HC.out X hX).1.cell hl).trans e5, ((HC.out X hX).1.cell hl).trans e6⟩⟩)
      obtain ⟨g, o, rfl, hS⟩ := HDD.out
      have HS := Lib.hid hS
      clear hS HDD
      obtain ⟨tid, tk, tb⟩ := t
      simp only at HS
      have i2 : (q : Int) < (N2 : Int) := by omega
      have hs1 := numS_size tid
      have hs2 := numS_size tk
      have hs3 := numS_size tb
      have hno1 : ¬ (9223372036854775807 < ou.size + (numS tid).size) := by omega
      have hno2 : ¬ (9223372036854775807 < ou.size + (numS tid).size + (numS tk).size) := by omega
      have hno3 : ¬ (9223372036854775807 < ou.size + (numS tid).size + (numS tk).size + (numS tb).size) := by omega
      have HT5 := Lib.hid (show (ac ++ numL tid ++ numL tk ++ numL tb) ++ catL decL (ds.drop (q + 1)) = T by
        rw [← HTQ.out, HQ3.out]
        simp only [decL, List.append_assoc])
      have HS5 := Lib.hid (((HSQ.out.num tid).num tk).num tb)
      clear hs1 hs2 hs3 hq3 hbw
      go_wp2_with fail
      clear y0 y1 y2
      go_region_held3 (fun W => W.cell? ⟨w.heap.size, 2, none⟩ = some (.slice (some ⟨g, o, none⟩) N2 c2) ∧ W.cell? ⟨g, o + q * 3, none⟩ = some (.int .i64 tid) ∧ W.cell? ⟨g, o + q * 3 + 1, none⟩ = some (.int .i64 tk) ∧ W.cell? ⟨g, o + q * 3 + 2, none⟩ = some (.int .i64 tb))
        (exact HS.out _ (by repeat (first | with_reducible exact hbY | with_reducible refine Below.drew ?_)))
        (first | (go_at_call 106; (with_reducible refine Calls.mono (HCN.out _ _ ?_) ?_); (focus (repeat (first | with_reducible exact hbY | with_reducible refine Below.drew ?_))); rintro e w6 ⟨rfl, hbY⟩))
      all_goals (
        have HB5 := Lib.hid (show Below W0.heap.size W0 _ by repeat (first | with_reducible exact hbY | with_reducible refine Below.drew ?_))
        clear hno1 hno2 hno3 hos hbY
        go_wp2
        go_roundg (N2 - (q + 1))
        case measure => rw [HG]; omega
        case rel => exact ⟨q + 1, _, _, rfl, by omega, rfl, by go_num, HB5.out, HS5.out, HT5.out⟩)
    · have hqN : N2 = q := by omega
      subst hqN
      have HB5 := Lib.hid hbw
      have HT5 := Lib.hid (show ac = T by
        have := HTQ.out
        rw [← HN2.out, catL_end, List.append_nil] at this
        exact this)
      clear hbY hbw HG
      go_wp2
      go_ret2
      exact ⟨by rw [← HT5.out, ← HSQ.out.eq]; rfl, HB5.out⟩
end Go.Proofs.YtlpipoihinceiaaGreatDoor
/- Code that is checked and not great: how long its bytes are, how great its numbers -/
namespace Go.Proofs.YtlpipoihinceiaaGreatDoor
open Go

/-- Code of a size that can be written. -/
structure Sml (lb : ByteArray) (bl : List Blk) (ds : List (Int × Int × Int)) : Prop where
  slb : lb.size ≤ 1000
  sbl : bl.length ≤ 1000
  sds : ds.length ≤ 1000
  sl : ∀ b ∈ bl, b.l.length ≤ 1000
  snm : ∀ b ∈ bl, ∀ x ∈ b.l, x.nm.size ≤ 1000
theorem Sml.len {lb : ByteArray} {bl : List Blk} {ds : List (Int × Int × Int)} (h : Sml lb bl ds) : (codeL lb bl ds).length ≤ 70368744177664 := by
  have hi : ∀ b ∈ bl, ∀ x ∈ b.l, (insL x).length ≤ 1024 := fun b hb x hx => by
    have h0 := h.snm b hb x hx
    have h1 := numL_len x.op
    have h2 := numL_len (sgnI x.a)
    have h3 := numL_len x.b
    have h4 := txtL_len x.nm
    simp only [insL, List.length_append]
    omega
  have hb : ∀ b ∈ bl, (blkL b).length ≤ 1024018 := fun b hb => by
    have h0 := catL_len insL 1024 b.l (hi b hb)
    have h1 := numL_len b.cap
    have h2 := numL_len (parI b.par)
    have h3 := numL_len b.l.length
    have h4 : b.l.length * 1024 ≤ 1000 * 1024 := Nat.mul_le_mul_right _ (h.sl b hb)
    simp only [blkL, List.length_append]
    omega
  have h0 := catL_len blkL 1024018 bl hb
  have h1 : bl.length * 1024018 ≤ 1000 * 1024018 := Nat.mul_le_mul_right _ h.sbl
  have h2 := catL_len decL 18 ds (fun t _ => by
    have h1 := numL_len t.1
    have h2 := numL_len t.2.1
    have h3 := numL_len t.2.2
    simp only [decL, List.length_append]
    omega)
  have h3 : ds.length * 18 ≤ 1000 * 18 := Nat.mul_le_mul_right _ h.sds
  have h4 := txtL_len lb
  have h5 := numL_len bl.length
  have h6 := numL_len ds.length
  have h7 := h.slb
  simp only [codeL, List.length_append]
  omega

theorem frstE_all {α : Type} (f : α → Int) : ∀ {l : List α}, frstE f l = 0 → ∀ x ∈ l, f x = 0
  | [], _, x, hx => by simp at hx
  | y :: r, h, x, hx => by
    by_cases hy : f y = 0
    · rw [frstE, if_pos hy] at h
      rcases List.mem_cons.1 hx with rfl | hx
      · exact hy
      · exact frstE_all f h x hx
    · rw [frstE, if_neg hy] at h
      exact absurd h hy
theorem insE_a {bl : List Blk} {len : Nat} {op a b : Int} {nm : ByteArray} (h : insE bl len op a b nm = 0) (hl : len ≤ 1000) (hb : bl.length ≤ 1000) : -4000000000000000000 ≤ a ∧ a ≤ 4000000000000000000 := by
  unfold insE at h
  by_cases hk : knO op = false
  · rw [if_pos hk] at h; exact absurd h (by decide)
  rw [if_neg hk] at h
  by_cases h1 : C1B op a b nm = true
  · rw [if_pos h1] at h; exact absurd h (by decide)
  rw [if_neg h1] at h
  by_cases h2 : C2B op nm = true
  · rw [if_pos h2] at h; exact absurd h (by decide)
  rw [if_neg h2] at h
  by_cases h3 : rngB bl len op a b = false
  · rw [if_pos h3] at h; exact absurd h (by decide)
  have h3' : rngB bl len op a b = true := by simpa using h3
  have hk' : 1 ≤ op ∧ op ≤ 16 := by simpa [knO] using hk
  clear h h3 hk h2
  by_cases ha : a = 0
  · omega
  have hf : fldA op = true := by
    cases hf : fldA op with
    | true => rfl
    | false => exact absurd (by simp [C1B, hf, ha]) h1
  clear h1
  unfold rngB at h3'
  rcases (show op = 1 ∨ op = 2 ∨ op = 3 ∨ op = 4 ∨ op = 5 ∨ op = 6 ∨ op = 7 ∨ op = 8 ∨ op = 9 ∨ op = 10 ∨ op = 11 ∨ op = 12 ∨ op = 13 ∨ op = 14 ∨ op = 15 ∨ op = 16 by omega) with rfl | rfl | rfl | rfl | rfl | rfl | rfl | rfl | rfl | rfl | rfl | rfl | rfl | rfl | rfl | rfl
  all_goals (first
    | (exact absurd hf (by decide))
    | (simp at h3'; omega))
theorem Sml.a {lb : ByteArray} {bl : List Blk} {ds : List (Int × Int × Int)} (h : Sml lb bl ds) (hok : codeE lb bl ds = 0) : ∀ b ∈ bl, ∀ x ∈ b.l, -4000000000000000000 ≤ x.a ∧ x.a ≤ 4000000000000000000 := fun b hb x hx => by
  have hf : frstE (blkE bl) bl = 0 := by
    unfold codeE at hok
    by_cases hl : labelB lb = false
    · rw [if_pos hl] at hok; exact absurd hok (by decide)
    rw [if_neg hl] at hok
    by_cases hf : frstE (blkE bl) bl = 0
    · exact hf
    · rw [if_neg hf] at hok; exact absurd hok hf
  have hbE := frstE_all _ hf b hb
  have hi : frstE (insX bl b.l.length) b.l = 0 := by
    unfold blkE at hbE
    split at hbE
    · exact absurd hbE (by decide)
    split at hbE
    · exact absurd hbE (by decide)
    exact hbE
  exact insE_a (frstE_all _ hi x hx) (h.sl b hb) h.sbl
theorem Sml.of_grt {lb : ByteArray} {bl : List Blk} {ds : List (Int × Int × Int)} (h : grtC lb bl ds.length = false) : Sml lb bl ds := by
  simp only [grtC, Bool.or_eq_false_iff, decide_eq_false_iff_not, grtB] at h
  obtain ⟨⟨h1, h2⟩, h3, h4⟩ := h
  have hk : ∀ b ∈ bl, bigK b = false := fun b hb => by
    have := List.any_eq_false.1 h4 b hb
    simpa using this
  refine ⟨by omega, by omega, by omega, fun b hb => ?_, fun b hb x hx => ?_⟩
  · have := hk b hb
    simp only [bigK, Bool.or_eq_false_iff, decide_eq_false_iff_not] at this
    omega
  · have := hk b hb
    simp only [bigK, Bool.or_eq_false_iff] at this
    have hx2 := List.any_eq_false.1 this.2 x hx
    simp only [bigI, decide_eq_true_eq] at hx2
    omega
end Go.Proofs.YtlpipoihinceiaaGreatDoor
/- compile.Encode -/
namespace Go.Proofs.YtlpipoihinceiaaGreatDoor
open Go.RowKit Go.Proofs Go.Shelf

/-- What is handed on to a writer: the builder, and how long its bytes may be. -/
theorem Wrote.num {b : Nat} {acc T R : List UInt8} {W X : World} (h : Wrote b b acc W X) (hbW : b ≤ X.heap.size) (v : Int) (hT : acc ++ (numL v ++ R) = T) (hl : T.length ≤ 70368744177664) :
    Calls Tryz.prog 98 #[.int .i64 v, .pointer (some ⟨b, 0, none⟩)] X fun e w' => e = .returned (.tuple #[]) ∧ Wrote b b (acc ++ numL v) X w' ∧ (acc ++ numL v) ++ R = T :=
  (Encode1_any v b b acc X hbW h.1 (by rw [← hT] at hl; rw [List.length_append] at hl; omega)).mono fun e w' ⟨h1, h2⟩ => ⟨h1, h2, by rw [List.append_assoc]; exact hT⟩
theorem Wrote.txt {b : Nat} {acc T R : List UInt8} {W X : World} (h : Wrote b b acc W X) (hbW : b ≤ X.heap.size) (s : ByteArray) (hT : acc ++ (txtL s ++ R) = T) (hl : T.length ≤ 70368744177664) :
    Calls Tryz.prog 101 #[.string s, .pointer (some ⟨b, 0, none⟩)] X fun e w' => e = .returned (.tuple #[]) ∧ Wrote b b (acc ++ txtL s) X w' ∧ (acc ++ txtL s) ++ R = T :=
  (Encode2_any s b b acc X hbW h.1 (by rw [← hT] at hl; rw [List.length_append] at hl; omega)).mono fun e w' ⟨h1, h2⟩ => ⟨h1, h2, by rw [List.append_assoc]; exact hT⟩
/-- A row of another kind than bytes stands. -/
theorem Wrote.row {b : Nat} {acc : List UInt8} {W X : World} (h : Wrote b b acc W X) {k : Nat} {c : Array Value} {t : TypeId} (hc : W.heap[k]? = some (.cells c t (0, 0))) (hk : k ≠ b) (ht : t ≠ 5) : X.heap[k]? = some (.cells c t (0, 0)) :=
  h.2.2 _ _ hc (fun e => hk (Option.some.inj e)) (fun c' fz' e => ht (by injection e))

set_option maxRecDepth 100000 in
set_option maxHeartbeats 32000000 in
theorem cEncode_gen (lb : ByteArray) (bl : List Blk) (ds : List (Int × Int × Int)) (A1 : Option Addr) (c1 : Nat) (A2 : Option Addr) (c2 : Nat) (w : World) (hp : BlkC w A1 c1 bl) (hd : DecC w A2 c2 ds)
    (hsm : ∀ b ∈ bl, ∀ x ∈ b.l, -4000000000000000000 ≤ x.a ∧ x.a ≤ 4000000000000000000) (hlen : (codeL lb bl ds).length ≤ 70368744177664) (hok : codeE lb bl ds = 0) :
    Calls Tryz.prog 39 #[.agg #[.string lb, .slice A1 bl.length c1, .slice A2 ds.length c2]] w fun e w' => e = .returned (.tuple #[.string (codeS lb bl ds), .int .i64 0]) ∧ Below w.heap.size w w' := by
  obtain ⟨W0, hW0⟩ : ∃ W0, w.alloc (.cells #[.string lb, .slice A1 bl.length c1, .slice A2 ds.length c2] 62) = W0 := ⟨_, rfl⟩
  have hB0 : Below w.heap.size w W0 := by rw [← hW0]; exact (Below.refl _ _).alloc (Nat.le_refl _) _
  have hz0 : w.heap.size + 1 = W0.heap.size := by rw [← hW0]; simp
  have hx0 : W0.heap[w.heap.size]? = some (.cells #[.string lb, .slice A1 bl.length c1, .slice A2 ds.length c2] 62 (0, 0)) := by rw [← hW0]; exact heap_alloc_new w _
  have hck := cCheck_gen lb bl ds A1 c1 A2 c2 W0 (hp.keep hB0) (hd.keep hB0)
  rw [hok] at hck
  obtain ⟨T, hT⟩ : ∃ T, Hid (codeL lb bl ds = T) := ⟨_, Lib.hid rfl⟩
  obtain ⟨N1, HN1⟩ : ∃ Q, Hid (bl.length = Q) := ⟨_, Lib.hid rfl⟩
  obtain ⟨N2, HN2⟩ : ∃ Q, Hid (ds.length = Q) := ⟨_, Lib.hid rfl⟩
  have hb1 := hp.1
  have hb2 := hp.2.1
  have hd1 := hd.1
  have hd2 := hd.2.1
  rw [HN1.out] at hb1 hck hW0 hx0 ⊢
  rw [HN2.out] at hd1 hck hW0 hx0 ⊢
  rw [show codeS lb bl ds = ⟨T.toArray⟩ by rw [codeS, hT.out]]
  rw [hT.out] at hlen
  have HT := Lib.hid (show txtL lb ++ (numL N1 ++ (catL blkL (bl.drop 0) ++ (numL N2 ++ catL decL (ds.drop 0)))) = T by rw [← hT.out, codeL, HN1.out, HN2.out]; rfl)
  have HL := Lib.hid hlen
  have HCK := Lib.hid hck
  have HP := Lib.hid (And.intro hp (And.intro hd hsm))
  have x0 : W0.cell? ⟨w.heap.size, 0, none⟩ = some (.string lb) := cell_of_row W0 _ 0 _ _ (0, 0) hx0
  have x1 : W0.cell? ⟨w.heap.size, 1, none⟩ = some (.slice A1 N1 c1) := cell_of_row W0 _ 1 _ _ (0, 0) hx0
  have x2 : W0.cell? ⟨w.heap.size, 2, none⟩ = some (.slice A2 N2 c2) := cell_of_row W0 _ 2 _ _ (0, 0) hx0
  have HB0 := Lib.hid (And.intro hB0 (And.intro hz0 hx0))
  clear hp hd hsm hlen hok hck hB0 hx0 hz0
  go_enter Tryz.func39, Tryz.ntmps39
  go_wp2_with fail
  refine HCK.out.mono ?_
  rintro e w1 ⟨rfl, hb1'⟩
  obtain ⟨b, hbb⟩ : ∃ b, w1.heap.size = b := ⟨_, rfl⟩
  obtain ⟨W1, hW1⟩ : ∃ W1, w1.alloc (.cells #[.pointer none, .slice none 0 0] 153) = W1 := ⟨_, rfl⟩
  have hB1 : Below b w1 W1 := by rw [← hW1, ← hbb]; exact (Below.refl _ _).alloc (Nat.le_refl _) _
  have hbd : Wrote b b [] W1 W1 := ⟨by rw [← hW1, ← hbb]; exact Lib.IsBuilderF.of (Lib.fresh_isBuilder _ _ w1), Below.refl _ _, Lib.OthersKept.refl _ _ _⟩
  have hwb : w.heap.size < b := by have := hb1'.size; have := HB0.out.2.1; omega
  have hz1 : W1.heap.size = b + 1 := by rw [← hW1, ← hbb]; simp
  have HC : Hid (∀ X, Below b W1 X → b ≤ X.heap.size ∧ Below w.heap.size w X ∧ BlkC X A1 c1 bl ∧ DecC X A2 c2 ds ∧ X.cell? ⟨w.heap.size, 0, none⟩ = some (.string lb) ∧ X.cell? ⟨w.heap.size, 1, none⟩ = some (.slice A1 N1 c1) ∧ X.cell? ⟨w.heap.size, 2, none⟩ = some (.slice A2 N2 c2)) := Lib.hid fun X hX => by
    have hBX : Below W0.heap.size W0 X := hb1'.trans ((hB1.mono (by have := hb1'.size; omega)).trans (hX.mono (by have := hb1'.size; omega)))
    have h0 := (hBX.block w.heap.size (by have := HB0.out.2.1; omega)).trans HB0.out.2.2
    have hwX := HB0.out.1.trans (hBX.mono HB0.out.1.size)
    exact ⟨by have := hX.size; omega, hwX, HP.out.1.keep hwX, HP.out.2.1.keep hwX, cell_of_row X _ 0 _ _ (0, 0) h0, cell_of_row X _ 1 _ _ (0, 0) h0, cell_of_row X _ 2 _ _ (0, 0) h0⟩
  have HTX := Lib.hid (hbd.txt (by omega) lb HT.out HL.out)
  clear x0 x1 x2 hW0
  obtain ⟨hbX, _, _, _, x0, x1, x2⟩ := HC.out W1 (Below.refl _ _)
  have HWB := Lib.hid (And.intro hwb hz1)
  have HBB := Lib.hid hbb
  have HB1 := Lib.hid hB1
  have HBD := Lib.hid hbd
  clear hwb hz1 hB1 HCK hb1' hbX hbd
  go_wp2_with fail
  refine HTX.out.mono ?_
  rintro e w2 ⟨rfl, hw2, hT2⟩
  have HW2 := Lib.hid hw2
  have HT2 := Lib.hid hT2
  clear hT2 HTX x0 x1 x2
  obtain ⟨hbX, _, _, _, x0, x1, x2⟩ := HC.out w2 hw2.2.1
  have HN := Lib.hid (hw2.num hbX (N1 : Int) HT2.out HL.out)
  clear hw2 hbX
  go_wp2_with fail
  refine HN.out.mono ?_
  rintro e w3 ⟨rfl, hw3, hT3⟩
  have HW3 := Lib.hid (HW2.out.trans hw3)
  have HT3 := Lib.hid hT3
  clear hw3 hT3 HN x0 x1 x2 HW2 HT2
  obtain ⟨_, _, _, _, x0, x1, x2⟩ := HC.out w3 HW3.out.2.1
  generalize txtL lb ++ numL (N1 : Int) = acc0 at HW3 HT3
  go_wp2_with fail
  clear x0 x1 x2
  go_loopg [9, 11, 33] N1 (fun g _ _ ct wr => ∃ (j : Nat) (acc : List UInt8), g = N1 - j ∧ j ≤ N1 ∧ ct = .int .i64 j ∧ Wrote b b acc W1 wr ∧ acc ++ (catL blkL (bl.drop j) ++ (numL N2 ++ catL decL (ds.drop 0))) = T)
  case atStart => exact ⟨0, _, rfl, by omega, rfl, HW3.out, HT3.out⟩
  case round =>
    obtain ⟨j, acc, HG, hj, rfl, hWr, hTj⟩ := hrel
    obtain ⟨X0, hX0⟩ : ∃ X0, X0 = wr := ⟨_, rfl⟩
    subst hX0
    have HTJ := Lib.hid hTj
    clear hTj HW3 HT3
    obtain ⟨hbX, _, hBC, _, x0, x1, x2⟩ := HC.out X0 hWr.2.1
    by_cases hlt : j < N1
    · obtain ⟨bk, hj3⟩ : ∃ b, bl[j]? = some b := ⟨_, List.getElem?_eq_getElem (by rw [HN1.out]; exact hlt)⟩
      obtain ⟨g, o, rfl, f0, f1, lA, lc, f2, hic⟩ := hBC.2.2 _ _ hj3
      have HA := Lib.hid (HP.out.2.2 bk (List.mem_of_getElem? hj3))
      have HJ3 := Lib.hid (catL_at blkL hj3)
      obtain ⟨cap, par, l⟩ := bk
      simp only at f0 f1 f2 hic HA
      obtain ⟨M, HM⟩ : ∃ Q, Hid (l.length = Q) := ⟨_, Lib.hid rfl⟩
      rw [HM.out] at f2
      have hm1 := hic.1
      have hm2 := hic.2.1
      rw [HM.out] at hm1
      obtain ⟨W4, hW4⟩ : ∃ W4, X0.alloc (.cells #[.int .i64 cap, .bool par, .slice lA M lc] 133) = W4 := ⟨_, rfl⟩
      have hWr4 : Wrote b b acc W1 W4 := by rw [← hW4]; exact hWr.alloc hbX _
      have hx4 : W4.heap[X0.heap.size]? = some (.cells #[.int .i64 cap, .bool par, .slice lA M lc] 133 (0, 0)) := by rw [← hW4]; exact heap_alloc_new X0 _
      have hbl : b < X0.heap.size := hWr.1.elim (fun h => h.lt) (fun h => h.lt)
      have HX4 : Hid (∀ (X : World) (l' : List UInt8), Wrote b b l' W4 X → b ≤ X.heap.size ∧ X.cell? ⟨X0.heap.size, 0, none⟩ = some (.int .i64 cap) ∧ X.cell? ⟨X0.heap.size, 1, none⟩ = some (.bool par) ∧ X.cell? ⟨X0.heap.size, 2, none⟩ = some (.slice lA M lc)) := Lib.hid fun X l' hX => by
        have h0 := hX.row hx4 (by omega) (by decide)
        exact ⟨(HC.out X (hWr4.2.1.trans hX.2.1)).1, cell_of_row X _ 0 _ _ (0, 0) h0, cell_of_row X _ 1 _ _ (0, 0) h0, cell_of_row X _ 2 _ _ (0, 0) h0⟩
      have HI : Hid (∀ (X : World) (l' : List UInt8), Wrote b b l' W4 X → InsC X lA lc l) := Lib.hid fun X l' hX => by
        obtain ⟨_, _, hBX, _⟩ := HC.out X (hWr4.2.1.trans hX.2.1)
        obtain ⟨g', o', e1, e2, e3, lA', lc', e4, e5⟩ := hBX.2.2 _ _ hj3
        obtain ⟨hbX', hwX', _, _⟩ := HC.out X (hWr4.2.1.trans hX.2.1)
        obtain ⟨g2, o2, d1, d2, d3, lA2, lc2, d4, d5⟩ := HP.out.1.2.2 _ _ hj3
        simp only at e4 d4
        obtain ⟨rfl, rfl⟩ : g' = g2 ∧ o' = o2 := by
          have := e1.symm.trans d1
          simp only [Option.some.injEq, Addr.mk.injEq, and_true] at this
          exact this
        obtain ⟨rfl, rfl⟩ : g = g' ∧ o = o' := by
          simp only [Option.some.injEq, Addr.mk.injEq, and_true] at e1
          exact e1
        have hk2 := (((HC.out X0 hWr.2.1).2.1).cell (World.block_lt_of_cell? w ⟨g, o + j * 3 + 2, none⟩ d4)).trans d4
        rw [f2] at hk2
        simp only [Option.some.injEq, Value.slice.injEq] at hk2
        obtain ⟨rfl, _, rfl⟩ := hk2
        exact d5.keep hwX'
      have H4 : Wrote b b acc W4 W4 := ⟨hWr4.1, Below.refl _ _, Lib.OthersKept.refl _ _ _⟩
      obtain ⟨hb4, g0, g1, g2⟩ := HX4.out W4 _ H4
      have HTA := Lib.hid (show acc ++ (numL cap ++ (numL (parI par) ++ (numL M ++ (catL insL (l.drop 0) ++ (catL blkL (bl.drop (j + 1)) ++ (numL N2 ++ catL decL (ds.drop 0))))))) = T by
        rw [← HTJ.out, HJ3.out, ← HM.out]
        simp only [blkL, List.append_assoc, List.drop_zero])
      have HCA := Lib.hid (H4.num hb4 cap HTA.out HL.out)
      have HWR4 := Lib.hid hWr4
      have i1 : (j : Int) < (N1 : Int) := by omega
      clear hj3 hic hBC hWr4 hx4 hbl H4 hb4 hWr hbX
      go_wp2_with fail
      refine HCA.out.mono ?_
      rintro e w5 ⟨rfl, hw5, hT5⟩
      have HW5 := Lib.hid hw5
      clear g0 g1 g2 f0 f1 f2 x0 x1 x2 hW4
      obtain ⟨hb5, g0, g1, g2⟩ := HX4.out w5 _ hw5
      have HCB := Lib.hid (hw5.num hb5 (parI par) hT5 HL.out)
      clear hw5 hT5 hb5 HCA
      go_upto_if 42 with (fail)
      go_cut [] (fun wx => Wrote b b (acc ++ numL cap ++ numL (parI par)) w5 wx ∧ (acc ++ numL cap ++ numL (parI par)) ++ (numL M ++ (catL insL (l.drop 0) ++ (catL blkL (bl.drop (j + 1)) ++ (numL N2 ++ catL decL (ds.drop 0))))) = T)
      case first =>
        cases par
        all_goals (
          first | rw [show parI true = 1 from rfl] at HCB | rw [show parI false = 0 from rfl] at HCB
          go_wp2_with fail
          refine HCB.out.mono ?_
          rintro e w6 ⟨rfl, hw6, hT6⟩
          have H6 := Lib.hid (And.intro hw6 hT6)
          clear hw6 hT6
          go_wp2
          go_meet
          exact H6.out)
      case rest =>
      obtain ⟨hw6, hT6⟩ := hcut
      have HT6 := Lib.hid hT6
      have HW6 := Lib.hid (HW5.out.trans hw6)
      clear g0 g1 g2 hw6 hT6 HCB HTA HTJ
      generalize acc ++ numL cap ++ numL (parI par) = acc6 at HW6 HT6
      obtain ⟨hb6, g0, g1, g2⟩ := HX4.out wc _ HW6.out
      have HCC := Lib.hid (HW6.out.num hb6 (M : Int) HT6.out HL.out)
      clear hb6
      go_wp2_with fail
      refine HCC.out.mono ?_
      rintro e w7 ⟨rfl, hw7, hT7⟩
      have HW7 := Lib.hid (HW6.out.trans hw7)
      have HT7 := Lib.hid hT7
      clear g0 g1 g2 hw7 hT7 HCC
      generalize acc6 ++ numL (M : Int) = acc7 at HW7 HT7
      obtain ⟨_, g0, g1, g2⟩ := HX4.out w7 _ HW7.out
      clear HW6 HT6 HW5
      go_wp2_with fail
      clear g0 g1 g2
      go_loopg [11, 55] M (fun g _ ct wq => ∃ (q : Nat) (ac : List UInt8), g = M - q ∧ q ≤ M ∧ ct = .int .i64 q ∧ Wrote b b ac W4 wq ∧ ac ++ (catL insL (l.drop q) ++ (catL blkL (bl.drop (j + 1)) ++ (numL N2 ++ catL decL (ds.drop 0)))) = T)
      case atStart => exact ⟨0, _, rfl, by omega, rfl, HW7.out, HT7.out⟩
      case round =>
        obtain ⟨q, ac, HG2, hq, rfl, hWq, hTq⟩ := hrel
        have HTQ := Lib.hid hTq
        clear hTq HW7 HT7
        obtain ⟨hbq, g0, g1, g2⟩ := HX4.out wr _ hWq
        by_cases hlq : q < M
        · obtain ⟨x, hq3⟩ : ∃ x, l[q]? = some x := ⟨_, List.getElem?_eq_getElem (by rw [HM.out]; exact hlq)⟩
          obtain ⟨lg, lo, rfl, e0, e1, e2, e3⟩ := (HI.out wr _ hWq).2.2.2 _ _ hq3
          have ha := HA.out x (List.mem_of_getElem? hq3)
          have HQ3 := Lib.hid (catL_at insL hq3)
          obtain ⟨op, xa, xb, nm⟩ := x
          simp only at e0 e1 e2 e3 ha
          obtain ⟨ha1, ha2⟩ := ha
          obtain ⟨W8, hW8⟩ : ∃ W8, wr.alloc (.cells #[.int .i64 op, .int .i64 xa, .int .i64 xb, .string nm] 130) = W8 := ⟨_, rfl⟩
          have hWq8 : Wrote b b ac W4 W8 := by rw [← hW8]; exact hWq.alloc hbq _
          have hx8 : W8.heap[wr.heap.size]? = some (.cells #[.int .i64 op, .int .i64 xa, .int .i64 xb, .string nm] 130 (0, 0)) := by rw [← hW8]; exact heap_alloc_new wr _
          have hbl : b < wr.heap.size := hWq.1.elim (fun h => h.lt) (fun h => h.lt)
          have HX8 : Hid (∀ (X : World) (l' : List UInt8), Wrote b b l' W8 X → b ≤ X.heap.size ∧ X.cell? ⟨wr.heap.size, 0, none⟩ = some (.int .i64 op) ∧ X.cell? ⟨wr.heap.size, 1, none⟩ = some (.int .i64 xa) ∧ X.cell? ⟨wr.heap.size, 2, none⟩ = some (.int .i64 xb) ∧ X.cell? ⟨wr.heap.size, 3, none⟩ = some (.string nm)) := Lib.hid fun X l' hX => by
            have h0 := hX.row hx8 (by omega) (by decide)
            exact ⟨(HX4.out X _ (hWq8.trans hX)).1, cell_of_row X _ 0 _ _ (0, 0) h0, cell_of_row X _ 1 _ _ (0, 0) h0, cell_of_row X _ 2 _ _ (0, 0) h0, cell_of_row X _ 3 _ _ (0, 0) h0⟩
          have H8 : Wrote b b ac W8 W8 := ⟨hWq8.1, Below.refl _ _, Lib.OthersKept.refl _ _ _⟩
          obtain ⟨hb8, k0, k1, k2, k3⟩ := HX8.out W8 _ H8
          have HTB := Lib.hid (show ac ++ (numL op ++ (numL (sgnI xa) ++ (numL xb ++ (txtL nm ++ (catL insL (l.drop (q + 1)) ++ (catL blkL (bl.drop (j + 1)) ++ (numL N2 ++ catL decL (ds.drop 0)))))))) = T by
            rw [← HTQ.out, HQ3.out]
            simp only [insL, List.append_assoc])
          have HC1 := Lib.hid (H8.num hb8 op HTB.out HL.out)
          have HWQ8 := Lib.hid hWq8
          have i2 : (q : Int) < (M : Int) := by omega
          clear hq3 hWq8 hx8 hbl H8 hb8 hWq hbq
          go_wp2_with fail
          refine HC1.out.mono ?_
          rintro e w9 ⟨rfl, hw9, hT9⟩
          have HW9 := Lib.hid hw9
          clear g0 g1 g2 e0 e1 e2 e3 k0 k1 k2 k3 hW8
          obtain ⟨hb9, k0, k1, k2, k3⟩ := HX8.out w9 _ hw9
          have HC2 := Lib.hid (hw9.num hb9 (sgnI xa) hT9 HL.out)
          clear hw9 hT9 hb9 HC1
          go_upto_if 65 with (fail)
          go_cut [] (fun wx => Wrote b b (ac ++ numL op ++ numL (sgnI xa)) w9 wx ∧ (ac ++ numL op ++ numL (sgnI xa)) ++ (numL xb ++ (txtL nm ++ (catL insL (l.drop (q + 1)) ++ (catL blkL (bl.drop (j + 1)) ++ (numL N2 ++ catL decL (ds.drop 0)))))) = T)
          case first =>
            cases hneg : decide (xa < 0) with
            | true =>
              have HE2 := Lib.hid (sgnI_neg (of_decide_eq_true hneg))
              rw [HE2.out] at HC2
              go_wp2_with fail
              refine HC2.out.mono ?_
              rintro e w6 ⟨rfl, hw6, hT6⟩
              have H6 := Lib.hid (And.intro hw6 hT6)
              clear hw6 hT6
              go_wp2
              go_meet
              rw [HE2.out]
              exact H6.out
            | false =>
              have HE2 := Lib.hid (sgnI_pos (of_decide_eq_false hneg))
              rw [HE2.out] at HC2
              go_wp2_with fail
              refine HC2.out.mono ?_
              rintro e w6 ⟨rfl, hw6, hT6⟩
              have H6 := Lib.hid (And.intro hw6 hT6)
              clear hw6 hT6
              go_wp2
              go_meet
              rw [HE2.out]
              exact H6.out
          case rest =>
          obtain ⟨hw6, hT6⟩ := hcut
          have HWA := Lib.hid (HW9.out.trans hw6)
          have HTA := Lib.hid hT6
          clear k0 k1 k2 k3 hw6 hT6 HC2 HTB HTQ HW9
          generalize ac ++ numL op ++ numL (sgnI xa) = acA at HWA HTA
          obtain ⟨hbA, k0, k1, k2, k3⟩ := HX8.out wc _ HWA.out
          have HC3 := Lib.hid (HWA.out.num hbA xb HTA.out HL.out)
          clear hbA
          go_wp2_with fail
          refine HC3.out.mono ?_
          rintro e wB ⟨rfl, hwB, hTB⟩
          have HWC := Lib.hid (HWA.out.trans hwB)
          have HTC := Lib.hid hTB
          clear k0 k1 k2 k3 hwB hTB HC3
          generalize acA ++ numL xb = acB at HWC HTC
          obtain ⟨hbB, k0, k1, k2, k3⟩ := HX8.out wB _ HWC.out
          have HC4 := Lib.hid (HWC.out.txt hbB nm HTC.out HL.out)
          clear hbB HWA HTA
          go_wp2_with fail
          refine HC4.out.mono ?_
          rintro e wD ⟨rfl, hwD, hTD⟩
          have HWD := Lib.hid (HWQ8.out.trans (HWC.out.trans hwD))
          have HTD := Lib.hid hTD
          clear k0 k1 k2 k3 hwD hTD HC4 HWC HTC
          go_wp2
          go_roundg (M - (q + 1))
          case measure => rw [HG2]; omega
          case rel => exact ⟨q + 1, _, rfl, by omega, by go_num, HWD.out, HTD.out⟩
        · have hqM : M = q := by omega
          subst hqM
          have HWD := Lib.hid (HWR4.out.trans hWq)
          have HTD := Lib.hid (show ac ++ (catL blkL (bl.drop (j + 1)) ++ (numL N2 ++ catL decL (ds.drop 0))) = T by
            have := HTQ.out
            rw [← HM.out, catL_end, List.nil_append] at this
            exact this)
          have HG' := Lib.hid HG
          clear hWq hbq HG HG2 g0 g1 g2
          go_wp2
          go_roundg (N1 - (j + 1))
          case measure => rw [HG'.out]; omega
          case rel => exact ⟨j + 1, _, rfl, by omega, by go_num, HWD.out, HTD.out⟩
    · have hjN : N1 = j := by omega
      subst hjN
      have HWD := Lib.hid hWr
      have HTD := Lib.hid (show acc ++ (numL N2 ++ catL decL (ds.drop 0)) = T by
        have := HTJ.out
        rw [← HN1.out, catL_end, List.nil_append] at this
        exact this)
      have HC5 := Lib.hid (hWr.num hbX (N2 : Int) HTD.out HL.out)
      clear hWr hbX hBC HG
      go_wp2_with fail
      refine HC5.out.mono ?_
      rintro e w5 ⟨rfl, hw5, hT5⟩
      have HW5 := Lib.hid (HWD.out.trans hw5)
      have HT5 := Lib.hid hT5
      clear hw5 hT5 HC5 HWD HTD x0 x1 x2
      generalize acc ++ numL (N2 : Int) = acc5 at HW5 HT5
      obtain ⟨_, _, _, _, x0, x1, x2⟩ := HC.out w5 HW5.out.2.1
      go_wp2_with fail
      clear x0 x1 x2
      go_loopg [13, 96] N2 (fun g _ ct wq => ∃ (q : Nat) (ac : List UInt8), g = N2 - q ∧ q ≤ N2 ∧ ct = .int .i64 q ∧ Wrote b b ac W1 wq ∧ ac ++ catL decL (ds.drop q) = T)
      case atStart => exact ⟨0, _, rfl, by omega, rfl, HW5.out, HT5.out⟩
      case round =>
        obtain ⟨q, ac, HG2, hq, rfl, hWq, hTq⟩ := hrel
        have HTQ := Lib.hid hTq
        clear hTq HW5 HT5
        obtain ⟨hbq, hwq, _, hDC, x0, x1, x2⟩ := HC.out wr hWq.2.1
        by_cases hlq : q < N2
        · obtain ⟨t, hq3⟩ : ∃ t, ds[q]? = some t := ⟨_, List.getElem?_eq_getElem (by rw [HN2.out]; exact hlq)⟩
          have HQ3 := Lib.hid (catL_at decL hq3)
          obtain ⟨dg, dof, rfl, f0, f1, f2⟩ := hDC.2.2 _ _ hq3
          obtain ⟨tid, tk, tb⟩ := t
          simp only at f0 f1 f2
          obtain ⟨W8, hW8⟩ : ∃ W8, wr.alloc (.cells #[.int .i64 tid, .int .i64 tk, .int .i64 tb] 135) = W8 := ⟨_, rfl⟩
          have hWq8 : Wrote b b ac W1 W8 := by rw [← hW8]; exact hWq.alloc hbq _
          have hx8 : W8.heap[wr.heap.size]? = some (.cells #[.int .i64 tid, .int .i64 tk, .int .i64 tb] 135 (0, 0)) := by rw [← hW8]; exact heap_alloc_new wr _
          have hbl : b < wr.heap.size := hWq.1.elim (fun h => h.lt) (fun h => h.lt)
          have HX8 : Hid (∀ (X : World) (l' : List UInt8), Wrote b b l' W8 X → b ≤ X.heap.size ∧ X.cell? ⟨wr.heap.size, 0, none⟩ = some (.int .i64 tid) ∧ X.cell? ⟨wr.heap.size, 1, none⟩ = some (.int .i64 tk) ∧ X.cell? ⟨wr.heap.size, 2, none⟩ = some (.int .i64 tb)) := Lib.hid fun X l' hX => by
            have h0 := hX.row hx8 (by omega) (by decide)
            exact ⟨(HC.out X (hWq8.trans hX).2.1).1, cell_of_row X _ 0 _ _ (0, 0) h0, cell_of_row X _ 1 _ _ (0, 0) h0, cell_of_row X _ 2 _ _ (0, 0) h0⟩
          have H8 : Wrote b b ac W8 W8 := ⟨hWq8.1, Below.refl _ _, Lib.OthersKept.refl _ _ _⟩
          obtain ⟨hb8, k0, k1, k2⟩ := HX8.out W8 _ H8
          have HTB := Lib.hid (show ac ++ (numL tid ++ (numL tk ++ (numL tb ++ catL decL (ds.drop (q + 1))))) = T by
            rw [← HTQ.out, HQ3.out]
            simp only [decL, List.append_assoc])
          have HC1 := Lib.hid (H8.num hb8 tid HTB.out HL.out)
          have HWQ8 := Lib.hid hWq8
          have i2 : (q : Int) < (N2 : Int) := by omega
          clear hq3 hWq8 hx8 hbl H8 hb8 hWq hbq hwq hDC
          go_wp2_with fail
          refine HC1.out.mono ?_
          rintro e w9 ⟨rfl, hw9, hT9⟩
          have HW9 := Lib.hid hw9
          clear x0 x1 x2 f0 f1 f2 k0 k1 k2 hW8
          obtain ⟨hb9, k0, k1, k2⟩ := HX8.out w9 _ hw9
          have HC2 := Lib.hid (hw9.num hb9 tk hT9 HL.out)
          clear hw9 hT9 hb9 HC1
          go_wp2_with fail
          refine HC2.out.mono ?_
          rintro e wA ⟨rfl, hwA, hTA⟩
          have HWA := Lib.hid (HW9.out.trans hwA)
          clear k0 k1 k2
          obtain ⟨hbA, k0, k1, k2⟩ := HX8.out wA _ HWA.out
          have HC3 := Lib.hid (hwA.num hbA tb hTA HL.out)
          clear hwA hTA hbA HC2 HW9
          go_wp2_with fail
          refine HC3.out.mono ?_
          rintro e wD ⟨rfl, hwD, hTD⟩
          have HWD := Lib.hid (HWQ8.out.trans (HWA.out.trans hwD))
          have HTD := Lib.hid hTD
          clear k0 k1 k2 hwD hTD HC3 HWA HTB
          go_wp2
          go_roundg (N2 - (q + 1))
          case measure => rw [HG2]; omega
          case rel => exact ⟨q + 1, _, rfl, by omega, by go_num, HWD.out, HTD.out⟩
        · have hqN : N2 = q := by omega
          subst hqN
          have HS := Lib.hid (Tryz.BString_k b b ac wr hWq.1 hbq)
          have HWD := Lib.hid (And.intro hWq hwq)
          have HTD := Lib.hid (show ac = T by
            have := HTQ.out
            rw [← HN2.out, catL_end, List.append_nil] at this
            exact this)
          clear hWq hbq hwq hDC HG2
          go_wp2_with fail
          refine HS.out.mono ?_
          rintro e wD ⟨rfl, _, hwD, _⟩
          have HBD2 := Lib.hid (HC.out wD (HWD.out.1.2.1.trans hwD)).2.1
          clear hwD x0 x1 x2
          go_wp2
          go_ret2
          exact ⟨by rw [HTD.out]; rfl, HBD2.out⟩

set_option maxRecDepth 100000 in
set_option maxHeartbeats 16000000 in
theorem cEncode_err (lb : ByteArray) (bl : List Blk) (ds : List (Int × Int × Int)) (A1 : Option Addr) (c1 : Nat) (A2 : Option Addr) (c2 : Nat) (w : World) (hp : BlkC w A1 c1 bl) (hd : DecC w A2 c2 ds)
    (herr : codeE lb bl ds ≠ 0) :
    Calls Tryz.prog 39 #[.agg #[.string lb, .slice A1 bl.length c1, .slice A2 ds.length c2]] w fun e w' => e = .returned (.tuple #[.string ⟨#[]⟩, .int .i64 (codeE lb bl ds)]) ∧ Below w.heap.size w w' := by
  obtain ⟨W0, hW0⟩ : ∃ W0, w.alloc (.cells #[.string lb, .slice A1 bl.length c1, .slice A2 ds.length c2] 62) = W0 := ⟨_, rfl⟩
  have hB0 : Below w.heap.size w W0 := by rw [← hW0]; exact (Below.refl _ _).alloc (Nat.le_refl _) _
  have hx0 : W0.heap[w.heap.size]? = some (.cells #[.string lb, .slice A1 bl.length c1, .slice A2 ds.length c2] 62 (0, 0)) := by rw [← hW0]; exact heap_alloc_new w _
  have HCK := Lib.hid (cCheck_gen lb bl ds A1 c1 A2 c2 W0 (hp.keep hB0) (hd.keep hB0))
  have x0 : W0.cell? ⟨w.heap.size, 0, none⟩ = some (.string lb) := cell_of_row W0 _ 0 _ _ (0, 0) hx0
  have x1 : W0.cell? ⟨w.heap.size, 1, none⟩ = some (.slice A1 bl.length c1) := cell_of_row W0 _ 1 _ _ (0, 0) hx0
  have x2 : W0.cell? ⟨w.heap.size, 2, none⟩ = some (.slice A2 ds.length c2) := cell_of_row W0 _ 2 _ _ (0, 0) hx0
  obtain ⟨E, HE⟩ : ∃ Q, Hid (codeE lb bl ds = Q) := ⟨_, Lib.hid rfl⟩
  rw [HE.out] at HCK herr ⊢
  have HB := Lib.hid hB0
  have he : (E != 0) = true := by simpa using herr
  clear hp hd herr hB0 hx0
  go_enter Tryz.func39, Tryz.ntmps39
  go_wp2_with fail
  refine HCK.out.mono ?_
  rintro e w1 ⟨rfl, hb1⟩
  have HB1 := Lib.hid (HB.out.trans (hb1.mono HB.out.size))
  clear hb1 x0 x1 x2 hW0
  go_wp2
  go_ret2
  exact ⟨rfl, HB1.out⟩
end Go.Proofs.YtlpipoihinceiaaGreatDoor
/- law28.CompileCheck -/
namespace Go.Proofs.YtlpipoihinceiaaGreatDoor
open Go.RowKit Go.Proofs Go.Shelf

/-- What Encode gives. -/
def encS (lb : ByteArray) (bl : List Blk) (ds : List (Int × Int × Int)) : ByteArray := if codeE lb bl ds = 0 then codeS lb bl ds else ⟨#[]⟩
theorem cEncode_any (lb : ByteArray) (bl : List Blk) (ds : List (Int × Int × Int)) (A1 : Option Addr) (c1 : Nat) (A2 : Option Addr) (c2 : Nat) (w : World) (hp : BlkC w A1 c1 bl) (hd : DecC w A2 c2 ds) (hs : Sml lb bl ds) :
    Calls Tryz.prog 39 #[.agg #[.string lb, .slice A1 bl.length c1, .slice A2 ds.length c2]] w fun e w' => e = .returned (.tuple #[.string (encS lb bl ds), .int .i64 (codeE lb bl ds)]) ∧ Below w.heap.size w w' := by
  by_cases h : codeE lb bl ds = 0
  · rw [encS, if_pos h, h]
    exact cEncode_gen lb bl ds A1 c1 A2 c2 w hp hd (hs.a h) hs.len h
  · rw [encS, if_neg h]
    exact cEncode_err lb bl ds A1 c1 A2 c2 w hp hd h
theorem Encode28_any (lb : ByteArray) (bl : List Blk) (ds : List (Int × Int × Int)) (A1 : Option Addr) (c1 : Nat) (A2 : Option Addr) (c2 : Nat) (w : World) (hp : BlkC w A1 c1 bl) (hd : DecC w A2 c2 ds) (hs : Sml lb bl ds) :
    Calls Tryz.prog 40 #[.agg #[.string lb, .slice A1 bl.length c1, .slice A2 ds.length c2]] w fun e w' => e = .returned (.tuple #[.string (encS lb bl ds), .int .i64 (codeE lb bl ds)]) ∧ Below w.heap.size w w' := by
  have hl : lb.size ≤ 9223372036854775807 := by have := hs.slb; omega
  by_cases h : codeE lb bl ds = 0
  · rw [encS, if_pos h, h]
    exact Encode28_ok lb bl ds A1 c1 A2 c2 w hp hd (hs.a h) hs.len hl h
  · rw [encS, if_neg h]
    exact Encode28_err lb bl ds A1 c1 A2 c2 w hp hd hl h

set_option maxRecDepth 100000 in
set_option maxHeartbeats 16000000 in
theorem lawCheck_any (lb : ByteArray) (bl : List Blk) (ds : List (Int × Int × Int)) (A1 : Option Addr) (c1 : Nat) (A2 : Option Addr) (c2 : Nat) (w : World) (hp : BlkC w A1 c1 bl) (hd : DecC w A2 c2 ds) (hlb : lb.size ≤ 9223372036854775807) :
    Calls Tryz.prog 8 #[.agg #[.string lb, .slice A1 bl.length c1, .slice A2 ds.length c2]] w fun e w' => e = .returned (.bool true) ∧ Below w.heap.size w w' := by
  obtain ⟨W0, hW0⟩ : ∃ W0, w.alloc (.cells #[.string lb, .slice A1 bl.length c1, .slice A2 ds.length c2] 62) = W0 := ⟨_, rfl⟩
  have hB0 : Below w.heap.size w W0 := by rw [← hW0]; exact (Below.refl _ _).alloc (Nat.le_refl _) _
  have hz0 : w.heap.size + 1 = W0.heap.size := by rw [← hW0]; simp
  have hx0 : W0.heap[w.heap.size]? = some (.cells #[.string lb, .slice A1 bl.length c1, .slice A2 ds.length c2] 62 (0, 0)) := by rw [← hW0]; exact heap_alloc_new w _
  have HC : Hid (∀ X, Below W0.heap.size W0 X → Below w.heap.size w X ∧ X.cell? ⟨w.heap.size, 0, none⟩ = some (.string lb) ∧ X.cell? ⟨w.heap.size, 1, none⟩ = some (.slice A1 bl.length c1) ∧ X.cell? ⟨w.heap.size, 2, none⟩ = some (.slice A2 ds.length c2)) := Lib.hid fun X hX => by
    have h0 := (hX.block w.heap.size (by omega)).trans hx0
    exact ⟨hB0.trans (hX.mono (by omega)), cell_of_row X _ 0 _ _ (0, 0) h0, cell_of_row X _ 1 _ _ (0, 0) h0, cell_of_row X _ 2 _ _ (0, 0) h0⟩
  obtain ⟨_, x0, x1, x2⟩ := HC.out W0 (Below.refl _ _)
  have HP := Lib.hid (And.intro hp (And.intro hd hlb))
  have hgr := Great28_any lb A1 c1 bl A2 ds.length c2 W0 (hp.keep hB0)
  obtain ⟨G, HG⟩ : ∃ Q, Hid (grtC lb bl ds.length = Q) := ⟨_, Lib.hid rfl⟩
  rw [HG.out] at hgr
  have HGR := Lib.hid hgr
  clear hp hd hlb hB0 hz0 hx0 hgr
  go_enter Tryz.func8, Tryz.ntmps8
  go_wp2_with fail
  refine HGR.out.mono ?_
  rintro e w1 ⟨rfl, hb1⟩
  clear x0 x1 x2 hW0 HGR
  cases G with
  | true =>
    have HB1 := Lib.hid (HC.out w1 hb1).1
    have HA := Lib.hid (awake28_any w1)
    clear hb1
    go_wp2_with fail
    refine HA.out.mono ?_
    rintro e w2 ⟨rfl, hb2⟩
    have HB2 := Lib.hid (HB1.out.trans (hb2.mono HB1.out.size))
    clear hb2
    go_wp2
    go_ret
    exact ⟨rfl, HB2.out⟩
  | false =>
  have HSM := Lib.hid (Sml.of_grt HG.out)
  obtain ⟨hw1, x0, x1, x2⟩ := HC.out w1 hb1
  have HE1 := Lib.hid (cEncode_any lb bl ds A1 c1 A2 c2 w1 (HP.out.1.keep hw1) (HP.out.2.1.keep hw1) HSM.out)
  have HB1 := Lib.hid hb1
  clear hb1 hw1
  obtain ⟨E, HEE⟩ : ∃ Q, Hid (codeE lb bl ds = Q) := ⟨_, Lib.hid rfl⟩
  obtain ⟨S, HES⟩ : ∃ Q, Hid (encS lb bl ds = Q) := ⟨_, Lib.hid rfl⟩
  rw [HEE.out, HES.out] at HE1
  go_wp2_with fail
  refine HE1.out.mono ?_
  rintro e w2 ⟨rfl, hb2⟩
  have HB2 := Lib.hid (HB1.out.trans (hb2.mono HB1.out.size))
  clear hb2 x0 x1 x2 HE1 HB1
  obtain ⟨hw2, x0, x1, x2⟩ := HC.out w2 HB2.out
  have HE2 := Lib.hid (Encode28_any lb bl ds A1 c1 A2 c2 w2 (HP.out.1.keep hw2) (HP.out.2.1.keep hw2) HSM.out)
  rw [HEE.out, HES.out] at HE2
  clear hw2
  go_wp2_with fail
  refine HE2.out.mono ?_
  rintro e w3 ⟨rfl, hb3⟩
  have hbY := HB2.out.trans (hb3.mono HB2.out.size)
  clear hb3 x0 x1 x2 HE2 HB2
  have HCA : Hid (∀ (X : World), Below W0.heap.size W0 X → Calls Tryz.prog 41 #[.agg #[.string lb, .slice A1 bl.length c1, .slice A2 ds.length c2]] X fun e Y => e = .returned (.int .i64 E) ∧ Below W0.heap.size W0 Y) := Lib.hid fun X hX => by
    have := cCheck_gen lb bl ds A1 c1 A2 c2 X (HP.out.1.keep (HC.out X hX).1) (HP.out.2.1.keep (HC.out X hX).1)
    rw [HEE.out] at this
    exact this.mono fun e Y ⟨h1, h2⟩ => ⟨h1, hX.trans (h2.mono hX.size)⟩
  have HCB : Hid (∀ (X : World), Below W0.heap.size W0 X → Calls Tryz.prog 42 #[.agg #[.string lb, .slice A1 bl.length c1, .slice A2 ds.length c2]] X fun e Y => e = .returned (.int .i64 E) ∧ Below W0.heap.size W0 Y) := Lib.hid fun X hX => by
    have := Check28_gen lb bl ds A1 c1 A2 c2 X (HP.out.1.keep (HC.out X hX).1) (HP.out.2.1.keep (HC.out X hX).1) HP.out.2.2
    rw [HEE.out] at this
    exact this.mono fun e Y ⟨h1, h2⟩ => ⟨h1, hX.trans (h2.mono hX.size)⟩
  have HCC : Hid (∀ (X : World), Below W0.heap.size W0 X → Calls Tryz.prog 34 #[] X fun e Y => e = .returned (.bool true) ∧ Below W0.heap.size W0 Y) := Lib.hid fun X hX =>
    (awake28_any X).mono fun e Y ⟨h1, h2⟩ => ⟨h1, hX.trans (h2.mono hX.size)⟩
  obtain ⟨N1, HN1⟩ : ∃ Q, Hid (bl.length = Q) := ⟨_, Lib.hid rfl⟩
  obtain ⟨N2, HN2⟩ : ∃ Q, Hid (ds.length = Q) := ⟨_, Lib.hid rfl⟩
  rw [HN1.out, HN2.out] at HC HCA HCB ⊢
  go_wp2_with fail
  go_region_held3 (fun W => W.cell? ⟨w.heap.size, 0, none⟩ = some (.string lb) ∧ W.cell? ⟨w.heap.size, 1, none⟩ = some (.slice A1 N1 c1) ∧ W.cell? ⟨w.heap.size, 2, none⟩ = some (.slice A2 N2 c2))
    (exact (HC.out _ (by repeat (first | with_reducible exact hbY | with_reducible refine Below.drew ?_))).2)
    (first
      | (go_at_call 41; (with_reducible refine Calls.mono (HCA.out _ ?_) ?_); (focus (repeat (first | with_reducible exact hbY | with_reducible refine Below.drew ?_))); rintro e w6 ⟨rfl, hbY⟩)
      | (go_at_call 42; (with_reducible refine Calls.mono (HCB.out _ ?_) ?_); (focus (repeat (first | with_reducible exact hbY | with_reducible refine Below.drew ?_))); rintro e w6 ⟨rfl, hbY⟩)
      | (go_at_call 34; (with_reducible refine Calls.mono (HCC.out _ ?_) ?_); (focus (repeat (first | with_reducible exact hbY | with_reducible refine Below.drew ?_))); rintro e w6 ⟨rfl, hbY⟩))
  all_goals (
    have HB5 := Lib.hid (HC.out _ (show Below W0.heap.size W0 _ by repeat (first | with_reducible exact hbY | with_reducible refine Below.drew ?_))).1
    clear hbY
    go_wp2
    go_ret
    exact ⟨rfl, HB5.out⟩)
end Go.Proofs.YtlpipoihinceiaaGreatDoor
