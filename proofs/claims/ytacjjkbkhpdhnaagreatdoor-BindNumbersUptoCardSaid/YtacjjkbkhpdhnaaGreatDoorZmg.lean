/- ref21.Kinds, ref24.refersTo (printed by gen_ykd.py) -/
import Derived.Test.YtacjjkbkhpdhnaaGreatDoorZla
import Derived.Test.YtacjjkbkhpdhnaaGreatDoorZle
import Derived.Test.YtacjjkbkhpdhnaaGreatDoorZlo
import Derived.Test.YtacjjkbkhpdhnaaGreatDoorYcm
import Derived.Test.YtacjjkbkhpdhnaaGreatDoorZlg
import Derived.Test.YtacjjkbkhpdhnaaGreatDoorZlj
import Derived.Test.YtacjjkbkhpdhnaaGreatDoorZlf
import Derived.Deep.QuietTactic
import Derived.BigQuiet
import Derived.IntWalk
import Derived.Test.YtacjjkbkhpdhnaaGreatDoorChk
import Derived.Test.YtacjjkbkhpdhnaaGreatDoorZpa
import Derived.Deep.RegionHeld3
namespace Go.Proofs.YtacjjkbkhpdhnaaGreatDoor
open Go.RowKit Go.Proofs Go.Shelf
def Fo.has (p : Int → ByteArray → Bool) : Fo → Bool
  | .nil => false
  | .cons k n _ _ _ _ _ s r => (p k n || s.has p) || r.has p
def kdP (K : Int) (k : Int) (_ : ByteArray) : Bool := k == K
def kdOK (K : Int) (s : Fo) : Prop := ∀ (k : Int) (n m : ByteArray) (i d : Int) (A : Option Addr) (c : Nat) (w : World), s.Sl w w.heap.size A c →
    Calls Tryz.prog 92 #[.agg #[.int .i64 k, .string n, .string m, .int .i64 i, .int .i64 d, .slice A s.len c], .int .i64 K] w fun e w' => e = .returned (.bool (kdP K k n || s.has (kdP K))) ∧ Below w.heap.size w w'
set_option maxRecDepth 100000 in
set_option maxHeartbeats 2000000 in
theorem kd_step (K : Int) (s : Fo) (ih : s.All (kdOK K)) : kdOK K s := by
  intro k n m i d A c w hs
  have HS := Lib.hid hs
  have IH := Lib.hid ih
  have hcap : s.len ≤ 9223372036854775807 := by have := HS.out.1; have := HS.out.2.1; unfold maxLen at this; omega
  clear hs ih
  obtain ⟨W0, hW0⟩ : ∃ W0, w.alloc (.cells #[.int .i64 k, .string n, .string m, .int .i64 i, .int .i64 d, .slice A s.len c] 28) = W0 := ⟨_, rfl⟩
  have hzw : w.heap.size < W0.heap.size := by subst hW0; simp
  have hB0 : Below w.heap.size w W0 := by subst hW0; exact (Below.refl _ _).alloc (Nat.le_refl _) _
  have hx0 : W0.heap[w.heap.size]? = some (.cells #[.int .i64 k, .string n, .string m, .int .i64 i, .int .i64 d, .slice A s.len c] 28 (0, 0)) := by rw [← hW0]; exact heap_alloc_new w _
  have HC : Hid (∀ X, Below W0.heap.size W0 X → Below w.heap.size w X ∧ X.cell? ⟨w.heap.size, 0, none⟩ = some (.int .i64 k) ∧ X.cell? ⟨w.heap.size, 1, none⟩ = some (.string n) ∧ X.cell? ⟨w.heap.size, 5, none⟩ = some (.slice A s.len c)) := fun X hX => by
    have h0 := (hX.block w.heap.size hzw).trans hx0
    exact ⟨hB0.trans (hX.mono (Nat.le_of_lt hzw)), cell_of_row X _ 0 _ _ (0, 0) h0, cell_of_row X _ 1 _ _ (0, 0) h0, cell_of_row X _ 5 _ _ (0, 0) h0⟩
  obtain ⟨R, HR⟩ : ∃ R, Hid ((kdP K k n || s.has (kdP K)) = R) := ⟨_, Lib.hid rfl⟩
  rw [HR.out]
  obtain ⟨_, x0, x1, x5⟩ := HC.out W0 (Below.refl _ _)
  have HB0 := Lib.hid hB0
  clear hB0 hx0
  cases hp : kdP K k n with
  | true =>
    obtain rfl : R = true := by rw [← HR.out, hp]; rfl
    clear HR
    have hk : (k == K) = true := hp
    clear hp
    go_enter Tryz.func92, Tryz.ntmps92
    go_wp2
    go_ret
    exact ⟨rfl, HB0.out⟩
  | false =>
    have HRs := Lib.hid (show s.has (kdP K) = R by rw [← HR.out, hp]; rfl)
    clear HR
    have hk : (k == K) = false := hp
    clear hp
    all_goals (
      go_enter Tryz.func92, Tryz.ntmps92
      go_wp2_with fail
      clear x0 x1 x5 hW0
      go_loopg [5] s.len (fun g ct wr => ∃ (j : Nat) (r : Fo), g = r.len ∧ j + r.len = s.len ∧ ct = .int .i64 j ∧ r.has (kdP K) = R ∧ r.All (kdOK K) ∧
        (r ≠ .nil → ∃ b o, A = some ⟨b, o, none⟩ ∧ b < w.heap.size ∧ r.At wr w.heap.size b (o + j * 6)) ∧ Below W0.heap.size W0 wr)
      case atStart =>
        refine ⟨0, s, rfl, by omega, rfl, HRs.out, IH.out, ?_, Below.refl _ _⟩
        intro hne
        obtain ⟨b, o, e, hb, h⟩ := HS.out.2.2 hne
        exact ⟨b, o, e, hb, by rw [Nat.zero_mul, Nat.add_zero]; exact h.keep (Nat.le_refl _) (fun p hp => HB0.out.cell hp) hb⟩
      case round =>
        obtain ⟨j, r, HG, hjr, rfl, hRr, HA, HAt, HB⟩ := hrel
        have HBh := Lib.hid (And.intro HB (And.intro hRr HA))
        clear hRr HA HB
        have hzr := HBh.out.1.size
        obtain ⟨hBw, _, _, x5⟩ := HC.out wr HBh.out.1
        have HBw := Lib.hid hBw
        clear hBw
        cases r with
        | nil =>
          have hjr2 : s.len ≤ j := by simp only [Fo.len] at hjr; omega
          have hjr1 : j ≤ s.len := by simp only [Fo.len] at hjr; omega
          obtain rfl : R = false := HBh.out.2.1.symm
          clear hjr HG HBh HRs
          go_wp2
          go_ret
          exact ⟨rfl, HBw.out⟩
        | cons rk rn rm ri rd A' c' rs rr =>
          have hjr2 : j < s.len := by simp only [Fo.len] at hjr; omega
          obtain ⟨b, o, rfl, hb, h0, h1, h2, h3, h4, ⟨h5, hc', hm', hs'⟩, hr'⟩ := HAt (by simp)
          have hcall := HBh.out.2.2.1 rk rn rm ri rd A' c' wr ⟨hc', hm', fun hne => by
            obtain ⟨b', o', e, hb', h'⟩ := hs' hne
            exact ⟨b', o', e, by omega, h'.keep (by omega) (fun _ _ => rfl) hb'⟩⟩
          have hRk := HBh.out.2.1
          simp only [Fo.has] at hRk
          obtain ⟨E1, HE1⟩ : ∃ E1, Hid ((kdP K rk rn || rs.has (kdP K)) = E1) := ⟨_, Lib.hid rfl⟩
          rw [HE1.out] at hRk hcall
          have HCL := Lib.hid hcall
          have HK := Lib.hid (And.intro hr' hRk)
          clear hcall hRk HAt hr' hs' HE1
          cases E1 with
          | true =>
            obtain rfl : R = true := HK.out.2.symm
            go_wp2_with fail
            refine HCL.out.mono ?_
            rintro e w4 ⟨rfl, hb4⟩
            have HB4 := Lib.hid (HBw.out.trans (hb4.mono HBw.out.size))
            clear hb4
            go_wp2
            go_ret
            exact ⟨rfl, HB4.out⟩
          | false =>
            go_wp2_with fail
            refine HCL.out.mono ?_
            rintro e w4 ⟨rfl, hb4⟩
            have HB4 := Lib.hid hb4
            clear hb4
            go_wp2
            go_roundg rr.len
            case measure => first | (rw [HG]; simp [Fo.len]; done) | (simp only [Fo.len]; omega)
            case rel =>
              refine ⟨j + 1, rr, rfl, by simp only [Fo.len] at hjr; omega, by go_num, HK.out.2, HBh.out.2.2.2, ?_, HBh.out.1.trans (HB4.out.mono hzr)⟩
              intro hne
              refine ⟨b, o, rfl, hb, ?_⟩
              rw [show o + (j + 1) * 6 = o + j * 6 + 6 by omega]
              exact HK.out.1.keep (Nat.le_refl _) (fun p hp => HB4.out.cell (by omega)) hb)
theorem kd_any (K : Int) (s : Fo) : kdOK K s := Fo.by_parts (kd_step K) s
end Go.Proofs.YtacjjkbkhpdhnaaGreatDoor
/- ref21.free (printed by gen_yfr.py) -/
namespace Go.Proofs.YtacjjkbkhpdhnaaGreatDoor
open Go.RowKit Go.Proofs Go.Shelf
theorem VarsAt.below {W X : World} {B : Nat} {A : Option Addr} {c : Nat} {l : List ByteArray} (h : VarsAt W A c l) (hb : Below B W X) (hB : W.heap.size ≤ B) : VarsAt X A c l :=
  h.keep fun k cur fz hk => hb.block k (by
    have : k < W.heap.size := by
      by_cases hlt : k < W.heap.size
      · exact hlt
      · rw [Array.getElem?_eq_none (by omega)] at hk; cases hk
    omega)
def Fo.V3 : Fo → Prop
  | .nil => True
  | .cons k _ _ _ _ _ _ s r => (k = 3 → s.len = 0) ∧ s.V3 ∧ r.V3
end Go.Proofs.YtacjjkbkhpdhnaaGreatDoor
/- ref21.CheckExpr, Free -/
namespace Go.Proofs.YtacjjkbkhpdhnaaGreatDoor
open Go.RowKit Go.Proofs Go.Shelf
theorem firstE_app : ∀ a b : List Nd, firstE (a ++ b) = if firstE a = 0 then firstE b else firstE a
  | [], b => by simp [firstE]
  | x :: a, b => by
    have h := firstE_app a b
    simp only [List.cons_append, firstE, h]
    by_cases hx : x.err = 0 <;> simp [hx]
theorem Fo.first_pre : ∀ (f : Fo) (dp : Nat), firstE (f.pre dp) = f.ck
  | .nil, _ => rfl
  | .cons k n m i d A c s r, dp => by
    have h1 := first_pre s (dp + 1)
    have h2 := first_pre r dp
    simp only [Fo.pre, firstE, firstE_app, h1, h2, Fo.ck, Nd.err]
theorem Fo.dep_pre : ∀ (f : Fo) (dp : Nat), (f.pre dp).any (fun x => decide (40 < x.dep)) = decide (0 < f.depth ∧ 40 < dp + f.depth - 1)
  | .nil, dp => by simp [Fo.pre, Fo.depth]
  | .cons k n m i d A c s r, dp => by
    have h1 := dep_pre s (dp + 1)
    have h2 := dep_pre r dp
    simp only [Fo.pre, List.any_cons, List.any_append, h1, h2, Fo.depth]
    rw [Bool.eq_iff_iff]
    simp only [Bool.or_eq_true, decide_eq_true_eq]
    refine Iff.trans ?_ decide_eq_true_iff.symm
    have hd1 : s.depth + 1 ≤ max (s.depth + 1) r.depth := Nat.le_max_left _ _
    have hd2 : r.depth ≤ max (s.depth + 1) r.depth := Nat.le_max_right _ _
    have hd3 : max (s.depth + 1) r.depth = s.depth + 1 ∨ max (s.depth + 1) r.depth = r.depth := by omega
    omega
theorem exprE_ck (k : Int) (n m : ByteArray) (i d : Int) (A : Option Addr) (c : Nat) (s : Fo) :
    exprE (⟨1, k, n, m, i, d, A, s.len, c⟩ :: s.pre 2) = if 400 < 1 + s.count ∨ 40 < s.depth + 1 then 4 else ckN k n m i d s := by
  unfold exprE limB
  have h1 := s.pre_length 2
  have h2 := s.dep_pre 2
  have h3 := s.first_pre 2
  by_cases h : 400 < 1 + s.count ∨ 40 < s.depth + 1
  · rw [if_pos h, if_pos]
    simp only [List.any_cons, h2, List.length_cons, h1, Bool.or_eq_true, decide_eq_true_eq]
    omega
  · rw [if_neg h, if_neg]
    · simp only [firstE, h3, ckN, Nd.err]
    · simp only [List.any_cons, h2, List.length_cons, h1, Bool.or_eq_true, decide_eq_true_eq]
      omega
set_option maxRecDepth 100000 in
set_option maxHeartbeats 2000000 in
theorem checkExpr21_any (k : Int) (n m : ByteArray) (i d : Int) (A : Option Addr) (c : Nat) (s : Fo) (w : World) (hs : s.Sl w w.heap.size A c) (hn : n.size ≤ 1000) (hm : m.size ≤ 1000) (hst : s.Short) (hcnt : s.count ≤ 1000000) :
    Calls Tryz.prog 126 #[.agg #[.int .i64 k, .string n, .string m, .int .i64 i, .int .i64 d, .slice A s.len c]] w fun e w' => e = .returned (.int .i64 (exprE (⟨1, k, n, m, i, d, A, s.len, c⟩ :: s.pre 2))) ∧ Below w.heap.size w w' := by
  obtain ⟨R, HR⟩ : ∃ R, Hid (exprE (⟨1, k, n, m, i, d, A, s.len, c⟩ :: s.pre 2) = R) := ⟨_, Lib.hid rfl⟩
  have HRc := Lib.hid (show R = if 400 < 1 + s.count ∨ 40 < s.depth + 1 then 4 else ckN k n m i d s by rw [← HR.out, exprE_ck])
  rw [HR.out]
  clear HR
  obtain ⟨W0, hW0⟩ : ∃ W0, w.alloc (.cells #[.int .i64 k, .string n, .string m, .int .i64 i, .int .i64 d, .slice A s.len c] 28) = W0 := ⟨_, rfl⟩
  have hzw : w.heap.size < W0.heap.size := by subst hW0; simp
  have hB0 : Below w.heap.size w W0 := by subst hW0; exact (Below.refl _ _).alloc (Nat.le_refl _) _
  have hx0 : W0.heap[w.heap.size]? = some (.cells #[.int .i64 k, .string n, .string m, .int .i64 i, .int .i64 d, .slice A s.len c] 28 (0, 0)) := by rw [← hW0]; exact heap_alloc_new w _
  have HC : Hid (∀ X, Below W0.heap.size W0 X → Below w.heap.size w X ∧ s.Sl X X.heap.size A c ∧ X.cell? ⟨w.heap.size, 0, none⟩ = some (.int .i64 k) ∧ X.cell? ⟨w.heap.size, 1, none⟩ = some (.string n) ∧ X.cell? ⟨w.heap.size, 2, none⟩ = some (.string m) ∧ X.cell? ⟨w.heap.size, 3, none⟩ = some (.int .i64 i) ∧ X.cell? ⟨w.heap.size, 4, none⟩ = some (.int .i64 d) ∧ X.cell? ⟨w.heap.size, 5, none⟩ = some (.slice A s.len c)) := fun X hX => by
    have h0 := (hX.block w.heap.size hzw).trans hx0
    have hb := hB0.trans (hX.mono (Nat.le_of_lt hzw))
    exact ⟨hb, hs.keep hb.size fun p hp => hb.cell hp, cell_of_row X _ 0 _ _ (0, 0) h0, cell_of_row X _ 1 _ _ (0, 0) h0, cell_of_row X _ 2 _ _ (0, 0) h0, cell_of_row X _ 3 _ _ (0, 0) h0, cell_of_row X _ 4 _ _ (0, 0) h0, cell_of_row X _ 5 _ _ (0, 0) h0⟩
  obtain ⟨_, hs0, x0, x1, x2, x3, x4, x5⟩ := HC.out W0 (Below.refl _ _)
  have hno := nodes_any s k n m i d A c W0 hs0
  rw [wrap64_small (by omega) (by omega)] at hno
  have HNO := Lib.hid hno
  have hdl := s.depth_le
  have HP := Lib.hid (And.intro hst (And.intro hn hm))
  obtain ⟨C, HCn⟩ : ∃ C, Hid (s.count = C) := ⟨_, Lib.hid rfl⟩
  obtain ⟨D, HD⟩ : ∃ D, Hid (s.depth = D) := ⟨_, Lib.hid rfl⟩
  rw [HCn.out] at HNO hcnt hdl HRc
  rw [HD.out] at hdl HRc
  clear hs hs0 hB0 hx0 hst hno
  by_cases hC : 400 < 1 + C
  · have t1 : decide (400 < 1 + (C : Int)) = true := by simp; omega
    obtain rfl : R = 4 := by rw [HRc.out, if_pos (.inl hC)]
    go_enter Tryz.func126, Tryz.ntmps126
    go_wp2_with fail
    refine HNO.out.mono ?_
    rintro e w1 ⟨rfl, hb1⟩
    have HB := Lib.hid (HC.out w1 hb1).1
    clear hb1
    go_wp2
    go_ret
    exact ⟨rfl, HB.out⟩
  · have t1 : decide (400 < 1 + (C : Int)) = false := by simp; omega
    go_enter Tryz.func126, Tryz.ntmps126
    go_wp2_with fail
    refine HNO.out.mono ?_
    rintro e w1 ⟨rfl, hb1⟩
    have HB1 := Lib.hid hb1
    clear hb1 x0 x1 x2 x3 x4 x5 hW0 HNO
    obtain ⟨_, hs1, x0, x1, x2, x3, x4, x5⟩ := HC.out w1 HB1.out
    have hde := depth_any s k n m i d A c w1 (by rw [HCn.out]; exact hcnt) hs1
    rw [HD.out] at hde
    have HDE := Lib.hid hde
    clear hde hs1
    have hw1 : ((D + 1 : Nat) : Int) = (D : Int) + 1 := by omega
    rw [hw1] at HDE
    clear hw1
    by_cases hD : 40 < D + 1
    · have t2 : decide (40 < (D : Int) + 1) = true := by simp; omega
      obtain rfl : R = 4 := by rw [HRc.out, if_pos (.inr hD)]
      go_wp2_with fail
      refine HDE.out.mono ?_
      rintro e w2 ⟨rfl, hb2⟩
      have HB := Lib.hid (HC.out w2 (HB1.out.trans (hb2.mono HB1.out.size))).1
      clear hb2
      go_wp2
      go_ret
      exact ⟨rfl, HB.out⟩
    · have t2 : decide (40 < (D : Int) + 1) = false := by simp; omega
      have HRk := Lib.hid (show ckN k n m i d s = R by rw [HRc.out, if_neg (by omega)])
      go_wp2_with fail
      refine HDE.out.mono ?_
      rintro e w2 ⟨rfl, hb2⟩
      have HB2 := Lib.hid (HB1.out.trans (hb2.mono HB1.out.size))
      clear hb2 x0 x1 x2 x3 x4 x5 HDE
      obtain ⟨_, hs2, x0, x1, x2, x3, x4, x5⟩ := HC.out w2 HB2.out
      have hck := ck_any s k n m i d A c w2 HP.out.2.1 HP.out.2.2 HP.out.1 hs2
      rw [HRk.out] at hck
      have HCK := Lib.hid hck
      clear hck hs2
      go_wp2_with fail
      refine HCK.out.mono ?_
      rintro e w3 ⟨rfl, hb3⟩
      have HB := Lib.hid (HC.out w3 (HB2.out.trans (hb3.mono HB2.out.size))).1
      clear hb3
      go_wp2
      go_ret
      exact ⟨rfl, HB.out⟩
end Go.Proofs.YtacjjkbkhpdhnaaGreatDoor
/- ref21.Free, where the expression is valid -/
namespace Go.Proofs.YtacjjkbkhpdhnaaGreatDoor
open Go.RowKit Go.Proofs Go.Shelf
end Go.Proofs.YtacjjkbkhpdhnaaGreatDoor
/- ref21.CheckDecl -/
namespace Go.Proofs.YtacjjkbkhpdhnaaGreatDoor
open Go.RowKit Go.Proofs Go.Shelf
def Dc.Sht (x : Dc) : Prop := (x.n.size ≤ 1000 ∧ x.m.size ≤ 1000) ∧ x.s.Short ∧ x.s.count ≤ 1000000 ∧ ∀ s ∈ x.names, s.size ≤ 1000
def cdE (x : Dc) : Int := if x.id < 0 ∨ 999999 < x.id then 2 else if x.kind < 1 ∨ 3 < x.kind then 9 else if dnE x.names ≠ 0 then dnE x.names else exprE x.pre
set_option maxRecDepth 100000 in
set_option maxHeartbeats 4000000 in
theorem checkDecl21_any (x : Dc) (w : World) (hx : x.Ok w w.heap.size) (hsh : x.Sht) :
    Calls Tryz.prog 91 #[.agg x.cells] w fun e w' => e = .returned (.int .i64 (cdE x)) ∧ Below w.heap.size w w' := by
  obtain ⟨E, HE⟩ : ∃ E, Hid (cdE x = E) := ⟨_, Lib.hid rfl⟩
  rw [HE.out]
  obtain ⟨id, kind, pub, nA, nc, names, doubt, k, n, m, i, d, A, c, s⟩ := x
  simp only [Dc.cells]
  obtain ⟨W0, hW0⟩ : ∃ W0, w.alloc (.cells #[.int .i64 id, .int .i64 kind, .bool pub, .slice nA names.length nc, .bool doubt, .int .i64 k, .string n, .string m, .int .i64 i, .int .i64 d, .slice A s.len c] 63) = W0 := ⟨_, rfl⟩
  have hzw : w.heap.size < W0.heap.size := by subst hW0; simp
  have hB0 : Below w.heap.size w W0 := by subst hW0; exact (Below.refl _ _).alloc (Nat.le_refl _) _
  have hx0 : W0.heap[w.heap.size]? = some (.cells #[.int .i64 id, .int .i64 kind, .bool pub, .slice nA names.length nc, .bool doubt, .int .i64 k, .string n, .string m, .int .i64 i, .int .i64 d, .slice A s.len c] 63 (0, 0)) := by rw [← hW0]; exact heap_alloc_new w _
  obtain ⟨NN, HNN⟩ : ∃ NN, Hid (names.length = NN) := ⟨_, Lib.hid rfl⟩
  have HC : Hid (∀ X, Below W0.heap.size W0 X → Below w.heap.size w X ∧ s.Sl X X.heap.size A c ∧ SlS X X.heap.size nA nc names ∧ X.cell? ⟨w.heap.size, 0, none⟩ = some (.int .i64 id) ∧ X.cell? ⟨w.heap.size, 1, none⟩ = some (.int .i64 kind) ∧ X.cell? ⟨w.heap.size, 3, none⟩ = some (.slice nA NN nc) ∧ X.cell? ⟨w.heap.size, 5, none⟩ = some (.int .i64 k) ∧ X.cell? ⟨w.heap.size, 6, none⟩ = some (.string n) ∧ X.cell? ⟨w.heap.size, 7, none⟩ = some (.string m) ∧ X.cell? ⟨w.heap.size, 8, none⟩ = some (.int .i64 i) ∧ X.cell? ⟨w.heap.size, 9, none⟩ = some (.int .i64 d) ∧ X.cell? ⟨w.heap.size, 10, none⟩ = some (.slice A s.len c)) := fun X hX => by
    have h0 := (hX.block w.heap.size hzw).trans hx0
    rw [HNN.out] at h0
    have hb := hB0.trans (hX.mono (Nat.le_of_lt hzw))
    exact ⟨hb, hx.2.keep hb.size fun p hp => hb.cell hp, hx.1.keep hb.size fun p hp => hb.cell hp, cell_of_row X _ 0 _ _ (0, 0) h0, cell_of_row X _ 1 _ _ (0, 0) h0, cell_of_row X _ 3 _ _ (0, 0) h0, cell_of_row X _ 5 _ _ (0, 0) h0, cell_of_row X _ 6 _ _ (0, 0) h0, cell_of_row X _ 7 _ _ (0, 0) h0, cell_of_row X _ 8 _ _ (0, 0) h0, cell_of_row X _ 9 _ _ (0, 0) h0, cell_of_row X _ 10 _ _ (0, 0) h0⟩
  have hnl := hx.1.1
  have hnl2 := hx.1.2.1
  unfold maxLen at hnl2
  simp only at hnl
  rw [HNN.out] at hnl hW0 ⊢
  have HD : Hid (E = if id < 0 ∨ 999999 < id then 2 else if kind < 1 ∨ 3 < kind then 9 else if dnE names ≠ 0 then dnE names else exprE (⟨1, k, n, m, i, d, A, s.len, c⟩ :: s.pre 2)) := HE.out.symm
  obtain ⟨_, _, _, x0, x1, x3, _⟩ := HC.out W0 (Below.refl _ _)
  have HB0 := Lib.hid hB0
  have HSh := Lib.hid hsh
  clear HE hB0 hx0 hx hsh
  by_cases c1 : id < 0
  · obtain rfl : E = 2 := HD.out.trans (if_pos (.inl c1))
    go_enter Tryz.func91, Tryz.ntmps91
    go_wp2
    go_ret
    exact ⟨rfl, HB0.out⟩
  have c1' : decide (id < 0) = false := by simpa using c1
  by_cases c2 : 999999 < id
  · obtain rfl : E = 2 := HD.out.trans (if_pos (.inr c2))
    clear c1
    go_enter Tryz.func91, Tryz.ntmps91
    go_wp2
    go_ret
    exact ⟨rfl, HB0.out⟩
  have c2' : decide (999999 < id) = false := by simpa using c2
  have HD2 := Lib.hid (HD.out.trans (if_neg (by omega)))
  clear HD c1 c2
  by_cases k1 : kind < 1
  · obtain rfl : E = 9 := HD2.out.trans (if_pos (.inl k1))
    go_enter Tryz.func91, Tryz.ntmps91
    go_wp2
    go_ret
    exact ⟨rfl, HB0.out⟩
  have k1' : decide (kind < 1) = false := by simpa using k1
  by_cases k2 : 3 < kind
  · obtain rfl : E = 9 := HD2.out.trans (if_pos (.inr k2))
    clear k1
    go_enter Tryz.func91, Tryz.ntmps91
    go_wp2
    go_ret
    exact ⟨rfl, HB0.out⟩
  have k2' : decide (3 < kind) = false := by simpa using k2
  have HD3 := Lib.hid (HD2.out.trans (if_neg (by omega)))
  clear HD2 k1 k2
  by_cases h13 : NN = 1 ∨ NN = 3
  rotate_left
  · obtain rfl : E = 1 := by
      have e1 : dnE names = 1 := by unfold dnE; rw [HNN.out, if_pos (by omega)]
      rw [HD3.out, e1]; rfl
    have n1 : ((NN : Int) != 1) = true := by simp; omega
    have n3 : ((NN : Int) != 3) = true := by simp; omega
    clear h13
    go_enter Tryz.func91, Tryz.ntmps91
    go_wp2
    go_ret
    exact ⟨rfl, HB0.out⟩
  have HDN := Lib.hid (show dnE names = if names.all (dnB NN) = true then 0 else 6 by unfold dnE; rw [HNN.out, if_neg (by omega)])
  have hN3 : NN ≤ 3 := by omega
  obtain ⟨bq, Hbq⟩ : ∃ bq, Hid ((NN == 1) = bq) := ⟨_, Lib.hid rfl⟩
  have q1 : ((NN : Int) == 1) = bq := by rw [← Hbq.out]; rcases h13 with h | h <;> subst h <;> rfl
  have q2 : ((NN : Int) != 1) = !bq := by rw [← Hbq.out]; rcases h13 with h | h <;> subst h <;> rfl
  have q3 : ((NN : Int) != 3) = bq := by rw [← Hbq.out]; rcases h13 with h | h <;> subst h <;> rfl
  clear h13
  cases bq
  all_goals (
    go_enter Tryz.func91, Tryz.ntmps91
    go_wp2_with fail
    clear x0 x1 hW0
    go_loopg [3] NN (fun g ct wr => ∃ j : Nat, g = NN - j ∧ j ≤ NN ∧ ct = .int .i64 j ∧ (names.take j).all (dnB NN) = true ∧ Below W0.heap.size W0 wr)
    case atStart => exact ⟨0, rfl, by omega, rfl, by simp, Below.refl _ _⟩
    case round =>
      obtain ⟨j, HG, hj, rfl, HA, HB⟩ := hrel
      have HG' := Lib.hid (And.intro HG (And.intro HA HB))
      clear HG HA HB
      obtain ⟨hBw, hsl, hsn, _, _, y3, y5, y6, y7, y8, y9, y10⟩ := HC.out wr HG'.out.2.2
      have HBw := Lib.hid (And.intro hBw hsl)
      clear hBw hsl x3
      by_cases hlt : j < NN
      · have hjl : j < names.length := by rw [HNN.out]; exact hlt
        obtain ⟨b, o, rfl, hb, hcell⟩ := hsn.at_ hjl
        have hj2 := Lib.hid (And.intro (List.getElem?_eq_getElem hjl) (List.getElem_mem hjl))
        have hstep : (names.take (j + 1)).all (dnB NN) = dnB NN names[j] := by
          rw [List.take_succ_eq_append_getElem hjl, List.all_append, HG'.out.2.1]
          simp
        have hno : dnB NN names[j] = false → names.all (dnB NN) = false := by
          intro h
          rw [List.all_eq_false]
          exact ⟨names[j], List.getElem_mem hjl, by rw [h]; simp⟩
        have hsz := HSh.out.2.2.2 _ (List.getElem_mem hjl)
        have HS := Lib.hid (And.intro hstep hno)
        clear hstep hno hj2 hsn
        generalize names[j] = v at hcell HS hsz
        clear hjl
        have HNm := Lib.hid (name21_any v wr (by omega))
        have HDv := Lib.hid (show dnB NN v = (nameB v || (!(NN == 1) && v.toList.isEmpty)) from rfl)
        rw [Hbq.out] at HDv
        cases hv : nameB v <;> cases hem : v.toList.isEmpty
        all_goals (
          rw [hv, hem] at HDv
          rw [hv] at HNm
          have hem2 : (v.toList == []) = v.toList.isEmpty := by cases v.toList <;> rfl
          rw [hem] at hem2
          go_wp2_with fail
          refine HNm.out.mono ?_
          rintro e w3 ⟨rfl, hb3⟩
          have HB3 := Lib.hid (HG'.out.2.2.trans (hb3.mono HG'.out.2.2.size))
          have z3 := (hb3.cell (p := ⟨w.heap.size, 3, none⟩) (Nat.lt_of_lt_of_le hzw HG'.out.2.2.size)).trans y3
          have zc := (hb3.cell (p := ⟨b, o + j, none⟩) hb).trans hcell
          clear hb3
          go_wp2
          first
            | (go_roundg (NN - (j + 1))
               case measure => rw [HG'.out.1]; omega
               case rel => exact ⟨j + 1, rfl, by omega, by go_num, by rw [HS.out.1, HDv.out]; rfl, HB3.out⟩)
            | (go_ret
               exact ⟨by rw [HD3.out, HDN.out, HS.out.2 (by rw [HDv.out]; rfl)]; rfl, (HC.out _ HB3.out).1⟩))
      · obtain rfl : j = NN := by omega
        have HE2 := Lib.hid (show E = exprE (⟨1, k, n, m, i, d, A, s.len, c⟩ :: s.pre 2) by
          have h1 := HG'.out.2.1
          rw [List.take_of_length_le (by rw [HNN.out]; omega)] at h1
          rw [HD3.out, HDN.out, h1]; rfl)
        have hce := checkExpr21_any k n m i d A c s wr HBw.out.2 HSh.out.1.1 HSh.out.1.2 HSh.out.2.1 HSh.out.2.2.1
        rw [← HE2.out] at hce
        have HCE := Lib.hid hce
        clear hce hsn
        go_wp2_with fail
        refine HCE.out.mono ?_
        rintro e w3 ⟨rfl, hb3⟩
        have HB3 := Lib.hid (HC.out w3 (HG'.out.2.2.trans (hb3.mono HG'.out.2.2.size))).1
        clear hb3
        go_wp2
        go_ret
        exact ⟨rfl, HB3.out⟩)
end Go.Proofs.YtacjjkbkhpdhnaaGreatDoor
/- ref24.decl -/
namespace Go.Proofs.YtacjjkbkhpdhnaaGreatDoor
open Go.RowKit Go.Proofs Go.Shelf
end Go.Proofs.YtacjjkbkhpdhnaaGreatDoor
/- ref21.CheckUses, ref24.Alias, uses -/
namespace Go.Proofs.YtacjjkbkhpdhnaaGreatDoor
open Go.RowKit Go.Proofs Go.Shelf
theorem below_drewN' {B : Nat} {w w' : World} (h : Below B w w') (n : Nat) : Below B w (w'.drewN n) := ⟨h.os, h.tape, h.output, h.size, h.block⟩
set_option maxRecDepth 100000 in
set_option maxHeartbeats 2000000 in
theorem checkUses21_any (l : List ByteArray) (A : Option Addr) (c : Nat) (w : World) (hs : SlS w w.heap.size A c l) (hz : ∀ s ∈ l, s.size ≤ 1000) :
    Calls Tryz.prog 50 #[.slice A l.length c] w fun e w' => e = .returned (.int .i64 (srcE l)) ∧ Below w.heap.size w w' := by
  have hc1 := hs.1
  have hc2 := hs.2.1
  unfold maxLen at hc2
  have HS := Lib.hid (And.intro hs hz)
  clear hs hz
  obtain ⟨E, HE⟩ : ∃ E, Hid (E = srcE l) := ⟨_, Lib.hid rfl⟩
  rw [← HE.out]
  obtain ⟨n, HN⟩ : ∃ n, Hid (l.length = n) := ⟨_, Lib.hid rfl⟩
  rw [HN.out] at hc1 ⊢
  by_cases h1 : 20 < n
  · have HR := Lib.hid (HE.out.trans (show srcE l = 4 by unfold srcE; rw [HN.out, if_pos h1]))
    have h1' : decide (20 < (n : Int)) = true := by simp; omega
    go_enter Tryz.func50, Tryz.ntmps50
    go_wp2
    go_ret
    exact ⟨by rw [HR.out]; rfl, Below.refl _ _⟩
  · have HE1 := Lib.hid (HE.out.trans (show srcE l = usesE none l by unfold srcE; rw [HN.out, if_neg h1]))
    have h1' : decide (20 < (n : Int)) = false := by simp; omega
    clear HE
    go_enter Tryz.func50, Tryz.ntmps50
    go_wp2_with fail
    go_loopg [3] n (fun g ct wr => ∃ j : Nat, g = n - j ∧ j ≤ n ∧ ct = .int .i64 j ∧ E = usesE (prevO l j) (l.drop j) ∧ Below w.heap.size w wr)
    case atStart => exact ⟨0, rfl, by omega, rfl, by rw [HE1.out]; rfl, Below.refl _ _⟩
    case round =>
      obtain ⟨j, HG, hj, rfl, HA, HB⟩ := hrel
      have HG' := Lib.hid (And.intro HG HB)
      have HA' := Lib.hid HA
      clear HG HA HB
      by_cases hlt : j < n
      · have hjl : j < l.length := by rw [HN.out]; exact hlt
        obtain ⟨b, o, rfl, hb, hcell⟩ := HS.out.1.2.2 (by intro e; subst e; simp at hjl)
        have hj2 : l[j]? = some l[j] := List.getElem?_eq_getElem hjl
        have hcj : wr.cell? ⟨b, o + j, none⟩ = some (.string l[j]) := (HG'.out.2.cell (p := ⟨b, o + j, none⟩) hb).trans (hcell j _ hj2)
        have hdrop : l.drop j = l[j] :: l.drop (j + 1) := List.drop_eq_getElem_cons hjl
        have hprev : prevO l (j + 1) = some l[j] := hj2
        rw [hdrop] at HA'
        have HP := Lib.hid hprev
        have HC := Lib.hid hcell
        have hsz := HS.out.2 _ (List.getElem_mem hjl)
        clear hprev hdrop hj2 hcell
        generalize l[j] = u at hcj HP HA' hsz
        clear hjl
        have HL := Lib.hid (Label20_any u wr (by omega))
        cases hu : labelB u with
        | false =>
          have HR := Lib.hid (show E = 6 by rw [HA'.out]; cases prevO l j <;> simp [usesE, hu])
          rw [hu] at HL
          go_wp2_with fail
          refine HL.out.mono ?_
          rintro e w3 ⟨rfl, rfl⟩
          go_wp2
          go_ret
          exact ⟨by rw [HR.out]; rfl, HG'.out.2⟩
        | true =>
          rw [hu] at HL
          cases j with
          | zero =>
            rw [Nat.add_zero] at hcj
            have HR := Lib.hid (HA'.out.trans (show usesE (prevO l 0) (u :: l.drop (0 + 1)) = usesE (some u) (l.drop (0 + 1)) by simp [prevO, usesE, hu]))
            have i0 : (0 : Int) < (n : Int) := by omega
            go_wp2_with fail
            refine HL.out.mono ?_
            rintro e w3 ⟨rfl, rfl⟩
            go_wp2_with fail
            go_quiet (fail)
            go_wp2
            go_roundg (n - (0 + 1))
            case measure => rw [HG'.out.1]; omega
            case rel => exact ⟨0 + 1, rfl, by omega, by go_num, by rw [HR.out, HP.out], below_drewN' HG'.out.2 _⟩
          | succ j =>
            have hkl : j < l.length := by rw [HN.out]; omega
            have hk2 : l[j]? = some l[j] := List.getElem?_eq_getElem hkl
            have hck : wr.cell? ⟨b, o + j, none⟩ = some (.string l[j]) := (HG'.out.2.cell (p := ⟨b, o + j, none⟩) hb).trans (HC.out j _ hk2)
            have HQ := Lib.hid (show prevO l (j + 1) = some l[j] from hk2)
            have hp1 : (0 : Int) < (j : Int) + 1 := by omega
            have hw1 : IntKind.i64.wrap ((j : Int) + 1 - 1) = j := by rw [show ((j : Int) + 1 - 1) = j by omega]; exact IntWalk.i64_in _ (by omega)
            have hj0 : (0 : Int) ≤ (j : Int) := by omega
            have hj1 : (j : Int) < (n : Int) := by omega
            have hj2 : (0 : Int) ≤ (j : Int) + 1 := by omega
            have hj3 : (j : Int) + 1 < (n : Int) := by omega
            clear hk2
            generalize l[j] = q at hck HQ
            clear hkl
            rw [HQ.out] at HA'
            cases hq : Op.bytesLess q.toList u.toList
            · have HR := Lib.hid (HA'.out.trans (show usesE (some q) (u :: l.drop (j + 1 + 1)) = 10 by simp [usesE, hu, hq]))
              go_wp2_with fail
              refine HL.out.mono ?_
              rintro e w3 ⟨rfl, rfl⟩
              go_wp2_with fail
              go_quiet (fail)
              go_wp2
              go_ret
              exact ⟨by rw [HR.out]; rfl, below_drewN' HG'.out.2 _⟩
            · have HR := Lib.hid (HA'.out.trans (show usesE (some q) (u :: l.drop (j + 1 + 1)) = usesE (some u) (l.drop (j + 1 + 1)) by simp [usesE, hu, hq]))
              go_wp2_with fail
              refine HL.out.mono ?_
              rintro e w3 ⟨rfl, rfl⟩
              go_wp2_with fail
              go_quiet (fail)
              go_wp2
              go_roundg (n - (j + 1 + 1))
              case measure => rw [HG'.out.1]; omega
              case rel => exact ⟨j + 1 + 1, rfl, by omega, by go_num, by rw [HR.out, HP.out], below_drewN' HG'.out.2 _⟩
      · have HR := Lib.hid (HA'.out.trans (show usesE (prevO l j) (l.drop j) = 0 by rw [List.drop_of_length_le (by rw [HN.out]; omega)]; cases prevO l j <;> rfl))
        have hjn : n ≤ j := by omega
        go_wp2
        go_ret
        exact ⟨by rw [HR.out]; rfl, HG'.out.2⟩
end Go.Proofs.YtacjjkbkhpdhnaaGreatDoor
/- ref24.Check -/
namespace Go.Proofs.YtacjjkbkhpdhnaaGreatDoor
open Go.RowKit Go.Proofs Go.Shelf
def ModS (label : ByteArray) (uses : List ByteArray) (decls : List Dc) : Prop := label.size ≤ 1000 ∧ (∀ s ∈ uses, s.size ≤ 1000) ∧ ∀ x ∈ decls, x.Sht
end Go.Proofs.YtacjjkbkhpdhnaaGreatDoor
