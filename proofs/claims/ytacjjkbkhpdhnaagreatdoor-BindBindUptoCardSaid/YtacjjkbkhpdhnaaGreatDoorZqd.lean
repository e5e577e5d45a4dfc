/- ref24.Bound: its answers -/
import Derived.Test.YtacjjkbkhpdhnaaGreatDoorZqb
import Derived.Test.YtacjjkbkhpdhnaaGreatDoorSxg
import Derived.Test.YtacjjkbkhpdhnaaGreatDoorZpg
import Derived.Test.YtacjjkbkhpdhnaaGreatDoorZqe
import Derived.Test.YtacjjkbkhpdhnaaGreatDoorZqa
import Derived.Deep.DeepCutAuto
import Derived.Deep.Onto
import Derived.Deep.RegionLaw
import Derived.Deep.RegionHeld3
import Derived.BigQuiet
import Derived.Deep.QuietTactic
namespace Go.Proofs.YtacjjkbkhpdhnaaGreatDoor
open Go Go.RowKit Go.Proofs Go.Shelf
def Fo.R34 : Fo → Prop
  | .nil => True
  | .cons k _ _ _ _ _ _ s r => (k = 3 ∨ k = 4 → s.len = 0) ∧ s.R34 ∧ r.R34
def BdL (q : Int × Nx) (w : World) (e : Ending) (w' : World) : Prop := Below w.heap.size w w' ∧ ∃ k n m i d A l c, e = .returned (.tuple #[.agg #[.int .i64 k, .string n, .string m, .int .i64 i, .int .i64 d, .slice A l c], .bool (decide (q.1 = 0))]) ∧ (q.1 = 0 → k = q.2.k ∧ n = q.2.n ∧ m = q.2.m ∧ i = q.2.i ∧ d = q.2.d ∧ A = none ∧ l = 0 ∧ c = 0)
theorem BdL.err {q : Int × Nx} {w W : World} {er : Int} {k : Int} {n m : ByteArray} {i d : Int} {A : Option Addr} {l c : Nat} (hb : Below w.heap.size w W) (hq : q = (er, noNx)) (h0 : er ≠ 0) : BdL q w (.returned (.tuple #[.agg #[.int .i64 k, .string n, .string m, .int .i64 i, .int .i64 d, .slice A l c], .bool false])) W :=
  ⟨hb, k, n, m, i, d, A, l, c, by rw [hq]; simp [h0], fun h => absurd (by rw [hq] at h; exact h) h0⟩
theorem BdL.ok {q : Int × Nx} {w W : World} {k : Int} {n m : ByteArray} {i d : Int} (hb : Below w.heap.size w W) (hq : q = (0, ⟨k, n, m, i, d⟩)) : BdL q w (.returned (.tuple #[.agg #[.int .i64 k, .string n, .string m, .int .i64 i, .int .i64 d, .slice none 0 0], .bool true])) W :=
  ⟨hb, k, n, m, i, d, none, 0, 0, by rw [hq]; rfl, fun _ => by rw [hq]; exact ⟨rfl, rfl, rfl, rfl, rfl, rfl, rfl, rfl⟩⟩
def BdR (q : Int × Nx × Pt) (w : World) (e : Ending) (w' : World) : Prop :=
  Below w.heap.size w w' ∧ ∃ k n m i d A l c, e = .returned (.tuple #[.agg #[.int .i64 k, .string n, .string m, .int .i64 i, .int .i64 d, .slice A l c], .bool (decide (q.1 = 0))]) ∧
    (q.1 = 0 → k = q.2.1.k ∧ n = q.2.1.n ∧ m = q.2.1.m ∧ i = q.2.1.i ∧ d = q.2.1.d ∧ ∃ t : Fo, t.pt = q.2.2 ∧ l = t.len ∧ t.SlP w' (fun k => w.heap.size ≤ k ∧ k < w'.heap.size) A c)
theorem BdR.err {q : Int × Nx × Pt} {w W : World} {k : Int} {n m : ByteArray} {i d : Int} {A : Option Addr} {l c : Nat} (hb : Below w.heap.size w W) (hq : q.1 ≠ 0) : BdR q w (.returned (.tuple #[.agg #[.int .i64 k, .string n, .string m, .int .i64 i, .int .i64 d, .slice A l c], .bool false])) W :=
  ⟨hb, k, n, m, i, d, A, l, c, by rw [decide_eq_false hq], fun h => absurd h hq⟩
theorem BdL.bdR {q : Int × Nx} {Q : Int × Nx × Pt} {w : World} (hQ : Q = (if q.1 = 0 then (0, q.2, .nil) else (q.1, ⟨0, ⟨#[]⟩, ⟨#[]⟩, 0, 0⟩, .nil))) {e : Ending} {w' : World} (h : BdL q w e w') : BdR Q w e w' := by
  obtain ⟨hb, k, n, m, i, d, A, l, c, rfl, h1⟩ := h
  by_cases h0 : q.1 = 0
  · rw [if_pos h0] at hQ
    obtain ⟨rfl, rfl, rfl, rfl, rfl, rfl, rfl, rfl⟩ := h1 h0
    refine ⟨hb, q.2.k, q.2.n, q.2.m, q.2.i, q.2.d, none, 0, 0, ?_, fun _ => ?_⟩
    · simp [hQ, h0]
    · rw [hQ]
      exact ⟨rfl, rfl, rfl, rfl, rfl, .nil, rfl, rfl, ⟨Nat.le_refl _, by decide, fun h => absurd rfl h⟩⟩
  · rw [if_neg h0] at hQ
    refine ⟨hb, k, n, m, i, d, A, l, c, by rw [hQ], fun h => ?_⟩
    · rw [hQ] at h
      exact absurd h h0
theorem idsF_drop {ds : List Dc} {s : ByteArray} {j : Nat} {x : Dc} (hx : ds[j]? = some x) : idsF (ds.drop j) s = if (decide (x.names.length = 1) && ((nameOf x).toList == s.toList)) = true then some x.id else idsF (ds.drop (j + 1)) s := by
  obtain ⟨hlt, rfl⟩ := List.getElem?_eq_some_iff.1 hx
  unfold idsF
  rw [List.drop_eq_getElem_cons hlt, List.find?_cons]
  by_cases h : ds[j].names.length = 1 ∧ nameOf ds[j] = s
  · rw [decide_eq_true h, if_pos (by rw [h.2]; simp [h.1])]
    rfl
  · rw [decide_eq_false h, if_neg (by
      intro hh
      rw [Bool.and_eq_true, decide_eq_true_iff] at hh
      have h2 := eq_of_beq hh.2
      rw [ByteArray.toList_eq, ByteArray.toList_eq] at h2
      exact h ⟨hh.1, ByteArray.ext (Array.ext' h2)⟩)]
theorem dotF_drop {uses : List ByteArray} {known : List If} {n m : ByteArray} {j : Nat} {u : ByteArray} (hx : uses[j]? = some u) : dotF (uses.drop j) known n m = match (if ((aliasB u).toList == n.toList) = true then (sigO (sigsOf known u) (fun s => s.name.toList == m.toList)).map fun s => (u, s.id) else none) with | some r => some r | none => dotF (uses.drop (j + 1)) known n m := by
  obtain ⟨hlt, rfl⟩ := List.getElem?_eq_some_iff.1 hx
  have he : (aliasB uses[j] = n) ↔ ((aliasB uses[j]).toList == n.toList) = true := by
    constructor
    · intro h
      rw [h]
      simp
    · intro h
      have h2 := eq_of_beq h
      rw [ByteArray.toList_eq, ByteArray.toList_eq] at h2
      exact ByteArray.ext (Array.ext' h2)
  unfold dotF
  rw [List.drop_eq_getElem_cons hlt, List.findSome?_cons]
  by_cases h : aliasB uses[j] = n
  · rw [if_pos h, if_pos (he.1 h)]
    cases (sigO (sigsOf known uses[j]) fun s => s.name.toList == m.toList) <;> rfl
  · rw [if_neg h, if_neg (fun h' => h (he.2 h'))]
end Go.Proofs.YtacjjkbkhpdhnaaGreatDoor
/- ref24.Bound at a free variable -/
namespace Go.Proofs.YtacjjkbkhpdhnaaGreatDoor
open Go Go.RowKit Go.Proofs Go.Shelf

set_option maxRecDepth 100000 in
set_option maxHeartbeats 16000000 in
theorem boundVar_any (n m : ByteArray) (i d : Int) (A : Option Addr) (l c : Nat) (uses : List ByteArray) (uA : Option Addr) (uc : Nat) (ds : List Dc) (dA : Option Addr) (dc : Nat) (known : List If) (kA : Option Addr) (kc : Nat) (sc : List ByteArray) (bA : Option Addr) (bc : Nat) (w : World)
    (hu : SlS w w.heap.size uA uc uses) (hd : SlD w w.heap.size dA dc ds) (hk : SlI w w.heap.size kA kc known) (hb : SlS w w.heap.size bA bc sc) (hsc : hasN sc n = false) :
    Calls Tryz.prog 71 #[.agg #[.int .i64 3, .string n, .string m, .int .i64 i, .int .i64 d, .slice A l c], .agg #[.slice uA uses.length uc, .slice dA ds.length dc], .slice kA known.length kc, .slice bA sc.length bc] w (BdL (gBound ds uses known ⟨3, n, m, i, d⟩ sc) w) := by
  obtain ⟨ND, HND⟩ : ∃ Q, Hid (ds.length = Q) := ⟨_, Lib.hid rfl⟩
  obtain ⟨NU, HNU⟩ : ∃ Q, Hid (uses.length = Q) := ⟨_, Lib.hid rfl⟩
  obtain ⟨NK, HNK⟩ : ∃ Q, Hid (known.length = Q) := ⟨_, Lib.hid rfl⟩
  obtain ⟨NB, HNB⟩ : ∃ Q, Hid (sc.length = Q) := ⟨_, Lib.hid rfl⟩
  obtain ⟨W0, hW0⟩ : ∃ W0, ((w.alloc (.cells #[.int .i64 3, .string n, .string m, .int .i64 i, .int .i64 d, .slice A l c] 28)).alloc (.cells #[.slice uA NU uc, .slice dA ND dc] 40)).alloc (.cells #[.int .i64 0, .string ⟨#[]⟩, .string ⟨#[]⟩, .int .i64 0, .int .i64 0, .slice none 0 0] 28) = W0 := ⟨_, rfl⟩
  have hz0 : w.heap.size + 1 + 1 < W0.heap.size := by rw [← hW0]; simp
  have hB0 : Below w.heap.size w W0 := by rw [← hW0]; exact (((Below.refl _ _).alloc (Nat.le_refl _) _).alloc (by simp) _).alloc (by simp; omega) _
  have hx0 : W0.heap[w.heap.size]? = some (.cells #[.int .i64 3, .string n, .string m, .int .i64 i, .int .i64 d, .slice A l c] 28 (0, 0)) := by rw [← hW0]; exact (Below.heap_alloc _ _ _ (by simp; omega)).trans ((Below.heap_alloc _ _ _ (by simp)).trans (heap_alloc_new w _))
  have hm0 : W0.heap[w.heap.size + 1]? = some (.cells #[.slice uA NU uc, .slice dA ND dc] 40 (0, 0)) := by
    rw [← hW0]
    refine (Below.heap_alloc _ _ _ (by simp)).trans ?_
    have h := heap_alloc_new (w.alloc (.cells #[.int .i64 3, .string n, .string m, .int .i64 i, .int .i64 d, .slice A l c] 28)) (.cells #[.slice uA NU uc, .slice dA ND dc] 40)
    simpa using h
  have hy0 : W0.heap[w.heap.size + 1 + 1]? = some (.cells #[.int .i64 0, .string ⟨#[]⟩, .string ⟨#[]⟩, .int .i64 0, .int .i64 0, .slice none 0 0] 28 (0, 0)) := by
    have h := heap_alloc_new ((w.alloc (.cells #[.int .i64 3, .string n, .string m, .int .i64 i, .int .i64 d, .slice A l c] 28)).alloc (.cells #[.slice uA NU uc, .slice dA ND dc] 40)) (.cells #[.int .i64 0, .string ⟨#[]⟩, .string ⟨#[]⟩, .int .i64 0, .int .i64 0, .slice none 0 0] 28)
    rw [hW0] at h
    simpa using h
  have HC : Hid (∀ X, Below W0.heap.size W0 X → Below w.heap.size w X ∧ w.heap.size + 1 + 1 < X.heap.size ∧ X.heap[w.heap.size + 1 + 1]? = some (.cells #[.int .i64 0, .string ⟨#[]⟩, .string ⟨#[]⟩, .int .i64 0, .int .i64 0, .slice none 0 0] 28 (0, 0)) ∧ X.cell? ⟨w.heap.size, 0, none⟩ = some (.int .i64 3) ∧ X.cell? ⟨w.heap.size, 1, none⟩ = some (.string n) ∧ X.cell? ⟨w.heap.size, 2, none⟩ = some (.string m) ∧ X.cell? ⟨w.heap.size, 3, none⟩ = some (.int .i64 i) ∧ X.cell? ⟨w.heap.size, 4, none⟩ = some (.int .i64 d) ∧ X.cell? ⟨w.heap.size, 5, none⟩ = some (.slice A l c) ∧ X.cell? ⟨w.heap.size + 1, 0, none⟩ = some (.slice uA NU uc) ∧ X.cell? ⟨w.heap.size + 1, 1, none⟩ = some (.slice dA ND dc)) := fun X hX => by
    have hx := (hX.block w.heap.size (by omega)).trans hx0
    have hm := (hX.block (w.heap.size + 1) (by omega)).trans hm0
    exact ⟨hB0.trans (hX.mono (by omega)), Nat.lt_of_lt_of_le hz0 hX.size, (hX.block _ hz0).trans hy0, cell_of_row X _ 0 _ _ (0, 0) hx, cell_of_row X _ 1 _ _ (0, 0) hx, cell_of_row X _ 2 _ _ (0, 0) hx, cell_of_row X _ 3 _ _ (0, 0) hx, cell_of_row X _ 4 _ _ (0, 0) hx, cell_of_row X _ 5 _ _ (0, 0) hx, cell_of_row X _ 0 _ _ (0, 0) hm, cell_of_row X _ 1 _ _ (0, 0) hm⟩
  have HSl := Lib.hid (show ∀ X, Below w.heap.size w X → SlS X X.heap.size uA uc uses ∧ SlI X X.heap.size kA kc known ∧ SlS X X.heap.size bA bc sc from fun X hX => ⟨hu.keep hX.size fun p hp => hX.cell hp, hk.below hX, hb.keep hX.size fun p hp => hX.cell hp⟩)
  have hdl := hd.1
  have hdl2 := hd.2.1
  have hul := hu.1
  have hul2 := hu.2.1
  unfold maxLen at hdl2 hul2
  rw [HND.out] at hdl
  rw [HNU.out] at hul
  have HDw := Lib.hid hd
  rw [HND.out, HNU.out, HNK.out, HNB.out]
  obtain ⟨Q, HQ⟩ : ∃ Q, Hid (gBound ds uses known ⟨3, n, m, i, d⟩ sc = Q) := ⟨_, Lib.hid rfl⟩
  rw [HQ.out]
  have HH := Lib.hid (has21_any sc n bA bc W0 (HSl.out W0 hB0).2.2)
  rw [HNB.out, hasS_hasN, hsc] at HH
  have HGN := Lib.hid (show Q = (match idsF ds n with | some z => ((0 : Int), ⟨5, ⟨#[]⟩, ⟨#[]⟩, z, 0⟩) | none => (21, noNx)) by rw [← HQ.out, gBound, if_pos ⟨rfl, hsc⟩]; rfl)
  clear hu hd hk hb hB0 hx0 hm0 hy0 hsc
  obtain ⟨_, _, _, e0, e1, e2, e3, e4, e5, m0, m1⟩ := HC.out W0 (Below.refl _ _)
  go_enter Tryz.func71, Tryz.ntmps71
  go_wp2_with fail
  refine HH.out.mono ?_
  rintro e w4 ⟨rfl, rfl⟩
  go_wp2_with fail
  clear hW0 e0 e1 e2 e3 e4 e5 m0 m1 HH
  go_loopg [10] ND (fun gg ct wr => ∃ j : Nat, gg = ND - j ∧ j ≤ ND ∧ ct = .int .i64 j ∧ Hid (idsF ds n = idsF (ds.drop j) n) ∧ Below W0.heap.size W0 wr)
  case atStart => exact ⟨0, rfl, by omega, rfl, Lib.hid rfl, Below.refl _ _⟩
  case round =>
    obtain ⟨j, HG, hj, rfl, HA, hB⟩ := hrel
    obtain ⟨hBw, hzr, hr, e0, e1, e2, e3, e4, e5, m0, m1⟩ := HC.out wr hB
    by_cases hlt : j < ND
    rotate_left
    · have HQ2 := Lib.hid (show Q = (21, noNx) by rw [HGN.out, HA.out, List.drop_of_length_le (by rw [HND.out]; omega)]; rfl)
      have i2 : decide ((j : Int) < (ND : Int)) = false := decide_eq_false (by omega)
      have i3 : decide (j < ND) = false := decide_eq_false (by omega)
      have HBx := Lib.hid hBw
      clear HA hBw hB
      have HS := Lib.hid (six_set hr (.int .i64 3) (.string n) (.string m) (.int .i64 i) (.int .i64 d) (.slice A l c))
      obtain ⟨y0, y1, y2, y3, y4, y5, z0, z1, z2, z3, z4, z5⟩ := row6 hr
      go_wp2
      obtain ⟨W9, hW9, s0, s1, s2, s3, s4, s5, hBf, hsz, hbk⟩ := out6 HS.out HBx.out (show w.heap.size ≤ w.heap.size + 1 + 1 by omega)
      rw [hW9]
      refine bodyPost_ret (v := .tuple #[.agg #[.int .i64 3, .string n, .string m, .int .i64 i, .int .i64 d, .slice A l c], .bool false]) (by simp [results, Tryz.results71, go_sem, s0, s1, s2, s3, s4, s5]) rfl ?_
      exact BdL.err hBf HQ2.out (by decide)
    have hlt' : j < ds.length := by rw [HND.out]; exact hlt
    have hx0 : ds[j]? = some ds[j] := List.getElem?_eq_getElem hlt'
    obtain ⟨b, o, hA, hbb, x0, x1, x2, x3, x4, x5, x6, x7, x8, x9, x10, xok⟩ := HDw.out.cells_at (wr := wr) (fun p hp => hBw.cell hp) hx0
    subst hA
    have hstep := idsF_drop (s := n) hx0
    generalize ds[j] = x at x0 x1 x2 x3 x4 x5 x6 x7 x8 x9 x10 xok hstep
    clear hx0 hlt'
    have xn := xok.1.keep (w' := wr) hBw.size fun p hp => hBw.cell hp
    have xc1 := xn.1
    have xc2 := xn.2.1
    unfold maxLen at xc2
    have HB := Lib.hid hB
    have j0 : (0 : Int) ≤ (j : Int) := by omega
    have j1 : (j : Int) < (ND : Int) := by omega
    obtain ⟨gb, Hgb⟩ : ∃ q, Hid ((decide (x.names.length = 1) && ((nameOf x).toList == n.toList)) = q) := ⟨_, Lib.hid rfl⟩
    rw [Hgb.out] at hstep
    have HId := Lib.hid (show ∀ X : World, Below wr.heap.size wr X → X.cell? ⟨b, o + j * 11, none⟩ = some (.int .i64 x.id) from fun X hX => (hX.cell (p := ⟨b, o + j * 11, none⟩) (World.block_lt_of_cell? wr _ x0)).trans x0)
    clear xok x0 x1 x2 x4 x5 x6 x7 x8 x9 x10 hBw hB hr
    go_upto_region 5 with fail
    go_cut [56] (fun s wx => s = .bool gb ∧ ∃ nd, wx = wr.drewN nd)
    case first =>
      by_cases hn1 : x.names.length = 1
      · obtain ⟨nb, no, hnA, hnb, hnc⟩ := name_cell xn hn1
        change wr.cell? ⟨nb, no, none⟩ = some (.string (nameOf x)) at hnc
        have HG2 := Lib.hid (show gb = ((nameOf x).toList == n.toList) by rw [← Hgb.out, decide_eq_true hn1]; rfl)
        rw [hn1, hnA] at x3
        rw [hn1] at xc1
        clear xn hn1 hnA
        generalize nameOf x = nm at hnc HG2
        cases heq : nm.toList == n.toList with
        | true =>
          rw [heq] at HG2
          go_quiet (fail)
          go_wp2
          go_meet
          exact ⟨by rw [HG2.out], _, rfl⟩
        | false =>
          rw [heq] at HG2
          go_quiet (fail)
          go_wp2
          go_meet
          exact ⟨by rw [HG2.out], _, rfl⟩
      · have n1 : ((x.names.length : Int) == 1) = false := by simp; omega
        have HG2 := Lib.hid (show gb = false by rw [← Hgb.out, decide_eq_false hn1]; rfl)
        clear hn1 xn
        generalize x.names.length = nx at *
        go_quiet (fail)
        go_wp2
        go_meet
        exact ⟨by rw [HG2.out], _, rfl⟩
    case rest =>
    obtain ⟨h56, nd, hnd⟩ := hcut
    subst h56
    obtain ⟨W5, rfl⟩ : ∃ q, q = wc := ⟨_, rfl⟩
    have hb5 : Below wr.heap.size wr W5 := by rw [hnd]; exact below_drewN (Below.refl _ _) nd
    have hB5 := HB.out.trans (hb5.mono HB.out.size)
    have x0 := HId.out W5 hb5
    have HB5 := Lib.hid hB5
    clear hnd e0 e1 e2 e3 e4 e5 m0 m1 x3 xn xc1 xc2
    obtain ⟨hBw, hzr, hr, _, _, _, _, _, _, m0, m1⟩ := HC.out W5 hB5
    have HBx := Lib.hid hBw
    clear hBw hB5 hb5
    cases gb with
    | true =>
      have HQ2 := Lib.hid (show Q = (0, ⟨5, ⟨#[]⟩, ⟨#[]⟩, x.id, 0⟩) by rw [HGN.out, HA.out, hstep, if_pos rfl])
      clear hstep HA
      have HS := Lib.hid (six_set hr (.int .i64 5) (.string ⟨#[]⟩) (.string ⟨#[]⟩) (.int .i64 x.id) (.int .i64 0) (.slice none 0 0))
      obtain ⟨y0, y1, y2, y3, y4, y5, z0, z1, z2, z3, z4, z5⟩ := row6 hr
      go_wp2
      obtain ⟨W9, hW9, s0, s1, s2, s3, s4, s5, hBf, hsz, hbk⟩ := out6 HS.out HBx.out (show w.heap.size ≤ w.heap.size + 1 + 1 by omega)
      rw [hW9]
      refine bodyPost_ret (v := .tuple #[.agg #[.int .i64 5, .string ⟨#[]⟩, .string ⟨#[]⟩, .int .i64 x.id, .int .i64 0, .slice none 0 0], .bool true]) (by simp [results, Tryz.results71, go_sem, s0, s1, s2, s3, s4, s5]) rfl ?_
      exact BdL.ok hBf HQ2.out
    | false =>
      have HF := Lib.hid (show idsF ds n = idsF (ds.drop (j + 1)) n by rw [HA.out, hstep, if_neg (by simp)])
      clear hstep HA hr
      go_wp2
      go_roundg (ND - (j + 1))
      case measure => rw [HG]; omega
      case rel => exact ⟨j + 1, rfl, by omega, by go_num, HF, HB5.out⟩
end Go.Proofs.YtacjjkbkhpdhnaaGreatDoor
