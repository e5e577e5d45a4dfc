/- ref24.back -/
import Derived.Test.YtacjjkbkhpdhnaaGreatDoorSxg
import Derived.Test.YtacjjkbkhpdhnaaGreatDoorZqa
import Derived.Test.YtacjjkbkhpdhnaaGreatDoorZpg
import Derived.Test.YtacjjkbkhpdhnaaGreatDoorZmg
import Derived.Deep.DeepCutAuto
import Derived.Deep.Onto
import Derived.Deep.RegionLaw
import Derived.Deep.RegionHeld3
import Derived.BigQuiet
import Derived.Deep.QuietTactic
namespace Go.Proofs.YtacjjkbkhpdhnaaGreatDoor
open Go Go.RowKit Go.Proofs Go.Shelf
theorem below_drewK {B : Nat} {w w' : World} (h : Below B w w') : Below B w w'.drew := ⟨h.os, h.tape, h.output, h.size, h.block⟩
def firstD (ds : List Dc) (i : Int) : Option Dc := ds.find? fun x => x.id == i
theorem firstD_drop {ds : List Dc} {i : Int} {j : Nat} {x : Dc} (hx : ds[j]? = some x) : firstD (ds.drop j) i = if x.id = i then some x else firstD (ds.drop (j + 1)) i := by
  obtain ⟨hlt, rfl⟩ := List.getElem?_eq_some_iff.1 hx
  unfold firstD
  rw [List.drop_eq_getElem_cons hlt, List.find?_cons]
  by_cases h : ds[j].id = i
  · rw [if_pos h]
    simp only [show (ds[j].id == i) = true by simpa using h]
  · rw [if_neg h]
    simp only [show (ds[j].id == i) = false by simpa using h]
theorem sigO_drop' {sigs : List Sg} {p : Sg → Bool} {j : Nat} {x : Sg} (hx : sigs[j]? = some x) : sigO (sigs.drop j) p = if (sgB x && p x) = true then some x else sigO (sigs.drop (j + 1)) p := by
  obtain ⟨hlt, rfl⟩ := List.getElem?_eq_some_iff.1 hx
  unfold sigO
  rw [List.drop_eq_getElem_cons hlt, List.find?_cons]
  by_cases h : (sgB sigs[j] && p sigs[j]) = true
  · rw [if_pos h]
    simp only [h]
  · rw [if_neg h]
    simp only [show (sgB sigs[j] && p sigs[j]) = false by simpa using h]
def gBack (uses : List ByteArray) (ds : List Dc) (known : List If) : Repl := fun x sc =>
  if x.n.toList.isEmpty = true then
    match firstD ds x.i with
    | none => (21, noNx)
    | some y => if y.names.length ≠ 1 then (17, noNx) else if hasS sc (nameOf y) = true then (6, noNx) else (0, ⟨3, nameOf y, ⟨#[]⟩, 0, 0⟩)
  else if hasS uses x.n = true then
    match sigO (sigsOf known x.n) (fun s => s.id == x.i) with
    | some s => (0, ⟨4, aliasB x.n, s.name, 0, 0⟩)
    | none => (21, noNx)
  else (21, noNx)
def BackR (q : Int × Nx) (w : World) (e : Ending) (w' : World) : Prop := Below w.heap.size w w' ∧ ∃ k n m i d A l c, e = .returned (.tuple #[.agg #[.int .i64 k, .string n, .string m, .int .i64 i, .int .i64 d, .slice A l c], .int .i64 q.1]) ∧ (q.1 = 0 → k = q.2.k ∧ n = q.2.n ∧ m = q.2.m ∧ i = q.2.i ∧ d = q.2.d ∧ A = none ∧ l = 0 ∧ c = 0)
theorem BackR.err {q : Int × Nx} {w W : World} {er : Int} {k : Int} {n m : ByteArray} {i d : Int} {A : Option Addr} {l c : Nat} (hb : Below w.heap.size w W) (hq : q = (er, noNx)) (h0 : er ≠ 0) : BackR q w (.returned (.tuple #[.agg #[.int .i64 k, .string n, .string m, .int .i64 i, .int .i64 d, .slice A l c], .int .i64 er])) W :=
  ⟨hb, k, n, m, i, d, A, l, c, by rw [hq], fun h => absurd (by rw [hq] at h; exact h) h0⟩
theorem BackR.ok {q : Int × Nx} {w W : World} {k : Int} {n m : ByteArray} {i d : Int} (hb : Below w.heap.size w W) (hq : q = (0, ⟨k, n, m, i, d⟩)) : BackR q w (.returned (.tuple #[.agg #[.int .i64 k, .string n, .string m, .int .i64 i, .int .i64 d, .slice none 0 0], .int .i64 0])) W :=
  ⟨hb, k, n, m, i, d, none, 0, 0, by rw [hq], fun _ => by rw [hq]; exact ⟨rfl, rfl, rfl, rfl, rfl, rfl, rfl, rfl⟩⟩
set_option maxRecDepth 100000 in
set_option maxHeartbeats 16000000 in
theorem back24_any (k : Int) (n m : ByteArray) (i d : Int) (A : Option Addr) (l c : Nat) (label : ByteArray) (uses : List ByteArray) (uA : Option Addr) (uc : Nat) (ds : List Dc) (dA : Option Addr) (dc : Nat) (known : List If) (kA : Option Addr) (kc : Nat) (sc : List ByteArray) (bA : Option Addr) (bc : Nat) (w : World)
    (hu : SlS w w.heap.size uA uc uses) (hd : SlD w w.heap.size dA dc ds) (hk : SlI w w.heap.size kA kc known) (hkn : ∀ x ∈ known, ∀ s ∈ x.sigs, s.name.size ≤ 9223372036854775807) (hb : SlS w w.heap.size bA bc sc) (hnn : n.size ≤ 9223372036854775807) :
    Calls Tryz.prog 118 #[.agg #[.int .i64 k, .string n, .string m, .int .i64 i, .int .i64 d, .slice A l c], .agg #[.string label, .slice uA uses.length uc, .slice dA ds.length dc], .slice kA known.length kc, .slice bA sc.length bc] w (BackR (gBack uses ds known ⟨k, n, m, i, d⟩ sc) w) := by
  obtain ⟨ND, HND⟩ : ∃ Q, Hid (ds.length = Q) := ⟨_, Lib.hid rfl⟩
  obtain ⟨NU, HNU⟩ : ∃ Q, Hid (uses.length = Q) := ⟨_, Lib.hid rfl⟩
  obtain ⟨NK, HNK⟩ : ∃ Q, Hid (known.length = Q) := ⟨_, Lib.hid rfl⟩
  obtain ⟨NB, HNB⟩ : ∃ Q, Hid (sc.length = Q) := ⟨_, Lib.hid rfl⟩
  obtain ⟨W0, hW0⟩ : ∃ W0, ((w.alloc (.cells #[.int .i64 k, .string n, .string m, .int .i64 i, .int .i64 d, .slice A l c] 28)).alloc (.cells #[.string label, .slice uA NU uc, .slice dA ND dc] 25)).alloc (.cells #[.int .i64 0, .string ⟨#[]⟩, .string ⟨#[]⟩, .int .i64 0, .int .i64 0, .slice none 0 0] 28) = W0 := ⟨_, rfl⟩
  have hz0 : w.heap.size + 1 + 1 < W0.heap.size := by rw [← hW0]; simp
  have hB0 : Below w.heap.size w W0 := by rw [← hW0]; exact (((Below.refl _ _).alloc (Nat.le_refl _) _).alloc (by simp) _).alloc (by simp; omega) _
  have hx0 : W0.heap[w.heap.size]? = some (.cells #[.int .i64 k, .string n, .string m, .int .i64 i, .int .i64 d, .slice A l c] 28 (0, 0)) := by rw [← hW0]; exact (Below.heap_alloc _ _ _ (by simp; omega)).trans ((Below.heap_alloc _ _ _ (by simp)).trans (heap_alloc_new w _))
  have hm0 : W0.heap[w.heap.size + 1]? = some (.cells #[.string label, .slice uA NU uc, .slice dA ND dc] 25 (0, 0)) := by
    rw [← hW0]
    refine (Below.heap_alloc _ _ _ (by simp)).trans ?_
    have h := heap_alloc_new (w.alloc (.cells #[.int .i64 k, .string n, .string m, .int .i64 i, .int .i64 d, .slice A l c] 28)) (.cells #[.string label, .slice uA NU uc, .slice dA ND dc] 25)
    simpa using h
  have hy0 : W0.heap[w.heap.size + 1 + 1]? = some (.cells #[.int .i64 0, .string ⟨#[]⟩, .string ⟨#[]⟩, .int .i64 0, .int .i64 0, .slice none 0 0] 28 (0, 0)) := by
    have h := heap_alloc_new ((w.alloc (.cells #[.int .i64 k, .string n, .string m, .int .i64 i, .int .i64 d, .slice A l c] 28)).alloc (.cells #[.string label, .slice uA NU uc, .slice dA ND dc] 25)) (.cells #[.int .i64 0, .string ⟨#[]⟩, .string ⟨#[]⟩, .int .i64 0, .int .i64 0, .slice none 0 0] 28)
    rw [hW0] at h
    simpa using h
  have HC : Hid (∀ X, Below W0.heap.size W0 X → Below w.heap.size w X ∧ w.heap.size + 1 + 1 < X.heap.size ∧ X.heap[w.heap.size + 1 + 1]? = some (.cells #[.int .i64 0, .string ⟨#[]⟩, .string ⟨#[]⟩, .int .i64 0, .int .i64 0, .slice none 0 0] 28 (0, 0)) ∧ X.cell? ⟨w.heap.size, 0, none⟩ = some (.int .i64 k) ∧ X.cell? ⟨w.heap.size, 1, none⟩ = some (.string n) ∧ X.cell? ⟨w.heap.size, 2, none⟩ = some (.string m) ∧ X.cell? ⟨w.heap.size, 3, none⟩ = some (.int .i64 i) ∧ X.cell? ⟨w.heap.size, 4, none⟩ = some (.int .i64 d) ∧ X.cell? ⟨w.heap.size, 5, none⟩ = some (.slice A l c) ∧ X.cell? ⟨w.heap.size + 1, 1, none⟩ = some (.slice uA NU uc) ∧ X.cell? ⟨w.heap.size + 1, 2, none⟩ = some (.slice dA ND dc)) := fun X hX => by
    have hx := (hX.block w.heap.size (by omega)).trans hx0
    have hm := (hX.block (w.heap.size + 1) (by omega)).trans hm0
    exact ⟨hB0.trans (hX.mono (by omega)), Nat.lt_of_lt_of_le hz0 hX.size, (hX.block _ hz0).trans hy0, cell_of_row X _ 0 _ _ (0, 0) hx, cell_of_row X _ 1 _ _ (0, 0) hx, cell_of_row X _ 2 _ _ (0, 0) hx, cell_of_row X _ 3 _ _ (0, 0) hx, cell_of_row X _ 4 _ _ (0, 0) hx, cell_of_row X _ 5 _ _ (0, 0) hx, cell_of_row X _ 1 _ _ (0, 0) hm, cell_of_row X _ 2 _ _ (0, 0) hm⟩
  have HSl := Lib.hid (show ∀ X, Below w.heap.size w X → SlS X X.heap.size uA uc uses ∧ SlD X X.heap.size dA dc ds ∧ SlI X X.heap.size kA kc known ∧ SlS X X.heap.size bA bc sc from fun X hX => ⟨hu.keep hX.size fun p hp => hX.cell hp, hd.keep hX.size fun p hp => hX.cell hp, hk.below hX, hb.keep hX.size fun p hp => hX.cell hp⟩)
  have hdl := hd.1
  have hdl2 := hd.2.1
  unfold maxLen at hdl2
  rw [HND.out] at hdl
  have HDw := Lib.hid hd
  have HKN := Lib.hid hkn
  rw [HND.out, HNU.out, HNK.out, HNB.out]
  obtain ⟨Q, HQ⟩ : ∃ Q, Hid (gBack uses ds known ⟨k, n, m, i, d⟩ sc = Q) := ⟨_, Lib.hid rfl⟩
  rw [HQ.out]
  clear hu hd hk hkn hb hB0 hx0 hm0 hy0
  obtain ⟨_, _, _, e0, e1, e2, e3, e4, e5, m1, m2⟩ := HC.out W0 (Below.refl _ _)
  cases hem : n.toList.isEmpty with
  | true =>
    have HGN := Lib.hid (show Q = (match firstD ds i with | none => ((21 : Int), noNx) | some y => if y.names.length ≠ 1 then (17, noNx) else if hasS sc (nameOf y) = true then (6, noNx) else (0, ⟨3, nameOf y, ⟨#[]⟩, 0, 0⟩)) by rw [← HQ.out, gBack]; simp only [hem, if_true])
    go_enter Tryz.func118, Tryz.ntmps118
    go_wp2_with fail
    go_loopg [10] ND (fun gg ct wr => ∃ j : Nat, gg = ND - j ∧ j ≤ ND ∧ ct = .int .i64 j ∧ Hid (firstD ds i = firstD (ds.drop j) i) ∧ Below W0.heap.size W0 wr)
    case atStart => exact ⟨0, rfl, by omega, rfl, Lib.hid rfl, Below.refl _ _⟩
    case round =>
      obtain ⟨j, HG, hj, rfl, HA, hB⟩ := hrel
      clear e0 e1 e2 e3 e4 e5 m1 m2 hW0
      obtain ⟨hBw, hzr, hr, e0, e1, e2, e3, e4, e5, m1, m2⟩ := HC.out wr hB
      by_cases hlt : j < ND
      · have hlt' : j < ds.length := by rw [HND.out]; exact hlt
        have hx0 : ds[j]? = some ds[j] := List.getElem?_eq_getElem hlt'
        obtain ⟨b, o, hA, hbb, x0, x1, x2, x3, x4, x5, x6, x7, x8, x9, x10, xok⟩ := HDw.out.cells_at (wr := wr) (fun p hp => hBw.cell hp) hx0
        subst hA
        have hstep := firstD_drop (i := i) hx0
        generalize ds[j] = x at x0 x1 x2 x3 x4 x5 x6 x7 x8 x9 x10 xok hstep
        clear hx0 hlt'
        obtain ⟨W3, hW3⟩ : ∃ W3, wr.alloc (.cells #[.int .i64 x.id, .int .i64 x.kind, .bool x.pub, .slice x.nA x.names.length x.nc, .bool x.doubt, .int .i64 x.k, .string x.n, .string x.m, .int .i64 x.i, .int .i64 x.d, .slice x.A x.s.len x.c] 63) = W3 := ⟨_, rfl⟩
        have hb3 : Below wr.heap.size wr W3 := by rw [← hW3]; exact (Below.refl _ _).alloc (Nat.le_refl _) _
        have hx3 : W3.heap[wr.heap.size]? = some (.cells #[.int .i64 x.id, .int .i64 x.kind, .bool x.pub, .slice x.nA x.names.length x.nc, .bool x.doubt, .int .i64 x.k, .string x.n, .string x.m, .int .i64 x.i, .int .i64 x.d, .slice x.A x.s.len x.c] 63 (0, 0)) := by rw [← hW3]; exact heap_alloc_new wr _
        have f0 := cell_of_row W3 wr.heap.size 0 _ _ (0, 0) hx3
        have f3 := cell_of_row W3 wr.heap.size 3 _ _ (0, 0) hx3
        simp at f0 f3
        have hB3 := hB.trans (hb3.mono hB.size)
        obtain ⟨hBw3, hz3, hr3, g0, g1, g2, g3, g4, g5, _, _⟩ := HC.out W3 hB3
        have xn := xok.1.keep (w' := W3) hBw3.size fun p hp => hBw3.cell hp
        have HB3 := Lib.hid (And.intro hB3 hBw3)
        have j0 : (0 : Int) ≤ (j : Int) := by omega
        have j1 : (j : Int) < (ND : Int) := by omega
        clear xok hb3 hx3 hB hBw hBw3 hB3 hr
        by_cases hid : x.id = i
        · have hI : (x.id != i) = false := by simpa using hid
          have HF := Lib.hid (show firstD ds i = some x by rw [HA.out, hstep, if_pos hid])
          clear hstep hid HA
          by_cases hn1 : x.names.length = 1
          · obtain ⟨nb, no, hnA, hnb, hnc⟩ := name_cell xn hn1
            have HQ2 := Lib.hid (show Q = (if hasS sc (nameOf x) = true then (6, noNx) else (0, ⟨3, nameOf x, ⟨#[]⟩, 0, 0⟩)) by rw [HGN.out, HF.out]; simp only [hn1, ne_eq, not_true_eq_false, if_false])
            have xc1 := xn.1
            have xc2 := xn.2.1
            unfold maxLen at xc2
            rw [hn1] at xc1 x3 f3
            rw [hn1] at hW3
            rw [hnA] at f3 x3 hW3
            change W3.cell? ⟨nb, no, none⟩ = some (.string (nameOf x)) at hnc
            have HH := Lib.hid (has21_any sc (nameOf x) bA bc W3 (HSl.out W3 HB3.out.2).2.2.2)
            rw [HNB.out] at HH
            generalize nameOf x = nm at hnc HQ2 HH
            obtain ⟨hh, Hhh⟩ : ∃ q, Hid (hasS sc nm = q) := ⟨_, Lib.hid rfl⟩
            rw [Hhh.out] at HQ2 HH
            clear xn hn1 hnA
            cases hh with
            | true =>
              obtain ⟨y0, y1, y2, y3, y4, y5, z0, z1, z2, z3, z4, z5⟩ := row6 hr3
              have HS := Lib.hid (six_set hr3 (.int .i64 k) (.string n) (.string m) (.int .i64 i) (.int .i64 d) (.slice A l c))
              have HBx := Lib.hid HB3.out.2
              go_wp2_with fail
              refine HH.out.mono ?_
              rintro e w4 ⟨rfl, rfl⟩
              go_wp2
              obtain ⟨W9, hW9, s0, s1, s2, s3, s4, s5, hBf, hsz, hbk⟩ := out6 HS.out HBx.out (by omega)
              rw [hW9]
              refine bodyPost_ret (v := .tuple #[.agg #[.int .i64 k, .string n, .string m, .int .i64 i, .int .i64 d, .slice A l c], .int .i64 6]) (by simp [results, Tryz.results118, go_sem, s0, s1, s2, s3, s4, s5]) rfl ?_
              exact BackR.err hBf (HQ2.out.trans (by simp)) (by decide)
            | false =>
              obtain ⟨y0, y1, y2, y3, y4, y5, z0, z1, z2, z3, z4, z5⟩ := row6 hr3
              have HS := Lib.hid (six_set hr3 (.int .i64 3) (.string nm) (.string ⟨#[]⟩) (.int .i64 0) (.int .i64 0) (.slice none 0 0))
              have HBx := Lib.hid HB3.out.2
              go_wp2_with fail
              refine HH.out.mono ?_
              rintro e w4 ⟨rfl, rfl⟩
              go_wp2
              obtain ⟨W9, hW9, s0, s1, s2, s3, s4, s5, hBf, hsz, hbk⟩ := out6 HS.out HBx.out (by omega)
              rw [hW9]
              refine bodyPost_ret (v := .tuple #[.agg #[.int .i64 3, .string nm, .string ⟨#[]⟩, .int .i64 0, .int .i64 0, .slice none 0 0], .int .i64 0]) (by simp [results, Tryz.results118, go_sem, s0, s1, s2, s3, s4, s5]) rfl ?_
              exact BackR.ok hBf (HQ2.out.trans (by simp))
          · have HQ2 := Lib.hid (show Q = (17, noNx) by rw [HGN.out, HF.out]; simp only [ne_eq, hn1, not_false_eq_true, if_true])
            have n1 : ((x.names.length : Int) != 1) = true := by simp; omega
            have xc1 := xn.1
            have xc2 := xn.2.1
            unfold maxLen at xc2
            clear hn1 xn
            generalize x.names.length = nx at *
            obtain ⟨y0, y1, y2, y3, y4, y5, z0, z1, z2, z3, z4, z5⟩ := row6 hr3
            have HS := Lib.hid (six_set hr3 (.int .i64 k) (.string n) (.string m) (.int .i64 i) (.int .i64 d) (.slice A l c))
            have HBx := Lib.hid HB3.out.2
            go_wp2
            obtain ⟨W9, hW9, s0, s1, s2, s3, s4, s5, hBf, hsz, hbk⟩ := out6 HS.out HBx.out (by omega)
            rw [hW9]
            refine bodyPost_ret (v := .tuple #[.agg #[.int .i64 k, .string n, .string m, .int .i64 i, .int .i64 d, .slice A l c], .int .i64 17]) (by simp [results, Tryz.results118, go_sem, s0, s1, s2, s3, s4, s5]) rfl ?_
            exact BackR.err hBf HQ2.out (by decide)
        · have hI : (x.id != i) = true := by simpa using hid
          have HF := Lib.hid (show firstD ds i = firstD (ds.drop (j + 1)) i by rw [HA.out, hstep, if_neg hid])
          clear hstep hid HA xn
          generalize x.names.length = nx at *
          go_wp2
          go_roundg (ND - (j + 1))
          case measure => rw [HG]; omega
          case rel => exact ⟨j + 1, rfl, by omega, by go_num, HF, HB3.out.1⟩
      · have HQ2 := Lib.hid (show Q = (21, noNx) by rw [HGN.out, HA.out, List.drop_of_length_le (by rw [HND.out]; omega)]; rfl)
        have i2 : decide ((j : Int) < (ND : Int)) = false := decide_eq_false (by omega)
        have i3 : decide (j < ND) = false := decide_eq_false (by omega)
        have HBx := Lib.hid hBw
        clear HA hBw hB
        obtain ⟨y0, y1, y2, y3, y4, y5, z0, z1, z2, z3, z4, z5⟩ := row6 hr
        have HS := Lib.hid (six_set hr (.int .i64 k) (.string n) (.string m) (.int .i64 i) (.int .i64 d) (.slice A l c))
        go_wp2
        obtain ⟨W9, hW9, s0, s1, s2, s3, s4, s5, hBf, hsz, hbk⟩ := out6 HS.out HBx.out (by omega)
        rw [hW9]
        refine bodyPost_ret (v := .tuple #[.agg #[.int .i64 k, .string n, .string m, .int .i64 i, .int .i64 d, .slice A l c], .int .i64 21]) (by simp [results, Tryz.results118, go_sem, s0, s1, s2, s3, s4, s5]) rfl ?_
        exact BackR.err hBf HQ2.out (by decide)
  | false =>
    have HGN := Lib.hid (show Q = (if hasS uses n = true then (match sigO (sigsOf known n) (fun s => s.id == i) with | some s => ((0 : Int), ⟨4, aliasB n, s.name, 0, 0⟩) | none => (21, noNx)) else (21, noNx)) by rw [← HQ.out, gBack]; simp only [hem]; rw [if_neg (by decide)])
    have HFc := Lib.hid (face24_any known n kA kc W0 (HSl.out W0 (HC.out W0 (Below.refl _ _)).1).2.2.1)
    rw [HNK.out] at HFc
    obtain ⟨fo, Hfo⟩ : ∃ q, Hid (faceO known n = q) := ⟨_, Lib.hid rfl⟩
    obtain ⟨fx, Hfx⟩ : ∃ q, Hid (fo.getD noIf = q) := ⟨_, Lib.hid rfl⟩
    obtain ⟨fb, Hfb⟩ : ∃ q, Hid (fo.isSome = q) := ⟨_, Lib.hid rfl⟩
    have HSi := Lib.hid (show sigsOf known n = fx.sigs by unfold sigsOf; rw [Hfo.out, Hfx.out])
    have HSG := Lib.hid (show ∀ X : World, Below w.heap.size w X → SlG X X.heap.size fx.sA fx.sc fx.sigs from fun X hX => by
      have h := (HSl.out X hX).2.2.1
      rw [← Hfx.out, ← Hfo.out]
      cases hf : faceO known n with
      | none => exact SlG.nil _ _ _ _ (by decide)
      | some y =>
        obtain ⟨q, hq⟩ := List.getElem?_of_mem (List.mem_of_find?_eq_some hf)
        obtain ⟨_, _, _, _, _, _, hsg⟩ := h.at_ hq
        exact hsg)
    have HSz := Lib.hid (show ∀ s ∈ fx.sigs, s.name.size ≤ 9223372036854775807 from fun s hs => by
      rw [← Hfx.out, ← Hfo.out] at hs
      cases hf : faceO known n with
      | none => rw [hf] at hs; exact absurd hs (by simp [noIf])
      | some y => rw [hf] at hs; exact HKN.out y (List.mem_of_find?_eq_some hf) s hs)
    rw [Hfo.out, Hfx.out, Hfb.out] at HFc
    obtain ⟨fl, fA, fc, fs⟩ := fx
    simp only [If.cells] at HFc HSG HSz HSi
    obtain ⟨NS, HNS⟩ : ∃ q, Hid (fs.length = q) := ⟨_, Lib.hid rfl⟩
    rw [HNS.out] at HFc
    go_enter Tryz.func118, Tryz.ntmps118
    go_wp2_with fail
    refine HFc.out.mono ?_
    rintro e w1 ⟨rfl, hb1⟩
    obtain ⟨W2, hW2⟩ : ∃ q, w1.alloc (.cells #[.string fl, .slice fA NS fc] 55) = q := ⟨_, rfl⟩
    have hb2 : Below W0.heap.size W0 W2 := by rw [← hW2]; exact hb1.alloc hb1.size _
    have hx2 : W2.heap[w1.heap.size]? = some (.cells #[.string fl, .slice fA NS fc] 55 (0, 0)) := by rw [← hW2]; exact heap_alloc_new _ _
    have hl2 : w1.heap.size < W2.heap.size := by rw [← hW2]; simp
    obtain ⟨hBw2, hz2, hr2, _, _, _, _, _, _, _, _⟩ := HC.out W2 hb2
    have HC2 := Lib.hid (show ∀ X, Below W2.heap.size W2 X → Below W0.heap.size W0 X ∧ X.cell? ⟨w1.heap.size, 1, none⟩ = some (.slice fA NS fc) ∧ SlG X X.heap.size fA fc fs ∧ SlS X X.heap.size uA uc uses from fun X hX => by
      have h1 := hb2.trans (hX.mono hb2.size)
      exact ⟨h1, cell_of_row X _ 1 _ _ (0, 0) ((hX.block _ hl2).trans hx2), HSG.out X (HC.out X h1).1, (HSl.out X (HC.out X h1).1).1⟩)
    obtain ⟨_, f1, hg2, _⟩ := HC2.out W2 (Below.refl _ _)
    have gc1 := hg2.1
    have gc2 := hg2.2.1
    unfold maxLen at gc2
    rw [HNS.out] at gc1
    clear hb1 hb2 hx2 hl2 hBw2 hz2 hr2 hg2 e0 e1 e2 e3 e4 e5 m1 m2 hW0 HFc
    clear f1
    obtain ⟨U, HU⟩ : ∃ q, Hid (hasS uses n = q) := ⟨_, Lib.hid rfl⟩
    rw [HU.out, HSi.out] at HGN
    obtain ⟨_, f1, _, _⟩ := HC2.out W2 (Below.refl _ _)
    obtain ⟨_, _, _, e0, e1, e2, e3, e4, e5, m1, m2⟩ := HC.out W2 (HC2.out W2 (Below.refl _ _)).1
    go_wp2_with fail
    clear f1 e0 e1 e2 e3 e4 e5 m1 m2 hW2
    go_loopg [14] NS (fun gg ct wr => ∃ j : Nat, gg = NS - j ∧ j ≤ NS ∧ ct = .int .i64 j ∧ Hid (sigO fs (fun s => s.id == i) = sigO (fs.drop j) (fun s => s.id == i)) ∧ Below W2.heap.size W2 wr)
    case atStart => exact ⟨0, rfl, by omega, rfl, Lib.hid rfl, Below.refl _ _⟩
    case round =>
      obtain ⟨j, HG, hj, rfl, HA, hB⟩ := hrel
      obtain ⟨hB0, f1, hsg, hus⟩ := HC2.out wr hB
      obtain ⟨hBw, hzr, hr, e0, e1, e2, e3, e4, e5, m1, m2⟩ := HC.out wr hB0
      by_cases hlt : j < NS
      rotate_left
      · have HQ2 := Lib.hid (show Q = (21, noNx) by
          rw [HGN.out]
          split
          · rw [HA.out, List.drop_of_length_le (by rw [HNS.out]; omega)]; rfl
          · rfl)
        have i2 : decide ((j : Int) < (NS : Int)) = false := decide_eq_false (by omega)
        have i3 : decide (j < NS) = false := decide_eq_false (by omega)
        have HBx := Lib.hid hBw
        clear HA hBw hB hsg hus hB0
        obtain ⟨y0, y1, y2, y3, y4, y5, z0, z1, z2, z3, z4, z5⟩ := row6 hr
        have HS := Lib.hid (six_set hr (.int .i64 k) (.string n) (.string m) (.int .i64 i) (.int .i64 d) (.slice A l c))
        go_wp2
        obtain ⟨W9, hW9, s0, s1, s2, s3, s4, s5, hBf, hsz, hbk⟩ := out6 HS.out HBx.out (by omega)
        rw [hW9]
        refine bodyPost_ret (v := .tuple #[.agg #[.int .i64 k, .string n, .string m, .int .i64 i, .int .i64 d, .slice A l c], .int .i64 21]) (by simp [results, Tryz.results118, go_sem, s0, s1, s2, s3, s4, s5]) rfl ?_
        exact BackR.err hBf HQ2.out (by decide)
      have HH := Lib.hid (has21_any uses n uA uc wr hus)
      rw [HNU.out, HU.out] at HH
      have i1 : (j : Int) < (NS : Int) := by omega
      have i3 : j < NS := hlt
      cases U with
      | false =>
        have HQ2 := Lib.hid (show Q = (21, noNx) by rw [HGN.out, if_neg (by decide)])
        clear HA hB hsg hus hB0
        obtain ⟨y0, y1, y2, y3, y4, y5, z0, z1, z2, z3, z4, z5⟩ := row6 hr
        have HS := Lib.hid (six_set hr (.int .i64 k) (.string n) (.string m) (.int .i64 i) (.int .i64 d) (.slice A l c))
        have HBx := Lib.hid hBw
        clear hBw
        go_wp2_with fail
        refine HH.out.mono ?_
        rintro e w4 ⟨rfl, rfl⟩
        go_wp2
        obtain ⟨W9, hW9, s0, s1, s2, s3, s4, s5, hBf, hsz, hbk⟩ := out6 HS.out HBx.out (by omega)
        rw [hW9]
        refine bodyPost_ret (v := .tuple #[.agg #[.int .i64 k, .string n, .string m, .int .i64 i, .int .i64 d, .slice A l c], .int .i64 21]) (by simp [results, Tryz.results118, go_sem, s0, s1, s2, s3, s4, s5]) rfl ?_
        exact BackR.err hBf HQ2.out (by decide)
      | true =>
        have hlt' : j < fs.length := by rw [HNS.out]; exact hlt
        have hx0 : fs[j]? = some fs[j] := List.getElem?_eq_getElem hlt'
        obtain ⟨b, o, rfl, hbb, d0, d1, d2, d3, d4, d5⟩ := hsg.at_ hx0
        have hstep := sigO_drop' (p := fun s => s.id == i) hx0
        have hsz := HSz.out fs[j] (List.getElem_mem hlt')
        generalize fs[j] = x at d0 d1 d2 d3 d4 d5 hstep hsz
        have HCo := Lib.hid (show ∀ X : World, Calls Tryz.prog 114 #[.agg #[.int .i64 x.id, .string x.name, .int .i64 x.vars, .int .i64 x.kind, .int .i64 x.var, .slice x.tA x.tn x.tc]] X fun e Y => e = .returned (.bool (sgB x)) ∧ Below X.heap.size X Y from fun X => counts24_any x hsz X)
        obtain ⟨cb, Hcb⟩ : ∃ q, Hid (sgB x = q) := ⟨_, Lib.hid rfl⟩
        obtain ⟨ib, Hib⟩ : ∃ q, Hid ((x.id == i) = q) := ⟨_, Lib.hid rfl⟩
        rw [Hcb.out] at HCo
        simp only [Hcb.out, Hib.out] at hstep
        have hlw : w1.heap.size < wr.heap.size := World.block_lt_of_cell? wr _ f1
        have HKY := Lib.hid (show ∀ Y : World, Below wr.heap.size wr Y → Y.cell? ⟨w1.heap.size, 1, none⟩ = some (.slice (some ⟨b, o, none⟩) NS fc) ∧ Y.cell? ⟨b, o + j * 6, none⟩ = some (.int .i64 x.id) ∧ Y.cell? ⟨b, o + j * 6 + 1, none⟩ = some (.string x.name) ∧ Y.cell? ⟨w.heap.size, 3, none⟩ = some (.int .i64 i) ∧ Below W2.heap.size W2 Y from fun Y hY => ⟨(hY.cell (p := ⟨w1.heap.size, 1, none⟩) hlw).trans f1, (hY.cell (p := ⟨b, _, none⟩) hbb).trans d0, (hY.cell (p := ⟨b, _, none⟩) hbb).trans d1, (hY.cell (p := ⟨w.heap.size, 3, none⟩) (by show w.heap.size < wr.heap.size; omega)).trans e3, hB.trans (hY.mono hB.size)⟩)
        have HSX := Lib.hid (show ∀ X : World, Below wr.heap.size wr X → X.cell? ⟨w1.heap.size, 1, none⟩ = some (.slice (some ⟨b, o, none⟩) NS fc) ∧ X.cell? ⟨b, o + j * 6, none⟩ = some (.int .i64 x.id) ∧ X.cell? ⟨b, o + j * 6 + 1, none⟩ = some (.string x.name) ∧ X.cell? ⟨b, o + j * 6 + 2, none⟩ = some (.int .i64 x.vars) ∧ X.cell? ⟨b, o + j * 6 + 3, none⟩ = some (.int .i64 x.kind) ∧ X.cell? ⟨b, o + j * 6 + 4, none⟩ = some (.int .i64 x.var) ∧ X.cell? ⟨b, o + j * 6 + 5, none⟩ = some (.slice x.tA x.tn x.tc) ∧ X.cell? ⟨w.heap.size, 3, none⟩ = some (.int .i64 i) from fun X hX => by
          have q : ∀ (u q : Nat) (v : Value), u < wr.heap.size → wr.cell? ⟨u, q, none⟩ = some v → X.cell? ⟨u, q, none⟩ = some v := fun u q v hu h => (hX.cell (p := ⟨u, q, none⟩) hu).trans h
          exact ⟨q _ _ _ hlw f1, q _ _ _ hbb d0, q _ _ _ hbb d1, q _ _ _ hbb d2, q _ _ _ hbb d3, q _ _ _ hbb d4, q _ _ _ hbb d5, q _ _ _ (by omega) e3⟩)
        have j0 : (0 : Int) ≤ (j : Int) := by omega
        have hI := Hib.out
        clear hx0 hlt' hsz hus hB0 hBw hB hr hzr hlw hbb
        go_wp2_with fail
        refine HH.out.mono ?_
        rintro e w4 ⟨rfl, rfl⟩
        go_upto_region 17 with fail
        go_cut [90] (fun s90 wx => s90 = .bool (cb && ib) ∧ Below wr.heap.size wr wx)
        case first =>
          have HBD := Lib.hid (below_drewK (Below.refl wr.heap.size wr))
          cases cb with
          | true =>
            refine wp_region_held_drew (S := fun X => X.cell? ⟨w1.heap.size, 1, none⟩ = some (.slice (some ⟨b, o, none⟩) NS fc) ∧ X.cell? ⟨b, o + j * 6, none⟩ = some (.int .i64 x.id) ∧ X.cell? ⟨b, o + j * 6 + 1, none⟩ = some (.string x.name) ∧ X.cell? ⟨b, o + j * 6 + 2, none⟩ = some (.int .i64 x.vars) ∧ X.cell? ⟨b, o + j * 6 + 3, none⟩ = some (.int .i64 x.kind) ∧ X.cell? ⟨b, o + j * 6 + 4, none⟩ = some (.int .i64 x.var) ∧ X.cell? ⟨b, o + j * 6 + 5, none⟩ = some (.slice x.tA x.tn x.tc) ∧ X.cell? ⟨w.heap.size, 3, none⟩ = some (.int .i64 i)) (by kernel_rfl) (HSX.out _ HBD.out) (fun hHeld => ?_)
            refine wpAnyH_take (i := 0) (oi := { dst := some 74, op := Op.fieldAddr 55 (Operand.tmp 12) 1, type := 0, pos := "ref.go:269", after := #[], guard := none }) (v := ?v1) rfl (by kernel_rfl) (by kernel_rfl) (by kernel_rfl) (fun _ _ _ h => h) (Or.inl ⟨by rfl, ?hy1⟩) (by assumption) ?_
            case hy1 => (intro w hSw; (try dsimp only at hSw); first | (go_simp; done) | (go_simp; with_reducible rfl))
            try simp only [Act.put, List.setIfInBounds_toArray, List.set_cons_zero, List.set_cons_succ]
            refine wpAnyH_take (i := 1) (oi := { dst := some 75, op := Op.load 53 (Operand.tmp 74), type := 53, pos := "ref.go:269", after := #[{ on := 0, ground := Ground.data }], guard := none }) (v := ?v2) rfl (by kernel_rfl) (by kernel_rfl) (by kernel_rfl) (fun _ _ _ h => h) (Or.inl ⟨by rfl, ?hy2⟩) (by assumption) ?_
            case hy2 => (intro w hSw; (try dsimp only at hSw); first | (go_simp; done) | (go_simp; with_reducible rfl))
            try simp only [Act.put, List.setIfInBounds_toArray, List.set_cons_zero, List.set_cons_succ]
            refine wpAnyH_take (i := 2) (oi := { dst := some 76, op := Op.move (Operand.tmp 14), type := 3, pos := "ref.go:269", after := #[], guard := none }) (v := ?v3) rfl (by kernel_rfl) (by kernel_rfl) (by kernel_rfl) (fun _ _ _ h => h) (Or.inl ⟨by rfl, ?hy3⟩) (by assumption) ?_
            case hy3 => (intro w hSw; (try dsimp only at hSw); first | (go_simp; done) | (go_simp; with_reducible rfl))
            try simp only [Act.put, List.setIfInBounds_toArray, List.set_cons_zero, List.set_cons_succ]
            refine wpAnyH_take (i := 3) (oi := { dst := some 77, op := Op.indexAddr 53 (Operand.tmp 75) (Operand.tmp 76), type := 0, pos := "ref.go:269", after := #[{ on := 1, ground := Ground.data }, { on := 2, ground := Ground.data }], guard := none }) (v := ?v4) rfl (by kernel_rfl) (by kernel_rfl) (by kernel_rfl) (fun _ _ _ h => h) (Or.inl ⟨by rfl, ?hy4⟩) (by assumption) ?_
            case hy4 => (intro w hSw; (try dsimp only at hSw); first | (go_simp; done) | (go_simp; with_reducible rfl))
            try simp only [Act.put, List.setIfInBounds_toArray, List.set_cons_zero, List.set_cons_succ]
            refine wpAnyH_take (i := 4) (oi := { dst := some 78, op := Op.load 100 (Operand.tmp 77), type := 100, pos := "ref.go:269", after := #[{ on := 3, ground := Ground.data }], guard := none }) (v := ?v5) rfl (by kernel_rfl) (by kernel_rfl) (by kernel_rfl) (fun _ _ _ h => h) (Or.inl ⟨by rfl, ?hy5⟩) (by assumption) ?_
            case hy5 => (intro w hSw; (try dsimp only at hSw); first | (go_simp; done) | (go_simp; with_reducible rfl))
            try simp only [Act.put, List.setIfInBounds_toArray, List.set_cons_zero, List.set_cons_succ]
            refine wpAnyH_ready (rs := [5]) (by kernel_rfl) (by simp) ?_
            refine AllReadyH.cons rfl (fun K hK => ?_) AllReadyH.nil
            go_simp
            refine (HCo.out _).mono ?_
            rintro e w3 ⟨rfl, hb3⟩
            have hbb : Below wr.heap.size wr w3 := HBD.out.trans (hb3.mono (Nat.le_refl _))
            go_wp2_with fail
            refine hK.out _ _ (HSX.out _ hbb) (fun hHeld3 => ?_)
            clear hK K hHeld
            try simp only [Act.put, List.setIfInBounds_toArray, List.set_cons_zero, List.set_cons_succ]
            refine wpAnyH_take (i := 6) (oi := { dst := some 80, op := Op.move (Operand.tmp 79), type := 4, pos := "ref.go:269", after := #[{ on := 5, ground := Ground.data }, { on := 5, ground := Ground.chain }], guard := none }) (v := ?v6) rfl (by kernel_rfl) (by kernel_rfl) (by kernel_rfl) (fun _ _ _ h => h) (Or.inl ⟨by rfl, ?hy6⟩) (by assumption) ?_
            case hy6 => (intro w hSw; (try dsimp only at hSw); first | (go_simp; done) | (go_simp; with_reducible rfl))
            try simp only [Act.put, List.setIfInBounds_toArray, List.set_cons_zero, List.set_cons_succ]
            refine wpAnyH_take (i := 7) (oi := { dst := some 81, op := Op.fieldAddr 55 (Operand.tmp 12) 1, type := 0, pos := "ref.go:269", after := #[{ on := 6, ground := Ground.guard }], guard := some (6, true) }) (v := ?v7) rfl (by kernel_rfl) (by kernel_rfl) (by kernel_rfl) (fun _ _ _ h => h) (Or.inl ⟨by rfl, ?hy7⟩) (by assumption) ?_
            case hy7 => (intro w hSw; (try dsimp only at hSw); first | (go_simp; done) | (go_simp; with_reducible rfl))
            try simp only [Act.put, List.setIfInBounds_toArray, List.set_cons_zero, List.set_cons_succ]
            refine wpAnyH_take (i := 8) (oi := { dst := some 82, op := Op.load 53 (Operand.tmp 81), type := 53, pos := "ref.go:269", after := #[{ on := 7, ground := Ground.data }, { on := 6, ground := Ground.guard }], guard := some (6, true) }) (v := ?v8) rfl (by kernel_rfl) (by kernel_rfl) (by kernel_rfl) (fun _ _ _ h => h) (Or.inl ⟨by rfl, ?hy8⟩) (by assumption) ?_
            case hy8 => (intro w hSw; (try dsimp only at hSw); first | (go_simp; done) | (go_simp; with_reducible rfl))
            try simp only [Act.put, List.setIfInBounds_toArray, List.set_cons_zero, List.set_cons_succ]
            refine wpAnyH_take (i := 9) (oi := { dst := some 83, op := Op.move (Operand.tmp 14), type := 3, pos := "ref.go:269", after := #[{ on := 6, ground := Ground.guard }], guard := some (6, true) }) (v := ?v9) rfl (by kernel_rfl) (by kernel_rfl) (by kernel_rfl) (fun _ _ _ h => h) (Or.inl ⟨by rfl, ?hy9⟩) (by assumption) ?_
            case hy9 => (intro w hSw; (try dsimp only at hSw); first | (go_simp; done) | (go_simp; with_reducible rfl))
            try simp only [Act.put, List.setIfInBounds_toArray, List.set_cons_zero, List.set_cons_succ]
            refine wpAnyH_take (i := 10) (oi := { dst := some 84, op := Op.indexAddr 53 (Operand.tmp 82) (Operand.tmp 83), type := 0, pos := "ref.go:269", after := #[{ on := 8, ground := Ground.data }, { on := 9, ground := Ground.data }, { on := 6, ground := Ground.guard }], guard := some (6, true) }) (v := ?v10) rfl (by kernel_rfl) (by kernel_rfl) (by kernel_rfl) (fun _ _ _ h => h) (Or.inl ⟨by rfl, ?hy10⟩) (by assumption) ?_
            case hy10 => (intro w hSw; (try dsimp only at hSw); first | (go_simp; done) | (go_simp; with_reducible rfl))
            try simp only [Act.put, List.setIfInBounds_toArray, List.set_cons_zero, List.set_cons_succ]
            refine wpAnyH_take (i := 11) (oi := { dst := some 85, op := Op.fieldAddr 100 (Operand.tmp 84) 0, type := 0, pos := "ref.go:269", after := #[{ on := 10, ground := Ground.data }, { on := 6, ground := Ground.guard }], guard := some (6, true) }) (v := ?v11) rfl (by kernel_rfl) (by kernel_rfl) (by kernel_rfl) (fun _ _ _ h => h) (Or.inl ⟨by rfl, ?hy11⟩) (by assumption) ?_
            case hy11 => (intro w hSw; (try dsimp only at hSw); first | (go_simp; done) | (go_simp; with_reducible rfl))
            try simp only [Act.put, List.setIfInBounds_toArray, List.set_cons_zero, List.set_cons_succ]
            refine wpAnyH_take (i := 12) (oi := { dst := some 86, op := Op.load 3 (Operand.tmp 85), type := 3, pos := "ref.go:269", after := #[{ on := 11, ground := Ground.data }, { on := 6, ground := Ground.guard }], guard := some (6, true) }) (v := ?v12) rfl (by kernel_rfl) (by kernel_rfl) (by kernel_rfl) (fun _ _ _ h => h) (Or.inl ⟨by rfl, ?hy12⟩) (by assumption) ?_
            case hy12 => (intro w hSw; (try dsimp only at hSw); first | (go_simp; done) | (go_simp; with_reducible rfl))
            try simp only [Act.put, List.setIfInBounds_toArray, List.set_cons_zero, List.set_cons_succ]
            refine wpAnyH_take (i := 13) (oi := { dst := some 87, op := Op.fieldAddr 28 (Operand.tmp 4) 3, type := 0, pos := "ref.go:269", after := #[{ on := 6, ground := Ground.guard }], guard := some (6, true) }) (v := ?v13) rfl (by kernel_rfl) (by kernel_rfl) (by kernel_rfl) (fun _ _ _ h => h) (Or.inl ⟨by rfl, ?hy13⟩) (by assumption) ?_
            case hy13 => (intro w hSw; (try dsimp only at hSw); first | (go_simp; done) | (go_simp; with_reducible rfl))
            try simp only [Act.put, List.setIfInBounds_toArray, List.set_cons_zero, List.set_cons_succ]
            refine wpAnyH_take (i := 14) (oi := { dst := some 88, op := Op.load 3 (Operand.tmp 87), type := 3, pos := "ref.go:269", after := #[{ on := 13, ground := Ground.data }, { on := 6, ground := Ground.guard }], guard := some (6, true) }) (v := ?v14) rfl (by kernel_rfl) (by kernel_rfl) (by kernel_rfl) (fun _ _ _ h => h) (Or.inl ⟨by rfl, ?hy14⟩) (by assumption) ?_
            case hy14 => (intro w hSw; (try dsimp only at hSw); first | (go_simp; done) | (go_simp; with_reducible rfl))
            try simp only [Act.put, List.setIfInBounds_toArray, List.set_cons_zero, List.set_cons_succ]
            refine wpAnyH_take (i := 15) (oi := { dst := some 89, op := Op.binOp BinOp.eql 3 (Operand.tmp 86) (Operand.tmp 88) 3, type := 4, pos := "ref.go:269", after := #[{ on := 12, ground := Ground.data }, { on := 14, ground := Ground.data }, { on := 6, ground := Ground.guard }], guard := some (6, true) }) (v := ?v15) rfl (by kernel_rfl) (by kernel_rfl) (by kernel_rfl) (fun _ _ _ h => h) (Or.inl ⟨by rfl, ?hy15⟩) (by assumption) ?_
            case hy15 => (intro w hSw; (try dsimp only at hSw); first | (go_simp; done) | (go_simp; with_reducible rfl))
            try simp only [Act.put, List.setIfInBounds_toArray, List.set_cons_zero, List.set_cons_succ]
            refine wpAnyH_take (i := 16) (oi := { dst := some 90, op := Op.pick (Operand.tmp 80) (Operand.tmp 89) (Operand.const (Value.bool false)), type := 4, pos := "ref.go:269", after := #[{ on := 6, ground := Ground.data }, { on := 15, ground := Ground.data }], guard := none }) (v := ?v16) rfl (by kernel_rfl) (by kernel_rfl) (by kernel_rfl) (fun _ _ _ h => h) (Or.inl ⟨by rfl, ?hy16⟩) (by assumption) ?_
            case hy16 => (intro w hSw; (try dsimp only at hSw); first | (go_simp; done) | (go_simp; with_reducible rfl))
            try simp only [Act.put, List.setIfInBounds_toArray, List.set_cons_zero, List.set_cons_succ]
            refine wpAnyH_done (by kernel_rfl) ?_ _
            (try go_wp2)
            go_meet
            exact ⟨by first | rfl | rw [hI] | simp [hI], hbb⟩
          | false =>
            refine wp_region_held_drew (S := fun X => X.cell? ⟨w1.heap.size, 1, none⟩ = some (.slice (some ⟨b, o, none⟩) NS fc) ∧ X.cell? ⟨b, o + j * 6, none⟩ = some (.int .i64 x.id) ∧ X.cell? ⟨b, o + j * 6 + 1, none⟩ = some (.string x.name) ∧ X.cell? ⟨b, o + j * 6 + 2, none⟩ = some (.int .i64 x.vars) ∧ X.cell? ⟨b, o + j * 6 + 3, none⟩ = some (.int .i64 x.kind) ∧ X.cell? ⟨b, o + j * 6 + 4, none⟩ = some (.int .i64 x.var) ∧ X.cell? ⟨b, o + j * 6 + 5, none⟩ = some (.slice x.tA x.tn x.tc) ∧ X.cell? ⟨w.heap.size, 3, none⟩ = some (.int .i64 i)) (by kernel_rfl) (HSX.out _ HBD.out) (fun hHeld => ?_)
            refine wpAnyH_take (i := 0) (oi := { dst := some 74, op := Op.fieldAddr 55 (Operand.tmp 12) 1, type := 0, pos := "ref.go:269", after := #[], guard := none }) (v := ?v17) rfl (by kernel_rfl) (by kernel_rfl) (by kernel_rfl) (fun _ _ _ h => h) (Or.inl ⟨by rfl, ?hy17⟩) (by assumption) ?_
            case hy17 => (intro w hSw; (try dsimp only at hSw); first | (go_simp; done) | (go_simp; with_reducible rfl))
            try simp only [Act.put, List.setIfInBounds_toArray, List.set_cons_zero, List.set_cons_succ]
            refine wpAnyH_take (i := 1) (oi := { dst := some 75, op := Op.load 53 (Operand.tmp 74), type := 53, pos := "ref.go:269", after := #[{ on := 0, ground := Ground.data }], guard := none }) (v := ?v18) rfl (by kernel_rfl) (by kernel_rfl) (by kernel_rfl) (fun _ _ _ h => h) (Or.inl ⟨by rfl, ?hy18⟩) (by assumption) ?_
            case hy18 => (intro w hSw; (try dsimp only at hSw); first | (go_simp; done) | (go_simp; with_reducible rfl))
            try simp only [Act.put, List.setIfInBounds_toArray, List.set_cons_zero, List.set_cons_succ]
            refine wpAnyH_take (i := 2) (oi := { dst := some 76, op := Op.move (Operand.tmp 14), type := 3, pos := "ref.go:269", after := #[], guard := none }) (v := ?v19) rfl (by kernel_rfl) (by kernel_rfl) (by kernel_rfl) (fun _ _ _ h => h) (Or.inl ⟨by rfl, ?hy19⟩) (by assumption) ?_
            case hy19 => (intro w hSw; (try dsimp only at hSw); first | (go_simp; done) | (go_simp; with_reducible rfl))
            try simp only [Act.put, List.setIfInBounds_toArray, List.set_cons_zero, List.set_cons_succ]
            refine wpAnyH_take (i := 3) (oi := { dst := some 77, op := Op.indexAddr 53 (Operand.tmp 75) (Operand.tmp 76), type := 0, pos := "ref.go:269", after := #[{ on := 1, ground := Ground.data }, { on := 2, ground := Ground.data }], guard := none }) (v := ?v20) rfl (by kernel_rfl) (by kernel_rfl) (by kernel_rfl) (fun _ _ _ h => h) (Or.inl ⟨by rfl, ?hy20⟩) (by assumption) ?_
            case hy20 => (intro w hSw; (try dsimp only at hSw); first | (go_simp; done) | (go_simp; with_reducible rfl))
            try simp only [Act.put, List.setIfInBounds_toArray, List.set_cons_zero, List.set_cons_succ]
            refine wpAnyH_take (i := 4) (oi := { dst := some 78, op := Op.load 100 (Operand.tmp 77), type := 100, pos := "ref.go:269", after := #[{ on := 3, ground := Ground.data }], guard := none }) (v := ?v21) rfl (by kernel_rfl) (by kernel_rfl) (by kernel_rfl) (fun _ _ _ h => h) (Or.inl ⟨by rfl, ?hy21⟩) (by assumption) ?_
            case hy21 => (intro w hSw; (try dsimp only at hSw); first | (go_simp; done) | (go_simp; with_reducible rfl))
            try simp only [Act.put, List.setIfInBounds_toArray, List.set_cons_zero, List.set_cons_succ]
            refine wpAnyH_ready (rs := [5]) (by kernel_rfl) (by simp) ?_
            refine AllReadyH.cons rfl (fun K hK => ?_) AllReadyH.nil
            go_simp
            refine (HCo.out _).mono ?_
            rintro e w3 ⟨rfl, hb3⟩
            have hbb : Below wr.heap.size wr w3 := HBD.out.trans (hb3.mono (Nat.le_refl _))
            go_wp2_with fail
            refine hK.out _ _ (HSX.out _ hbb) (fun hHeld3 => ?_)
            clear hK K hHeld
            try simp only [Act.put, List.setIfInBounds_toArray, List.set_cons_zero, List.set_cons_succ]
            refine wpAnyH_take (i := 6) (oi := { dst := some 80, op := Op.move (Operand.tmp 79), type := 4, pos := "ref.go:269", after := #[{ on := 5, ground := Ground.data }, { on := 5, ground := Ground.chain }], guard := none }) (v := ?v22) rfl (by kernel_rfl) (by kernel_rfl) (by kernel_rfl) (fun _ _ _ h => h) (Or.inl ⟨by rfl, ?hy22⟩) (by assumption) ?_
            case hy22 => (intro w hSw; (try dsimp only at hSw); first | (go_simp; done) | (go_simp; with_reducible rfl))
            try simp only [Act.put, List.setIfInBounds_toArray, List.set_cons_zero, List.set_cons_succ]
            refine wpAnyH_take (i := 7) (oi := { dst := some 81, op := Op.fieldAddr 55 (Operand.tmp 12) 1, type := 0, pos := "ref.go:269", after := #[{ on := 6, ground := Ground.guard }], guard := some (6, true) }) (v := undef) rfl (by kernel_rfl) (by kernel_rfl) (by kernel_rfl) (fun _ _ _ h => h) (Or.inr ⟨by rfl, rfl⟩) (by assumption) ?_
            try simp only [Act.put, List.setIfInBounds_toArray, List.set_cons_zero, List.set_cons_succ]
            refine wpAnyH_take (i := 8) (oi := { dst := some 82, op := Op.load 53 (Operand.tmp 81), type := 53, pos := "ref.go:269", after := #[{ on := 7, ground := Ground.data }, { on := 6, ground := Ground.guard }], guard := some (6, true) }) (v := undef) rfl (by kernel_rfl) (by kernel_rfl) (by kernel_rfl) (fun _ _ _ h => h) (Or.inr ⟨by rfl, rfl⟩) (by assumption) ?_
            try simp only [Act.put, List.setIfInBounds_toArray, List.set_cons_zero, List.set_cons_succ]
            refine wpAnyH_take (i := 9) (oi := { dst := some 83, op := Op.move (Operand.tmp 14), type := 3, pos := "ref.go:269", after := #[{ on := 6, ground := Ground.guard }], guard := some (6, true) }) (v := undef) rfl (by kernel_rfl) (by kernel_rfl) (by kernel_rfl) (fun _ _ _ h => h) (Or.inr ⟨by rfl, rfl⟩) (by assumption) ?_
            try simp only [Act.put, List.setIfInBounds_toArray, List.set_cons_zero, List.set_cons_succ]
            refine wpAnyH_take (i := 10) (oi := { dst := some 84, op := Op.indexAddr 53 (Operand.tmp 82) (Operand.tmp 83), type := 0, pos := "ref.go:269", after := #[{ on := 8, ground := Ground.data }, { on := 9, ground := Ground.data }, { on := 6, ground := Ground.guard }], guard := some (6, true) }) (v := undef) rfl (by kernel_rfl) (by kernel_rfl) (by kernel_rfl) (fun _ _ _ h => h) (Or.inr ⟨by rfl, rfl⟩) (by assumption) ?_
            try simp only [Act.put, List.setIfInBounds_toArray, List.set_cons_zero, List.set_cons_succ]
            refine wpAnyH_take (i := 11) (oi := { dst := some 85, op := Op.fieldAddr 100 (Operand.tmp 84) 0, type := 0, pos := "ref.go:269", after := #[{ on := 10, ground := Ground.data }, { on := 6, ground := Ground.guard }], guard := some (6, true) }) (v := undef) rfl (by kernel_rfl) (by kernel_rfl) (by kernel_rfl) (fun _ _ _ h => h) (Or.inr ⟨by rfl, rfl⟩) (by assumption) ?_
            try simp only [Act.put, List.setIfInBounds_toArray, List.set_cons_zero, List.set_cons_succ]
            refine wpAnyH_take (i := 12) (oi := { dst := some 86, op := Op.load 3 (Operand.tmp 85), type := 3, pos := "ref.go:269", after := #[{ on := 11, ground := Ground.data }, { on := 6, ground := Ground.guard }], guard := some (6, true) }) (v := undef) rfl (by kernel_rfl) (by kernel_rfl) (by kernel_rfl) (fun _ _ _ h => h) (Or.inr ⟨by rfl, rfl⟩) (by assumption) ?_
            try simp only [Act.put, List.setIfInBounds_toArray, List.set_cons_zero, List.set_cons_succ]
            refine wpAnyH_take (i := 13) (oi := { dst := some 87, op := Op.fieldAddr 28 (Operand.tmp 4) 3, type := 0, pos := "ref.go:269", after := #[{ on := 6, ground := Ground.guard }], guard := some (6, true) }) (v := undef) rfl (by kernel_rfl) (by kernel_rfl) (by kernel_rfl) (fun _ _ _ h => h) (Or.inr ⟨by rfl, rfl⟩) (by assumption) ?_
            try simp only [Act.put, List.setIfInBounds_toArray, List.set_cons_zero, List.set_cons_succ]
            refine wpAnyH_take (i := 14) (oi := { dst := some 88, op := Op.load 3 (Operand.tmp 87), type := 3, pos := "ref.go:269", after := #[{ on := 13, ground := Ground.data }, { on := 6, ground := Ground.guard }], guard := some (6, true) }) (v := undef) rfl (by kernel_rfl) (by kernel_rfl) (by kernel_rfl) (fun _ _ _ h => h) (Or.inr ⟨by rfl, rfl⟩) (by assumption) ?_
            try simp only [Act.put, List.setIfInBounds_toArray, List.set_cons_zero, List.set_cons_succ]
            refine wpAnyH_take (i := 15) (oi := { dst := some 89, op := Op.binOp BinOp.eql 3 (Operand.tmp 86) (Operand.tmp 88) 3, type := 4, pos := "ref.go:269", after := #[{ on := 12, ground := Ground.data }, { on := 14, ground := Ground.data }, { on := 6, ground := Ground.guard }], guard := some (6, true) }) (v := undef) rfl (by kernel_rfl) (by kernel_rfl) (by kernel_rfl) (fun _ _ _ h => h) (Or.inr ⟨by rfl, rfl⟩) (by assumption) ?_
            try simp only [Act.put, List.setIfInBounds_toArray, List.set_cons_zero, List.set_cons_succ]
            refine wpAnyH_take (i := 16) (oi := { dst := some 90, op := Op.pick (Operand.tmp 80) (Operand.tmp 89) (Operand.const (Value.bool false)), type := 4, pos := "ref.go:269", after := #[{ on := 6, ground := Ground.data }, { on := 15, ground := Ground.data }], guard := none }) (v := ?v23) rfl (by kernel_rfl) (by kernel_rfl) (by kernel_rfl) (fun _ _ _ h => h) (Or.inl ⟨by rfl, ?hy23⟩) (by assumption) ?_
            case hy23 => (intro w hSw; (try dsimp only at hSw); first | (go_simp; done) | (go_simp; with_reducible rfl))
            try simp only [Act.put, List.setIfInBounds_toArray, List.set_cons_zero, List.set_cons_succ]
            refine wpAnyH_done (by kernel_rfl) ?_ _
            (try go_wp2)
            go_meet
            exact ⟨by first | rfl | rw [hI] | simp [hI], hbb⟩
        case rest =>
        obtain ⟨rfl, hbc⟩ := hcut
        obtain ⟨W5, rfl⟩ : ∃ X, X = wc := ⟨_, rfl⟩
        obtain ⟨q1, q2, q3, q4, hB5⟩ := HKY.out W5 hbc
        have HB5 := Lib.hid hB5
        obtain ⟨hBw5, hz5, hr5, g0, g1, g2, _, g4, g5, _, _⟩ := HC.out W5 (HC2.out W5 hB5).1
        clear e0 e1 e2 e3 e4 e5 m1 m2 f1 d0 d1 d2 d3 d4 d5 hbc hB5 HH HCo
        cases hcb : (cb && ib) with
        | false =>
          rw [hcb] at hstep
          have HS2 := Lib.hid (show sigO fs (fun s => s.id == i) = sigO (fs.drop (j + 1)) (fun s => s.id == i) by rw [HA.out, hstep, if_neg (by decide)])
          clear hstep HA hcb
          go_wp2
          go_roundg (NS - (j + 1))
          case measure => rw [HG]; omega
          case rel => exact ⟨j + 1, rfl, by omega, by go_num, HS2, HB5.out⟩
        | true =>
          rw [hcb] at hstep
          have HQ2 := Lib.hid (show Q = (0, ⟨4, aliasB n, x.name, 0, 0⟩) by rw [HGN.out]; simp only [if_true]; rw [HA.out, hstep]; simp)
          have HAl := Lib.hid (show ∀ X : World, Calls Tryz.prog 15 #[.string n] X fun e Y => e = .returned (.string (aliasB n)) ∧ Below X.heap.size X Y from fun X => (alias24_any n X hnn).mono fun e Y h => ⟨h.1, h.2 ▸ Below.refl _ _⟩)
          have HBx := Lib.hid hBw5
          have HRY := Lib.hid (show ∀ Y : World, Below W5.heap.size W5 Y → Y.heap[w.heap.size + 1 + 1]? = some (.cells #[.int .i64 0, .string ⟨#[]⟩, .string ⟨#[]⟩, .int .i64 0, .int .i64 0, .slice none 0 0] 28 (0, 0)) from fun Y hY => (hY.block _ hz5).trans hr5)
          have HK5 := Lib.hid (show ∀ Y : World, Below W5.heap.size W5 Y → Y.cell? ⟨w1.heap.size, 1, none⟩ = some (.slice (some ⟨b, o, none⟩) NS fc) ∧ Y.cell? ⟨b, o + j * 6 + 1, none⟩ = some (.string x.name) ∧ Y.cell? ⟨w.heap.size, 1, none⟩ = some (.string n) from fun Y hY => ⟨(hY.cell (p := ⟨w1.heap.size, 1, none⟩) (World.block_lt_of_cell? W5 _ q1)).trans q1, (hY.cell (p := ⟨b, _, none⟩) (World.block_lt_of_cell? W5 _ q3)).trans q3, (hY.cell (p := ⟨w.heap.size, 1, none⟩) (World.block_lt_of_cell? W5 _ g1)).trans g1⟩)
          clear hstep HA hcb hBw5 hr5 hz5 g0 g2 g4 g5 q2 q4
          go_upto_region 18 with fail
          go_region_law (go_simp; go_at_call 15; (with_reducible refine Calls.mono (HAl.out _) ?_); rintro e Y ⟨rfl, hbY⟩; have hbz : Below W5.heap.size W5 Y := ⟨hbY.os, hbY.tape, hbY.output, hbY.size, hbY.block⟩; have hrY := HRY.out Y hbz; obtain ⟨p1, p3, p4⟩ := HK5.out Y hbz; have y0 := cell_of_row Y (w.heap.size + 1 + 1) 0 _ _ (0, 0) hrY; have y1 := cell_of_row Y (w.heap.size + 1 + 1) 1 _ _ (0, 0) hrY; have y2 := cell_of_row Y (w.heap.size + 1 + 1) 2 _ _ (0, 0) hrY; have y3 := cell_of_row Y (w.heap.size + 1 + 1) 3 _ _ (0, 0) hrY; have y4 := cell_of_row Y (w.heap.size + 1 + 1) 4 _ _ (0, 0) hrY; have y5 := cell_of_row Y (w.heap.size + 1 + 1) 5 _ _ (0, 0) hrY; have z0 := frozen_of_row Y (w.heap.size + 1 + 1) 0 _ _ hrY; have z1 := frozen_of_row Y (w.heap.size + 1 + 1) 1 _ _ hrY; have z2 := frozen_of_row Y (w.heap.size + 1 + 1) 2 _ _ hrY; have z3 := frozen_of_row Y (w.heap.size + 1 + 1) 3 _ _ hrY; have z4 := frozen_of_row Y (w.heap.size + 1 + 1) 4 _ _ hrY; have z5 := frozen_of_row Y (w.heap.size + 1 + 1) 5 _ _ hrY; simp at y0 y1 y2 y3 y4 y5)
          all_goals (
            have HS := Lib.hid (six_set (HRY.out _ hbz) (.int .i64 4) (.string (aliasB n)) (.string x.name) (.int .i64 0) (.int .i64 0) (.slice none 0 0))
            have HBx := Lib.hid (HBx.out.trans (hbz.mono HBx.out.size))
            (try go_wp2)
            obtain ⟨W9, hW9, s0, s1, s2, s3, s4, s5, hBf, hsz, hbk⟩ := out6 HS.out HBx.out (by omega)
            rw [hW9]
            refine bodyPost_ret (v := .tuple #[.agg #[.int .i64 4, .string (aliasB n), .string x.name, .int .i64 0, .int .i64 0, .slice none 0 0], .int .i64 0]) (by simp [results, Tryz.results118, go_sem, s0, s1, s2, s3, s4, s5]) rfl ?_
            exact BackR.ok hBf HQ2.out)
end Go.Proofs.YtacjjkbkhpdhnaaGreatDoor
