/- ref21.CheckSource -/
import Derived.Test.YtacjjkbkhpdhnaaGreatDoorZpe
import Derived.Test.YtacjjkbkhpdhnaaGreatDoorZqa
import Derived.Test.YtacjjkbkhpdhnaaGreatDoorZmg
import Derived.BigQuiet
import Derived.Deep.QuietTactic
import Derived.Test.YtacjjkbkhpdhnaaGreatDoorBod
import Derived.Test.YtacjjkbkhpdhnaaGreatDoorZqc
import Derived.Test.YtacjjkbkhpdhnaaGreatDoorZpj
import Derived.Test.YtacjjkbkhpdhnaaGreatDoorZqe
import Derived.Test.YtacjjkbkhpdhnaaGreatDoorSxg
import Derived.Test.YtacjjkbkhpdhnaaGreatDoorSmm
import Derived.Test.YtacjjkbkhpdhnaaGreatDoorGkn
import Derived.Test.YtacjjkbkhpdhnaaGreatDoorZpk
import Derived.Test.YtacjjkbkhpdhnaaGreatDoorZll
import Derived.Test.YtacjjkbkhpdhnaaGreatDoorZln
namespace Go.Proofs.YtacjjkbkhpdhnaaGreatDoor
open Go.RowKit Go.Proofs Go.Shelf
theorem Fo.pre_has (K : Int) : ∀ (f : Fo) (dp : Nat), (f.pre dp).any (fun y => y.k == K) = f.has (kdP K)
  | .nil, _ => rfl
  | .cons k n m i d A c s r, dp => by
    simp only [Fo.pre, List.any_cons, List.any_append, Fo.has, Fo.pre_has K s, Fo.pre_has K r, kdP, Bool.or_assoc]
theorem pre_has5 (x : Dc) : x.pre.any (fun y => y.k == 5) = (kdP 5 x.k x.n || x.s.has (kdP 5)) := by
  simp only [Dc.pre, List.any_cons, Fo.pre_has, kdP]
theorem sdE_cd (x : Dc) : sdE x = if cdE x ≠ 0 then cdE x else if (kdP 5 x.k x.n || x.s.has (kdP 5)) = true then 9 else 0 := by
  rw [← pre_has5]
  unfold sdE cdE
  by_cases h1 : x.id < 0 ∨ 999999 < x.id
  · rw [if_pos h1, if_pos h1]
    simp
  rw [if_neg h1, if_neg h1]
  by_cases h2 : x.kind ≠ 1 ∧ x.kind ≠ 2 ∧ x.kind ≠ 3
  · rw [if_pos h2, if_pos (show x.kind < 1 ∨ 3 < x.kind by omega)]
    simp
  rw [if_neg h2, if_neg (show ¬ (x.kind < 1 ∨ 3 < x.kind) by omega)]
  by_cases h3 : dnE x.names = 0
  · simp only [h3, ne_eq, not_true_eq_false, if_false]
  · rw [if_pos h3, if_pos h3, if_pos h3]
def metOf (l : List Dc) : List ByteArray := (l.filter fun x => decide (x.names.length = 1)).map nameOf
theorem metOf_snoc (l : List Dc) (x : Dc) : metOf (l ++ [x]) = if x.names.length = 1 then metOf l ++ [nameOf x] else metOf l := by
  unfold metOf
  rw [List.filter_append]
  by_cases h : x.names.length = 1 <;> simp [h]
theorem hasN_met (x : Dc) (h : x.names.length = 1) : ∀ l, hasN (metOf l) (nameOf x) = l.any (sameN x)
  | [] => rfl
  | y :: r => by
    have ih := hasN_met x h r
    rw [List.any_cons, ← ih]
    unfold metOf
    by_cases hy : y.names.length = 1
    · rw [List.filter_cons_of_pos (by simpa using hy), List.map_cons]
      unfold hasN
      rw [List.any_cons]
      congr 1
      rw [Bool.beq_comm]
      simp [sameN, h, hy, ByteArray.toList_eq]
    · rw [List.filter_cons_of_neg (by simpa using hy)]
      simp [sameN, hy]
theorem sdsE_round {ds : List Dc} {j : Nat} {x : Dc} (hx : ds[j]? = some x) : sdsE (prevI ds j) (metOf (ds.take j)) (ds.drop j) = if cdE x ≠ 0 then cdE x else if (kdP 5 x.k x.n || x.s.has (kdP 5)) = true then 9 else if ordBad (prevI ds j) x.id = true then 10 else if x.names.length = 1 ∧ (ds.take j).any (sameN x) = true then 7 else sdsE (prevI ds (j + 1)) (metOf (ds.take (j + 1))) (ds.drop (j + 1)) := by
  obtain ⟨hlt, rfl⟩ := List.getElem?_eq_some_iff.1 hx
  have hp : prevI ds (j + 1) = some ds[j].id := by simp [prevI, hx]
  rw [List.drop_eq_getElem_cons hlt, sdsE, sdE_cd, List.take_succ_eq_append_getElem hlt, metOf_snoc, hp]
  generalize (kdP 5 ds[j].k ds[j].n || ds[j].s.has (kdP 5)) = K
  generalize ordBad (prevI ds j) ds[j].id = O
  generalize cdE ds[j] = C
  by_cases h4 : ds[j].names.length = 1
  · rw [if_pos h4, if_pos h4, hasN_met _ h4]
    simp only [h4, true_and]
    cases K <;> cases O <;> by_cases hC0 : C = 0 <;> simp [hC0]
  · rw [if_neg h4, if_neg h4]
    simp only [h4, false_and, if_false]
    cases K <;> cases O <;> by_cases hC0 : C = 0 <;> simp [hC0]
set_option maxRecDepth 100000 in
set_option maxHeartbeats 8000000 in
theorem checkSource21_any (l : List ByteArray) (A : Option Addr) (c : Nat) (ds : List Dc) (dA : Option Addr) (dc : Nat) (w : World) (hs : SlS w w.heap.size A c l) (hd : SlD w w.heap.size dA dc ds) (hz : ∀ s ∈ l, s.size ≤ 1000) (hsh : ∀ x ∈ ds, x.Sht) :
    Calls Tryz.prog 36 #[.agg #[.slice A l.length c, .slice dA ds.length dc]] w fun e w' => e = .returned (.int .i64 (srcDE l ds)) ∧ Below w.heap.size w w' := by
  obtain ⟨E, HE⟩ : ∃ E, Hid (srcDE l ds = E) := ⟨_, Lib.hid rfl⟩
  rw [HE.out]
  obtain ⟨N, HN⟩ : ∃ Q, Hid (ds.length = Q) := ⟨_, Lib.hid rfl⟩
  obtain ⟨NU, HNU⟩ : ∃ Q, Hid (l.length = Q) := ⟨_, Lib.hid rfl⟩
  obtain ⟨W0, hW0⟩ : ∃ W0, w.alloc (.cells #[.slice A NU c, .slice dA N dc] 40) = W0 := ⟨_, rfl⟩
  have hzw : w.heap.size < W0.heap.size := by subst hW0; simp
  have hB0 : Below w.heap.size w W0 := by subst hW0; exact (Below.refl _ _).alloc (Nat.le_refl _) _
  have hx0 : W0.heap[w.heap.size]? = some (.cells #[.slice A NU c, .slice dA N dc] 40 (0, 0)) := by rw [← hW0]; exact heap_alloc_new w _
  have HC : Hid (∀ X, Below W0.heap.size W0 X → Below w.heap.size w X ∧ w.heap.size < X.heap.size ∧ SlS X X.heap.size A c l ∧ X.cell? ⟨w.heap.size, 0, none⟩ = some (.slice A NU c) ∧ X.cell? ⟨w.heap.size, 1, none⟩ = some (.slice dA N dc)) := fun X hX => by
    have h0 := (hX.block w.heap.size hzw).trans hx0
    have hb := hB0.trans (hX.mono (Nat.le_of_lt hzw))
    exact ⟨hb, Nat.lt_of_lt_of_le hzw hX.size, hs.keep hb.size (fun p hp => hb.cell hp), cell_of_row X _ 0 _ _ (0, 0) h0, cell_of_row X _ 1 _ _ (0, 0) h0⟩
  have hul := hs.1
  have hul2 := hs.2.1
  have hdl := hd.1
  have hdl2 := hd.2.1
  unfold maxLen at hul2 hdl2
  rw [HNU.out] at hul ⊢
  rw [HN.out] at hdl ⊢
  have HSh := Lib.hid hsh
  have HDs := Lib.hid hd
  obtain ⟨E1, HE1⟩ : ∃ E1, Hid (srcE l = E1) := ⟨_, Lib.hid rfl⟩
  have HD : Hid (E = if E1 ≠ 0 then E1 else if 100 < N then 4 else sdsE none [] ds) := by
    show E = _
    rw [← HE.out, ← HE1.out, srcDE, srcE, HNU.out, HN.out]
    by_cases h : 20 < NU
    · rw [if_pos h, if_pos h]
      simp
    · rw [if_neg h, if_neg h]
  have hcu := checkUses21_any l A c W0 (HC.out W0 (Below.refl _ _)).2.2.1 hz
  rw [HNU.out, HE1.out] at hcu
  have HCU := Lib.hid hcu
  obtain ⟨_, _, _, x0, x1⟩ := HC.out W0 (Below.refl _ _)
  clear HE hs hd hB0 hx0 hsh hz hcu
  go_enter Tryz.func36, Tryz.ntmps36
  go_wp2_with fail
  refine HCU.out.mono ?_
  rintro e w1 ⟨rfl, hb1⟩
  have HB1 := Lib.hid hb1
  clear hb1 x0 x1 hW0 HCU
  obtain ⟨hBw1, _, _, x0, x1⟩ := HC.out w1 HB1.out
  have HBw1 := Lib.hid hBw1
  clear hBw1
  by_cases e1 : E1 = 0
  rotate_left
  · have e1' : (E1 != 0) = true := by simpa using e1
    have HR := Lib.hid (HD.out.trans (if_pos e1))
    clear e1
    go_wp2
    go_ret
    exact ⟨by rw [HR.out]; rfl, HBw1.out⟩
  subst e1
  have HD2 := Lib.hid (HD.out.trans (if_neg (by simp)))
  clear HD
  by_cases hlong : 100 < N
  · have HR := Lib.hid (HD2.out.trans (if_pos hlong))
    have hl' : decide (100 < (N : Int)) = true := by simp; omega
    go_wp2
    go_ret
    exact ⟨by rw [HR.out]; rfl, HBw1.out⟩
  have HD3 := Lib.hid (HD2.out.trans (if_neg hlong))
  have hl' : decide (100 < (N : Int)) = false := by simp; omega
  clear HD2
  go_wp2_with fail
  clear x0 x1
  go_loopg [3, 4, 5, 6] N (fun g _ ct _ _ wr => ∃ j : Nat, g = N - j ∧ j ≤ N ∧ ct = .int .i64 j ∧ Hid (E = sdsE (prevI ds j) (metOf (ds.take j)) (ds.drop j)) ∧ Below W0.heap.size W0 wr)
  case atStart => exact ⟨0, rfl, by omega, rfl, HD3, HB1.out⟩
  case round =>
    obtain ⟨j, HG, hj, rfl, HA, HB⟩ := hrel
    have HG' := Lib.hid (And.intro HG HB)
    clear HG HB
    obtain ⟨hBw, hzr, _, z0, z1⟩ := HC.out wr HG'.out.2
    have HBw := Lib.hid hBw
    by_cases hlt : j < N
    rotate_left
    · have HR := Lib.hid (show E = 0 by rw [HA.out, List.drop_of_length_le (by rw [HN.out]; omega)]; cases prevI ds j <;> rfl)
      have i2 : decide ((j : Int) < (N : Int)) = false := decide_eq_false (by omega)
      have i3 : decide (j < N) = false := decide_eq_false (by omega)
      clear hBw
      go_wp2
      go_ret
      exact ⟨by rw [HR.out]; rfl, HBw.out⟩
    have hjl : j < ds.length := by rw [HN.out]; exact hlt
    have hj3 : ds[j]? = some ds[j] := List.getElem?_eq_getElem hjl
    have HEx := Lib.hid (HA.out.trans (sdsE_round hj3))
    obtain ⟨S1, HS1⟩ : ∃ q, Hid (sdsE (prevI ds (j + 1)) (metOf (ds.take (j + 1))) (ds.drop (j + 1)) = q) := ⟨_, Lib.hid rfl⟩
    rw [HS1.out] at HEx
    obtain ⟨b, o, hA, hbb, d0, d1, d2, d3, d4, d5, d6, d7, d8, d9, d10, xok⟩ := HDs.out.cells_at (wr := wr) (fun p hp => hBw.cell hp) hj3
    subst hA
    have HSx := Lib.hid (HSh.out _ (List.getElem_mem hjl))
    have HPv := Lib.hid (show ∀ (q' : Nat), j = q' + 1 → ∃ pid : Int, prevI ds j = some pid ∧ ∀ X : World, Below w.heap.size w X → X.cell? ⟨b, o + q' * 11, none⟩ = some (.int .i64 pid) from fun q' e => by
      have h1 : ds[q']? = some (ds[q']'(by omega)) := List.getElem?_eq_getElem _
      refine ⟨(ds[q']'(by omega)).id, ?_, fun X hX => ?_⟩
      · subst e
        show (ds[q']?).map Dc.id = _
        rw [h1]
        rfl
      · obtain ⟨b', o', e', _, c0, _⟩ := HDs.out.cells_at (wr := X) (fun p hp => hX.cell hp) h1
        simp only [Option.some.injEq, Addr.mk.injEq, and_true] at e'
        obtain ⟨rfl, rfl⟩ := e'
        exact c0)
    generalize ds[j] = x at d0 d1 d2 d3 d4 d5 d6 d7 d8 d9 d10 xok HEx HSx
    clear hj3 hjl HA
    obtain ⟨W3, hW3⟩ : ∃ W3, wr.alloc (.cells #[.int .i64 x.id, .int .i64 x.kind, .bool x.pub, .slice x.nA x.names.length x.nc, .bool x.doubt, .int .i64 x.k, .string x.n, .string x.m, .int .i64 x.i, .int .i64 x.d, .slice x.A x.s.len x.c] 63) = W3 := ⟨_, rfl⟩
    have hb3 : Below wr.heap.size wr W3 := by rw [← hW3]; exact (Below.refl _ _).alloc (Nat.le_refl _) _
    have hx3 : W3.heap[wr.heap.size]? = some (.cells #[.int .i64 x.id, .int .i64 x.kind, .bool x.pub, .slice x.nA x.names.length x.nc, .bool x.doubt, .int .i64 x.k, .string x.n, .string x.m, .int .i64 x.i, .int .i64 x.d, .slice x.A x.s.len x.c] 63 (0, 0)) := by rw [← hW3]; exact heap_alloc_new wr _
    have hz3 : wr.heap.size < W3.heap.size := by rw [← hW3]; simp
    have HX := Lib.hid (show ∀ X : World, Below W3.heap.size W3 X → Below W0.heap.size W0 X ∧ Below w.heap.size w X ∧ x.Ok X X.heap.size ∧ X.heap[wr.heap.size]? = some (.cells #[.int .i64 x.id, .int .i64 x.kind, .bool x.pub, .slice x.nA x.names.length x.nc, .bool x.doubt, .int .i64 x.k, .string x.n, .string x.m, .int .i64 x.i, .int .i64 x.d, .slice x.A x.s.len x.c] 63 (0, 0)) ∧ X.cell? ⟨w.heap.size, 1, none⟩ = some (.slice (some ⟨b, o, none⟩) N dc) from fun X hX => by
      have h1 := HG'.out.2.trans ((hb3.trans (hX.mono (Nat.le_of_lt hz3))).mono HG'.out.2.size)
      obtain ⟨h2, _, _, _, h3⟩ := HC.out X h1
      exact ⟨h1, h2, ⟨xok.1.keep h2.size fun p hp => h2.cell hp, xok.2.keep h2.size fun p hp => h2.cell hp⟩, (hX.block _ hz3).trans hx3, h3⟩)
    obtain ⟨Ec, HEc⟩ : ∃ q, Hid (cdE x = q) := ⟨_, Lib.hid rfl⟩
    obtain ⟨kb, Hkb⟩ : ∃ q, Hid ((kdP 5 x.k x.n || x.s.has (kdP 5)) = q) := ⟨_, Lib.hid rfl⟩
    obtain ⟨bo, Hbo⟩ : ∃ q, Hid (ordBad (prevI ds j) x.id = q) := ⟨_, Lib.hid rfl⟩
    rw [HEc.out, Hkb.out, Hbo.out] at HEx
    have hcd := checkDecl21_any x W3 (HX.out W3 (Below.refl _ _)).2.2.1 HSx.out
    rw [HEc.out] at hcd
    simp only [Dc.cells] at hcd
    have HCd := Lib.hid hcd
    have HXo := Lib.hid xok
    have j0 : (0 : Int) ≤ (j : Int) := by omega
    have j1 : (j : Int) < (N : Int) := by omega
    have g0 := cell_of_row W3 wr.heap.size 0 _ _ (0, 0) hx3
    have g1 := cell_of_row W3 wr.heap.size 1 _ _ (0, 0) hx3
    have g2 := cell_of_row W3 wr.heap.size 2 _ _ (0, 0) hx3
    have g3 := cell_of_row W3 wr.heap.size 3 _ _ (0, 0) hx3
    have g4 := cell_of_row W3 wr.heap.size 4 _ _ (0, 0) hx3
    have g5 := cell_of_row W3 wr.heap.size 5 _ _ (0, 0) hx3
    have g6 := cell_of_row W3 wr.heap.size 6 _ _ (0, 0) hx3
    have g7 := cell_of_row W3 wr.heap.size 7 _ _ (0, 0) hx3
    have g8 := cell_of_row W3 wr.heap.size 8 _ _ (0, 0) hx3
    have g9 := cell_of_row W3 wr.heap.size 9 _ _ (0, 0) hx3
    have g10 := cell_of_row W3 wr.heap.size 10 _ _ (0, 0) hx3
    simp at g0 g1 g2 g3 g4 g5 g6 g7 g8 g9 g10
    clear hcd xok hb3 hx3 hBw
    go_wp2_with fail
    refine HCd.out.mono ?_
    rintro e w4 ⟨rfl, hb4⟩
    have HB4 := Lib.hid hb4
    clear hb4 HCd hW3 g0 g1 g2 g3 g4 g5 g6 g7 g8 g9 g10 d0 d1 d2 d3 d4 d5 d6 d7 d8 d9 d10 z0 z1
    by_cases ec : Ec = 0
    rotate_left
    · have ec' : (Ec != 0) = true := by simpa using ec
      have HR := Lib.hid (HEx.out.trans (if_pos ec))
      clear ec
      go_wp2
      go_ret
      exact ⟨by rw [HR.out]; rfl, (HX.out _ HB4.out).2.1⟩
    subst ec
    have HE2 := Lib.hid (HEx.out.trans (if_neg (by simp)))
    clear HEx
    obtain ⟨_, _, hok4, hr4, _⟩ := HX.out w4 HB4.out
    have hkd := kd_any 5 x.s x.k x.n x.m x.i x.d x.A x.c w4 hok4.2
    rw [Hkb.out] at hkd
    have HKd := Lib.hid hkd
    have f5 := cell_of_row w4 wr.heap.size 5 _ _ (0, 0) hr4
    have f6 := cell_of_row w4 wr.heap.size 6 _ _ (0, 0) hr4
    have f7 := cell_of_row w4 wr.heap.size 7 _ _ (0, 0) hr4
    have f8 := cell_of_row w4 wr.heap.size 8 _ _ (0, 0) hr4
    have f9 := cell_of_row w4 wr.heap.size 9 _ _ (0, 0) hr4
    have f10 := cell_of_row w4 wr.heap.size 10 _ _ (0, 0) hr4
    simp at f5 f6 f7 f8 f9 f10
    clear hkd hok4 hr4
    go_wp2_with fail
    refine HKd.out.mono ?_
    rintro e w5 ⟨rfl, hb5⟩
    have HB5 := Lib.hid (HB4.out.trans (hb5.mono HB4.out.size))
    clear hb5 HKd f5 f6 f7 f8 f9 f10
    cases kb with
    | true =>
      have HR := Lib.hid (HE2.out.trans (if_pos rfl))
      go_wp2
      go_ret
      exact ⟨by rw [HR.out]; rfl, (HX.out _ HB5.out).2.1⟩
    | false =>
    have HE3 := Lib.hid (HE2.out.trans (if_neg (by simp)))
    clear HE2
    obtain ⟨_, hBw5, _, hr5, z1⟩ := HX.out w5 HB5.out
    have f0 := cell_of_row w5 wr.heap.size 0 _ _ (0, 0) hr5
    simp at f0
    have HBw5 := Lib.hid hBw5
    clear hr5 hBw5
    go_upto_region 15 with fail
    go_cut [74] (fun s74 wx => s74 = .bool bo ∧ ∃ nd, wx = w5.drewN nd)
    case first =>
      cases j with
      | zero =>
        have HB0 := Lib.hid (show bo = false by rw [← Hbo.out]; rfl)
        go_quiet (fail)
        go_wp2
        go_meet
        exact ⟨by rw [HB0.out], _, rfl⟩
      | succ q' =>
        obtain ⟨pid, hp1, hp2⟩ := HPv.out q' rfl
        have hpc := hp2 w5 HBw5.out
        have hidx : ((q' + 1 : Nat) : Int) - 1 = q' := by omega
        have hw1 : IntKind.i64.wrap ((q' : Int) + 1 - 1) = q' := by rw [show ((q' : Int) + 1 - 1) = q' by omega]; exact IntWalk.i64_in _ (by omega)
        have hw2 : IntKind.i64.wrap (q' : Int) = q' := IntWalk.i64_in _ (by omega)
        have hq1 : (0 : Int) < ((q' + 1 : Nat) : Int) := by omega
        have hq2 : (0 : Int) < (q' : Int) + 1 := by omega
        have hq3 : (0 : Int) ≤ (q' : Int) := by omega
        have hq4 : (q' : Int) < (N : Int) := by omega
        have HB0 := Lib.hid (show bo = ((x.id != 0) && ((pid == 0) || decide (x.id ≤ pid))) by rw [← Hbo.out, hp1]; rfl)
        clear hp1 hp2
        cases h0 : (x.id != 0) with
        | false =>
          rw [h0] at HB0
          go_quiet (fail)
          go_wp2
          go_meet
          exact ⟨by rw [HB0.out]; rfl, _, rfl⟩
        | true =>
          rw [h0] at HB0
          by_cases hle : x.id ≤ pid
          · have hle' : decide (x.id ≤ pid) = true := by simpa using hle
            rw [hle'] at HB0
            clear hle
            go_quiet (fail)
            go_wp2
            go_meet
            exact ⟨by rw [HB0.out]; simp, _, rfl⟩
          · have hle' : decide (x.id ≤ pid) = false := by simpa using hle
            rw [hle'] at HB0
            clear hle
            cases hp0 : (pid == 0) with
            | true =>
              rw [hp0] at HB0
              go_quiet (fail)
              go_wp2
              go_meet
              exact ⟨by rw [HB0.out]; rfl, _, rfl⟩
            | false =>
              rw [hp0] at HB0
              go_quiet (fail)
              go_wp2
              go_meet
              exact ⟨by rw [HB0.out]; rfl, _, rfl⟩
    case rest =>
    obtain ⟨h74, nd, hnd⟩ := hcut
    subst h74
    obtain ⟨W5, rfl⟩ : ∃ q, q = wc := ⟨_, rfl⟩
    have HBV := Lib.hid (show Below W3.heap.size W3 W5 by rw [hnd]; exact below_drewN HB5.out nd)
    clear hnd f0 z1
    cases bo with
    | true =>
      have HR := Lib.hid (HE3.out.trans (if_pos rfl))
      go_wp2
      go_ret
      exact ⟨by rw [HR.out]; rfl, (HX.out _ HBV.out).2.1⟩
    | false =>
    have HE4 := Lib.hid (HE3.out.trans (if_neg (by simp)))
    clear HE3
    have HF := Lib.hid (show ∀ X : World, Below W5.heap.size W5 X → Below W0.heap.size W0 X ∧ Below w.heap.size w X ∧ X.cell? ⟨wr.heap.size, 3, none⟩ = some (.slice x.nA x.names.length x.nc) ∧ X.cell? ⟨w.heap.size, 1, none⟩ = some (.slice (some ⟨b, o, none⟩) N dc) from fun X hX => by
      obtain ⟨h1, h2, _, h3, h4⟩ := HX.out X (HBV.out.trans (hX.mono HBV.out.size))
      exact ⟨h1, h2, cell_of_row X wr.heap.size 3 _ _ (0, 0) h3, h4⟩)
    by_cases hn1 : x.names.length = 1
    rotate_left
    · have HR := Lib.hid (HE4.out.trans ((if_neg (fun h => hn1 h.1)).trans HS1.out.symm))
      have n1 : ((x.names.length : Int) == 1) = false := by simp; omega
      have xc1 := HXo.out.1.1
      have xc2 := HXo.out.1.2.1
      unfold maxLen at xc2
      clear hn1
      generalize x.names.length = nx at n1 xc1 HF
      go_wp2_with fail
      go_loopg [6] 0 (fun g ct wq => g = 0 ∧ ct = .int .i64 0 ∧ wq = W5)
      case atStart => exact ⟨rfl, rfl, rfl⟩
      case round =>
        obtain ⟨_, rfl, rfl⟩ := hrel
        obtain ⟨hW, _, f3, z1⟩ := HF.out _ (Below.refl _ _)
        have HW := Lib.hid hW
        clear hW
        by_cases hj0 : j = 0
        · subst hj0
          go_wp2
          go_roundg (N - (0 + 1))
          case measure => rw [HG'.out.1]; omega
          case rel => exact ⟨0 + 1, rfl, by omega, by go_num, HR, HW.out⟩
        · have hj1 : (0 : Int) < (j : Int) := by omega
          have hj2 : 0 < j := by omega
          go_wp2
          go_roundg (N - (j + 1))
          case measure => rw [HG'.out.1]; omega
          case rel => exact ⟨j + 1, rfl, by omega, by go_num, HR, HW.out⟩
    obtain ⟨xb, xo, ex, hxb, hxc⟩ := name_cell HXo.out.1 hn1
    change w.cell? ⟨xb, xo, none⟩ = some (.string (nameOf x)) at hxc
    have xc1 := HXo.out.1.1
    have xc2 := HXo.out.1.2.1
    unfold maxLen at xc2
    have HF2 := Lib.hid (show ∀ X : World, Below W5.heap.size W5 X → Below W0.heap.size W0 X ∧ Below w.heap.size w X ∧ X.cell? ⟨wr.heap.size, 3, none⟩ = some (.slice (some ⟨xb, xo, none⟩) 1 x.nc) ∧ X.cell? ⟨w.heap.size, 1, none⟩ = some (.slice (some ⟨b, o, none⟩) N dc) ∧ X.cell? ⟨xb, xo, none⟩ = some (.string (nameOf x)) from fun X hX => by
      obtain ⟨h1, h2, h3, h4⟩ := HF.out X hX
      rw [hn1, ex] at h3
      exact ⟨h1, h2, h3, h4, (h2.cell (p := ⟨xb, xo, none⟩) hxb).trans hxc⟩)
    rw [hn1] at xc1
    have HE5 := Lib.hid (show E = if (ds.take j).any (sameN x) = true then 7 else sdsE (prevI ds (j + 1)) (metOf (ds.take (j + 1))) (ds.drop (j + 1)) by
      rw [HS1.out, HE4.out]
      simp [hn1])
    have HSm := Lib.hid (show ∀ y : Dc, (y.names.length = 1 → sameN x y = ((nameOf x).toList == (nameOf y).toList)) ∧ (y.names.length ≠ 1 → sameN x y = false) from fun y => ⟨fun h => by simp [sameN, hn1, h], fun h => by simp [sameN, h]⟩)
    generalize nameOf x = sx at HF2 HSm
    clear hn1 ex hxc HF HE4 hxb
    go_wp2_with fail
    go_loopg [6] j (fun g ct wq => ∃ k : Nat, g = j - k ∧ k ≤ j ∧ ct = .int .i64 k ∧ Hid ((ds.take k).any (sameN x) = false) ∧ Below W5.heap.size W5 wq)
    case atStart => exact ⟨0, rfl, by omega, rfl, Lib.hid (by simp), Below.refl _ _⟩
    case round =>
      obtain ⟨k, HGi, hkj, rfl, HAi, HBi⟩ := hrel
      have HGi' := Lib.hid (And.intro HGi HBi)
      obtain ⟨_, hBq, f3, z1, sc0⟩ := HF2.out wr HBi
      have HBq := Lib.hid hBq
      clear HGi HBi
      by_cases hilt : k < j
      rotate_left
      · obtain rfl : k = j := by omega
        have HR := Lib.hid (HE5.out.trans (if_neg (by rw [HAi.out]; simp)))
        have i2 : decide ((k : Int) < (k : Int)) = false := by simp
        have i3 : decide (k < k) = false := by simp
        clear hBq sc0
        go_wp2
        go_roundg (N - (k + 1))
        case measure => rw [HG'.out.1]; omega
        case rel => exact ⟨k + 1, rfl, by omega, by go_num, HR, (HF2.out _ HGi'.out.2).1⟩
      have hil : k < ds.length := by rw [HN.out]; omega
      have hi3 : ds[k]? = some ds[k] := List.getElem?_eq_getElem hil
      have HT := Lib.hid (show (ds.take (k + 1)).any (sameN x) = sameN x ds[k] by
        rw [List.take_succ_eq_append_getElem hil, List.any_append, HAi.out]
        simp)
      have HY := Lib.hid (show sameN x ds[k] = true → (ds.take j).any (sameN x) = true from fun h => List.any_eq_true.2 ⟨ds[k], List.mem_take_iff_getElem.2 ⟨k, by omega, rfl⟩, h⟩)
      obtain ⟨b', o', hA', hb', y0, y1, y2, y3, y4, y5, y6, y7, y8, y9, y10, yok⟩ := HDs.out.cells_at (wr := wr) (fun p hp => hBq.cell hp) hi3
      simp only [Option.some.injEq, Addr.mk.injEq, and_true] at hA'
      obtain ⟨rfl, rfl⟩ := hA'
      clear y0 y1 y2 y4 y5 y6 y7 y8 y9 y10 hi3
      generalize ds[k] = y at y3 yok HT HY
      clear hil
      have yn := yok.1.keep (w' := wr) hBq.size fun p hp => hBq.cell hp
      clear yok hBq
      have yc1 := yn.1
      have yc2 := yn.2.1
      unfold maxLen at yc2
      have i0 : (0 : Int) ≤ (k : Int) := by omega
      have i1 : (k : Int) < (N : Int) := by omega
      have i2 : (k : Int) < (j : Int) := by omega
      by_cases hy1 : y.names.length = 1
      rotate_left
      · have HS := Lib.hid ((HSm.out y).2 hy1)
        have n1 : ((y.names.length : Int) == 1) = false := by simp; omega
        clear hy1 yn
        generalize y.names.length = ny at y3 n1 yc1
        go_wp2_with fail
        go_quiet (fail)
        go_wp2
        go_roundg (j - (k + 1))
        case measure => rw [HGi'.out.1]; omega
        case rel => exact ⟨k + 1, rfl, by omega, by go_num, Lib.hid (by rw [HT.out, HS.out]), below_drewN HGi'.out.2 _⟩
      have HS := Lib.hid ((HSm.out y).1 hy1)
      obtain ⟨yb, yo, ey, hyb, cy⟩ := name_cell yn hy1
      rw [hy1, ey] at y3
      rw [hy1] at yc1
      change wr.cell? ⟨yb, yo, none⟩ = some (.string (nameOf y)) at cy
      clear yn hy1 ey
      generalize nameOf y = sy at cy HS
      have hcm : (sy.toList == sx.toList) = (sx.toList == sy.toList) := Bool.beq_comm
      cases heq : sx.toList == sy.toList with
      | true =>
        rw [heq] at hcm
        have HR := Lib.hid (HE5.out.trans (if_pos (HY.out (by rw [HS.out, heq]))))
        go_wp2_with fail
        go_quiet (fail)
        go_wp2
        go_ret
        exact ⟨by rw [HR.out]; rfl, below_drewN HBq.out _⟩
      | false =>
        rw [heq] at hcm
        go_wp2_with fail
        go_quiet (fail)
        go_wp2
        go_roundg (j - (k + 1))
        case measure => rw [HGi'.out.1]; omega
        case rel => exact ⟨k + 1, rfl, by omega, by go_num, Lib.hid (by rw [HT.out, HS.out, heq]), below_drewN HGi'.out.2 _⟩
end Go.Proofs.YtacjjkbkhpdhnaaGreatDoor
/- ref24.Bind -/
namespace Go.Proofs.YtacjjkbkhpdhnaaGreatDoor
open Go Go.RowKit Go.Proofs Go.Shelf
theorem r34_of_pre : ∀ (s : Fo) (dp : Nat), (∀ x ∈ s.pre dp, x.k = 3 ∨ x.k = 4 → x.len = 0) → s.R34
  | .nil, _, _ => trivial
  | .cons k n m i d A c s r, dp, h => ⟨fun hk => h ⟨dp, k, n, m, i, d, A, s.len, c⟩ (by simp [Fo.pre]) hk, r34_of_pre s (dp + 1) fun x hx => h x (by simp only [Fo.pre, List.mem_cons, List.mem_append]; exact .inr (.inl hx)), r34_of_pre r dp fun x hx => h x (by simp only [Fo.pre, List.mem_cons, List.mem_append]; exact .inr (.inr hx))⟩
theorem r34_decl {x : Dc} (h : exprE x.pre = 0) : (x.k = 3 ∨ x.k = 4 → x.s.len = 0) ∧ x.s.R34 := by
  obtain ⟨_, _, e3⟩ := exprE_zero h
  have h5 : ∀ z ∈ x.pre, z.k = 3 ∨ z.k = 4 → z.len = 0 := fun z hz hk => by
    have h1 : nodeE z.k z.n z.m z.i z.d z.len = 0 := e3 z hz
    rcases hk with hk | hk
    · rw [hk] at h1
      exact (err3.1 h1).2.2.2.2
    · rw [hk] at h1
      exact (err4.1 h1).2.2.2.2
  exact ⟨fun hk => h5 ⟨1, x.k, x.n, x.m, x.i, x.d, x.A, x.s.len, x.c⟩ (by simp [Dc.pre]) hk, r34_of_pre x.s 2 fun z hz => h5 z (by simp only [Dc.pre, List.mem_cons]; exact .inr hz)⟩
theorem useE_take {label : ByteArray} {l : List ByteArray} {n i : Nat} (h : i < n) : useE label (l.take n) i = useE label l i := by
  unfold useE
  have h1 : (l.take n).getD i ⟨#[]⟩ = l.getD i ⟨#[]⟩ := by
    rw [List.getD_eq_getElem?_getD, List.getD_eq_getElem?_getD, List.getElem?_take_of_lt h]
  rw [h1, List.take_take, Nat.min_eq_left (Nat.le_of_lt h)]
theorem useAll_last {label : ByteArray} {l : List ByteArray} : ∀ {f s : Nat}, (∀ q, s ≤ q → q < s + f → useE label l q = 0) → useAll label l (f + 1) s = useE label l (s + f)
  | 0, s, _ => by
    rw [useAll]
    by_cases h : useE label l s = 0
    · rw [if_pos h, useAll, Nat.add_zero, h]
    · rw [if_neg h]; rfl
  | f + 1, s, h => by
    rw [useAll, if_pos (h s (Nat.le_refl _) (by omega)), useAll_last fun q h1 h2 => h q (by omega) (by omega), show s + 1 + f = s + (f + 1) by omega]
def bnd24E (label : ByteArray) (uses : List ByteArray) (ds : List Dc) (known : List If) : Int :=
  if cbE label uses ds known ≠ 0 then cbE label uses ds known else rbAllE (gBound ds uses known) ds
def Bnd24R (label : ByteArray) (uses : List ByteArray) (uA : Option Addr) (uc : Nat) (ds : List Dc) (known : List If) (w : World) (e : Ending) (w' : World) : Prop :=
  Below w.heap.size w w' ∧ ((bnd24E label uses ds known ≠ 0 ∧ e = .returned (.tuple #[.agg #[.string ⟨#[]⟩, .slice none 0 0, .slice none 0 0], .int .i64 (bnd24E label uses ds known)])) ∨
    (bnd24E label uses ds known = 0 ∧ ∃ A c es, RbDs (gBound ds uses known) ds es ∧ es.length = ds.length ∧ SlD w' w'.heap.size A c es ∧ e = .returned (.tuple #[.agg #[.string label, .slice uA uses.length uc, .slice A ds.length c], .int .i64 0])))
theorem rebL_21 {g : Repl} (hg : ∀ x sc, (g x sc).1 = 0 ∨ (g x sc).1 = 21) : ∀ (s : Pt) (pk : Int) (pn pm : ByteArray) (j : Nat) (sc : List ByteArray), (rebL g s pk pn pm j sc).1 = 0 ∨ (rebL g s pk pn pm j sc).1 = 21
  | .nil, _, _, _, _, _ => .inl rfl
  | .cons k n m i d s r, pk, pn, pm, j, sc => by
    have h1 := hg ⟨k, n, m, i, d⟩ (sc ++ bndB pk pn pm j)
    have h2 := rebL_21 hg s k n m 0 (sc ++ bndB pk pn pm j)
    have h3 := rebL_21 hg r pk pn pm (j + 1) sc
    rw [rebL]
    simp only
    split
    · split
      · split
        · exact .inl rfl
        · exact h3
      · exact h2
    · exact h1
theorem rebN_21 {g : Repl} (hg : ∀ x sc, (g x sc).1 = 0 ∨ (g x sc).1 = 21) (x : Nx) (s : Pt) (sc : List ByteArray) : (rebN g x s sc).1 = 0 ∨ (rebN g x s sc).1 = 21 := by
  have h1 := hg x sc
  have h2 := rebL_21 hg s x.k x.n x.m 0 sc
  rw [rebN]
  simp only
  split
  · split
    · exact .inl rfl
    · exact h2
  · exact h1
theorem gBound_21 (ds : List Dc) (uses : List ByteArray) (known : List If) (x : Nx) (sc : List ByteArray) : (gBound ds uses known x sc).1 = 0 ∨ (gBound ds uses known x sc).1 = 21 := by
  unfold gBound
  split
  · split <;> simp
  · split
    · split <;> simp
    · simp
set_option maxRecDepth 100000 in
set_option maxHeartbeats 16000000 in
theorem bind24_any (label : ByteArray) (uses : List ByteArray) (uA : Option Addr) (uc : Nat) (ds : List Dc) (dA : Option Addr) (dc : Nat) (known : List If) (kA : Option Addr) (kc : Nat) (w : World) (hu : SlS w w.heap.size uA uc uses) (hd : SlD w w.heap.size dA dc ds) (hnm : NmIn ds) (hms : ModS label uses ds) (hk : SlI w w.heap.size kA kc known) (hkn : ∀ x ∈ known, ∀ s ∈ x.sigs, s.name.size ≤ 9223372036854775807) :
    Calls Tryz.prog 21 #[.string label, .agg #[.slice uA uses.length uc, .slice dA ds.length dc], .slice kA known.length kc] w (Bnd24R label uses uA uc ds known w) := by
  obtain ⟨i0, hi, hz0, hz1, hz2⟩ := info_parts Tryz.infoDecl
  obtain ⟨M, HM⟩ : ∃ Q, Hid (uses.length = Q) := ⟨_, Lib.hid rfl⟩
  obtain ⟨N, HN⟩ : ∃ Q, Hid (ds.length = Q) := ⟨_, Lib.hid rfl⟩
  obtain ⟨K, HK⟩ : ∃ Q, Hid (known.length = Q) := ⟨_, Lib.hid rfl⟩
  obtain ⟨W0, hW0⟩ : ∃ W0, (w.alloc (.cells #[.slice uA M uc, .slice dA N dc] 40)).alloc (.cells #[.string ⟨#[]⟩, .slice none 0 0, .slice none 0 0] 25) = W0 := ⟨_, rfl⟩
  have hb0 : Below w.heap.size w W0 := by rw [← hW0]; exact ((Below.refl _ _).alloc (Nat.le_refl _) _).alloc (by simp) _
  have hzW : W0.heap.size = w.heap.size + 2 := by rw [← hW0]; simp
  have hr4 : W0.heap[w.heap.size]? = some (.cells #[.slice uA M uc, .slice dA N dc] 40 (0, 0)) := by rw [← hW0]; exact (Below.heap_alloc _ _ _ (by simp)).trans (heap_alloc_new w _)
  have hr6 : W0.heap[w.heap.size + 1]? = some (.cells #[.string ⟨#[]⟩, .slice none 0 0, .slice none 0 0] 25 (0, 0)) := by
    have h := heap_alloc_new (w.alloc (.cells #[.slice uA M uc, .slice dA N dc] 40)) (.cells #[.string ⟨#[]⟩, .slice none 0 0, .slice none 0 0] 25)
    rw [hW0] at h
    simpa using h
  have hul1 := hu.1
  have hul2 := hu.2.1
  have hdl1 := hd.1
  have hdl2 := hd.2.1
  have hkl2 := hk.2.1
  unfold maxLen at hul2 hdl2 hkl2
  rw [HM.out] at hul1
  rw [HN.out] at hdl1
  have HX := Lib.hid (show ∀ X : World, Below W0.heap.size W0 X → Below w.heap.size w X ∧ SlS X X.heap.size uA uc uses ∧ SlD X X.heap.size dA dc ds ∧ SlI X X.heap.size kA kc known ∧ X.heap[w.heap.size]? = some (.cells #[.slice uA M uc, .slice dA N dc] 40 (0, 0)) ∧ X.heap[w.heap.size + 1]? = some (.cells #[.string ⟨#[]⟩, .slice none 0 0, .slice none 0 0] 25 (0, 0)) ∧ w.heap.size + 1 < X.heap.size from fun X hX => by
    have h1 := hb0.trans (hX.mono hb0.size)
    have h2 := hX.size
    exact ⟨h1, hu.keep h1.size (fun p hp => h1.cell hp), hd.keep h1.size (fun p hp => h1.cell hp), hk.below h1, (hX.block _ (by omega)).trans hr4, (hX.block _ (by omega)).trans hr6, by omega⟩)
  have HMS := Lib.hid hms
  have HDd := Lib.hid hd
  have HUu := Lib.hid hu
  obtain ⟨bl, Hbl⟩ : ∃ Q, Hid (labelB label = Q) := ⟨_, Lib.hid rfl⟩
  obtain ⟨E1, HE1⟩ : ∃ Q, Hid (srcDE uses ds = Q) := ⟨_, Lib.hid rfl⟩
  obtain ⟨z0, Hz0⟩ : ∃ Q, Hid ((ds.any fun x => x.id == 0) = Q) := ⟨_, Lib.hid rfl⟩
  obtain ⟨RB, HRB⟩ : ∃ Q, Hid (rbAllE (gBound ds uses known) ds = Q) := ⟨_, Lib.hid rfl⟩
  obtain ⟨EE, HEE⟩ : ∃ Q, Hid (bnd24E label uses ds known = Q) := ⟨_, Lib.hid rfl⟩
  have HD := Lib.hid (show EE = if bl = false then 6 else if E1 ≠ 0 then E1 else if z0 = true then 2 else if cbUses label known uses (M - 0) 0 ≠ 0 then cbUses label known uses (M - 0) 0 else RB by
    rw [← HEE.out, bnd24E, cbE, Hbl.out, HE1.out, Hz0.out, HM.out, HRB.out, Nat.sub_zero]
    cases bl
    · simp
    · simp only [Bool.true_eq_false, if_false]
      by_cases h1 : E1 = 0
      · simp only [h1, ne_eq, not_true_eq_false, if_false]
        cases z0 <;> simp
      · simp [h1])
  have HH := Lib.hid (And.intro hnm (And.intro hkn (And.intro (show ∀ u ∈ uses, u.size ≤ 9223372036854775807 from fun u hu => by have := hms.2.1 u hu; omega) hb0)))
  have HLb := Lib.hid (Label20_any label W0 (by have := hms.1; omega))
  rw [Hbl.out] at HLb
  have hcs := checkSource21_any uses uA uc ds dA dc W0 (HX.out W0 (Below.refl _ _)).2.1 (HX.out W0 (Below.refl _ _)).2.2.1 hms.2.1 hms.2.2
  rw [HE1.out, HM.out, HN.out] at hcs
  have HCs := Lib.hid hcs
  have t0 : W0.cell? ⟨w.heap.size, 0, none⟩ = some (.slice uA M uc) := cell_of_row W0 _ 0 _ _ (0, 0) hr4
  have t1 : W0.cell? ⟨w.heap.size, 1, none⟩ = some (.slice dA N dc) := cell_of_row W0 _ 1 _ _ (0, 0) hr4
  unfold Bnd24R
  rw [HEE.out, HM.out, HN.out, HK.out]
  clear hu hd hnm hms hk hkn hr4 hr6 hcs hb0
  go_enter Tryz.func21, Tryz.ntmps21
  go_wp2_with fail
  refine HLb.out.mono ?_
  rintro e w1 ⟨rfl, rfl⟩
  cases bl with
  | false =>
    have HR := Lib.hid (show EE = 6 from HD.out.trans (if_pos rfl))
    obtain ⟨hBx, _, _, _, _, hr, _⟩ := HX.out W0 (Below.refl _ _)
    clear hW0
    have HS := Lib.hid (tri_set hr (.string ⟨#[]⟩) (.slice none 0 0) (.slice none 0 0))
    obtain ⟨y0, y1, y2, z0, z1, z2⟩ := row3 hr
    have HBx := Lib.hid hBx
    clear hr hBx
    go_wp2
    obtain ⟨W9, hW9, s0, s1, s2, hBf, hsz, hbk⟩ := out3 HS.out HBx.out (show w.heap.size ≤ w.heap.size + 1 by omega)
    rw [hW9]
    refine bodyPost_ret (v := .tuple #[.agg #[.string ⟨#[]⟩, .slice none 0 0, .slice none 0 0], .int .i64 6]) (by simp [results, Tryz.results21, go_sem, s0, s1, s2]) rfl ?_
    exact ⟨hBf, .inl ⟨by rw [HR.out]; simp, by rw [HR.out]⟩⟩
  | true =>
  have HD1 := Lib.hid (HD.out.trans (if_neg (by simp)))
  go_wp2_with fail
  refine HCs.out.mono ?_
  rintro e w1 ⟨rfl, hb1⟩
  have HB1 := Lib.hid hb1
  clear hb1 HCs HLb t0 t1 hW0
  by_cases he1 : E1 = 0
  rotate_left
  · have HR := Lib.hid (show EE = E1 from HD1.out.trans (if_pos he1))
    have HE0 := Lib.hid he1
    have he1' : (E1 != 0) = true := by simpa using he1
    obtain ⟨hBx, _, _, _, _, hr, _⟩ := HX.out w1 HB1.out
    clear he1
    have HS := Lib.hid (tri_set hr (.string ⟨#[]⟩) (.slice none 0 0) (.slice none 0 0))
    obtain ⟨y0, y1, y2, z0, z1, z2⟩ := row3 hr
    have HBx := Lib.hid hBx
    clear hr hBx
    go_wp2
    obtain ⟨W9, hW9, s0, s1, s2, hBf, hsz, hbk⟩ := out3 HS.out HBx.out (show w.heap.size ≤ w.heap.size + 1 by omega)
    rw [hW9]
    refine bodyPost_ret (v := .tuple #[.agg #[.string ⟨#[]⟩, .slice none 0 0, .slice none 0 0], .int .i64 E1]) (by simp [results, Tryz.results21, go_sem, s0, s1, s2]) rfl ?_
    exact ⟨hBf, .inl ⟨by rw [HR.out]; exact HE0.out, by rw [HR.out]⟩⟩
  subst he1
  have HD1' := Lib.hid (HD1.out.trans (if_neg (by simp)))
  obtain ⟨_, _, hl100, hsd0⟩ := srcDE_parts HE1.out
  have HV0 := Lib.hid (sdsE_mem hsd0)
  have HIn := Lib.hid (show RbIn ds from rbIn_of HH.out.1 fun x hx => (sdE_parts (HV0.out x hx)).2.2.2.2.1)
  obtain ⟨_, _, hsd1, _, hrm1, _, _⟩ := HX.out w1 HB1.out
  have hus := used24_any ds dA dc 0 w1 hsd1
  rw [HN.out, Hz0.out] at hus
  rw [HN.out] at hl100
  have HUs := Lib.hid hus
  have t1 : w1.cell? ⟨w.heap.size, 1, none⟩ = some (.slice dA N dc) := cell_of_row w1 _ 1 _ _ (0, 0) hrm1
  clear hsd0 hsd1 hrm1 hus
  go_wp2_with fail
  refine HUs.out.mono ?_
  rintro e w2 ⟨rfl, rfl⟩
  clear HUs t1
  cases z0 with
  | true =>
    have HR := Lib.hid (show EE = 2 from HD1'.out.trans (if_pos rfl))
    obtain ⟨hBx, _, _, _, _, hr, _⟩ := HX.out w1 HB1.out
    have HS := Lib.hid (tri_set hr (.string ⟨#[]⟩) (.slice none 0 0) (.slice none 0 0))
    obtain ⟨y0, y1, y2, z0, z1, z2⟩ := row3 hr
    have HBx := Lib.hid hBx
    clear hr hBx
    go_wp2
    obtain ⟨W9, hW9, s0, s1, s2, hBf, hsz, hbk⟩ := out3 HS.out HBx.out (show w.heap.size ≤ w.heap.size + 1 by omega)
    rw [hW9]
    refine bodyPost_ret (v := .tuple #[.agg #[.string ⟨#[]⟩, .slice none 0 0, .slice none 0 0], .int .i64 2]) (by simp [results, Tryz.results21, go_sem, s0, s1, s2]) rfl ?_
    exact ⟨hBf, .inl ⟨by rw [HR.out]; simp, by rw [HR.out]⟩⟩
  | false =>
  have HD3 := Lib.hid (HD1'.out.trans (if_neg (by simp)))
  go_wp2_with fail
  go_loopg [9] M (fun gg ct wr => ∃ j : Nat, gg = M - j ∧ j ≤ M ∧ ct = .int .i64 j ∧ Hid (EE = if cbUses label known uses (M - j) j ≠ 0 then cbUses label known uses (M - j) j else RB) ∧ Hid (∀ q, q < j → useE label uses q = 0) ∧ Below W0.heap.size W0 wr)
  case atStart => exact ⟨0, rfl, by omega, rfl, HD3, Lib.hid (fun q hq => absurd hq (Nat.not_lt_zero q)), HB1.out⟩
  case round =>
  obtain ⟨j, HG, hj, rfl, HA, HU0, hB⟩ := hrel
  have HB2 := Lib.hid hB
  obtain ⟨hBx, hsu, _, hsk, hrm, hr, _⟩ := HX.out wr hB
  have t0 : wr.cell? ⟨w.heap.size, 0, none⟩ = some (.slice uA M uc) := cell_of_row wr _ 0 _ _ (0, 0) hrm
  by_cases hlt : j < M
  · have hlt' : j < uses.length := by rw [HM.out]; exact hlt
    obtain ⟨eu, Heu⟩ : ∃ q, Hid (useE label uses j = q) := ⟨_, Lib.hid rfl⟩
    have hj0 : uses[j]? = some uses[j] := List.getElem?_eq_getElem hlt'
    have hgd : uses.getD j ⟨#[]⟩ = uses[j] := by rw [List.getD_eq_getElem?_getD, hj0]; rfl
    have hus := uses24_any label (uses.take (j + 1)) uA uc wr (hsu.take (j + 1)) (fun s hs => HMS.out.2.1 s (List.mem_of_mem_take hs))
    rw [List.length_take, Nat.min_eq_left (show j + 1 ≤ uses.length by omega), useAll_last (f := j) (s := 0) (fun q _ h2 => by rw [useE_take (by omega)]; exact HU0.out q (by omega)), Nat.zero_add, useE_take (Nat.lt_succ_self j), Heu.out] at hus
    have HUs := Lib.hid hus
    have HA2 := Lib.hid (show EE = if eu ≠ 0 then eu else if (faceO known uses[j]).isNone = true then 8 else if cbUses label known uses (M - (j + 1)) (j + 1) ≠ 0 then cbUses label known uses (M - (j + 1)) (j + 1) else RB by
      rw [HA.out, show M - j = (M - (j + 1)) + 1 by omega, cbUses, Heu.out, hgd]
      by_cases h1 : eu = 0
      · simp only [h1, ne_eq, not_true_eq_false, if_false]
        by_cases h2 : (faceO known uses[j]).isNone = true
        · simp [h2]
        · simp only [h2]
          simp
      · simp [h1])
    obtain ⟨ub, uo, rfl, hub, huc⟩ := HUu.out.2.2 (by intro e; rw [e] at hlt'; simp at hlt')
    have hucj := (hBx.cell (p := ⟨ub, uo + j, none⟩) hub).trans (huc j _ hj0)
    generalize uses[j] = u at hucj HA2 hgd
    have j0 : (0 : Int) ≤ (j : Int) := by omega
    have j1 : (j : Int) < (M : Int) := by omega
    have j2 : (0 : Int) ≤ (j : Int) + 1 := by omega
    have j3 : (j : Int) + 1 ≤ (M : Int) := by omega
    have j4 : (j : Int) + 1 ≤ (uc : Int) := by omega
    have HBx := Lib.hid hBx
    have HUc := Lib.hid hucj
    clear hus hj0 hgd huc hlt' hsu hsk hrm hB hr hBx hucj HA
    go_wp2_with fail
    refine HUs.out.mono ?_
    rintro e w3 ⟨rfl, hb3⟩
    have HB3 := Lib.hid (HB2.out.trans (hb3.mono HB2.out.size))
    clear t0 HUs
    by_cases heu : eu = 0
    rotate_left
    · have HR := Lib.hid (show EE = eu from HA2.out.trans (if_pos heu))
      have HE0 := Lib.hid heu
      have he' : (eu != 0) = true := by simpa using heu
      obtain ⟨hBx, _, _, _, _, hr, _⟩ := HX.out w3 HB3.out
      clear heu hb3
      have HS := Lib.hid (tri_set hr (.string ⟨#[]⟩) (.slice none 0 0) (.slice none 0 0))
      obtain ⟨y0, y1, y2, z0, z1, z2⟩ := row3 hr
      have HBx := Lib.hid hBx
      clear hr hBx
      go_wp2
      obtain ⟨W9, hW9, s0, s1, s2, hBf, hsz, hbk⟩ := out3 HS.out HBx.out (show w.heap.size ≤ w.heap.size + 1 by omega)
      rw [hW9]
      refine bodyPost_ret (v := .tuple #[.agg #[.string ⟨#[]⟩, .slice none 0 0, .slice none 0 0], .int .i64 eu]) (by simp [results, Tryz.results21, go_sem, s0, s1, s2]) rfl ?_
      exact ⟨hBf, .inl ⟨by rw [HR.out]; exact HE0.out, by rw [HR.out]⟩⟩
    subst heu
    have HA3 := Lib.hid (HA2.out.trans (if_neg (by simp)))
    obtain ⟨_, _, _, hsk, hrm, _, _⟩ := HX.out w3 HB3.out
    have t0 : w3.cell? ⟨w.heap.size, 0, none⟩ = some (.slice (some ⟨ub, uo, none⟩) M uc) := cell_of_row w3 _ 0 _ _ (0, 0) hrm
    have hucj := (hb3.cell (p := ⟨ub, uo + j, none⟩) (World.block_lt_of_cell? wr _ HUc.out)).trans HUc.out
    have hfc := face24_any known u kA kc w3 hsk
    rw [HK.out] at hfc
    obtain ⟨fo, Hfo⟩ : ∃ q, Hid (faceO known u = q) := ⟨_, Lib.hid rfl⟩
    obtain ⟨⟨fl, fA, fc, fs⟩, Hfx⟩ : ∃ q, Hid (fo.getD noIf = q) := ⟨_, Lib.hid rfl⟩
    obtain ⟨fb, Hfb⟩ : ∃ q, Hid (fo.isSome = q) := ⟨_, Lib.hid rfl⟩
    rw [Hfo.out] at HA3
    rw [Hfo.out, Hfx.out, Hfb.out] at hfc
    have HNn := Lib.hid (show fo.isNone = !fb by rw [← Hfb.out]; cases fo <;> rfl)
    rw [HNn.out] at HA3
    simp only [If.cells] at hfc
    have HFc := Lib.hid hfc
    obtain ⟨NS, HNS⟩ : ∃ q, Hid (fs.length = q) := ⟨_, Lib.hid rfl⟩
    rw [HNS.out] at HFc
    clear hfc hsk hrm hb3
    go_wp2_with fail
    refine HFc.out.mono ?_
    rintro e w4 ⟨rfl, hb4⟩
    obtain ⟨W4, hW4⟩ : ∃ q, w4.alloc (.cells #[.string fl, .slice fA NS fc] 55) = q := ⟨_, rfl⟩
    have hb44 : Below w4.heap.size w4 W4 := by rw [← hW4]; exact (Below.refl _ _).alloc (Nat.le_refl _) _
    have HB4 := Lib.hid (HB3.out.trans ((hb4.trans (hb44.mono hb4.size)).mono HB3.out.size))
    clear hb4 hb44 t0 hucj HFc
    cases fb with
    | false =>
      have HR := Lib.hid (show EE = 8 from HA3.out.trans (if_pos rfl))
      obtain ⟨hBx, _, _, _, _, hr, _⟩ := HX.out W4 HB4.out
      have HS := Lib.hid (tri_set hr (.string ⟨#[]⟩) (.slice none 0 0) (.slice none 0 0))
      obtain ⟨y0, y1, y2, z0, z1, z2⟩ := row3 hr
      have HBx := Lib.hid hBx
      clear hr hBx
      go_wp2
      obtain ⟨W9, hW9, s0, s1, s2, hBf, hsz, hbk⟩ := out3 HS.out HBx.out (show w.heap.size ≤ w.heap.size + 1 by omega)
      rw [hW9]
      refine bodyPost_ret (v := .tuple #[.agg #[.string ⟨#[]⟩, .slice none 0 0, .slice none 0 0], .int .i64 8]) (by simp [results, Tryz.results21, go_sem, s0, s1, s2]) rfl ?_
      exact ⟨hBf, .inl ⟨by rw [HR.out]; simp, by rw [HR.out]⟩⟩
    | true =>
      have HA4 := Lib.hid (HA3.out.trans (if_neg (by simp)))
      have HU1 := Lib.hid (show ∀ q, q < j + 1 → useE label uses q = 0 from fun q hq => by
        by_cases h : q = j
        · rw [h]; exact Heu.out
        · exact HU0.out q (by omega))
      go_wp2
      go_roundg (M - (j + 1))
      case measure => rw [HG]; omega
      case rel => exact ⟨j + 1, rfl, by omega, by go_num, HA4, HU1, HB4.out⟩
  have hjM : M - j = 0 := by omega
  have HD2 := Lib.hid (show EE = RB by rw [HA.out, hjM]; rfl)
  have i2 : decide ((j : Int) < (M : Int)) = false := decide_eq_false (by omega)
  have i3 : decide (j < M) = false := decide_eq_false (by omega)
  obtain ⟨w2, rfl⟩ : ∃ q, q = wr := ⟨_, rfl⟩
  clear hsu hsk hB hr hBx hjM HA HG
  have hrm2 := hrm
  clear hrm
  obtain ⟨V1, hV1⟩ : ∃ q, w2.alloc (.cells #[.string label, .slice uA M uc, .slice none 0 0] 25) = q := ⟨_, rfl⟩
  have hbV : Below w2.heap.size w2 V1 := by rw [← hV1]; exact (Below.refl _ _).alloc (Nat.le_refl _) _
  have hn2 : V1.heap[w2.heap.size]? = some (.cells #[.string label, .slice uA M uc, .slice none 0 0] 25 (0, 0)) := by rw [← hV1]; exact heap_alloc_new _ _
  have HR0 := Lib.hid (show DRw w.heap.size w2 w2.heap.size [.string label, .slice uA M uc] 25 (.slice none 0 0) [] (V1.setCell ⟨w2.heap.size, 2, none⟩ (.slice none 0 0)) from ⟨by simp [World.setCell, Array.getElem?_modify, hn2], World.ownsRow_nil _ _ _ _, (fun x hx => absurd hx (by simp)), hbV.setCell (by simp) _, (HX.out w2 HB2.out).1.size⟩)
  have n1 := cell_of_row V1 w2.heap.size 2 _ _ (0, 0) hn2
  have f1 := frozen_of_row V1 w2.heap.size 2 _ _ hn2
  simp at n1
  clear hrm2 hbV hn2
  go_wp2_with fail
  clear t0 hV1 n1 f1
  go_loopg [14] N (fun gg ct wr => ∃ (j : Nat) (es : List Dc) (v : Value), gg = N - j ∧ j ≤ N ∧ ct = .int .i64 j ∧ DRw w.heap.size w2 w2.heap.size [.string label, .slice uA M uc] 25 v es wr ∧ es.length = j ∧ Hid (RbDs (gBound ds uses known) (ds.take j) es) ∧ Hid (∀ q y, q < j → ds[q]? = some y → (rbD (gBound ds uses known) y).1 = 0))
  case atStart => exact ⟨0, [], .slice none 0 0, rfl, by omega, rfl, HR0.out, rfl, Lib.hid trivial, Lib.hid (fun q _ hq => absurd hq (Nat.not_lt_zero q))⟩
  case round =>
    obtain ⟨j, es, v, HG, hj, rfl, hR, hel, hRb, hZ⟩ := hrel
    have hB0 := HB2.out.trans (hR.bw.mono HB2.out.size)
    obtain ⟨hBw, hsu, hsd, hsk, hrm, hrr, hzr⟩ := HX.out wr hB0
    have t1 : wr.cell? ⟨w.heap.size, 0, none⟩ = some (.slice uA M uc) := cell_of_row wr _ 0 _ _ (0, 0) hrm
    have t2 : wr.cell? ⟨w.heap.size, 1, none⟩ = some (.slice dA N dc) := cell_of_row wr _ 1 _ _ (0, 0) hrm
    have hwl := lt_of_block hR.nb
    by_cases hlt : j < N
    · have hlt' : j < ds.length := by rw [HN.out]; exact hlt
      obtain ⟨x, hx⟩ : ∃ x, ds[j]? = some x := ⟨_, List.getElem?_eq_getElem hlt'⟩
      have hxm := List.mem_of_getElem? hx
      obtain ⟨b, o, hA, hbb, x0, x1, x2, x3, x4, x5, x6, x7, x8, x9, x10, xok⟩ := HDd.out.cells_at (wr := wr) (fun p hp => hBw.cell hp) hx
      subst hA
      have HTk := Lib.hid (show ds.take (j + 1) = ds.take j ++ [x] by
        rw [List.take_succ_eq_append_getElem hlt', (List.getElem?_eq_some_iff.1 hx).2])
      have hexp := (sdE_parts (HV0.out x hxm)).2.2.2.2.1
      have HIx := Lib.hid (And.intro (HIn.out x hxm) (r34_decl hexp))
      obtain ⟨W3, hW3⟩ : ∃ q, wr.alloc (.cells #[.int .i64 x.id, .int .i64 x.kind, .bool x.pub, .slice x.nA x.names.length x.nc, .bool x.doubt, .int .i64 x.k, .string x.n, .string x.m, .int .i64 x.i, .int .i64 x.d, .slice x.A x.s.len x.c] 63) = q := ⟨_, rfl⟩
      have hb3 : Below wr.heap.size wr W3 := by rw [← hW3]; exact (Below.refl _ _).alloc (Nat.le_refl _) _
      have hx3 : W3.heap[wr.heap.size]? = some (.cells #[.int .i64 x.id, .int .i64 x.kind, .bool x.pub, .slice x.nA x.names.length x.nc, .bool x.doubt, .int .i64 x.k, .string x.n, .string x.m, .int .i64 x.i, .int .i64 x.d, .slice x.A x.s.len x.c] 63 (0, 0)) := by rw [← hW3]; exact heap_alloc_new _ _
      have hz3 : wr.heap.size < W3.heap.size := by rw [← hW3]; simp
      have hB3 := hB0.trans (hb3.mono hB0.size)
      obtain ⟨hBw3, hsu3, hsd3, hsk3, hrm3, _, _⟩ := HX.out W3 hB3
      obtain ⟨q, Hq⟩ : ∃ q, Hid (rbD (gBound ds uses known) x = q) := ⟨_, Lib.hid rfl⟩
      have hun := bound24_any uses ds known uA uc (some ⟨b, o, none⟩) dc kA kc HH.out.2.1 HH.out.2.2.1 x.s x.k x.n x.m x.i x.d x.A x.c [] none 0 W3 (xok.2.keep hBw3.size fun p hp => hBw3.cell hp) HIx.out.1.1 HIx.out.1.2.2.1 HIx.out.2.1 HIx.out.2.2 ⟨hsu3, hsd3, hsk3⟩ (VarsAt.nil _) (by have := HIx.out.1.2.2.2; simp; omega)
      unfold rbD at Hq
      rw [Hq.out, HM.out, HN.out, HK.out] at hun
      have HUn := Lib.hid hun
      have u1 : W3.cell? ⟨w.heap.size, 0, none⟩ = some (.slice uA M uc) := cell_of_row W3 _ 0 _ _ (0, 0) hrm3
      have u2 : W3.cell? ⟨w.heap.size, 1, none⟩ = some (.slice (some ⟨b, o, none⟩) N dc) := cell_of_row W3 _ 1 _ _ (0, 0) hrm3
      have f5 := cell_of_row W3 wr.heap.size 5 _ _ (0, 0) hx3
      have f6 := cell_of_row W3 wr.heap.size 6 _ _ (0, 0) hx3
      have f7 := cell_of_row W3 wr.heap.size 7 _ _ (0, 0) hx3
      have f8 := cell_of_row W3 wr.heap.size 8 _ _ (0, 0) hx3
      have f9 := cell_of_row W3 wr.heap.size 9 _ _ (0, 0) hx3
      have f10 := cell_of_row W3 wr.heap.size 10 _ _ (0, 0) hx3
      simp at f5 f6 f7 f8 f9 f10
      have j0 : (0 : Int) ≤ (j : Int) := by omega
      have j1 : (j : Int) < (N : Int) := by omega
      obtain ⟨E2, ⟨qk, qn, qm, qi, qd⟩, qt⟩ := q
      have HT := Lib.hid (And.intro HG (And.intro hR (And.intro hel (And.intro hRb (And.intro hZ (And.intro hx (And.intro hb3 (And.intro hx3 (And.intro hz3 (And.intro xok (And.intro hwl hB0)))))))))))
      clear HG hR hel hRb hZ hx hb3 hx3 hz3 xok hwl hB0 hBw hsu hsd hsk hrm hrr hzr hxm hexp hB3 hsu3 hsd3 hsk3 hrm3 hun hlt' hBw3
      go_wp2_with fail
      refine HUn.out.mono ?_
      rintro e w4 ⟨hb4, uk, un, um, ui, ud, vA5, ul5, vc5, rfl, hq⟩
      obtain ⟨W5, hW5⟩ : ∃ q, w4.alloc (.cells #[.int .i64 uk, .string un, .string um, .int .i64 ui, .int .i64 ud, .slice vA5 ul5 vc5] 28) = q := ⟨_, rfl⟩
      have hb45 : Below w4.heap.size w4 W5 := by rw [← hW5]; exact (Below.refl _ _).alloc (Nat.le_refl _) _
      have hx5 : W5.heap[w4.heap.size]? = some (.cells #[.int .i64 uk, .string un, .string um, .int .i64 ui, .int .i64 ud, .slice vA5 ul5 vc5] 28 (0, 0)) := by rw [← hW5]; exact heap_alloc_new _ _
      have hb35 := hb4.trans (hb45.mono hb4.size)
      have hbr5 := HT.out.2.2.2.2.2.2.1.trans (hb35.mono (Nat.le_of_lt HT.out.2.2.2.2.2.2.2.2.1))
      have hB5 := HT.out.2.2.2.2.2.2.2.2.2.2.2.trans (hbr5.mono HT.out.2.2.2.2.2.2.2.2.2.2.2.size)
      cases he : decide (E2 = 0) with
      | false =>
        have HE2 := Lib.hid (show E2 ≠ 0 by simpa using he)
        clear he
        have HR := Lib.hid (show EE = E2 by
          rw [HD2.out, ← HRB.out, rbAllE_at HT.out.2.2.2.2.1.out HT.out.2.2.2.2.2.1 (by unfold rbD; rw [Hq.out]; exact HE2.out)]
          unfold rbD
          rw [Hq.out])
        have HE21 := Lib.hid (show E2 = 21 by
          rcases rebN_21 (gBound_21 ds uses known) ⟨x.k, x.n, x.m, x.i, x.d⟩ x.s.pt [] with h | h
          · rw [Hq.out] at h
            exact absurd h HE2.out
          · rw [Hq.out] at h
            exact h)
        rw [HE21.out] at HR
        obtain ⟨hBx, _, _, _, _, hr, _⟩ := HX.out W5 hB5
        clear hb4 hq hb45 hx5 hb35 hbr5 hB5 u1 u2 f5 f6 f7 f8 f9 f10
        have HS := Lib.hid (tri_set hr (.string ⟨#[]⟩) (.slice none 0 0) (.slice none 0 0))
        obtain ⟨y0, y1, y2, z0, z1, z2⟩ := row3 hr
        have HBx := Lib.hid hBx
        clear hr hBx
        go_wp2
        obtain ⟨W9, hW9, s0, s1, s2, hBf, hsz, hbk⟩ := out3 HS.out HBx.out (show w.heap.size ≤ w.heap.size + 1 by omega)
        rw [hW9]
        refine bodyPost_ret (v := .tuple #[.agg #[.string ⟨#[]⟩, .slice none 0 0, .slice none 0 0], .int .i64 21]) (by simp [results, Tryz.results21, go_sem, s0, s1, s2]) rfl ?_
        exact ⟨hBf, .inl ⟨by rw [HR.out]; simp, by rw [HR.out]⟩⟩
      | true =>
        obtain rfl : E2 = 0 := by simpa using he
        clear he
        have hq0 := hq rfl
        simp only at hq0
        obtain ⟨rfl, rfl, rfl, rfl, rfl, t, htp, rfl, hts⟩ := hq0
        obtain ⟨vA, vc, rfl⟩ := own_formR HT.out.2.1.own
        have hd5 := (hb35.block _ HT.out.2.2.2.2.2.2.2.2.1).trans HT.out.2.2.2.2.2.2.2.1
        have hlt4 : wr.heap.size < w4.heap.size := Nat.lt_of_lt_of_le HT.out.2.2.2.2.2.2.2.2.1 hb4.size
        have b0 := cell_of_row W5 w4.heap.size 0 _ _ (0, 0) hx5
        have b1 := cell_of_row W5 w4.heap.size 1 _ _ (0, 0) hx5
        have b2 := cell_of_row W5 w4.heap.size 2 _ _ (0, 0) hx5
        have b3 := cell_of_row W5 w4.heap.size 3 _ _ (0, 0) hx5
        have b4 := cell_of_row W5 w4.heap.size 4 _ _ (0, 0) hx5
        have b5 := cell_of_row W5 w4.heap.size 5 _ _ (0, 0) hx5
        have y5 := cell_of_row W5 wr.heap.size 5 _ _ (0, 0) hd5
        have y6 := cell_of_row W5 wr.heap.size 6 _ _ (0, 0) hd5
        have y7 := cell_of_row W5 wr.heap.size 7 _ _ (0, 0) hd5
        have y8 := cell_of_row W5 wr.heap.size 8 _ _ (0, 0) hd5
        have y9 := cell_of_row W5 wr.heap.size 9 _ _ (0, 0) hd5
        have y10 := cell_of_row W5 wr.heap.size 10 _ _ (0, 0) hd5
        have z5 := frozen_of_row W5 wr.heap.size 5 _ _ hd5
        have z6 := frozen_of_row W5 wr.heap.size 6 _ _ hd5
        have z7 := frozen_of_row W5 wr.heap.size 7 _ _ hd5
        have z8 := frozen_of_row W5 wr.heap.size 8 _ _ hd5
        have z9 := frozen_of_row W5 wr.heap.size 9 _ _ hd5
        have z10 := frozen_of_row W5 wr.heap.size 10 _ _ hd5
        simp at b0 b1 b2 b3 b4 b5 y5 y6 y7 y8 y9 y10
        have hz45 : w4.heap.size ≤ W5.heap.size := hb45.size
        have HB := Lib.hid (And.intro hb4 (And.intro hbr5 (And.intro hts (And.intro htp (And.intro hlt4 (And.intro hd5 (show ∀ q, q < w4.heap.size → W5.heap[q]? = w4.heap[q]? from fun q hq => hb45.block q hq)))))))
        clear hb4 hq hb45 hx5 hb35 hbr5 hB5 u1 u2 f5 f6 f7 f8 f9 f10 hts htp hlt4 hd5
        go_upto_region 26 with fail
        clear hW5
        have hs6 := dec_set HB.out.2.2.2.2.2.1 (.int .i64 uk) (.string un) (.string um) (.int .i64 ui) (.int .i64 ud) (.slice vA5 t.len vc5)
        have hb6 : Below wr.heap.size wr (((((((W5.setCell ⟨wr.heap.size, 5, none⟩ (.int .i64 uk)).setCell ⟨wr.heap.size, 6, none⟩ (.string un)).setCell ⟨wr.heap.size, 7, none⟩ (.string um)).setCell ⟨wr.heap.size, 8, none⟩ (.int .i64 ui)).setCell ⟨wr.heap.size, 9, none⟩ (.int .i64 ud)).setCell ⟨wr.heap.size, 10, none⟩ (.slice vA5 t.len vc5))) := (((((HB.out.2.1.setCell (by simp) _).setCell (by simp) _).setCell (by simp) _).setCell (by simp) _).setCell (by simp) _).setCell (by simp) _
        have hk6 : ∀ q, q ≠ wr.heap.size → (((((((W5.setCell ⟨wr.heap.size, 5, none⟩ (.int .i64 uk)).setCell ⟨wr.heap.size, 6, none⟩ (.string un)).setCell ⟨wr.heap.size, 7, none⟩ (.string um)).setCell ⟨wr.heap.size, 8, none⟩ (.int .i64 ui)).setCell ⟨wr.heap.size, 9, none⟩ (.int .i64 ud)).setCell ⟨wr.heap.size, 10, none⟩ (.slice vA5 t.len vc5))).heap[q]? = W5.heap[q]? := fun q hq => (heap_setCell_other _ _ _ _ (by simpa using hq)).trans ((heap_setCell_other _ _ _ _ (by simpa using hq)).trans ((heap_setCell_other _ _ _ _ (by simpa using hq)).trans ((heap_setCell_other _ _ _ _ (by simpa using hq)).trans ((heap_setCell_other _ _ _ _ (by simpa using hq)).trans (heap_setCell_other _ _ _ _ (by simpa using hq))))))
        have hz6 : w4.heap.size ≤ (((((((W5.setCell ⟨wr.heap.size, 5, none⟩ (.int .i64 uk)).setCell ⟨wr.heap.size, 6, none⟩ (.string un)).setCell ⟨wr.heap.size, 7, none⟩ (.string um)).setCell ⟨wr.heap.size, 8, none⟩ (.int .i64 ui)).setCell ⟨wr.heap.size, 9, none⟩ (.int .i64 ud)).setCell ⟨wr.heap.size, 10, none⟩ (.slice vA5 t.len vc5))).heap.size := by simpa using hz45
        generalize ((((((W5.setCell ⟨wr.heap.size, 5, none⟩ (.int .i64 uk)).setCell ⟨wr.heap.size, 6, none⟩ (.string un)).setCell ⟨wr.heap.size, 7, none⟩ (.string um)).setCell ⟨wr.heap.size, 8, none⟩ (.int .i64 ui)).setCell ⟨wr.heap.size, 9, none⟩ (.int .i64 ud)).setCell ⟨wr.heap.size, 10, none⟩ (.slice vA5 t.len vc5)) = W6 at hs6 hb6 hk6 hz6 ⊢
        have hR6 := HT.out.2.1.keep hb6
        have c0 := cell_of_row W6 wr.heap.size 0 _ _ (0, 0) hs6
        have c1 := cell_of_row W6 wr.heap.size 1 _ _ (0, 0) hs6
        have c2 := cell_of_row W6 wr.heap.size 2 _ _ (0, 0) hs6
        have c3 := cell_of_row W6 wr.heap.size 3 _ _ (0, 0) hs6
        have c4 := cell_of_row W6 wr.heap.size 4 _ _ (0, 0) hs6
        have c5 := cell_of_row W6 wr.heap.size 5 _ _ (0, 0) hs6
        have c6 := cell_of_row W6 wr.heap.size 6 _ _ (0, 0) hs6
        have c7 := cell_of_row W6 wr.heap.size 7 _ _ (0, 0) hs6
        have c8 := cell_of_row W6 wr.heap.size 8 _ _ (0, 0) hs6
        have c9 := cell_of_row W6 wr.heap.size 9 _ _ (0, 0) hs6
        have c10 := cell_of_row W6 wr.heap.size 10 _ _ (0, 0) hs6
        have n1 := cell_of_row W6 w2.heap.size 2 _ _ (0, 0) hR6.nb
        simp at c0 c1 c2 c3 c4 c5 c6 c7 c8 c9 c10 n1
        have hR8 := hR6.keep ((Below.refl W6.heap.size W6).alloc (Nat.le_refl _) (.cells #[.int .i64 x.id, .int .i64 x.kind, .bool x.pub, .slice x.nA x.names.length x.nc, .bool x.doubt, .int .i64 uk, .string un, .string um, .int .i64 ui, .int .i64 ud, .slice vA5 t.len vc5] 63))
        have HNW := Lib.hid (show ∀ Y : World, (W6.alloc (.cells #[.int .i64 x.id, .int .i64 x.kind, .bool x.pub, .slice x.nA x.names.length x.nc, .bool x.doubt, .int .i64 uk, .string un, .string um, .int .i64 ui, .int .i64 ud, .slice vA5 t.len vc5] 63)).grownBy Y (Value.slice vA es.length vc).ownBlock → Y.cell? ⟨w2.heap.size, 2, none⟩ = some (.slice vA es.length vc) ∧ Y.frozen? ⟨w2.heap.size, 2, none⟩ = false from fun Y hg => by
          have h1 : Y.heap[w2.heap.size]? = _ := (hg.block _ (lt_of_block hR8.nb) (fun e => by have := (World.ownsRow.lt hR8.own _ e.symm).1; omega)).trans hR8.nb
          exact ⟨by simpa using cell_of_row Y _ 2 _ _ (0, 0) h1, frozen_of_row Y _ 2 _ _ h1⟩)
        have hwl := HT.out.2.2.2.2.2.2.2.2.2.2.1
        have hBw6 := (HX.out W6 (HT.out.2.2.2.2.2.2.2.2.2.2.2.trans (hb6.mono HT.out.2.2.2.2.2.2.2.2.2.2.2.size))).1
        have hwL := (HX.out w2 HB2.out).2.2.2.2.2.2
        have HLs := Lib.hid (show (rbDc x uk un um ui ud vA5 vc5 t).Lies (W6.alloc (.cells #[.int .i64 x.id, .int .i64 x.kind, .bool x.pub, .slice x.nA x.names.length x.nc, .bool x.doubt, .int .i64 uk, .string un, .string um, .int .i64 ui, .int .i64 ud, .slice vA5 t.len vc5] 63)) (fun q => (q < w.heap.size ∨ w2.heap.size < q) ∧ q < (W6.alloc (.cells #[.int .i64 x.id, .int .i64 x.kind, .bool x.pub, .slice x.nA x.names.length x.nc, .bool x.doubt, .int .i64 uk, .string un, .string um, .int .i64 ui, .int .i64 ud, .slice vA5 t.len vc5] 63)).heap.size ∧ (Value.slice vA es.length vc).ownBlock ≠ some q) by
          have hsz6 : (W6.alloc (.cells #[.int .i64 x.id, .int .i64 x.kind, .bool x.pub, .slice x.nA x.names.length x.nc, .bool x.doubt, .int .i64 uk, .string un, .string um, .int .i64 ui, .int .i64 ud, .slice vA5 t.len vc5] 63)).heap.size = W6.heap.size + 1 := by simp
          have hwz := hBw6.size
          have hz3 := HT.out.2.2.2.2.2.2.2.2.1
          refine ⟨(HT.out.2.2.2.2.2.2.2.2.2.1.1.nmP).keep (fun k hk => ⟨.inl hk, by omega, fun e => ?_⟩) (fun p hp => ?_), HB.out.2.2.1.keep (fun k hk => ⟨.inr (by omega), by omega, fun e => ?_⟩) (fun p hp => ?_)⟩
          · have := (World.ownsRow.lt HT.out.2.1.own _ e).1
            omega
          · exact (World.cell?_alloc_lt W6 _ p (by omega)).trans (hBw6.cell hp)
          · have := (World.ownsRow.lt HT.out.2.1.own _ e).2
            omega
          · refine (World.cell?_alloc_lt W6 _ p (by omega)).trans (World.cell?_of_block ((hk6 p.block (by omega)).trans (HB.out.2.2.2.2.2.2 p.block hp.2))))
        have HO7 := Lib.hid hR6.own
        have HR8 := Lib.hid hR8
        have hel := HT.out.2.2.1
        have m1' : es.length + 1 ≤ maxLen := by unfold maxLen; omega
        have m2' : (es.length + 1) * 136 ≤ 140737488355328 := by omega
        have m3' : w2.heap.size + 1 ≤ (W6.alloc (.cells #[.int .i64 x.id, .int .i64 x.kind, .bool x.pub, .slice x.nA x.names.length x.nc, .bool x.doubt, .int .i64 uk, .string un, .string um, .int .i64 ui, .int .i64 ud, .slice vA5 t.len vc5] 63)).heap.size := by have := lt_of_block hR8.nb; omega
        have HM' := Lib.hid (And.intro m1' (And.intro m2' m3'))
        clear m1' m2' m3' hel hR6 hR8 hwl hBw6 hwL hs6 hb6 hk6 hz6 b0 b1 b2 b3 b4 b5 y5 y6 y7 y8 y9 y10 z5 z6 z7 z8 z9 z10
        go_wp2_with (at_builtin; refine wpList_append_own_at _ rfl _ _ 23 rfl (w2.heap.size + 1) 63 i0 _ 11 136 Tryz.underlying23 hi hz0 hz1 hz2 rfl (by decide) _ _ _ rfl (HO7.out.alloc _) ⟨W6.heap.size, 0, none⟩ 1 1 [.int .i64 x.id, .int .i64 x.kind, .bool x.pub, .slice x.nA x.names.length x.nc, .bool x.doubt, .int .i64 uk, .string un, .string um, .int .i64 ui, .int .i64 ud, .slice vA5 t.len vc5] rfl rfl (World.news_of_block (cs := #[.int .i64 x.id, .int .i64 x.kind, .bool x.pub, .slice x.nA x.names.length x.nc, .bool x.doubt, .int .i64 uk, .string un, .string um, .int .i64 ui, .int .i64 ud, .slice vA5 t.len vc5]) (t := 63) (fr := (0, 0)) (heap_alloc_new _ _)) (by simp [Value.oneCell']) HM'.out.1 HM'.out.2.1 HM'.out.2.2 ?_; intro v9 w9 hown9 hg9 _ hat9; have HS9 := Lib.hid (And.intro hown9 (And.intro hg9 hat9)); obtain ⟨n9, f9⟩ := HNW.out w9 hg9; obtain ⟨g9, c9, rfl⟩ := ownsRow_succ hown9; clear hown9 hg9 hat9)
        go_roundg (N - (j + 1))
        case measure => rw [HT.out.1]; omega
        case rel =>
          have hP := HR8.out.push (x := rbDc x uk un um ui ud vA5 vc5 t) HS9.out.2.1 HLs.out HS9.out.1 HS9.out.2.2
          have hQ : rbD (gBound ds uses known) x = (0, ⟨uk, un, um, ui, ud⟩, qt) := by unfold rbD; exact Hq.out
          refine ⟨j + 1, es ++ [rbDc x uk un um ui ud vA5 vc5 t], _, rfl, by omega, by go_num, hP, by rw [List.length_append, HT.out.2.2.1]; rfl, Lib.hid ?_, Lib.hid fun q y hq hy => ?_⟩
          · rw [HTk.out]
            exact rbDs_snoc HT.out.2.2.2.1.out ⟨rfl, rfl, rfl, rfl, rfl, rfl, rfl, by rw [hQ]; rfl, by rw [hQ]; rfl, by rw [hQ]; rfl, by rw [hQ]; rfl, by rw [hQ]; rfl, by rw [hQ]; exact HB.out.2.2.2.1⟩
          · by_cases hqj : q = j
            · subst hqj
              have h1 := HT.out.2.2.2.2.2.1
              rw [hy] at h1
              cases h1
              rw [hQ]
            · exact HT.out.2.2.2.2.1.out q y (by omega) hy
    · have hjN : j = N := by omega
      subst hjN
      have HR := Lib.hid (show EE = 0 by
        rw [HD2.out, ← HRB.out]
        refine rbAllE_all0 fun y hy => ?_
        obtain ⟨q, hq⟩ := List.getElem?_of_mem hy
        exact hZ.out q y (by have := (List.getElem?_eq_some_iff.1 hq).1; rw [HN.out] at this; exact this) hq)
      have HRs := Lib.hid (show RbDs (gBound ds uses known) ds es by have h := hRb.out; rwa [List.take_of_length_le (by rw [HN.out]; exact Nat.le_refl _)] at h)
      have hnb := hR.nb
      obtain ⟨rA, rc, rfl, hsld⟩ := hR.sld
      have n0 := cell_of_row wr w2.heap.size 0 _ _ (0, 0) hnb
      have n1 := cell_of_row wr w2.heap.size 1 _ _ (0, 0) hnb
      have n2 := cell_of_row wr w2.heap.size 2 _ _ (0, 0) hnb
      simp at n0 n1 n2
      rw [hel] at n2
      have HDs := Lib.hid (And.intro hel hR)
      have hw2 := (HX.out w2 HB2.out).2.2.2.2.2.2
      have hr := hrr
      have hBx := hBw
      have i2 : decide ((j : Int) < (j : Int)) = false := by simp
      have i3 : decide (j < j) = false := by simp
      clear hR hsld hnb hrm hrr hsu hsd hsk hRb hZ hB0 hBw hel HG
      have HS := Lib.hid (tri_set hr (.string label) (.slice uA M uc) (.slice rA j rc))
      obtain ⟨y0, y1, y2, z0, z1, z2⟩ := row3 hr
      have HBx := Lib.hid hBx
      clear hr hBx
      go_wp2
      obtain ⟨W9, hW9, s0, s1, s2, hBf, hsz, hbk⟩ := out3 HS.out HBx.out (show w.heap.size ≤ w.heap.size + 1 by omega)
      rw [hW9]
      refine bodyPost_ret (v := .tuple #[.agg #[.string label, .slice uA M uc, .slice rA j rc], .int .i64 0]) (by simp [results, Tryz.results21, go_sem, s0, s1, s2]) rfl ?_
      obtain ⟨rA2, rc2, hve, hsl⟩ := HDs.out.2.sldX (Y := W9) (by rw [hsz]; exact Nat.le_refl _) (fun q hq => hbk q (by omega))
      simp only [Value.slice.injEq] at hve
      obtain ⟨rfl, _, rfl⟩ := hve
      exact ⟨hBf, .inr ⟨HR.out, rA, rc, es, HRs.out, HDs.out.1, hsl, rfl⟩⟩
end Go.Proofs.YtacjjkbkhpdhnaaGreatDoor
/- law24.BindBind -/
namespace Go.Proofs.YtacjjkbkhpdhnaaGreatDoor
open Go.RowKit Go.Proofs Go.Shelf

theorem bnd_eq (label : ByteArray) (uses : List ByteArray) (ds : List Dc) (known : List If) : bnd24E label uses ds known = bindE label uses ds known ∧ (bindE label uses ds known = 0 → gBound ds uses known = bindG uses ds known) := by
  unfold bnd24E bindE
  by_cases h : cbE label uses ds known = 0
  · have hg : gBound ds uses known = bindG uses ds known := by
      unfold cbE at h
      by_cases h1 : labelB label = false
      · rw [if_pos h1] at h
        cases h
      rw [if_neg h1] at h
      by_cases h2 : srcDE uses ds = 0
      rotate_left
      · rw [if_pos h2] at h
        exact absurd h h2
      rw [if_neg (by simpa using h2)] at h
      by_cases h3 : ds.any (fun x => x.id == 0) = true
      · rw [if_pos h3] at h
        cases h
      rw [if_neg h3] at h
      exact gBound_eq (nmU_of (srcDE_parts h2).2.2.2).1 (alU_of fun q hq => (cbUses_zero h q (Nat.zero_le _) (by omega)).1)
    rw [hg]
    exact ⟨rfl, fun _ => rfl⟩
  · rw [if_pos h, if_pos h]
    exact ⟨rfl, fun h' => absurd h' h⟩
def BnP (E : Int) (label : ByteArray) (uses : List ByteArray) (ds : List Dc) (g : Repl) (lb : ByteArray) (u : List ByteArray) (l : List Dc) : Prop := (E ≠ 0 ∧ lb = ⟨#[]⟩ ∧ u = [] ∧ l = []) ∨ (E = 0 ∧ lb = label ∧ u = uses ∧ RbDs g ds l)
theorem bnP_eq {E : Int} {label : ByteArray} {uses : List ByteArray} {ds : List Dc} {g : Repl} {lb lb' : ByteArray} {u u' : List ByteArray} {l l' : List Dc} (h : BnP E label uses ds g lb u l) (h' : BnP E label uses ds g lb' u' l') : lb = lb' ∧ u = u' ∧ EqDs l l' := by
  rcases h with ⟨hE, rfl, rfl, rfl⟩ | ⟨hE, rfl, rfl, hr⟩
  · rcases h' with ⟨_, rfl, rfl, rfl⟩ | ⟨hE', _⟩
    · exact ⟨rfl, rfl, trivial⟩
    · exact absurd hE' hE
  · rcases h' with ⟨hE', _⟩ | ⟨_, rfl, rfl, hr'⟩
    · exact absurd hE hE'
    · exact ⟨rfl, rfl, rbDs_eq hr hr'⟩
theorem bnG1 {label : ByteArray} {uses : List ByteArray} {uA : Option Addr} {uc : Nat} {ds : List Dc} {dA : Option Addr} {dc : Nat} {known : List If} {kA : Option Addr} {kc : Nat} {w : World} (hu : SlS w w.heap.size uA uc uses) (hd : SlD w w.heap.size dA dc ds) (hst : StrD ds) (hnm : NmIn ds) (hk : SlI w w.heap.size kA kc known) (hms : ModS label uses ds) :
    Calls Tryz.prog 20 #[.string label, .agg #[.slice uA uses.length uc, .slice dA ds.length dc], .slice kA known.length kc] w (RnG (bindE label uses ds known) (BnP (bindE label uses ds known) label uses ds (bindG uses ds known)) w) := by
  refine Calls.mono (bBind_any label uses uA uc ds dA dc known kA kc w hu hd hst hnm hk (fun u hu => by have h1 := hms.2.1 u hu; have h2 := aliasB_size u; unfold maxLen; omega)) ?_
  rintro e w' ⟨hb, ⟨hE, rfl⟩ | ⟨hE, A, c, es, hr, hl, hs, rfl⟩⟩
  · exact ⟨hb, ⟨#[]⟩, [], none, 0, [], none, 0, rfl, slS_nil _, slD_nil _, .inl ⟨hE, rfl, rfl, rfl⟩⟩
  · exact ⟨hb, label, uses, uA, uc, es, A, c, by rw [hl, hE], hu.keep hb.size (fun p hp => hb.cell hp), hs, .inr ⟨hE, rfl, rfl, hr⟩⟩
theorem bnG2 {label : ByteArray} {uses : List ByteArray} {uA : Option Addr} {uc : Nat} {ds : List Dc} {dA : Option Addr} {dc : Nat} {known : List If} {kA : Option Addr} {kc : Nat} {w : World} (hu : SlS w w.heap.size uA uc uses) (hd : SlD w w.heap.size dA dc ds) (hnm : NmIn ds) (hk : SlI w w.heap.size kA kc known) (hms : ModS label uses ds) (hkn : KnS known) :
    Calls Tryz.prog 21 #[.string label, .agg #[.slice uA uses.length uc, .slice dA ds.length dc], .slice kA known.length kc] w (RnG (bindE label uses ds known) (BnP (bindE label uses ds known) label uses ds (bindG uses ds known)) w) := by
  refine Calls.mono (bind24_any label uses uA uc ds dA dc known kA kc w hu hd hnm hms hk (fun x hx s hs => Nat.le_trans ((hkn.2 x hx).2.2 s hs) (by decide))) ?_
  obtain ⟨h1, h2⟩ := bnd_eq label uses ds known
  rintro e w' ⟨hb, ⟨hE, rfl⟩ | ⟨hE, A, c, es, hr, hl, hs, rfl⟩⟩
  · rw [h1] at hE ⊢
    exact ⟨hb, ⟨#[]⟩, [], none, 0, [], none, 0, rfl, slS_nil _, slD_nil _, .inl ⟨hE, rfl, rfl, rfl⟩⟩
  · rw [h1] at hE
    rw [h2 hE] at hr
    exact ⟨hb, label, uses, uA, uc, es, A, c, by rw [hl, hE], hu.keep hb.size (fun p hp => hb.cell hp), hs, .inr ⟨hE, rfl, rfl, hr⟩⟩

set_option maxRecDepth 100000 in
set_option maxHeartbeats 16000000 in
theorem lawBind_any (label : ByteArray) (uses : List ByteArray) (uA : Option Addr) (uc : Nat) (ds : List Dc) (dA : Option Addr) (dc : Nat) (known : List If) (kA : Option Addr) (kc : Nat) (w : World)
    (hu : SlS w w.heap.size uA uc uses) (hd : SlD w w.heap.size dA dc ds) (hds : ∀ x ∈ ds, Dc.Str x) (hcn : ∀ x ∈ ds, x.s.count ≤ 2000000) (hk : SlI w w.heap.size kA kc known) :
    Calls Tryz.prog 4 #[.string label, .agg #[.slice uA uses.length uc, .slice dA ds.length dc], .slice kA known.length kc] w fun e w' => e = .returned (.bool true) ∧ Below w.heap.size w w' := by
  obtain ⟨M, HM⟩ : ∃ Q, Hid (uses.length = Q) := ⟨_, Lib.hid rfl⟩
  obtain ⟨N, HN⟩ : ∃ Q, Hid (ds.length = Q) := ⟨_, Lib.hid rfl⟩
  obtain ⟨K, HK⟩ : ∃ Q, Hid (known.length = Q) := ⟨_, Lib.hid rfl⟩
  rw [HM.out, HN.out, HK.out]
  obtain ⟨W0, hW0⟩ : ∃ W0, w.alloc (.cells #[.slice uA M uc, .slice dA N dc] 40) = W0 := ⟨_, rfl⟩
  have hb0 : Below w.heap.size w W0 := by rw [← hW0]; exact (Below.refl _ _).alloc (Nat.le_refl _) _
  have hz0 : w.heap.size < W0.heap.size := by rw [← hW0]; simp
  have hm0 : W0.heap[w.heap.size]? = some (.cells #[.slice uA M uc, .slice dA N dc] 40 (0, 0)) := by rw [← hW0]; exact heap_alloc_new w _
  have HX := Lib.hid (show ∀ X : World, Below W0.heap.size W0 X → Below w.heap.size w X ∧ SlS X X.heap.size uA uc uses ∧ SlD X X.heap.size dA dc ds ∧ SlI X X.heap.size kA kc known from fun X hX => by
    have h1 := hb0.trans (hX.mono hb0.size)
    exact ⟨h1, hu.keep h1.size (fun p hp => h1.cell hp), hd.keep h1.size (fun p hp => h1.cell hp), hk.below h1⟩)
  have HC := Lib.hid (show ∀ X : World, Below W0.heap.size W0 X → X.cell? ⟨w.heap.size, 0, none⟩ = some (.slice uA M uc) ∧ X.cell? ⟨w.heap.size, 1, none⟩ = some (.slice dA N dc) from fun X hX => by
    have h1 := (hX.block _ hz0).trans hm0
    exact ⟨cell_of_row X _ 0 _ _ (0, 0) h1, cell_of_row X _ 1 _ _ (0, 0) h1⟩)
  have HG1 := Lib.hid (show ∀ X : World, Below W0.heap.size W0 X → Calls Tryz.prog 19 #[.string label, .agg #[.slice uA M uc, .slice dA N dc], .slice kA K kc] X (fun e Y => ∃ b, e = .returned (.bool b) ∧ Hid (b = false → label.size ≤ 120 ∧ (greatU uses || greatD ds) = false ∧ KnS known) ∧ Below W0.heap.size W0 Y) from fun X hX => by
    have h := great24L_any label uses uA uc ds dA dc known kA kc X (HX.out X hX).2.1 (HX.out X hX).2.2.1 (HX.out X hX).2.2.2
    rw [HM.out, HN.out, HK.out] at h
    exact h.mono fun _ _ ⟨b, h1, h2, h3⟩ => ⟨b, h1, Lib.hid h2, hX.trans (h3.mono hX.size)⟩)
  have HAw := Lib.hid (show ∀ X : World, Below W0.heap.size W0 X → Calls Tryz.prog 11 #[] X (fun e Y => e = .returned (.bool true) ∧ Below w.heap.size w Y) from fun X hX => (awake24_any X).mono fun _ _ ⟨h1, h2⟩ => ⟨h1, (HX.out X hX).1.trans (h2.mono (HX.out X hX).1.size)⟩)
  have HD := Lib.hid (And.intro hcn (show StrD ds ∧ NmIn ds from ⟨fun x hx => (hds x hx).1, fun x hx => (hds x hx).2⟩))
  obtain ⟨x0, x1⟩ := HC.out W0 (Below.refl _ _)
  clear hu hd hds hcn hk hb0 hz0 hm0
  go_enter Tryz.func4, Tryz.ntmps4
  go_wp2_with fail
  refine (HG1.out _ (Below.refl _ _)).mono ?_
  rintro e w1 ⟨b1, rfl, hg1, hb1⟩
  clear hW0 x0 x1
  cases b1 with
  | true =>
    have HA := Lib.hid (HAw.out w1 hb1)
    clear hb1 hg1
    go_wp2_with fail
    refine HA.out.mono ?_
    rintro e w2 ⟨rfl, hb2⟩
    have HB2 := Lib.hid hb2
    clear hb2
    go_wp2
    go_ret
    exact ⟨rfl, HB2.out⟩
  | false =>
  have HMS := Lib.hid (show ModS label uses ds by
    obtain ⟨h1, h2, _⟩ := hg1.out rfl
    refine (small_mod' ?_ HD.out.1).1
    unfold greatM
    rw [Bool.or_assoc, h2]
    simp only [Bool.or_false, decide_eq_false_iff_not]
    omega)
  have HKn := Lib.hid (hg1.out rfl).2.2
  obtain ⟨x0, x1⟩ := HC.out w1 hb1
  obtain ⟨E, HE⟩ : ∃ Q, Hid (bindE label uses ds known = Q) := ⟨_, Lib.hid rfl⟩
  have hc1 := bnG1 (label := label) (HX.out w1 hb1).2.1 (HX.out w1 hb1).2.2.1 HD.out.2.1 HD.out.2.2 (HX.out w1 hb1).2.2.2 HMS.out
  rw [HM.out, HN.out, HK.out, HE.out] at hc1
  have HC1 := Lib.hid hc1
  have HB2 := Lib.hid hb1
  clear hc1 hb1 hg1
  go_wp2_with fail
  refine HC1.out.mono ?_
  rintro e w3 ⟨hb3, lb1, u1, a1, s1, l1, d1, t1, rfl, hu1, hd1, hP1⟩
  obtain ⟨V3, hV3⟩ : ∃ q, w3.alloc (.cells #[.string lb1, .slice a1 u1.length s1, .slice d1 l1.length t1] 25) = q := ⟨_, rfl⟩
  have hbV3 : Below w3.heap.size w3 V3 := by rw [← hV3]; exact (Below.refl _ _).alloc (Nat.le_refl _) _
  have hrV3 : V3.heap[w3.heap.size]? = some (.cells #[.string lb1, .slice a1 u1.length s1, .slice d1 l1.length t1] 25 (0, 0)) := by rw [← hV3]; exact heap_alloc_new _ _
  have hzV3 : w3.heap.size < V3.heap.size := by rw [← hV3]; simp
  have hB3 := HB2.out.trans ((hb3.trans (hbV3.mono hb3.size)).mono HB2.out.size)
  have HF1 := Lib.hid (show ∀ X : World, Below V3.heap.size V3 X → Below W0.heap.size W0 X ∧ X.cell? ⟨w3.heap.size, 0, none⟩ = some (.string lb1) ∧ X.cell? ⟨w3.heap.size, 1, none⟩ = some (.slice a1 u1.length s1) ∧ X.cell? ⟨w3.heap.size, 2, none⟩ = some (.slice d1 l1.length t1) ∧ SlS X X.heap.size a1 s1 u1 ∧ SlD X X.heap.size d1 t1 l1 from fun X hX => by
    have h1 := (hX.block _ hzV3).trans hrV3
    have h2 := hbV3.trans (hX.mono hbV3.size)
    exact ⟨hB3.trans (hX.mono hB3.size), cell_of_row X _ 0 _ _ (0, 0) h1, cell_of_row X _ 1 _ _ (0, 0) h1, cell_of_row X _ 2 _ _ (0, 0) h1, hu1.keep h2.size (fun p hp => h2.cell hp), hd1.keep h2.size (fun p hp => h2.cell hp)⟩)
  have HP1 := Lib.hid hP1
  clear hb3 hu1 hd1 hP1 hbV3 hrV3 hzV3 hB3 x0 x1 HC1
  obtain ⟨x0, x1⟩ := HC.out V3 (HF1.out V3 (Below.refl _ _)).1
  have hX3 := HX.out V3 (HF1.out V3 (Below.refl _ _)).1
  have hc2 := bnG2 (label := label) hX3.2.1 hX3.2.2.1 HD.out.2.2 hX3.2.2.2 HMS.out HKn.out
  rw [HM.out, HN.out, HK.out, HE.out] at hc2
  have HC2 := Lib.hid hc2
  clear hc2 hX3
  go_wp2_with fail
  refine HC2.out.mono ?_
  rintro e w4 ⟨hb4, lb2, u2, a2, s2, l2, d2, t2, rfl, hu2, hd2, hP2⟩
  have HQ1 := Lib.hid (bnP_eq HP1.out hP2)
  obtain ⟨V4, hV4⟩ : ∃ q, w4.alloc (.cells #[.string lb2, .slice a2 u2.length s2, .slice d2 l2.length t2] 25) = q := ⟨_, rfl⟩
  have hbV4 : Below w4.heap.size w4 V4 := by rw [← hV4]; exact (Below.refl _ _).alloc (Nat.le_refl _) _
  have hrV4 : V4.heap[w4.heap.size]? = some (.cells #[.string lb2, .slice a2 u2.length s2, .slice d2 l2.length t2] 25 (0, 0)) := by rw [← hV4]; exact heap_alloc_new _ _
  have hzV4 : w4.heap.size < V4.heap.size := by rw [← hV4]; simp
  have hB4 := hb4.trans (hbV4.mono hb4.size)
  have HF2 := Lib.hid (show ∀ X : World, Below V4.heap.size V4 X → Below V3.heap.size V3 X ∧ X.cell? ⟨w4.heap.size, 0, none⟩ = some (.string lb2) ∧ X.cell? ⟨w4.heap.size, 1, none⟩ = some (.slice a2 u2.length s2) ∧ X.cell? ⟨w4.heap.size, 2, none⟩ = some (.slice d2 l2.length t2) ∧ SlS X X.heap.size a2 s2 u2 ∧ SlD X X.heap.size d2 t2 l2 from fun X hX => by
    have h1 := (hX.block _ hzV4).trans hrV4
    have h2 := hbV4.trans (hX.mono hbV4.size)
    exact ⟨hB4.trans (hX.mono hB4.size), cell_of_row X _ 0 _ _ (0, 0) h1, cell_of_row X _ 1 _ _ (0, 0) h1, cell_of_row X _ 2 _ _ (0, 0) h1, hu2.keep h2.size (fun p hp => h2.cell hp), hd2.keep h2.size (fun p hp => h2.cell hp)⟩)
  clear hb4 hu2 hd2 hP2 hbV4 hrV4 hzV4 hB4 x0 x1 HC2 hV3 HP1
  obtain ⟨h63, y0, y1, y2, hs3, hs4⟩ := HF2.out V4 (Below.refl _ _)
  obtain ⟨_, z0, z1, z2, hs1, hs2⟩ := HF1.out V4 h63
  have hsm := same24_any lb1 lb2 u1 u2 a1 s1 a2 s2 l1 l2 d1 t1 d2 t2 V4 hs1 hs3 hs2 hs4
  have HSM := Lib.hid hsm
  clear h63 hs1 hs2 hs3 hs4 hsm
  go_wp2_with fail
  refine HSM.out.mono ?_
  rintro e w8 ⟨b8, rfl, hb8i, hb8⟩
  have H8 := Lib.hid hb8
  obtain rfl : b8 = true := hb8i.2 HQ1.out
  clear hb8i hb8 y0 y1 y2 z0 z1 z2 HSM
  have HA := Lib.hid (HAw.out w8 (HF1.out w8 (HF2.out w8 H8.out).1).1)
  go_wp2_with fail
  refine HA.out.mono ?_
  rintro e w9 ⟨rfl, hb9⟩
  have HB9 := Lib.hid hb9
  clear hb9
  go_wp2
  go_ret
  exact ⟨rfl, HB9.out⟩
end Go.Proofs.YtacjjkbkhpdhnaaGreatDoor
