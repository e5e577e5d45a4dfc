/- ref21.CheckSource -/
import Derived.Test.YtacjjkbkhpdhnaaGreatDoorZpe
import Derived.Test.YtacjjkbkhpdhnaaGreatDoorZqa
import Derived.Test.YtacjjkbkhpdhnaaGreatDoorZmg
import Derived.BigQuiet
import Derived.Deep.QuietTactic
import Derived.Test.YtacjjkbkhpdhnaaGreatDoorZll
namespace Go.Proofs.YtacjjkbkhpdhnaaGreatDoor
open Go.RowKit Go.Proofs Go.Shelf
theorem Fo.pre_has (K : Int) : ∀ (f : Fo) (dp : Nat), (f.pre dp).any (fun y => y.k == K) = f.has (kdP K)
  | .nil, _ => rfl
  | .cons k n m i d A c s r, dp => by
    simp only [Fo.pre, List.any_cons, List.any_append, Fo.has, Fo.pre_has K s, Fo.pre_has K r, kdP, Bool.or_assoc]
theorem pre_has5 (x : Dc) : x.pre.any (fun y => y.k == 5) = (kdP 5 x.k x.n || x.s.has (kdP 5)) := by
  simp only [Dc.pre, List.any_cons, Fo.pre_has, kdP]
theorem sdE_cd (x : Dc) : sdE x = if cdE x ≠ 0 then cdE x else if (kdP 5 x.k x.n || x.s.has (kdP 5)) = true then 9 else 0 := by
  rw [← pre_has5]
  unfold sdE cdE
  by_cases h1 : x.id < 0 ∨ 999999 < x.id
  · rw [if_pos h1, if_pos h1]
    simp
  rw [if_neg h1, if_neg h1]
  by_cases h2 : x.kind ≠ 1 ∧ x.kind ≠ 2 ∧ x.kind ≠ 3
  · rw [if_pos h2, if_pos (show x.kind < 1 ∨ 3 < x.kind by omega)]
    simp
  rw [if_neg h2, if_neg (show ¬ (x.kind < 1 ∨ 3 < x.kind) by omega)]
  by_cases h3 : dnE x.names = 0
  · simp only [h3, ne_eq, not_true_eq_false, if_false]
  · rw [if_pos h3, if_pos h3, if_pos h3]
def metOf (l : List Dc) : List ByteArray := (l.filter fun x => decide (x.names.length = 1)).map nameOf
theorem metOf_snoc (l : List Dc) (x : Dc) : metOf (l ++ [x]) = if x.names.length = 1 then metOf l ++ [nameOf x] else metOf l := by
  unfold metOf
  rw [List.filter_append]
  by_cases h : x.names.length = 1 <;> simp [h]
theorem hasN_met (x : Dc) (h : x.names.length = 1) : ∀ l, hasN (metOf l) (nameOf x) = l.any (sameN x)
  | [] => rfl
  | y :: r => by
    have ih := hasN_met x h r
    rw [List.any_cons, ← ih]
    unfold metOf
    by_cases hy : y.names.length = 1
    · rw [List.filter_cons_of_pos (by simpa using hy), List.map_cons]
      unfold hasN
      rw [List.any_cons]
      congr 1
      rw [Bool.beq_comm]
      simp [sameN, h, hy, ByteArray.toList_eq]
    · rw [List.filter_cons_of_neg (by simpa using hy)]
      simp [sameN, hy]
theorem sdsE_round {ds : List Dc} {j : Nat} {x : Dc} (hx : ds[j]? = some x) : sdsE (prevI ds j) (metOf (ds.take j)) (ds.drop j) = if cdE x ≠ 0 then cdE x else if (kdP 5 x.k x.n || x.s.has (kdP 5)) = true then 9 else if ordBad (prevI ds j) x.id = true then 10 else if x.names.length = 1 ∧ (ds.take j).any (sameN x) = true then 7 else sdsE (prevI ds (j + 1)) (metOf (ds.take (j + 1))) (ds.drop (j + 1)) := by
  obtain ⟨hlt, rfl⟩ := List.getElem?_eq_some_iff.1 hx
  have hp : prevI ds (j + 1) = some ds[j].id := by simp [prevI, hx]
  rw [List.drop_eq_getElem_cons hlt, sdsE, sdE_cd, List.take_succ_eq_append_getElem hlt, metOf_snoc, hp]
  generalize (kdP 5 ds[j].k ds[j].n || ds[j].s.has (kdP 5)) = K
  generalize ordBad (prevI ds j) ds[j].id = O
  generalize cdE ds[j] = C
  by_cases h4 : ds[j].names.length = 1
  · rw [if_pos h4, if_pos h4, hasN_met _ h4]
    simp only [h4, true_and]
    cases K <;> cases O <;> by_cases hC0 : C = 0 <;> simp [hC0]
  · rw [if_neg h4, if_neg h4]
    simp only [h4, false_and, if_false]
    cases K <;> cases O <;> by_cases hC0 : C = 0 <;> simp [hC0]
set_option maxRecDepth 100000 in
set_option maxHeartbeats 8000000 in
theorem checkSource21_any (l : List ByteArray) (A : Option Addr) (c : Nat) (ds : List Dc) (dA : Option Addr) (dc : Nat) (w : World) (hs : SlS w w.heap.size A c l) (hd : SlD w w.heap.size dA dc ds) (hz : ∀ s ∈ l, s.size ≤ 1000) (hsh : ∀ x ∈ ds, x.Sht) :
    Calls Tryz.prog 36 #[.agg #[.slice A l.length c, .slice dA ds.length dc]] w fun e w' => e = .returned (.int .i64 (srcDE l ds)) ∧ Below w.heap.size w w' := by
  obtain ⟨E, HE⟩ : ∃ E, Hid (srcDE l ds = E) := ⟨_, Lib.hid rfl⟩
  rw [HE.out]
  obtain ⟨N, HN⟩ : ∃ Q, Hid (ds.length = Q) := ⟨_, Lib.hid rfl⟩
  obtain ⟨NU, HNU⟩ : ∃ Q, Hid (l.length = Q) := ⟨_, Lib.hid rfl⟩
  obtain ⟨W0, hW0⟩ : ∃ W0, w.alloc (.cells #[.slice A NU c, .slice dA N dc] 40) = W0 := ⟨_, rfl⟩
  have hzw : w.heap.size < W0.heap.size := by subst hW0; simp
  have hB0 : Below w.heap.size w W0 := by subst hW0; exact (Below.refl _ _).alloc (Nat.le_refl _) _
  have hx0 : W0.heap[w.heap.size]? = some (.cells #[.slice A NU c, .slice dA N dc] 40 (0, 0)) := by rw [← hW0]; exact heap_alloc_new w _
  have HC : Hid (∀ X, Below W0.heap.size W0 X → Below w.heap.size w X ∧ w.heap.size < X.heap.size ∧ SlS X X.heap.size A c l ∧ X.cell? ⟨w.heap.size, 0, none⟩ = some (.slice A NU c) ∧ X.cell? ⟨w.heap.size, 1, none⟩ = some (.slice dA N dc)) := fun X hX => by
    have h0 := (hX.block w.heap.size hzw).trans hx0
    have hb := hB0.trans (hX.mono (Nat.le_of_lt hzw))
    exact ⟨hb, Nat.lt_of_lt_of_le hzw hX.size, hs.keep hb.size (fun p hp => hb.cell hp), cell_of_row X _ 0 _ _ (0, 0) h0, cell_of_row X _ 1 _ _ (0, 0) h0⟩
  have hul := hs.1
  have hul2 := hs.2.1
  have hdl := hd.1
  have hdl2 := hd.2.1
  unfold maxLen at hul2 hdl2
  rw [HNU.out] at hul ⊢
  rw [HN.out] at hdl ⊢
  have HSh := Lib.hid hsh
  have HDs := Lib.hid hd
  obtain ⟨E1, HE1⟩ : ∃ E1, Hid (srcE l = E1) := ⟨_, Lib.hid rfl⟩
  have HD : Hid (E = if E1 ≠ 0 then E1 else if 100 < N then 4 else sdsE none [] ds) := by
    show E = _
    rw [← HE.out, ← HE1.out, srcDE, srcE, HNU.out, HN.out]
    by_cases h : 20 < NU
    · rw [if_pos h, if_pos h]
      simp
    · rw [if_neg h, if_neg h]
  have hcu := checkUses21_any l A c W0 (HC.out W0 (Below.refl _ _)).2.2.1 hz
  rw [HNU.out, HE1.out] at hcu
  have HCU := Lib.hid hcu
  obtain ⟨_, _, _, x0, x1⟩ := HC.out W0 (Below.refl _ _)
  clear HE hs hd hB0 hx0 hsh hz hcu
  go_enter Tryz.func36, Tryz.ntmps36
  go_wp2_with fail
  refine HCU.out.mono ?_
  rintro e w1 ⟨rfl, hb1⟩
  have HB1 := Lib.hid hb1
  clear hb1 x0 x1 hW0 HCU
  obtain ⟨hBw1, _, _, x0, x1⟩ := HC.out w1 HB1.out
  have HBw1 := Lib.hid hBw1
  clear hBw1
  by_cases e1 : E1 = 0
  rotate_left
  · have e1' : (E1 != 0) = true := by simpa using e1
    have HR := Lib.hid (HD.out.trans (if_pos e1))
    clear e1
    go_wp2
    go_ret
    exact ⟨by rw [HR.out]; rfl, HBw1.out⟩
  subst e1
  have HD2 := Lib.hid (HD.out.trans (if_neg (by simp)))
  clear HD
  by_cases hlong : 100 < N
  · have HR := Lib.hid (HD2.out.trans (if_pos hlong))
    have hl' : decide (100 < (N : Int)) = true := by simp; omega
    go_wp2
    go_ret
    exact ⟨by rw [HR.out]; rfl, HBw1.out⟩
  have HD3 := Lib.hid (HD2.out.trans (if_neg hlong))
  have hl' : decide (100 < (N : Int)) = false := by simp; omega
  clear HD2
  go_wp2_with fail
  clear x0 x1
  go_loopg [3, 4, 5, 6] N (fun g _ ct _ _ wr => ∃ j : Nat, g = N - j ∧ j ≤ N ∧ ct = .int .i64 j ∧ Hid (E = sdsE (prevI ds j) (metOf (ds.take j)) (ds.drop j)) ∧ Below W0.heap.size W0 wr)
  case atStart => exact ⟨0, rfl, by omega, rfl, HD3, HB1.out⟩
  case round =>
    obtain ⟨j, HG, hj, rfl, HA, HB⟩ := hrel
    have HG' := Lib.hid (And.intro HG HB)
    clear HG HB
    obtain ⟨hBw, hzr, _, z0, z1⟩ := HC.out wr HG'.out.2
    have HBw := Lib.hid hBw
    by_cases hlt : j < N
    rotate_left
    · have HR := Lib.hid (show E = 0 by rw [HA.out, List.drop_of_length_le (by rw [HN.out]; omega)]; cases prevI ds j <;> rfl)
      have i2 : decide ((j : Int) < (N : Int)) = false := decide_eq_false (by omega)
      have i3 : decide (j < N) = false := decide_eq_false (by omega)
      clear hBw
      go_wp2
      go_ret
      exact ⟨by rw [HR.out]; rfl, HBw.out⟩
    have hjl : j < ds.length := by rw [HN.out]; exact hlt
    have hj3 : ds[j]? = some ds[j] := List.getElem?_eq_getElem hjl
    have HEx := Lib.hid (HA.out.trans (sdsE_round hj3))
    obtain ⟨S1, HS1⟩ : ∃ q, Hid (sdsE (prevI ds (j + 1)) (metOf (ds.take (j + 1))) (ds.drop (j + 1)) = q) := ⟨_, Lib.hid rfl⟩
    rw [HS1.out] at HEx
    obtain ⟨b, o, hA, hbb, d0, d1, d2, d3, d4, d5, d6, d7, d8, d9, d10, xok⟩ := HDs.out.cells_at (wr := wr) (fun p hp => hBw.cell hp) hj3
    subst hA
    have HSx := Lib.hid (HSh.out _ (List.getElem_mem hjl))
    have HPv := Lib.hid (show ∀ (q' : Nat), j = q' + 1 → ∃ pid : Int, prevI ds j = some pid ∧ ∀ X : World, Below w.heap.size w X → X.cell? ⟨b, o + q' * 11, none⟩ = some (.int .i64 pid) from fun q' e => by
      have h1 : ds[q']? = some (ds[q']'(by omega)) := List.getElem?_eq_getElem _
      refine ⟨(ds[q']'(by omega)).id, ?_, fun X hX => ?_⟩
      · subst e
        show (ds[q']?).map Dc.id = _
        rw [h1]
        rfl
      · obtain ⟨b', o', e', _, c0, _⟩ := HDs.out.cells_at (wr := X) (fun p hp => hX.cell hp) h1
        simp only [Option.some.injEq, Addr.mk.injEq, and_true] at e'
        obtain ⟨rfl, rfl⟩ := e'
        exact c0)
    generalize ds[j] = x at d0 d1 d2 d3 d4 d5 d6 d7 d8 d9 d10 xok HEx HSx
    clear hj3 hjl HA
    obtain ⟨W3, hW3⟩ : ∃ W3, wr.alloc (.cells #[.int .i64 x.id, .int .i64 x.kind, .bool x.pub, .slice x.nA x.names.length x.nc, .bool x.doubt, .int .i64 x.k, .string x.n, .string x.m, .int .i64 x.i, .int .i64 x.d, .slice x.A x.s.len x.c] 63) = W3 := ⟨_, rfl⟩
    have hb3 : Below wr.heap.size wr W3 := by rw [← hW3]; exact (Below.refl _ _).alloc (Nat.le_refl _) _
    have hx3 : W3.heap[wr.heap.size]? = some (.cells #[.int .i64 x.id, .int .i64 x.kind, .bool x.pub, .slice x.nA x.names.length x.nc, .bool x.doubt, .int .i64 x.k, .string x.n, .string x.m, .int .i64 x.i, .int .i64 x.d, .slice x.A x.s.len x.c] 63 (0, 0)) := by rw [← hW3]; exact heap_alloc_new wr _
    have hz3 : wr.heap.size < W3.heap.size := by rw [← hW3]; simp
    have HX := Lib.hid (show ∀ X : World, Below W3.heap.size W3 X → Below W0.heap.size W0 X ∧ Below w.heap.size w X ∧ x.Ok X X.heap.size ∧ X.heap[wr.heap.size]? = some (.cells #[.int .i64 x.id, .int .i64 x.kind, .bool x.pub, .slice x.nA x.names.length x.nc, .bool x.doubt, .int .i64 x.k, .string x.n, .string x.m, .int .i64 x.i, .int .i64 x.d, .slice x.A x.s.len x.c] 63 (0, 0)) ∧ X.cell? ⟨w.heap.size, 1, none⟩ = some (.slice (some ⟨b, o, none⟩) N dc) from fun X hX => by
      have h1 := HG'.out.2.trans ((hb3.trans (hX.mono (Nat.le_of_lt hz3))).mono HG'.out.2.size)
      obtain ⟨h2, _, _, _, h3⟩ := HC.out X h1
      exact ⟨h1, h2, ⟨xok.1.keep h2.size fun p hp => h2.cell hp, xok.2.keep h2.size fun p hp => h2.cell hp⟩, (hX.block _ hz3).trans hx3, h3⟩)
    obtain ⟨Ec, HEc⟩ : ∃ q, Hid (cdE x = q) := ⟨_, Lib.hid rfl⟩
    obtain ⟨kb, Hkb⟩ : ∃ q, Hid ((kdP 5 x.k x.n || x.s.has (kdP 5)) = q) := ⟨_, Lib.hid rfl⟩
    obtain ⟨bo, Hbo⟩ : ∃ q, Hid (ordBad (prevI ds j) x.id = q) := ⟨_, Lib.hid rfl⟩
    rw [HEc.out, Hkb.out, Hbo.out] at HEx
    have hcd := checkDecl21_any x W3 (HX.out W3 (Below.refl _ _)).2.2.1 HSx.out
    rw [HEc.out] at hcd
    simp only [Dc.cells] at hcd
    have HCd := Lib.hid hcd
    have HXo := Lib.hid xok
    have j0 : (0 : Int) ≤ (j : Int) := by omega
    have j1 : (j : Int) < (N : Int) := by omega
    have g0 := cell_of_row W3 wr.heap.size 0 _ _ (0, 0) hx3
    have g1 := cell_of_row W3 wr.heap.size 1 _ _ (0, 0) hx3
    have g2 := cell_of_row W3 wr.heap.size 2 _ _ (0, 0) hx3
    have g3 := cell_of_row W3 wr.heap.size 3 _ _ (0, 0) hx3
    have g4 := cell_of_row W3 wr.heap.size 4 _ _ (0, 0) hx3
    have g5 := cell_of_row W3 wr.heap.size 5 _ _ (0, 0) hx3
    have g6 := cell_of_row W3 wr.heap.size 6 _ _ (0, 0) hx3
    have g7 := cell_of_row W3 wr.heap.size 7 _ _ (0, 0) hx3
    have g8 := cell_of_row W3 wr.heap.size 8 _ _ (0, 0) hx3
    have g9 := cell_of_row W3 wr.heap.size 9 _ _ (0, 0) hx3
    have g10 := cell_of_row W3 wr.heap.size 10 _ _ (0, 0) hx3
    simp at g0 g1 g2 g3 g4 g5 g6 g7 g8 g9 g10
    clear hcd xok hb3 hx3 hBw
    go_wp2_with fail
    refine HCd.out.mono ?_
    rintro e w4 ⟨rfl, hb4⟩
    have HB4 := Lib.hid hb4
    clear hb4 HCd hW3 g0 g1 g2 g3 g4 g5 g6 g7 g8 g9 g10 d0 d1 d2 d3 d4 d5 d6 d7 d8 d9 d10 z0 z1
    by_cases ec : Ec = 0
    rotate_left
    · have ec' : (Ec != 0) = true := by simpa using ec
      have HR := Lib.hid (HEx.out.trans (if_pos ec))
      clear ec
      go_wp2
      go_ret
      exact ⟨by rw [HR.out]; rfl, (HX.out _ HB4.out).2.1⟩
    subst ec
    have HE2 := Lib.hid (HEx.out.trans (if_neg (by simp)))
    clear HEx
    obtain ⟨_, _, hok4, hr4, _⟩ := HX.out w4 HB4.out
    have hkd := kd_any 5 x.s x.k x.n x.m x.i x.d x.A x.c w4 hok4.2
    rw [Hkb.out] at hkd
    have HKd := Lib.hid hkd
    have f5 := cell_of_row w4 wr.heap.size 5 _ _ (0, 0) hr4
    have f6 := cell_of_row w4 wr.heap.size 6 _ _ (0, 0) hr4
    have f7 := cell_of_row w4 wr.heap.size 7 _ _ (0, 0) hr4
    have f8 := cell_of_row w4 wr.heap.size 8 _ _ (0, 0) hr4
    have f9 := cell_of_row w4 wr.heap.size 9 _ _ (0, 0) hr4
    have f10 := cell_of_row w4 wr.heap.size 10 _ _ (0, 0) hr4
    simp at f5 f6 f7 f8 f9 f10
    clear hkd hok4 hr4
    go_wp2_with fail
    refine HKd.out.mono ?_
    rintro e w5 ⟨rfl, hb5⟩
    have HB5 := Lib.hid (HB4.out.trans (hb5.mono HB4.out.size))
    clear hb5 HKd f5 f6 f7 f8 f9 f10
    cases kb with
    | true =>
      have HR := Lib.hid (HE2.out.trans (if_pos rfl))
      go_wp2
      go_ret
      exact ⟨by rw [HR.out]; rfl, (HX.out _ HB5.out).2.1⟩
    | false =>
    have HE3 := Lib.hid (HE2.out.trans (if_neg (by simp)))
    clear HE2
    obtain ⟨_, hBw5, _, hr5, z1⟩ := HX.out w5 HB5.out
    have f0 := cell_of_row w5 wr.heap.size 0 _ _ (0, 0) hr5
    simp at f0
    have HBw5 := Lib.hid hBw5
    clear hr5 hBw5
    go_upto_region 15 with fail
    go_cut [74] (fun s74 wx => s74 = .bool bo ∧ ∃ nd, wx = w5.drewN nd)
    case first =>
      cases j with
      | zero =>
        have HB0 := Lib.hid (show bo = false by rw [← Hbo.out]; rfl)
        go_quiet (fail)
        go_wp2
        go_meet
        exact ⟨by rw [HB0.out], _, rfl⟩
      | succ q' =>
        obtain ⟨pid, hp1, hp2⟩ := HPv.out q' rfl
        have hpc := hp2 w5 HBw5.out
        have hidx : ((q' + 1 : Nat) : Int) - 1 = q' := by omega
        have hw1 : IntKind.i64.wrap ((q' : Int) + 1 - 1) = q' := by rw [show ((q' : Int) + 1 - 1) = q' by omega]; exact IntWalk.i64_in _ (by omega)
        have hw2 : IntKind.i64.wrap (q' : Int) = q' := IntWalk.i64_in _ (by omega)
        have hq1 : (0 : Int) < ((q' + 1 : Nat) : Int) := by omega
        have hq2 : (0 : Int) < (q' : Int) + 1 := by omega
        have hq3 : (0 : Int) ≤ (q' : Int) := by omega
        have hq4 : (q' : Int) < (N : Int) := by omega
        have HB0 := Lib.hid (show bo = ((x.id != 0) && ((pid == 0) || decide (x.id ≤ pid))) by rw [← Hbo.out, hp1]; rfl)
        clear hp1 hp2
        cases h0 : (x.id != 0) with
        | false =>
          rw [h0] at HB0
          go_quiet (fail)
          go_wp2
          go_meet
          exact ⟨by rw [HB0.out]; rfl, _, rfl⟩
        | true =>
          rw [h0] at HB0
          by_cases hle : x.id ≤ pid
          · have hle' : decide (x.id ≤ pid) = true := by simpa using hle
            rw [hle'] at HB0
            clear hle
            go_quiet (fail)
            go_wp2
            go_meet
            exact ⟨by rw [HB0.out]; simp, _, rfl⟩
          · have hle' : decide (x.id ≤ pid) = false := by simpa using hle
            rw [hle'] at HB0
            clear hle
            cases hp0 : (pid == 0) with
            | true =>
              rw [hp0] at HB0
              go_quiet (fail)
              go_wp2
              go_meet
              exact ⟨by rw [HB0.out]; rfl, _, rfl⟩
            | false =>
              rw [hp0] at HB0
              go_quiet (fail)
              go_wp2
              go_meet
              exact ⟨by rw [HB0.out]; rfl, _, rfl⟩
    case rest =>
    obtain ⟨h74, nd, hnd⟩ := hcut
    subst h74
    obtain ⟨W5, rfl⟩ : ∃ q, q = wc := ⟨_, rfl⟩
    have HBV := Lib.hid (show Below W3.heap.size W3 W5 by rw [hnd]; exact below_drewN HB5.out nd)
    clear hnd f0 z1
    cases bo with
    | true =>
      have HR := Lib.hid (HE3.out.trans (if_pos rfl))
      go_wp2
      go_ret
      exact ⟨by rw [HR.out]; rfl, (HX.out _ HBV.out).2.1⟩
    | false =>
    have HE4 := Lib.hid (HE3.out.trans (if_neg (by simp)))
    clear HE3
    have HF := Lib.hid (show ∀ X : World, Below W5.heap.size W5 X → Below W0.heap.size W0 X ∧ Below w.heap.size w X ∧ X.cell? ⟨wr.heap.size, 3, none⟩ = some (.slice x.nA x.names.length x.nc) ∧ X.cell? ⟨w.heap.size, 1, none⟩ = some (.slice (some ⟨b, o, none⟩) N dc) from fun X hX => by
      obtain ⟨h1, h2, _, h3, h4⟩ := HX.out X (HBV.out.trans (hX.mono HBV.out.size))
      exact ⟨h1, h2, cell_of_row X wr.heap.size 3 _ _ (0, 0) h3, h4⟩)
    by_cases hn1 : x.names.length = 1
    rotate_left
    · have HR := Lib.hid (HE4.out.trans ((if_neg (fun h => hn1 h.1)).trans HS1.out.symm))
      have n1 : ((x.names.length : Int) == 1) = false := by simp; omega
      have xc1 := HXo.out.1.1
      have xc2 := HXo.out.1.2.1
      unfold maxLen at xc2
      clear hn1
      generalize x.names.length = nx at n1 xc1 HF
      go_wp2_with fail
      go_loopg [6] 0 (fun g ct wq => g = 0 ∧ ct = .int .i64 0 ∧ wq = W5)
      case atStart => exact ⟨rfl, rfl, rfl⟩
      case round =>
        obtain ⟨_, rfl, rfl⟩ := hrel
        obtain ⟨hW, _, f3, z1⟩ := HF.out _ (Below.refl _ _)
        have HW := Lib.hid hW
        clear hW
        by_cases hj0 : j = 0
        · subst hj0
          go_wp2
          go_roundg (N - (0 + 1))
          case measure => rw [HG'.out.1]; omega
          case rel => exact ⟨0 + 1, rfl, by omega, by go_num, HR, HW.out⟩
        · have hj1 : (0 : Int) < (j : Int) := by omega
          have hj2 : 0 < j := by omega
          go_wp2
          go_roundg (N - (j + 1))
          case measure => rw [HG'.out.1]; omega
          case rel => exact ⟨j + 1, rfl, by omega, by go_num, HR, HW.out⟩
    obtain ⟨xb, xo, ex, hxb, hxc⟩ := name_cell HXo.out.1 hn1
    change w.cell? ⟨xb, xo, none⟩ = some (.string (nameOf x)) at hxc
    have xc1 := HXo.out.1.1
    have xc2 := HXo.out.1.2.1
    unfold maxLen at xc2
    have HF2 := Lib.hid (show ∀ X : World, Below W5.heap.size W5 X → Below W0.heap.size W0 X ∧ Below w.heap.size w X ∧ X.cell? ⟨wr.heap.size, 3, none⟩ = some (.slice (some ⟨xb, xo, none⟩) 1 x.nc) ∧ X.cell? ⟨w.heap.size, 1, none⟩ = some (.slice (some ⟨b, o, none⟩) N dc) ∧ X.cell? ⟨xb, xo, none⟩ = some (.string (nameOf x)) from fun X hX => by
      obtain ⟨h1, h2, h3, h4⟩ := HF.out X hX
      rw [hn1, ex] at h3
      exact ⟨h1, h2, h3, h4, (h2.cell (p := ⟨xb, xo, none⟩) hxb).trans hxc⟩)
    rw [hn1] at xc1
    have HE5 := Lib.hid (show E = if (ds.take j).any (sameN x) = true then 7 else sdsE (prevI ds (j + 1)) (metOf (ds.take (j + 1))) (ds.drop (j + 1)) by
      rw [HS1.out, HE4.out]
      simp [hn1])
    have HSm := Lib.hid (show ∀ y : Dc, (y.names.length = 1 → sameN x y = ((nameOf x).toList == (nameOf y).toList)) ∧ (y.names.length ≠ 1 → sameN x y = false) from fun y => ⟨fun h => by simp [sameN, hn1, h], fun h => by simp [sameN, h]⟩)
    generalize nameOf x = sx at HF2 HSm
    clear hn1 ex hxc HF HE4 hxb
    go_wp2_with fail
    go_loopg [6] j (fun g ct wq => ∃ k : Nat, g = j - k ∧ k ≤ j ∧ ct = .int .i64 k ∧ Hid ((ds.take k).any (sameN x) = false) ∧ Below W5.heap.size W5 wq)
    case atStart => exact ⟨0, rfl, by omega, rfl, Lib.hid (by simp), Below.refl _ _⟩
    case round =>
      obtain ⟨k, HGi, hkj, rfl, HAi, HBi⟩ := hrel
      have HGi' := Lib.hid (And.intro HGi HBi)
      obtain ⟨_, hBq, f3, z1, sc0⟩ := HF2.out wr HBi
      have HBq := Lib.hid hBq
      clear HGi HBi
      by_cases hilt : k < j
      rotate_left
      · obtain rfl : k = j := by omega
        have HR := Lib.hid (HE5.out.trans (if_neg (by rw [HAi.out]; simp)))
        have i2 : decide ((k : Int) < (k : Int)) = false := by simp
        have i3 : decide (k < k) = false := by simp
        clear hBq sc0
        go_wp2
        go_roundg (N - (k + 1))
        case measure => rw [HG'.out.1]; omega
        case rel => exact ⟨k + 1, rfl, by omega, by go_num, HR, (HF2.out _ HGi'.out.2).1⟩
      have hil : k < ds.length := by rw [HN.out]; omega
      have hi3 : ds[k]? = some ds[k] := List.getElem?_eq_getElem hil
      have HT := Lib.hid (show (ds.take (k + 1)).any (sameN x) = sameN x ds[k] by
        rw [List.take_succ_eq_append_getElem hil, List.any_append, HAi.out]
        simp)
      have HY := Lib.hid (show sameN x ds[k] = true → (ds.take j).any (sameN x) = true from fun h => List.any_eq_true.2 ⟨ds[k], List.mem_take_iff_getElem.2 ⟨k, by omega, rfl⟩, h⟩)
      obtain ⟨b', o', hA', hb', y0, y1, y2, y3, y4, y5, y6, y7, y8, y9, y10, yok⟩ := HDs.out.cells_at (wr := wr) (fun p hp => hBq.cell hp) hi3
      simp only [Option.some.injEq, Addr.mk.injEq, and_true] at hA'
      obtain ⟨rfl, rfl⟩ := hA'
      clear y0 y1 y2 y4 y5 y6 y7 y8 y9 y10 hi3
      generalize ds[k] = y at y3 yok HT HY
      clear hil
      have yn := yok.1.keep (w' := wr) hBq.size fun p hp => hBq.cell hp
      clear yok hBq
      have yc1 := yn.1
      have yc2 := yn.2.1
      unfold maxLen at yc2
      have i0 : (0 : Int) ≤ (k : Int) := by omega
      have i1 : (k : Int) < (N : Int) := by omega
      have i2 : (k : Int) < (j : Int) := by omega
      by_cases hy1 : y.names.length = 1
      rotate_left
      · have HS := Lib.hid ((HSm.out y).2 hy1)
        have n1 : ((y.names.length : Int) == 1) = false := by simp; omega
        clear hy1 yn
        generalize y.names.length = ny at y3 n1 yc1
        go_wp2_with fail
        go_quiet (fail)
        go_wp2
        go_roundg (j - (k + 1))
        case measure => rw [HGi'.out.1]; omega
        case rel => exact ⟨k + 1, rfl, by omega, by go_num, Lib.hid (by rw [HT.out, HS.out]), below_drewN HGi'.out.2 _⟩
      have HS := Lib.hid ((HSm.out y).1 hy1)
      obtain ⟨yb, yo, ey, hyb, cy⟩ := name_cell yn hy1
      rw [hy1, ey] at y3
      rw [hy1] at yc1
      change wr.cell? ⟨yb, yo, none⟩ = some (.string (nameOf y)) at cy
      clear yn hy1 ey
      generalize nameOf y = sy at cy HS
      have hcm : (sy.toList == sx.toList) = (sx.toList == sy.toList) := Bool.beq_comm
      cases heq : sx.toList == sy.toList with
      | true =>
        rw [heq] at hcm
        have HR := Lib.hid (HE5.out.trans (if_pos (HY.out (by rw [HS.out, heq]))))
        go_wp2_with fail
        go_quiet (fail)
        go_wp2
        go_ret
        exact ⟨by rw [HR.out]; rfl, below_drewN HBq.out _⟩
      | false =>
        rw [heq] at hcm
        go_wp2_with fail
        go_quiet (fail)
        go_wp2
        go_roundg (j - (k + 1))
        case measure => rw [HGi'.out.1]; omega
        case rel => exact ⟨k + 1, rfl, by omega, by go_num, Lib.hid (by rw [HT.out, HS.out, heq]), below_drewN HGi'.out.2 _⟩
end Go.Proofs.YtacjjkbkhpdhnaaGreatDoor
/- What a module is like that is not great -/
namespace Go.Proofs.YtacjjkbkhpdhnaaGreatDoor
open Go.RowKit Go.Proofs Go.Shelf
theorem short_of' : ∀ s : Fo, s.longB = false → s.Short
  | .nil, _ => trivial
  | .cons _ n m _ _ _ _ s r, h => by
    simp only [Fo.longB, Bool.or_eq_false_iff, decide_eq_false_iff_not] at h
    exact ⟨⟨by omega, by omega⟩, short_of' s h.1.2, short_of' r h.2⟩
theorem small_mod' {label : ByteArray} {uses : List ByteArray} {decls : List Dc} (hg : greatM label uses decls = false) (hc : ∀ x ∈ decls, x.s.count ≤ 2000000) : ModS label uses decls ∧ ∀ x ∈ decls, x.s.count ≤ 39 := by
  simp only [greatM, greatU, greatD, Bool.or_eq_false_iff, decide_eq_false_iff_not, List.any_eq_false] at hg
  obtain ⟨⟨h1, _, h2⟩, _, h3⟩ := hg
  have hx : ∀ x ∈ decls, x.Sht ∧ x.s.count ≤ 39 := fun x hx => by
    have h := h3 x hx
    simp only [greatD1, greatE, greatN, Bool.or_eq_true, not_or, decide_eq_true_eq, List.any_eq_true, not_exists, not_and, Bool.not_eq_true] at h
    obtain ⟨⟨_, hn, hl⟩, hnm⟩ := h
    have hcx := hc x hx
    have hw : wrap64 (1 + (x.s.count : Int)) = 1 + x.s.count := wrap64_small (by omega) (by omega)
    rw [hw] at hn
    obtain ⟨⟨hl1, hl2⟩, hl3⟩ := hl
    refine ⟨⟨⟨by omega, by omega⟩, short_of' x.s hl3, by omega, fun s hs => ?_⟩, by omega⟩
    have := hnm s hs
    omega
  refine ⟨⟨by omega, fun s hs => ?_, fun x h => (hx x h).1⟩, fun x h => (hx x h).2⟩
  have := h2 s hs
  simp only [decide_eq_true_eq] at this
  omega
end Go.Proofs.YtacjjkbkhpdhnaaGreatDoor
