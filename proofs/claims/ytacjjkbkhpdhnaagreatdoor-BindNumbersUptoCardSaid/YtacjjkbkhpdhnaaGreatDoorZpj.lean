/- bind.Bind: the function that replaces nodes (printed by gen_bgc.py) -/
import Derived.Test.YtacjjkbkhpdhnaaGreatDoorSxg
import Derived.Test.YtacjjkbkhpdhnaaGreatDoorZpd
import Derived.Test.YtacjjkbkhpdhnaaGreatDoorZpe
import Derived.Test.YtacjjkbkhpdhnaaGreatDoorZpg
import Derived.Test.YtacjjkbkhpdhnaaGreatDoorZph
import Derived.Deep.DeepCutAuto
import Derived.Test.YtacjjkbkhpdhnaaGreatDoorZlf
import Derived.Test.YtacjjkbkhpdhnaaGreatDoorZpf
import Derived.Deep.AppendLies
import Derived.Deep.RegionHeld3
namespace Go.Proofs.YtacjjkbkhpdhnaaGreatDoor
open Go.RowKit Go.Proofs Go.Shelf

set_option maxHeartbeats 400000 in
theorem bBind11_any (m : ByteArray) (eb : Nat) (x : Sg) (Z : World) (hm : Z.cell? ⟨eb, 2, none⟩ = some (.string m)) :
    Calls Tryz.prog 67 (#[.agg x.cells] ++ #[.pointer (some ⟨eb, 0, none⟩)]) Z fun e Y => e = .returned (.bool (x.name.toList == m.toList)) ∧ Below Z.heap.size Z Y := by
  obtain ⟨id, name, vars, kind, var, tA, tn, tc⟩ := x
  simp only [Sg.cells, List.append_toArray, List.cons_append, List.nil_append]
  obtain ⟨W0, hW0⟩ : ∃ W0, Z.alloc (.cells #[.int .i64 id, .string name, .int .i64 vars, .int .i64 kind, .int .i64 var, .slice tA tn tc] 100) = W0 := ⟨_, rfl⟩
  have hb0 : Below Z.heap.size Z W0 := by rw [← hW0]; exact (Below.refl _ _).alloc (Nat.le_refl _) _
  have hr0 : W0.heap[Z.heap.size]? = some (.cells #[.int .i64 id, .string name, .int .i64 vars, .int .i64 kind, .int .i64 var, .slice tA tn tc] 100 (0, 0)) := by rw [← hW0]; exact heap_alloc_new _ _
  have e1 : W0.cell? ⟨Z.heap.size, 1, none⟩ = some (.string name) := cell_of_row W0 _ 1 _ _ (0, 0) hr0
  have e2 : W0.cell? ⟨eb, 2, none⟩ = some (.string m) := (hb0.cell (p := ⟨eb, 2, none⟩) (World.block_lt_of_cell? Z _ hm)).trans hm
  have HB := Lib.hid hb0
  clear hb0 hr0 hm
  go_enter Tryz.func67, Tryz.ntmps67
  go_wp2
  go_ret
  exact ⟨rfl, HB.out⟩
set_option maxRecDepth 100000 in
set_option maxHeartbeats 8000000 in
theorem bBind1_any (w00 : World) (ids : ByteArray → Option Int) (labs : ByteArray → Option ByteArray) (known : List If) (kA : Option Addr) (kc p1 p2 p3 ib lk N1 N2 : Nat)
    (h1 : w00.cell? ⟨p1, 0, none⟩ = some (.map (some ib))) (h2 : w00.cell? ⟨p2, 0, none⟩ = some (.map (some lk))) (h3 : w00.cell? ⟨p3, 0, none⟩ = some (.slice kA known.length kc))
    (hi : MapA strK w00 ib N1 (fun s => (ids s).map (Value.int .i64))) (hl : MapA strK w00 lk N2 (fun s => (labs s).map Value.string)) (hk : SlI w00 w00.heap.size kA kc known) :
    ReplOk w00 64 #[.pointer (some ⟨p1, 0, none⟩), .pointer (some ⟨p2, 0, none⟩), .pointer (some ⟨p3, 0, none⟩)] (gBind ids labs known) := by
  refine ⟨enterFn (fid := 64) rfl rfl rfl, fun k n m i d A l c b sc X hn hm hX hset => ?_⟩
  obtain ⟨W1, hW1⟩ : ∃ W1, (X.alloc (.cells #[.int .i64 k, .string n, .string m, .int .i64 i, .int .i64 d, .slice A l c] 28)).alloc (.cells #[.int .i64 0, .string ⟨#[]⟩, .string ⟨#[]⟩, .int .i64 0, .int .i64 0, .slice none 0 0] 28) = W1 := ⟨_, rfl⟩
  have hB1 : Below X.heap.size X W1 := by rw [← hW1]; exact ((Below.refl _ _).alloc (Nat.le_refl _) _).alloc (by simp) _
  have hz1 : X.heap.size + 1 < W1.heap.size := by rw [← hW1]; simp
  have hx0 : W1.heap[X.heap.size]? = some (.cells #[.int .i64 k, .string n, .string m, .int .i64 i, .int .i64 d, .slice A l c] 28 (0, 0)) := by rw [← hW1]; exact (Below.heap_alloc _ _ _ (by simp)).trans (heap_alloc_new X _)
  have hr : W1.heap[X.heap.size + 1]? = some (.cells #[.int .i64 0, .string ⟨#[]⟩, .string ⟨#[]⟩, .int .i64 0, .int .i64 0, .slice none 0 0] 28 (0, 0)) := by
    have := heap_alloc_new (X.alloc (.cells #[.int .i64 k, .string n, .string m, .int .i64 i, .int .i64 d, .slice A l c] 28)) (.cells #[.int .i64 0, .string ⟨#[]⟩, .string ⟨#[]⟩, .int .i64 0, .int .i64 0, .slice none 0 0] 28)
    rw [hW1] at this
    simpa using this
  have x0 := cell_of_row W1 X.heap.size 0 _ _ (0, 0) hx0
  have x1 := cell_of_row W1 X.heap.size 1 _ _ (0, 0) hx0
  have x2 := cell_of_row W1 X.heap.size 2 _ _ (0, 0) hx0
  have x3 := cell_of_row W1 X.heap.size 3 _ _ (0, 0) hx0
  have x4 := cell_of_row W1 X.heap.size 4 _ _ (0, 0) hx0
  have x5 := cell_of_row W1 X.heap.size 5 _ _ (0, 0) hx0
  simp at x0 x1 x2 x3 x4 x5
  have h01 := hX.trans (hB1.mono hX.size)
  have c1 := (h01.cell (p := ⟨p1, 0, none⟩) (World.block_lt_of_cell? w00 _ h1)).trans h1
  have c2 := (h01.cell (p := ⟨p2, 0, none⟩) (World.block_lt_of_cell? w00 _ h2)).trans h2
  have c3 := (h01.cell (p := ⟨p3, 0, none⟩) (World.block_lt_of_cell? w00 _ h3)).trans h3
  have hset1 := hset.keep (hB1.block _ hset.lt)
  have hlk : (Instr.lookup 89 (.map (some b)) (.string n) false).run Tryz.prog W1 = .ok (.bool (hasN sc n)) W1 := by
    rw [← keyS_has]
    exact hset1.look strKeyed Tryz.underlying89 (keyS_of hn)
  have hi1 := hi.keep (h01.block _ hi.lt)
  have hl1 := hl.keep (h01.block _ hl.lt)
  have hli := hi1.look true Tryz.underlying87 (z := .int .i64 0) (by kernel_rfl) (a := n) hn
  have hll := hl1.look true Tryz.underlying88 (z := .string ⟨#[]⟩) (by kernel_rfl) (a := n) hn
  simp only [strK, if_true] at hli hll
  obtain ⟨NK, HNK⟩ : ∃ Q, Hid (known.length = Q) := ⟨_, Lib.hid rfl⟩
  rw [HNK.out] at c3
  have HH := Lib.hid (And.intro hX (And.intro hB1 (And.intro hx0 (And.intro h01 (And.intro hk (And.intro hm hz1))))))
  obtain ⟨sb, Hsb⟩ : ∃ Q, Hid (hasN sc n = Q) := ⟨_, Lib.hid rfl⟩
  obtain ⟨io, Hio⟩ : ∃ Q, Hid (ids n = Q) := ⟨_, Lib.hid rfl⟩
  obtain ⟨lo, Hlo⟩ : ∃ Q, Hid (labs n = Q) := ⟨_, Lib.hid rfl⟩
  rw [Hsb.out] at hlk
  rw [Hio.out] at hli
  rw [Hlo.out] at hll
  clear hX hB1 hx0 h01 hk hm hn hset hset1 hi hl hi1 hl1 h1 h2 h3 hz1
  simp only [List.append_toArray, List.cons_append, List.nil_append]
  by_cases h3 : k = 3 ∧ sb = false
  · obtain ⟨rfl, rfl⟩ := h3
    cases io with
    | none =>
      have HG := Lib.hid (show gBind ids labs known ⟨3, n, m, i, d⟩ sc = (21, noNx) by unfold gBind; rw [if_pos ⟨rfl, Hsb.out⟩, Hio.out])
      simp only [Option.map_none, Option.getD_none, Option.isSome_none] at hli
      have hBx := HH.out.2.1
      go_enter Tryz.func64, Tryz.ntmps64
      obtain ⟨y0, y1, y2, y3, y4, y5, z0, z1, z2, z3, z4, z5⟩ := row6 hr
      have HS := Lib.hid (six_set hr (.int .i64 0) (.string ⟨#[]⟩) (.string ⟨#[]⟩) (.int .i64 0) (.int .i64 0) (.slice none 0 0))
      have HBx := Lib.hid hBx
      clear hr hBx
      go_wp2
      obtain ⟨W9, hW9, s0, s1, s2, s3, s4, s5, hBf, hsz, hbk⟩ := out6 HS.out HBx.out (by omega)
      rw [hW9]
      refine bodyPost_ret (v := .tuple #[.agg #[.int .i64 0, .string ⟨#[]⟩, .string ⟨#[]⟩, .int .i64 0, .int .i64 0, .slice none 0 0], .int .i64 21]) (by simp [results, Tryz.results64, go_sem, s0, s1, s2, s3, s4, s5]) rfl ?_
      rw [HG.out]
      exact ⟨_, _, _, rfl, hBf⟩
    | some q =>
      have HG := Lib.hid (show gBind ids labs known ⟨3, n, m, i, d⟩ sc = (0, ⟨5, ⟨#[]⟩, ⟨#[]⟩, q, 0⟩) by unfold gBind; rw [if_pos ⟨rfl, Hsb.out⟩, Hio.out])
      simp only [Option.map_some, Option.getD_some, Option.isSome_some] at hli
      have hBx := HH.out.2.1
      go_enter Tryz.func64, Tryz.ntmps64
      obtain ⟨y0, y1, y2, y3, y4, y5, z0, z1, z2, z3, z4, z5⟩ := row6 hr
      have HS := Lib.hid (six_set hr (.int .i64 5) (.string ⟨#[]⟩) (.string ⟨#[]⟩) (.int .i64 q) (.int .i64 0) (.slice none 0 0))
      have HBx := Lib.hid hBx
      clear hr hBx
      go_wp2
      obtain ⟨W9, hW9, s0, s1, s2, s3, s4, s5, hBf, hsz, hbk⟩ := out6 HS.out HBx.out (by omega)
      rw [hW9]
      refine bodyPost_ret (v := .tuple #[.agg #[.int .i64 5, .string ⟨#[]⟩, .string ⟨#[]⟩, .int .i64 q, .int .i64 0, .slice none 0 0], .int .i64 0]) (by simp [results, Tryz.results64, go_sem, s0, s1, s2, s3, s4, s5]) rfl ?_
      rw [HG.out]
      exact ⟨_, _, _, rfl, hBf⟩
  have k3 : (k == 3) = false ∨ ((k == 3) = true ∧ sb = true) := by
    by_cases hk3 : k = 3
    · right
      refine ⟨by simpa using hk3, ?_⟩
      cases sb with
      | true => rfl
      | false => exact absurd ⟨hk3, rfl⟩ h3
    · left
      simpa using hk3
  have HN3 := Lib.hid (show ¬ (k = 3 ∧ hasN sc n = false) by rw [Hsb.out]; exact h3)
  clear h3 hli
  by_cases h4 : k = 4
  rotate_left
  · have HG := Lib.hid (show gBind ids labs known ⟨k, n, m, i, d⟩ sc = (0, ⟨k, n, m, i, d⟩) by unfold gBind; rw [if_neg HN3.out, if_neg h4])
    have k4 : (k == 4) = false := by simpa using h4
    clear h4
    rcases k3 with k3 | ⟨k3, rfl⟩
    · have hBx := HH.out.2.1
      go_enter Tryz.func64, Tryz.ntmps64
      obtain ⟨y0, y1, y2, y3, y4, y5, z0, z1, z2, z3, z4, z5⟩ := row6 hr
      have HS := Lib.hid (six_set hr (.int .i64 k) (.string n) (.string m) (.int .i64 i) (.int .i64 d) (.slice A l c))
      have HBx := Lib.hid hBx
      clear hr hBx
      go_wp2
      obtain ⟨W9, hW9, s0, s1, s2, s3, s4, s5, hBf, hsz, hbk⟩ := out6 HS.out HBx.out (by omega)
      rw [hW9]
      refine bodyPost_ret (v := .tuple #[.agg #[.int .i64 k, .string n, .string m, .int .i64 i, .int .i64 d, .slice A l c], .int .i64 0]) (by simp [results, Tryz.results64, go_sem, s0, s1, s2, s3, s4, s5]) rfl ?_
      rw [HG.out]
      exact ⟨_, _, _, rfl, hBf⟩
    · have hBx := HH.out.2.1
      go_enter Tryz.func64, Tryz.ntmps64
      obtain ⟨y0, y1, y2, y3, y4, y5, z0, z1, z2, z3, z4, z5⟩ := row6 hr
      have HS := Lib.hid (six_set hr (.int .i64 k) (.string n) (.string m) (.int .i64 i) (.int .i64 d) (.slice A l c))
      have HBx := Lib.hid hBx
      clear hr hBx
      go_wp2
      obtain ⟨W9, hW9, s0, s1, s2, s3, s4, s5, hBf, hsz, hbk⟩ := out6 HS.out HBx.out (by omega)
      rw [hW9]
      refine bodyPost_ret (v := .tuple #[.agg #[.int .i64 k, .string n, .string m, .int .i64 i, .int .i64 d, .slice A l c], .int .i64 0]) (by simp [results, Tryz.results64, go_sem, s0, s1, s2, s3, s4, s5]) rfl ?_
      rw [HG.out]
      exact ⟨_, _, _, rfl, hBf⟩
  subst h4
  have k3' : ((4 : Int) == 3) = false := rfl
  clear k3 hlk
  cases lo with
  | none =>
    have HG := Lib.hid (show gBind ids labs known ⟨4, n, m, i, d⟩ sc = (21, noNx) by unfold gBind; rw [if_neg HN3.out, if_pos rfl, Hlo.out])
    simp only [Option.map_none, Option.getD_none, Option.isSome_none] at hll
    have hBx := HH.out.2.1
    go_enter Tryz.func64, Tryz.ntmps64
    obtain ⟨y0, y1, y2, y3, y4, y5, z0, z1, z2, z3, z4, z5⟩ := row6 hr
    have HS := Lib.hid (six_set hr (.int .i64 0) (.string ⟨#[]⟩) (.string ⟨#[]⟩) (.int .i64 0) (.int .i64 0) (.slice none 0 0))
    have HBx := Lib.hid hBx
    clear hr hBx
    go_wp2
    obtain ⟨W9, hW9, s0, s1, s2, s3, s4, s5, hBf, hsz, hbk⟩ := out6 HS.out HBx.out (by omega)
    rw [hW9]
    refine bodyPost_ret (v := .tuple #[.agg #[.int .i64 0, .string ⟨#[]⟩, .string ⟨#[]⟩, .int .i64 0, .int .i64 0, .slice none 0 0], .int .i64 21]) (by simp [results, Tryz.results64, go_sem, s0, s1, s2, s3, s4, s5]) rfl ?_
    rw [HG.out]
    exact ⟨_, _, _, rfl, hBf⟩
  | some lab =>
    simp only [Option.map_some, Option.getD_some, Option.isSome_some] at hll
    have hif := interfaceOf_any known lab kA kc W1 (HH.out.2.2.2.2.1.below HH.out.2.2.2.1)
    obtain ⟨f, Hf⟩ : ∃ Q, Hid ((faceO known lab).getD noIf = Q) := ⟨_, Lib.hid rfl⟩
    obtain ⟨fb, Hfb⟩ : ∃ Q, Hid ((faceO known lab).isSome = Q) := ⟨_, Lib.hid rfl⟩
    rw [HNK.out, Hf.out, Hfb.out] at hif
    obtain ⟨fl, fA, fc, fs⟩ := f
    simp only [If.cells] at hif
    obtain ⟨NS, HNS⟩ : ∃ Q, Hid (fs.length = Q) := ⟨_, Lib.hid rfl⟩
    rw [HNS.out] at hif
    have HIF := Lib.hid hif
    have HSG := Lib.hid (show ∀ Y : World, Below W1.heap.size W1 Y → SlG Y Y.heap.size fA fc fs from fun Y hY => by
      have hkY := HH.out.2.2.2.2.1.below (HH.out.2.2.2.1.trans (hY.mono HH.out.2.2.2.1.size))
      cases hfo : faceO known lab with
      | none =>
        have := Hf.out
        rw [hfo] at this
        simp only [Option.getD_none, noIf, If.mk.injEq] at this
        obtain ⟨_, rfl, rfl, rfl⟩ := this
        exact SlG.nil _ _ _ _ (Nat.zero_le _)
      | some y =>
        have := Hf.out
        rw [hfo] at this
        simp only [Option.getD_some] at this
        subst this
        obtain ⟨j, hj⟩ := List.getElem?_of_mem (List.mem_of_find?_eq_some hfo)
        obtain ⟨_, _, _, _, _, _, hs⟩ := hkY.at_ hj
        exact hs)
    have HSo := Lib.hid (show sigsOf known lab = fs by unfold sigsOf; rw [Hf.out])
    have hfn := enterFn (fid := 67) rfl rfl rfl
    have HFn := Lib.hid hfn
    have hmf : ∀ (fn : Fn) (first cap : Array Value) (w : World), (Instr.makeFunc fn first cap).run Tryz.prog w = .ok (.func fn first cap) w := fun _ _ _ _ => rfl
    have HR := Lib.hid hr
    clear hif hfn hr
    go_enter Tryz.func64, Tryz.ntmps64
    go_wp2_with fail
    refine HIF.out.mono ?_
    rintro e w2 ⟨rfl, hb2⟩
    obtain ⟨W3, hW3⟩ : ∃ q, w2.alloc (.cells #[.string fl, .slice fA NS fc] 55) = q := ⟨_, rfl⟩
    have hb3 : Below W1.heap.size W1 W3 := by rw [← hW3]; exact hb2.alloc hb2.size _
    have hx3 : W3.heap[w2.heap.size]? = some (.cells #[.string fl, .slice fA NS fc] 55 (0, 0)) := by rw [← hW3]; exact heap_alloc_new _ _
    have q0 : W3.cell? ⟨w2.heap.size, 0, none⟩ = some (.string fl) := cell_of_row W3 _ 0 _ _ (0, 0) hx3
    have q1 : W3.cell? ⟨w2.heap.size, 1, none⟩ = some (.slice fA NS fc) := cell_of_row W3 _ 1 _ _ (0, 0) hx3
    have hbox := (hb3.block _ (by have := HH.out.2.2.2.2.2.2; omega)).trans HH.out.2.2.1
    have hsg := signature_any W3 67 #[.pointer (some ⟨X.heap.size, 0, none⟩)] (fun s => s.name.toList == m.toList) ⟨HFn.out, fun s Y hY => bBind11_any m X.heap.size s Y (by
      have h := (hY.block _ (Array.getElem?_eq_some_iff.1 hbox).1).trans hbox
      exact cell_of_row Y _ 2 _ _ (0, 0) h)⟩ ⟨fl, fA, fc, fs⟩ W3 (HSG.out W3 hb3) (Below.refl _ _)
    simp only [If.cells] at hsg
    obtain ⟨so, Hso⟩ : ∃ Q, Hid (sigO fs (fun s => s.name.toList == m.toList) = Q) := ⟨_, Lib.hid rfl⟩
    obtain ⟨sg, Hsg⟩ : ∃ Q, Hid (so.getD noSg = Q) := ⟨_, Lib.hid rfl⟩
    obtain ⟨sb2, Hsb2⟩ : ∃ Q, Hid (so.isSome = Q) := ⟨_, Lib.hid rfl⟩
    rw [HNS.out, Hso.out, Hsg.out, Hsb2.out] at hsg
    obtain ⟨gid, gname, gvars, gkind, gvar, gA, gn, gc⟩ := sg
    simp only [Sg.cells] at hsg
    have HSg := Lib.hid hsg
    have HB3 := Lib.hid hb3
    clear hb2 hb3 hx3 hbox hsg x0 x1 x3 x4 x5 c1 c2 c3 hll
    go_wp2_with fail
    refine HSg.out.mono ?_
    rintro e w4 ⟨rfl, hb4⟩
    obtain ⟨W5, hW5⟩ : ∃ q, w4.alloc (.cells #[.int .i64 gid, .string gname, .int .i64 gvars, .int .i64 gkind, .int .i64 gvar, .slice gA gn gc] 100) = q := ⟨_, rfl⟩
    have hb5 : Below W3.heap.size W3 W5 := by rw [← hW5]; exact hb4.alloc hb4.size _
    have hx5 : W5.heap[w4.heap.size]? = some (.cells #[.int .i64 gid, .string gname, .int .i64 gvars, .int .i64 gkind, .int .i64 gvar, .slice gA gn gc] 100 (0, 0)) := by rw [← hW5]; exact heap_alloc_new _ _
    have g0 : W5.cell? ⟨w4.heap.size, 0, none⟩ = some (.int .i64 gid) := cell_of_row W5 _ 0 _ _ (0, 0) hx5
    have hb15 := HB3.out.trans (hb5.mono HB3.out.size)
    have hr5 := (hb15.block _ (by have := HH.out.2.2.2.2.2.2; omega)).trans HR.out
    have hBx := HH.out.2.1.trans (hb15.mono HH.out.2.1.size)
    clear hb4 hb5 hb15 hx5
    cases sb2 with
    | false =>
      have HG := Lib.hid (show gBind ids labs known ⟨4, n, m, i, d⟩ sc = (21, noNx) by
        have hn : so = none := by have := Hsb2.out; simpa using this
        unfold gBind
        rw [if_neg HN3.out, if_pos rfl, Hlo.out]
        simp only [HSo.out, Hso.out, hn])
      obtain ⟨y0, y1, y2, y3, y4, y5, z0, z1, z2, z3, z4, z5⟩ := row6 hr5
      have HS := Lib.hid (six_set hr5 (.int .i64 0) (.string ⟨#[]⟩) (.string ⟨#[]⟩) (.int .i64 0) (.int .i64 0) (.slice none 0 0))
      have HBx := Lib.hid hBx
      clear hr5 hBx
      go_wp2
      obtain ⟨W9, hW9, s0, s1, s2, s3, s4, s5, hBf, hsz, hbk⟩ := out6 HS.out HBx.out (by omega)
      rw [hW9]
      refine bodyPost_ret (v := .tuple #[.agg #[.int .i64 0, .string ⟨#[]⟩, .string ⟨#[]⟩, .int .i64 0, .int .i64 0, .slice none 0 0], .int .i64 21]) (by simp [results, Tryz.results64, go_sem, s0, s1, s2, s3, s4, s5]) rfl ?_
      rw [HG.out]
      exact ⟨_, _, _, rfl, hBf⟩
    | true =>
      have HG := Lib.hid (show gBind ids labs known ⟨4, n, m, i, d⟩ sc = (0, ⟨5, lab, ⟨#[]⟩, gid, 0⟩) by
        obtain ⟨s, hs⟩ : ∃ s, so = some s := Option.isSome_iff_exists.1 Hsb2.out
        have h1 := Hsg.out
        rw [hs] at h1
        simp only [Option.getD_some] at h1
        unfold gBind
        rw [if_neg HN3.out, if_pos rfl, Hlo.out]
        simp only [HSo.out, Hso.out, hs, h1])
      obtain ⟨y0, y1, y2, y3, y4, y5, z0, z1, z2, z3, z4, z5⟩ := row6 hr5
      have HS := Lib.hid (six_set hr5 (.int .i64 5) (.string lab) (.string ⟨#[]⟩) (.int .i64 gid) (.int .i64 0) (.slice none 0 0))
      have HBx := Lib.hid hBx
      clear hr5 hBx
      go_wp2
      obtain ⟨W9, hW9, s0, s1, s2, s3, s4, s5, hBf, hsz, hbk⟩ := out6 HS.out HBx.out (by omega)
      rw [hW9]
      refine bodyPost_ret (v := .tuple #[.agg #[.int .i64 5, .string lab, .string ⟨#[]⟩, .int .i64 gid, .int .i64 0, .slice none 0 0], .int .i64 0]) (by simp [results, Tryz.results64, go_sem, s0, s1, s2, s3, s4, s5]) rfl ?_
      rw [HG.out]
      exact ⟨_, _, _, rfl, hBf⟩
end Go.Proofs.YtacjjkbkhpdhnaaGreatDoor
/- bind.checkBind -/
namespace Go.Proofs.YtacjjkbkhpdhnaaGreatDoor
open Go.RowKit Go.Proofs Go.Shelf

set_option maxRecDepth 100000 in
set_option maxHeartbeats 4000000 in
theorem checkBind_any (label : ByteArray) (uses : List ByteArray) (uA : Option Addr) (uc : Nat) (ds : List Dc) (dA : Option Addr) (dc : Nat) (known : List If) (kA : Option Addr) (kc : Nat) (w : World) (hu : SlS w w.heap.size uA uc uses) (hd : SlD w w.heap.size dA dc ds) (hst : StrD ds) (hk : SlI w w.heap.size kA kc known) :
    Calls Tryz.prog 63 #[.string label, .agg #[.slice uA uses.length uc, .slice dA ds.length dc], .slice kA known.length kc] w fun e w' => e = .returned (.int .i64 (cbE label uses ds known)) ∧ Below w.heap.size w w' := by
  obtain ⟨E, HE⟩ : ∃ Q, Hid (cbE label uses ds known = Q) := ⟨_, Lib.hid rfl⟩
  rw [HE.out]
  obtain ⟨W0, hW0⟩ : ∃ W0, w.alloc (.cells #[.slice uA uses.length uc, .slice dA ds.length dc] 40) = W0 := ⟨_, rfl⟩
  have hb0 : Below w.heap.size w W0 := by rw [← hW0]; exact (Below.refl _ _).alloc (Nat.le_refl _) _
  have hz0 : w.heap.size < W0.heap.size := by rw [← hW0]; simp
  have hr0 : W0.heap[w.heap.size]? = some (.cells #[.slice uA uses.length uc, .slice dA ds.length dc] 40 (0, 0)) := by rw [← hW0]; exact heap_alloc_new _ _
  have hul1 := hu.1
  have hul2 := hu.2.1
  have hdl1 := hd.1
  have hdl2 := hd.2.1
  have hkl2 := hk.2.1
  unfold maxLen at hul2 hdl2 hkl2
  have HX := Lib.hid (show ∀ X : World, Below W0.heap.size W0 X → Below w.heap.size w X ∧ SlS X X.heap.size uA uc uses ∧ SlD X X.heap.size dA dc ds ∧ SlI X X.heap.size kA kc known ∧ X.heap[w.heap.size]? = some (.cells #[.slice uA uses.length uc, .slice dA ds.length dc] 40 (0, 0)) from fun X hX => by
    have h1 := hb0.trans (hX.mono hb0.size)
    exact ⟨h1, hu.keep h1.size (fun p hp => h1.cell hp), hd.keep h1.size (fun p hp => h1.cell hp), hk.below h1, (hX.block _ hz0).trans hr0⟩)
  obtain ⟨M, HM⟩ : ∃ Q, Hid (uses.length = Q) := ⟨_, Lib.hid rfl⟩
  obtain ⟨N, HN⟩ : ∃ Q, Hid (ds.length = Q) := ⟨_, Lib.hid rfl⟩
  obtain ⟨K, HK⟩ : ∃ Q, Hid (known.length = Q) := ⟨_, Lib.hid rfl⟩
  rw [HM.out] at hul1
  rw [HN.out] at hdl1
  rw [HM.out, HN.out] at HX hW0
  rw [HM.out, HN.out, HK.out]
  obtain ⟨bl, Hbl⟩ : ∃ Q, Hid (labelB label = Q) := ⟨_, Lib.hid rfl⟩
  obtain ⟨E1, HE1⟩ : ∃ Q, Hid (srcDE uses ds = Q) := ⟨_, Lib.hid rfl⟩
  obtain ⟨bz, Hbz⟩ : ∃ Q, Hid (ds.any (fun x => x.id == 0) = Q) := ⟨_, Lib.hid rfl⟩
  have HD := Lib.hid (show E = if bl = false then 6 else if E1 ≠ 0 then E1 else if bz = true then 2 else cbUses label known uses M 0 by rw [← HE.out, cbE, Hbl.out, HE1.out, Hbz.out, HM.out])
  have HL := Lib.hid (label_any label W0)
  rw [Hbl.out] at HL
  have HB0 := Lib.hid (And.intro hb0 hst)
  clear hu hd hst hk hb0 hr0 HE
  go_enter Tryz.func63, Tryz.ntmps63
  go_wp2_with fail
  refine HL.out.mono ?_
  rintro e w1 ⟨rfl, hb1⟩
  have HB1 := Lib.hid hb1
  clear hb1 HL
  cases bl with
  | false =>
    have HR := Lib.hid (show E = 6 from HD.out.trans (if_pos rfl))
    have HBf := Lib.hid (HX.out w1 HB1.out).1
    go_wp2
    go_ret
    exact ⟨by rw [HR.out]; rfl, HBf.out⟩
  | true =>
  have HD1 := Lib.hid (HD.out.trans (if_neg (by simp)))
  obtain ⟨hbw, hsu, hsd, hsk, hr⟩ := HX.out w1 HB1.out
  have hcs := checkSourceD_any uses uA uc ds dA dc w1 hsu hsd HB0.out.2
  rw [HM.out, HN.out, HE1.out] at hcs
  have HCS := Lib.hid hcs
  have t0 : w1.cell? ⟨w.heap.size, 0, none⟩ = some (.slice uA M uc) := cell_of_row w1 _ 0 _ _ (0, 0) hr
  have t1 : w1.cell? ⟨w.heap.size, 1, none⟩ = some (.slice dA N dc) := cell_of_row w1 _ 1 _ _ (0, 0) hr
  clear hbw hsu hsd hsk hr hcs hW0
  go_wp2_with fail
  refine HCS.out.mono ?_
  rintro e w2 ⟨rfl, hb2⟩
  have HB2 := Lib.hid (HB1.out.trans (hb2.mono HB1.out.size))
  clear hb2 HCS t0 t1
  by_cases he1 : E1 = 0
  rotate_left
  · have HR := Lib.hid (show E = E1 from HD1.out.trans (if_pos he1))
    have he1' : (E1 != 0) = true := by simpa using he1
    have HBf := Lib.hid (HX.out w2 HB2.out).1
    clear he1
    go_wp2
    go_ret
    exact ⟨by rw [HR.out]; rfl, HBf.out⟩
  subst he1
  have HD2 := Lib.hid (HD1.out.trans (if_neg (by simp)))
  obtain ⟨hbw, _, _, _, hr⟩ := HX.out w2 HB2.out
  have t1 : w2.cell? ⟨w.heap.size, 1, none⟩ = some (.slice dA N dc) := cell_of_row w2 _ 1 _ _ (0, 0) hr
  clear hbw hr
  go_wp2
  go_loopg [9, 26] N (fun gg _ ct wr => ∃ j : Nat, gg = N - j ∧ j ≤ N ∧ ct = .int .i64 j ∧ (ds.take j).any (fun x => x.id == 0) = false ∧ Below W0.heap.size W0 wr)
  case atStart => exact ⟨0, rfl, by omega, rfl, rfl, HB2.out⟩
  case round =>
    obtain ⟨j, HG, hj, rfl, HA, hB⟩ := hrel
    have hzr := hB.size
    by_cases hlt : j < N
    · have hlt' : j < ds.length := by rw [HN.out]; exact hlt
      obtain ⟨x, hx⟩ : ∃ x, ds[j]? = some x := ⟨_, List.getElem?_eq_getElem hlt'⟩
      obtain ⟨hbw, _, hsd, _, _⟩ := HX.out wr hB
      obtain ⟨b, o, rfl, hb, hall⟩ := hsd.2.2 (by intro e; rw [e] at hlt'; simp at hlt')
      obtain ⟨hcs, _⟩ := hall j x hx
      have hx2 := hx
      obtain ⟨xid, xkind, xpub, xnA, xnc, xnames, xdoubt, xk, xn, xm, xi, xd, xA, xc, xs⟩ := x
      have d0 : wr.cell? ⟨b, o + j * 11, none⟩ = some (.int .i64 xid) := hcs 0 _ rfl
      have d1 : wr.cell? ⟨b, o + j * 11 + 1, none⟩ = some (.int .i64 xkind) := hcs 1 _ rfl
      have d2 : wr.cell? ⟨b, o + j * 11 + 2, none⟩ = some (.bool xpub) := hcs 2 _ rfl
      have d3 : wr.cell? ⟨b, o + j * 11 + 3, none⟩ = some (.slice xnA xnames.length xnc) := hcs 3 _ rfl
      have d4 : wr.cell? ⟨b, o + j * 11 + 4, none⟩ = some (.bool xdoubt) := hcs 4 _ rfl
      have d5 : wr.cell? ⟨b, o + j * 11 + 5, none⟩ = some (.int .i64 xk) := hcs 5 _ rfl
      have d6 : wr.cell? ⟨b, o + j * 11 + 6, none⟩ = some (.string xn) := hcs 6 _ rfl
      have d7 : wr.cell? ⟨b, o + j * 11 + 7, none⟩ = some (.string xm) := hcs 7 _ rfl
      have d8 : wr.cell? ⟨b, o + j * 11 + 8, none⟩ = some (.int .i64 xi) := hcs 8 _ rfl
      have d9 : wr.cell? ⟨b, o + j * 11 + 9, none⟩ = some (.int .i64 xd) := hcs 9 _ rfl
      have d10 : wr.cell? ⟨b, o + j * 11 + 10, none⟩ = some (.slice xA xs.len xc) := hcs 10 _ rfl
      have htk : (ds.take (j + 1)).any (fun x => x.id == 0) = (xid == 0) := by
        rw [List.take_succ_eq_append_getElem hlt', List.any_append, HA]
        have : ds[j] = _ := (List.getElem?_eq_some_iff.1 hx).2
        rw [this]
        simp
      have hmem := List.mem_of_getElem? hx
      have HT := Lib.hid (And.intro HG (And.intro htk (And.intro hB (And.intro hbw hmem))))
      clear HG HA hB hbw hsd hall hcs hx hx2 htk hmem
      cases hid : (xid == 0) with
      | true =>
        have HR := Lib.hid (show E = 2 by
          rw [HD2.out, ← Hbz.out, if_pos]
          exact List.any_eq_true.2 ⟨_, HT.out.2.2.2.2, hid⟩)
        go_wp2
        go_ret
        exact ⟨by rw [HR.out]; rfl, HT.out.2.2.2.1.alloc HT.out.2.2.2.1.size _⟩
      | false =>
        have HI := Lib.hid hid
        go_wp2
        go_roundg (N - (j + 1))
        case measure => rw [HT.out.1]; omega
        case rel => exact ⟨j + 1, rfl, by omega, by go_num, by rw [HT.out.2.1]; exact HI.out, HT.out.2.2.1.alloc HT.out.2.2.1.size _⟩
    · have hjN : N = j := by omega
      have HD3 := Lib.hid (show E = cbUses label known uses M 0 by
        rw [HD2.out, if_neg]
        rw [← Hbz.out, ← List.take_of_length_le (show ds.length ≤ j by rw [HN.out]; omega), HA]
        simp)
      obtain ⟨hbw, _, _, _, hr⟩ := HX.out wr hB
      have t0 : wr.cell? ⟨w.heap.size, 0, none⟩ = some (.slice uA M uc) := cell_of_row wr _ 0 _ _ (0, 0) hr
      have i2 : decide ((j : Int) < (N : Int)) = false := decide_eq_false (by omega)
      have i3 : decide (j < N) = false := decide_eq_false (by omega)
      have HBr := Lib.hid hB
      clear hbw hr HA hB hjN
      go_wp2
      go_loopg [10, 11, 12, 13, 14, 37] M (fun gg _ _ _ _ _ ct X => ∃ q : Nat, gg = M - q ∧ q ≤ M ∧ ct = .int .i64 q ∧ E = cbUses label known uses (M - q) q ∧ Below W0.heap.size W0 X)
      case atStart => exact ⟨0, rfl, by omega, rfl, HD3.out, HBr.out⟩
      case round =>
        obtain ⟨q, HG, hq, rfl, HA, hB⟩ := hrel
        by_cases hlq : q < M
        · have hlq' : q < uses.length := by rw [HM.out]; exact hlq
          obtain ⟨hbw, hsu, _, hsk, hr⟩ := HX.out wr hB
          obtain ⟨b, o, rfl, hb, hcq⟩ := hsu.at_ hlq'
          have t0 : wr.cell? ⟨w.heap.size, 0, none⟩ = some (.slice (some ⟨b, o, none⟩) M uc) := cell_of_row wr _ 0 _ _ (0, 0) hr
          have hcu := checkUse_any label uses q (some ⟨b, o, none⟩) uc wr hlq' hsu
          obtain ⟨E4, HE4⟩ : ∃ Q, Hid (useE label uses q = Q) := ⟨_, Lib.hid rfl⟩
          rw [HM.out, HE4.out] at hcu
          have HCU := Lib.hid hcu
          have HU := Lib.hid (show uses.getD q ⟨#[]⟩ = uses[q] by rw [List.getD_eq_getElem?_getD, List.getElem?_eq_getElem hlq']; rfl)
          generalize uses[q] = u at hcq HU
          have HA' := Lib.hid (show E = if E4 ≠ 0 then E4 else if (faceO known u).isNone = true then 8 else cbUses label known uses (M - (q + 1)) (q + 1) by
            rw [HA, show M - q = (M - (q + 1)) + 1 by omega, cbUses, HE4.out, HU.out])
          have hq0 : (0 : Int) ≤ (q : Int) := by omega
          have hq1 : (q : Int) < (M : Int) := by omega
          have HT := Lib.hid (And.intro HG hB)
          clear HG HA hB hbw hsu hsk hr hcu hlq'
          go_wp2_with fail
          refine HCU.out.mono ?_
          rintro e w4 ⟨rfl, hb4⟩
          have HB4 := Lib.hid (HT.out.2.trans (hb4.mono HT.out.2.size))
          clear hb4 HCU t0 hcq
          by_cases he4 : E4 = 0
          rotate_left
          · have HR := Lib.hid (show E = E4 from HA'.out.trans (if_pos he4))
            have he4' : (E4 != 0) = true := by simpa using he4
            have HBf := Lib.hid (HX.out w4 HB4.out).1
            clear he4
            go_wp2
            go_ret
            exact ⟨by rw [HR.out]; rfl, HBf.out⟩
          subst he4
          have HA2 := Lib.hid (HA'.out.trans (if_neg (by simp)))
          have hif := interfaceOf_any known u kA kc w4 (HX.out w4 HB4.out).2.2.2.1
          obtain ⟨f, Hf⟩ : ∃ Q, Hid (faceO known u = Q) := ⟨_, Lib.hid rfl⟩
          rw [HK.out, Hf.out] at hif
          have HIF := Lib.hid hif
          clear hif
          cases f with
          | none =>
            have HR := Lib.hid (show E = 8 by rw [HA2.out, Hf.out]; rfl)
            simp only [Option.getD_none, Option.isSome_none, noIf, If.cells, List.length_nil] at HIF
            go_wp2_with fail
            refine HIF.out.mono ?_
            rintro e w5 ⟨rfl, hb5⟩
            have HBf := Lib.hid (HX.out w5 (HB4.out.trans (hb5.mono HB4.out.size))).1
            clear hb5
            go_wp2
            go_ret
            exact ⟨by rw [HR.out]; rfl, HBf.out.alloc HBf.out.size _⟩
          | some y =>
            have HR := Lib.hid (show E = cbUses label known uses (M - (q + 1)) (q + 1) by rw [HA2.out, Hf.out]; rfl)
            simp only [Option.getD_some, Option.isSome_some, If.cells] at HIF
            go_wp2_with fail
            refine HIF.out.mono ?_
            rintro e w5 ⟨rfl, hb5⟩
            have HB5 := Lib.hid (HB4.out.trans (hb5.mono HB4.out.size))
            clear hb5
            go_wp2
            go_roundg (M - (q + 1))
            case measure => rw [HT.out.1]; omega
            case rel => exact ⟨q + 1, rfl, by omega, by go_num, HR.out, HB5.out.alloc HB5.out.size _⟩
        · have hqM : M = q := by omega
          have HR := Lib.hid (show E = 0 by rw [HA, show M - q = 0 by omega]; rfl)
          have i2 : decide ((q : Int) < (M : Int)) = false := decide_eq_false (by omega)
          have i3 : decide (q < M) = false := decide_eq_false (by omega)
          have HBf := Lib.hid (HX.out wr hB).1
          clear HA hB hqM
          go_wp2
          go_ret
          exact ⟨by rw [HR.out]; rfl, HBf.out⟩
end Go.Proofs.YtacjjkbkhpdhnaaGreatDoor
/- bind.Bind (printed by gen_bnb.py) -/
namespace Go.Proofs.YtacjjkbkhpdhnaaGreatDoor
open Go.RowKit Go.Proofs Go.Shelf
theorem below_drewB {B : Nat} {w w' : World} (h : Below B w w') : Below B w w'.drew := ⟨h.os, h.tape, h.output, h.size, h.block⟩
theorem three_setB {W : World} {b : Nat} {t : TypeId} {c0 c1 c2 : Value} (h : W.heap[b]? = some (.cells #[c0, c1, c2] t (0, 0))) (u0 u1 u2 : Value) :
    (((W.setCell ⟨b, 0, none⟩ u0).setCell ⟨b, 1, none⟩ u1).setCell ⟨b, 2, none⟩ u2).heap[b]? = some (.cells #[u0, u1, u2] t (0, 0)) := by
  simp [World.setCell, Array.getElem?_modify, h]
theorem sdsE_mem : ∀ {p : Option Int} {met : List ByteArray} {ds : List Dc}, sdsE p met ds = 0 → ∀ x ∈ ds, sdE x = 0
  | _, _, [], _, x, hx => by cases hx
  | p, met, y :: r, h, x, hx => by
    unfold sdsE at h
    by_cases h1 : sdE y = 0
    · rw [if_neg (by simpa using h1)] at h
      rcases List.mem_cons.1 hx with rfl | hx
      · exact h1
      · by_cases h2 : ordBad p y.id = true
        · rw [if_pos h2] at h; cases h
        · rw [if_neg h2] at h
          by_cases h3 : y.names.length = 1
          · rw [if_pos h3] at h
            by_cases h4 : hasN met (nameOf y) = true
            · rw [if_pos h4] at h; cases h
            · rw [if_neg h4] at h
              exact sdsE_mem h x hx
          · rw [if_neg h3] at h
            exact sdsE_mem h x hx
    · rw [if_pos h1] at h
      exact absurd h h1
theorem srcDE_zero {l : List ByteArray} {ds : List Dc} (h : srcDE l ds = 0) : ds.length ≤ 100 ∧ sdsE none [] ds = 0 := by
  unfold srcDE at h
  by_cases h1 : 20 < l.length
  · rw [if_pos h1] at h; cases h
  · rw [if_neg h1] at h
    by_cases h2 : usesE none l = 0
    · rw [if_neg (by simpa using h2)] at h
      by_cases h3 : 100 < ds.length
      · rw [if_pos h3] at h; cases h
      · rw [if_neg h3] at h
        exact ⟨by omega, h⟩
    · rw [if_pos h2] at h
      exact absurd h h2
theorem sdE_expr {x : Dc} (h : sdE x = 0) : exprE x.pre = 0 := by
  unfold sdE at h
  split at h
  · cases h
  · split at h
    · cases h
    · split at h
      · rename_i h3; exact absurd h h3
      · split at h
        · rename_i h4; exact absurd h h4
        · rename_i h4; simpa using h4
theorem cbE_zero {label : ByteArray} {uses : List ByteArray} {ds : List Dc} {known : List If} (h : cbE label uses ds known = 0) : srcDE uses ds = 0 ∧ cbUses label known uses uses.length 0 = 0 := by
  unfold cbE at h
  split at h
  · cases h
  · split at h
    · rename_i h2; exact absurd h h2
    · rename_i h2
      split at h
      · cases h
      · exact ⟨by simpa using h2, h⟩
def BindR (label : ByteArray) (uses : List ByteArray) (uA : Option Addr) (uc : Nat) (ds : List Dc) (known : List If) (w : World) (e : Ending) (w' : World) : Prop :=
  Below w.heap.size w w' ∧ ((bindE label uses ds known ≠ 0 ∧ e = .returned (.tuple #[.agg #[.string ⟨#[]⟩, .slice none 0 0, .slice none 0 0], .int .i64 (bindE label uses ds known)])) ∨
    (bindE label uses ds known = 0 ∧ ∃ A c es, RbDs (bindG uses ds known) ds es ∧ es.length = ds.length ∧ SlD w' w'.heap.size A c es ∧ e = .returned (.tuple #[.agg #[.string label, .slice uA uses.length uc, .slice A ds.length c], .int .i64 0])))
set_option maxRecDepth 100000 in
set_option maxHeartbeats 16000000 in
theorem bBind_any (label : ByteArray) (uses : List ByteArray) (uA : Option Addr) (uc : Nat) (ds : List Dc) (dA : Option Addr) (dc : Nat) (known : List If) (kA : Option Addr) (kc : Nat) (w : World) (hu : SlS w w.heap.size uA uc uses) (hd : SlD w w.heap.size dA dc ds) (hst : StrD ds) (hnm : NmIn ds) (hk : SlI w w.heap.size kA kc known) (hus : ∀ u ∈ uses, (aliasB u).size ≤ maxLen) :
    Calls Tryz.prog 20 #[.string label, .agg #[.slice uA uses.length uc, .slice dA ds.length dc], .slice kA known.length kc] w (BindR label uses uA uc ds known w) := by
  obtain ⟨W0, hW0⟩ : ∃ W0, ((w.alloc (.cells #[.slice uA uses.length uc, .slice dA ds.length dc] 40)).alloc (.cells #[.slice kA known.length kc] 41)).alloc (.cells #[.string ⟨#[]⟩, .slice none 0 0, .slice none 0 0] 25) = W0 := ⟨_, rfl⟩
  have hb0 : Below w.heap.size w W0 := by rw [← hW0]; exact (((Below.refl _ _).alloc (Nat.le_refl _) _).alloc (by simp) _).alloc (by simp; omega) _
  have hz0 : W0.heap.size = w.heap.size + 3 := by rw [← hW0]; simp
  have hr4 : W0.heap[w.heap.size]? = some (.cells #[.slice uA uses.length uc, .slice dA ds.length dc] 40 (0, 0)) := by rw [← hW0]; exact (Below.heap_alloc _ _ _ (by simp; omega)).trans ((Below.heap_alloc _ _ _ (by simp)).trans (heap_alloc_new w _))
  have hr5 : W0.heap[w.heap.size + 1]? = some (.cells #[.slice kA known.length kc] 41 (0, 0)) := by
    rw [← hW0]
    refine (Below.heap_alloc _ _ _ (by simp)).trans ?_
    have h := heap_alloc_new (w.alloc (.cells #[.slice uA uses.length uc, .slice dA ds.length dc] 40)) (.cells #[.slice kA known.length kc] 41)
    simpa using h
  have hr6 : W0.heap[w.heap.size + 1 + 1]? = some (.cells #[.string ⟨#[]⟩, .slice none 0 0, .slice none 0 0] 25 (0, 0)) := by
    have h := heap_alloc_new ((w.alloc (.cells #[.slice uA uses.length uc, .slice dA ds.length dc] 40)).alloc (.cells #[.slice kA known.length kc] 41)) (.cells #[.string ⟨#[]⟩, .slice none 0 0, .slice none 0 0] 25)
    rw [hW0] at h
    simpa using h
  have hul1 := hu.1
  have hul2 := hu.2.1
  have hdl1 := hd.1
  have hdl2 := hd.2.1
  have hkl2 := hk.2.1
  unfold maxLen at hul2 hdl2 hkl2
  have HX := Lib.hid (show ∀ X : World, Below W0.heap.size W0 X → Below w.heap.size w X ∧ SlS X X.heap.size uA uc uses ∧ SlD X X.heap.size dA dc ds ∧ SlI X X.heap.size kA kc known ∧ X.heap[w.heap.size]? = some (.cells #[.slice uA uses.length uc, .slice dA ds.length dc] 40 (0, 0)) ∧ X.heap[w.heap.size + 1]? = some (.cells #[.slice kA known.length kc] 41 (0, 0)) ∧ X.heap[w.heap.size + 1 + 1]? = some (.cells #[.string ⟨#[]⟩, .slice none 0 0, .slice none 0 0] 25 (0, 0)) from fun X hX => by
    have h1 := hb0.trans (hX.mono hb0.size)
    exact ⟨h1, hu.keep h1.size (fun p hp => h1.cell hp), hd.keep h1.size (fun p hp => h1.cell hp), hk.below h1, (hX.block _ (by omega)).trans hr4, (hX.block _ (by omega)).trans hr5, (hX.block _ (by omega)).trans hr6⟩)
  obtain ⟨M, HM⟩ : ∃ Q, Hid (uses.length = Q) := ⟨_, Lib.hid rfl⟩
  obtain ⟨N, HN⟩ : ∃ Q, Hid (ds.length = Q) := ⟨_, Lib.hid rfl⟩
  obtain ⟨K, HK⟩ : ∃ Q, Hid (known.length = Q) := ⟨_, Lib.hid rfl⟩
  obtain ⟨_, hsu, hsd, hsk, _, _, _⟩ := HX.out W0 (Below.refl _ _)
  have hck := checkBind_any label uses uA uc ds dA dc known kA kc W0 hsu hsd hst hsk
  obtain ⟨E1, HE1⟩ : ∃ Q, Hid (cbE label uses ds known = Q) := ⟨_, Lib.hid rfl⟩
  rw [HM.out, HN.out, HK.out, HE1.out] at hck
  rw [HM.out] at hul1
  rw [HN.out] at hdl1
  rw [HM.out, HN.out, HK.out] at HX hW0 ⊢
  rw [HM.out, HN.out] at hr4
  rw [HK.out] at hr5
  have t0 : W0.cell? ⟨w.heap.size, 0, none⟩ = some (.slice uA M uc) := cell_of_row W0 _ 0 _ _ (0, 0) hr4
  have t1 : W0.cell? ⟨w.heap.size, 1, none⟩ = some (.slice dA N dc) := cell_of_row W0 _ 1 _ _ (0, 0) hr4
  have t2 : W0.cell? ⟨w.heap.size + 1, 0, none⟩ = some (.slice kA K kc) := cell_of_row W0 _ 0 _ _ (0, 0) hr5
  have HCk := Lib.hid hck
  have HH := Lib.hid (And.intro hst (And.intro hnm (And.intro hus hb0)))
  have HD := Lib.hid (show bindE label uses ds known = if E1 ≠ 0 then E1 else rbAllE (bindG uses ds known) ds by unfold bindE; rw [HE1.out])
  have hmm := @run_makeMap Tryz.prog
  have HZ0 := Lib.hid hz0
  have HDd := Lib.hid hd
  clear hu hd hst hnm hk hus hr4 hr5 hr6 hck hsu hsd hsk hb0 hz0
  go_enter Tryz.func20, Tryz.ntmps20
  go_wp2_with fail
  refine HCk.out.mono ?_
  rintro e w1 ⟨rfl, hb1⟩
  have HB1 := Lib.hid hb1
  clear hb1 HCk t0 t1 t2 hW0
  by_cases he1 : E1 = 0
  rotate_left
  · have HR := Lib.hid (show bindE label uses ds known = E1 from HD.out.trans (if_pos he1))
    have HE0 := Lib.hid he1
    have he1' : (E1 != 0) = true := by simpa using he1
    obtain ⟨hBx, _, _, _, _, _, hr⟩ := HX.out w1 HB1.out
    clear he1
    obtain ⟨y0, y1, y2, z0, z1, z2⟩ := row3 hr
    have HS := Lib.hid (three_setB hr (.string ⟨#[]⟩) (.slice none 0 0) (.slice none 0 0))
    have HBx := Lib.hid hBx
    clear hr hBx
    go_wp2
    obtain ⟨W9, hW9, s0, s1, s2, hBf, hsz, hbk⟩ := out3 HS.out HBx.out (by omega)
    rw [hW9]
    refine bodyPost_ret (v := .tuple #[.agg #[.string ⟨#[]⟩, .slice none 0 0, .slice none 0 0], .int .i64 E1]) (by simp [results, Tryz.results20, go_sem, s0, s1, s2]) rfl ?_
    exact ⟨hBf, .inl ⟨by rw [HR.out]; exact HE0.out, by rw [HR.out]⟩⟩
  subst he1
  have HD1 := Lib.hid (HD.out.trans (if_neg (by simp)))
  obtain ⟨hsrc, hcu⟩ := cbE_zero HE1.out
  obtain ⟨hl100, hsd0⟩ := srcDE_zero hsrc
  rw [HN.out] at hl100
  have HIn := Lib.hid (show RbIn ds from rbIn_of HH.out.2.1 fun x hx => sdE_expr (sdsE_mem hsd0 x hx))
  clear hsrc hcu hsd0
  obtain ⟨V1, hV1⟩ : ∃ q, (w1.alloc (.map #[] 0)).alloc (.cells #[.map (some w1.heap.size)] 87) = q := ⟨_, rfl⟩
  have hbV : Below w1.heap.size w1 V1 := by rw [← hV1]; exact ((Below.refl _ _).alloc (Nat.le_refl _) _).alloc (by simp) _
  have hmV : MapA strK V1 w1.heap.size 0 (fun _ => none) := by
    have h := MapA.made strK w1
    rw [← hV1]
    exact h.keep (Below.heap_alloc _ _ _ h.lt)
  have hqV : V1.heap[w1.heap.size + 1]? = some (.cells #[.map (some w1.heap.size)] 87 (0, 0)) := by
    have h := heap_alloc_new (w1.alloc (.map #[] 0)) (.cells #[.map (some w1.heap.size)] 87)
    rw [hV1] at h
    simpa using h
  have hBV := HB1.out.trans (hbV.mono HB1.out.size)
  have f1 : V1.cell? ⟨w.heap.size, 1, none⟩ = some (.slice dA N dc) := cell_of_row V1 _ 1 _ _ (0, 0) (HX.out V1 hBV).2.2.2.2.1
  have HV := Lib.hid (And.intro hmV (And.intro hqV hBV))
  clear hmV hqV hBV hbV
  go_wp2
  obtain ⟨mb, hmb⟩ : ∃ q, w1.heap.size = q := ⟨_, rfl⟩
  have HMb := Lib.hid hmb
  rw [hmb] at HV ⊢
  clear hmb
  go_loopg [11, 30] N (fun gg _ ct X => ∃ j : Nat, gg = N - j ∧ j ≤ N ∧ ct = .int .i64 j ∧ MapA strK X mb j (fun s => (idsO (ds.take j) s).map (Value.int .i64)) ∧ X.heap[mb + 1]? = some (.cells #[.map (some mb)] 87 (0, 0)) ∧ Below W0.heap.size W0 X)
  case atStart => exact ⟨0, rfl, by omega, rfl, HV.out.1, HV.out.2.1, HV.out.2.2⟩
  case round =>
    obtain ⟨j, HG, hj, rfl, hmap, hq9, hB⟩ := hrel
    have hqlt := (Array.getElem?_eq_some_iff.1 hq9).1
    by_cases hlt : j < N
    · have hlt' : j < ds.length := by rw [HN.out]; exact hlt
      obtain ⟨x, hx⟩ : ∃ x, ds[j]? = some x := ⟨_, List.getElem?_eq_getElem hlt'⟩
      obtain ⟨_, _, hdX, _, _, _, _⟩ := HX.out wr hB
      obtain ⟨b, o, rfl, hb, hall⟩ := hdX.2.2 (by intro e; rw [e] at hlt'; simp at hlt')
      obtain ⟨hcs, hok⟩ := hall j x hx
      have hstr := HH.out.1 x (List.mem_of_getElem? hx)
      have HTk := Lib.hid (show ds.take (j + 1) = ds.take j ++ [x] by
        rw [List.take_succ_eq_append_getElem hlt']
        rw [(List.getElem?_eq_some_iff.1 hx).2])
      obtain ⟨xid, xkind, xpub, xnA, xnc, xnames, xdoubt, xk, xn, xm, xi, xd, xA, xc, xs⟩ := x
      simp only at hstr
      have d0 : wr.cell? ⟨b, o + j * 11, none⟩ = some (.int .i64 xid) := hcs 0 _ rfl
      have d1 : wr.cell? ⟨b, o + j * 11 + 1, none⟩ = some (.int .i64 xkind) := hcs 1 _ rfl
      have d2 : wr.cell? ⟨b, o + j * 11 + 2, none⟩ = some (.bool xpub) := hcs 2 _ rfl
      have d3 : wr.cell? ⟨b, o + j * 11 + 3, none⟩ = some (.slice xnA xnames.length xnc) := hcs 3 _ rfl
      have d4 : wr.cell? ⟨b, o + j * 11 + 4, none⟩ = some (.bool xdoubt) := hcs 4 _ rfl
      have d5 : wr.cell? ⟨b, o + j * 11 + 5, none⟩ = some (.int .i64 xk) := hcs 5 _ rfl
      have d6 : wr.cell? ⟨b, o + j * 11 + 6, none⟩ = some (.string xn) := hcs 6 _ rfl
      have d7 : wr.cell? ⟨b, o + j * 11 + 7, none⟩ = some (.string xm) := hcs 7 _ rfl
      have d8 : wr.cell? ⟨b, o + j * 11 + 8, none⟩ = some (.int .i64 xi) := hcs 8 _ rfl
      have d9 : wr.cell? ⟨b, o + j * 11 + 9, none⟩ = some (.int .i64 xd) := hcs 9 _ rfl
      have d10 : wr.cell? ⟨b, o + j * 11 + 10, none⟩ = some (.slice xA xs.len xc) := hcs 10 _ rfl
      obtain ⟨W3, hW3⟩ : ∃ q, wr.alloc (.cells #[.int .i64 xid, .int .i64 xkind, .bool xpub, .slice xnA xnames.length xnc, .bool xdoubt, .int .i64 xk, .string xn, .string xm, .int .i64 xi, .int .i64 xd, .slice xA xs.len xc] 63) = q := ⟨_, rfl⟩
      have hb3 : Below wr.heap.size wr W3 := by rw [← hW3]; exact (Below.refl _ _).alloc (Nat.le_refl _) _
      have hz3 : wr.heap.size < W3.heap.size := by rw [← hW3]; simp
      have hx3 : W3.heap[wr.heap.size]? = some (.cells #[.int .i64 xid, .int .i64 xkind, .bool xpub, .slice xnA xnames.length xnc, .bool xdoubt, .int .i64 xk, .string xn, .string xm, .int .i64 xi, .int .i64 xd, .slice xA xs.len xc] 63 (0, 0)) := by rw [← hW3]; exact heap_alloc_new _ _
      have hq3 := (hb3.block _ hqlt).trans hq9
      have hm3 := hmap.keep (hb3.block _ hmap.lt)
      have hB3 := hB.trans (hb3.mono hB.size)
      have f0 : W3.cell? ⟨wr.heap.size, 0, none⟩ = some (.int .i64 xid) := cell_of_row W3 _ 0 _ _ (0, 0) hx3
      have f3 : W3.cell? ⟨wr.heap.size, 3, none⟩ = some (.slice xnA xnames.length xnc) := cell_of_row W3 _ 3 _ _ (0, 0) hx3
      have hnm3 : SlS W3 W3.heap.size xnA xnc xnames := hok.1.keep hb3.size fun p hp => hb3.cell hp
      have hq0 : W3.cell? ⟨mb + 1, 0, none⟩ = some (.map (some mb)) := cell_of_row W3 _ 0 _ _ (0, 0) hq3
      have HT := Lib.hid (And.intro HG (And.intro hm3 (And.intro hq3 (And.intro hB3 (And.intro hnm3 (And.intro hstr hmap.lt))))))
      clear HG hmap hq9 hB hdX hall hcs hok hstr hb3 hq3 hm3 hB3 hnm3 hx
      by_cases hn1 : xnames.length = 1
      rotate_left
      · have hn1' : ((xnames.length : Int) == 1) = false := by simp; omega
        have HN1 := Lib.hid hn1
        clear hn1
        go_wp2
        go_roundg (N - (j + 1))
        case measure => rw [HT.out.1]; omega
        case rel =>
          refine ⟨j + 1, rfl, by omega, by go_num, (HT.out.2.1.cong fun s _ => ?_).mono (Nat.le_succ j), HT.out.2.2.1, HT.out.2.2.2.1⟩
          rw [HTk.out, idsO_step, if_neg (fun h => HN1.out h.1)]
      obtain ⟨nm, rfl⟩ : ∃ nm, xnames = [nm] := List.length_eq_one_iff.1 hn1
      obtain ⟨nb, no, rfl, hnb, hncell⟩ := HT.out.2.2.2.2.1.at_ (j := 0) (by simp)
      have hnc2 := HT.out.2.2.2.2.1.1
      have hnc3 := HT.out.2.2.2.2.1.2.1
      unfold maxLen at hnc3
      simp only [List.length_singleton, List.getElem_cons_zero, Nat.add_zero] at hncell hnc2 f3 hW3
      have HNS := Lib.hid (show nm.size ≤ maxLen from HT.out.2.2.2.2.2.1 nm (by simp))
      have hne1 : mb ≠ mb + 1 := by omega
      have hne2 : wr.heap.size ≠ mb := by have := HT.out.2.2.2.2.2.2; omega
      have HKp := Lib.hid (show nb = mb ∨ nb ≠ mb by omega)
      have hnbm : nb ≠ mb := fun e => by
        obtain ⟨n', D', ⟨es', cl', hbk, _⟩, _⟩ := HT.out.2.1
        unfold World.cell? at hncell
        rw [e] at hncell
        simp [hbk] at hncell
      have HK0 := Lib.hid (show ∀ Y : World, (∀ k, k < W3.heap.size → k ≠ mb → Y.heap[k]? = W3.heap[k]?) → Y.cell? ⟨mb + 1, 0, none⟩ = some (.map (some mb)) ∧ Y.cell? ⟨wr.heap.size, 3, none⟩ = some (.slice (some ⟨nb, no, none⟩) 1 xnc) ∧ Y.cell? ⟨nb, no, none⟩ = some (.string nm) ∧ Y.cell? ⟨wr.heap.size, 0, none⟩ = some (.int .i64 xid) from fun Y hY => ⟨(World.cell?_of_block (hY (mb + 1) (Array.getElem?_eq_some_iff.1 HT.out.2.2.1).1 hne1.symm)).trans hq0, (World.cell?_of_block (hY _ hz3 hne2)).trans f3, (World.cell?_of_block (hY _ hnb hnbm)).trans hncell, (World.cell?_of_block (hY _ hz3 hne2)).trans f0⟩)
      have HMD := Lib.hid (show MapA strK W3.drew mb j (fun s => (idsO (ds.take j) s).map (Value.int .i64)) from HT.out.2.1.keep rfl)
      have HJ := Lib.hid (show j < maxLen by unfold maxLen; omega)
      obtain ⟨w6, hrun0, hm6, hg6⟩ := HMD.out.put Tryz.underlying87 HJ.out (a := nm) HNS.out (.int .i64 xid)
      have hrun : (Instr.mapUpdate 87 (.map (some mb)) (.string nm) (.int .i64 xid)).run Tryz.prog W3.drew = .ok () w6 := hrun0
      have H6 := Lib.hid (And.intro hm6 hg6)
      clear hn1 hrun0 hm6 hg6
      go_wp2_with fail
      go_region_held3 (fun Y => Y.cell? ⟨mb + 1, 0, none⟩ = some (.map (some mb)) ∧ Y.cell? ⟨wr.heap.size, 3, none⟩ = some (.slice (some ⟨nb, no, none⟩) 1 xnc) ∧ Y.cell? ⟨nb, no, none⟩ = some (.string nm) ∧ Y.cell? ⟨wr.heap.size, 0, none⟩ = some (.int .i64 xid))
        (first | exact HK0.out _ (fun k hk hne => H6.out.2.block k hk (fun e => hne (Option.some.inj e))) | exact HK0.out _ (fun k hk _ => rfl))
        (fail)
      go_wp2
      go_roundg (N - (j + 1))
      case measure => rw [HT.out.1]; omega
      case rel =>
        have hg6 := H6.out.2
        refine ⟨j + 1, rfl, by omega, by go_num, H6.out.1.cong fun s _ => ?_, ?_, ?_⟩
        · rw [HTk.out, idsO_step]
          by_cases hs : s = nm
          · rw [if_pos hs, if_pos ⟨rfl, hs.symm⟩]; rfl
          · rw [if_neg hs, if_neg (fun h => hs h.2.symm)]
        · exact (hg6.block _ (Array.getElem?_eq_some_iff.1 HT.out.2.2.1).1 (fun e => hne1 (Option.some.inj e).symm)).trans HT.out.2.2.1
        · have h1 : Below W0.heap.size W0 W3.drew := below_drewN HT.out.2.2.2.1 1
          exact h1.grown hg6 h1.size (fun k hk => by cases hk; rw [← HMb.out]; exact HB1.out.size)
    · have hjN : j = N := by omega
      subst hjN
      have HIds := Lib.hid (show ds.take j = ds from List.take_of_length_le (by rw [HN.out]; exact Nat.le_refl _))
      have hmap0 : MapA strK wr mb j (fun s => (idsO ds s).map (Value.int .i64)) := by have := hmap; rwa [HIds.out] at this
      obtain ⟨V2, hV2⟩ : ∃ q, (wr.alloc (.map #[] 0)).alloc (.cells #[.map (some wr.heap.size)] 88) = q := ⟨_, rfl⟩
      have hbV : Below wr.heap.size wr V2 := by rw [← hV2]; exact ((Below.refl _ _).alloc (Nat.le_refl _) _).alloc (by simp) _
      have hmV : MapA strK V2 wr.heap.size 0 (fun _ => none) := by
        have h := MapA.made strK wr
        rw [← hV2]
        exact h.keep (Below.heap_alloc _ _ _ h.lt)
      have hqV : V2.heap[wr.heap.size + 1]? = some (.cells #[.map (some wr.heap.size)] 88 (0, 0)) := by
        have h := heap_alloc_new (wr.alloc (.map #[] 0)) (.cells #[.map (some wr.heap.size)] 88)
        rw [hV2] at h
        simpa using h
      have hBV := hB.trans (hbV.mono hB.size)
      have f1 : V2.cell? ⟨w.heap.size, 0, none⟩ = some (.slice uA M uc) := cell_of_row V2 _ 0 _ _ (0, 0) (HX.out V2 hBV).2.2.2.2.1
      have HV2 := Lib.hid (And.intro hmV (And.intro hqV (And.intro hBV (And.intro (hmap0.keep (hbV.block _ hmap0.lt)) ((hbV.block _ hqlt).trans hq9)))))
      have i2 : decide ((j : Int) < (j : Int)) = false := by simp
      clear hmV hqV hBV hbV hmap0 hmap hq9 HG
      have HWs := Lib.hid (And.intro hB.size hqlt)
      clear hB hqlt
      go_wp2
      obtain ⟨lk, hlk⟩ : ∃ q, wr.heap.size = q := ⟨_, rfl⟩
      have HLk := Lib.hid hlk
      rw [hlk] at HV2 ⊢
      clear hlk
      go_loopg [14, 50] M (fun gg _ ct X => ∃ q : Nat, gg = M - q ∧ q ≤ M ∧ ct = .int .i64 q ∧ MapA strK X lk q (fun s => (labO (uses.take q) s).map Value.string) ∧ X.heap[lk + 1]? = some (.cells #[.map (some lk)] 88 (0, 0)) ∧ Below W0.heap.size W0 X ∧ MapA strK X mb j (fun s => (idsO ds s).map (Value.int .i64)) ∧ X.heap[mb + 1]? = some (.cells #[.map (some mb)] 87 (0, 0)))
      case atStart => exact ⟨0, rfl, by omega, rfl, HV2.out.1, HV2.out.2.1, HV2.out.2.2.1, HV2.out.2.2.2.1, HV2.out.2.2.2.2⟩
      case round =>
        obtain ⟨q, HG, hq, rfl, hml, hql, hB, hmi, hqi⟩ := hrel
        by_cases hlq : q < M
        · have hlq' : q < uses.length := by rw [HM.out]; exact hlq
          obtain ⟨_, hsu, _, _, _, _, _⟩ := HX.out wr hB
          obtain ⟨b, o, rfl, hb, hcq⟩ := hsu.at_ hlq'
          have HUs := Lib.hid (HH.out.2.2.1 uses[q] (List.getElem_mem hlq'))
          have HTk := Lib.hid (List.take_succ_eq_append_getElem hlq')
          generalize uses[q] = u at hcq HUs HTk
          have hne : lk ≠ mb ∧ lk ≠ mb + 1 := by have := HWs.out.2; have := HLk.out; omega
          have HAl := Lib.hid (show ∀ X : World, Calls Tryz.prog 14 #[.string u] X fun e Y => e = .returned (.string (aliasB u)) ∧ Below X.heap.size X Y from fun X => alias_any u X)
          have HKc := Lib.hid (show ∀ Y : World, Below wr.heap.size wr Y → Y.cell? ⟨lk + 1, 0, none⟩ = some (.map (some lk)) ∧ Y.heap[lk + 1]? = some (.cells #[.map (some lk)] 88 (0, 0)) from fun Y hY => by
            have h := (hY.block _ (Array.getElem?_eq_some_iff.1 hql).1).trans hql
            exact ⟨cell_of_row Y _ 0 _ _ (0, 0) h, h⟩)
          have HPut := Lib.hid (show ∀ Y : World, Below wr.heap.size wr Y → ∃ w', (Instr.mapUpdate 88 (.map (some lk)) (.string (aliasB u)) (.string u)).run Tryz.prog Y = .ok () w' ∧ MapA strK w' lk (q + 1) (fun x => if x = aliasB u then some (.string u) else (labO (uses.take q) x).map Value.string) ∧ Y.grownBy w' (some lk) from fun Y hY => (hml.keep (hY.block _ hml.lt)).put Tryz.underlying88 (by unfold maxLen; omega) (a := aliasB u) HUs.out (.string u))
          have HT := Lib.hid (And.intro HG (And.intro hB (And.intro hmi (And.intro hqi (And.intro hne hql)))))
          have hq0 : (0 : Int) ≤ (q : Int) := by omega
          have hq1 : (q : Int) < (M : Int) := by omega
          clear HG hml hql hB hmi hqi hsu hlq' hne
          go_wp2_with fail
          go_region_held3 (fun Y => Y.cell? ⟨lk + 1, 0, none⟩ = some (.map (some lk)))
            (first | exact (World.cell?_of_block (hg6.block (lk + 1) (Array.getElem?_eq_some_iff.1 (HKc.out _ hbz).2).1 (fun e => absurd (Option.some.inj e) (by omega)))).trans (HKc.out _ hbz).1 | exact (HKc.out _ hbz).1 | exact (HKc.out _ (below_drewB (Below.refl _ _))).1)
            ((go_at_call 14; (with_reducible refine Calls.mono (HAl.out _) ?_); rintro e Y ⟨rfl, hbY⟩; have hbz : Below wr.heap.size wr Y := ⟨hbY.os, hbY.tape, hbY.output, hbY.size, hbY.block⟩; obtain ⟨w6, hrun, hm6, hg6⟩ := HPut.out Y hbz))
          have H6 := Lib.hid (And.intro hm6 (And.intro hg6 hbz))
          clear hm6 hg6 hbz hbY hrun
          go_wp2
          go_roundg (M - (q + 1))
          case measure => rw [HT.out.1]; omega
          case rel =>
            have hg6 := H6.out.2.1
            have hbz := H6.out.2.2
            refine ⟨q + 1, rfl, by omega, by go_num, H6.out.1.cong fun s _ => ?_, ?_, ?_, ?_, ?_⟩
            · rw [HTk.out, labO_step]
              by_cases hs : s = aliasB u
              · rw [if_pos hs, if_pos hs.symm]; rfl
              · rw [if_neg hs, if_neg (fun h => hs h.symm)]
            · exact (hg6.block (lk + 1) (Array.getElem?_eq_some_iff.1 (HKc.out _ hbz).2).1 (fun e => absurd (Option.some.inj e) (by omega))).trans (HKc.out _ hbz).2
            · have h1 := HT.out.2.1.trans (hbz.mono HT.out.2.1.size)
              exact h1.grown hg6 h1.size (fun k hk => by cases hk; rw [← HLk.out]; exact HWs.out.1)
            · have hlt := HT.out.2.2.1.lt
              exact HT.out.2.2.1.keep ((hg6.block _ (Nat.lt_of_lt_of_le hlt hbz.size) (fun e => HT.out.2.2.2.2.1.1 (Option.some.inj e).symm)).trans (hbz.block _ hlt))
            · have hlt := (Array.getElem?_eq_some_iff.1 HT.out.2.2.2.1).1
              exact ((hg6.block _ (Nat.lt_of_lt_of_le hlt hbz.size) (fun e => HT.out.2.2.2.2.1.2 (Option.some.inj e).symm)).trans (hbz.block _ hlt)).trans HT.out.2.2.2.1
        · have hqM : q = M := by omega
          subst hqM
          have HTk := Lib.hid (show uses.take q = uses from List.take_of_length_le (by rw [HM.out]; exact Nat.le_refl _))
          have hml' : MapA strK wr lk q (fun s => (labO uses s).map Value.string) := by have := hml; rwa [HTk.out] at this
          obtain ⟨hbx, _, hsd, hsk, hr4, hr5, hr6⟩ := HX.out wr hB
          have h1 : wr.cell? ⟨mb + 1, 0, none⟩ = some (.map (some mb)) := cell_of_row wr _ 0 _ _ (0, 0) hqi
          have h2 : wr.cell? ⟨lk + 1, 0, none⟩ = some (.map (some lk)) := cell_of_row wr _ 0 _ _ (0, 0) hql
          have h3 : wr.cell? ⟨w.heap.size + 1, 0, none⟩ = some (.slice kA K kc) := cell_of_row wr _ 0 _ _ (0, 0) hr5
          have t1 : wr.cell? ⟨w.heap.size, 1, none⟩ = some (.slice dA j dc) := cell_of_row wr _ 1 _ _ (0, 0) hr4
          have hF := bBind1_any wr (idsO ds) (labO uses) known kA kc (mb + 1) (lk + 1) (w.heap.size + 1) mb lk j q h1 h2 (by rw [HK.out]; exact h3) hmi hml' hsk
          have hra := rebuildAll_any wr 64 #[.pointer (some ⟨mb + 1, 0, none⟩), .pointer (some ⟨lk + 1, 0, none⟩), .pointer (some ⟨w.heap.size + 1, 0, none⟩)] (bindG uses ds known) hF ds dA dc wr hsd HIn.out (by rw [HN.out]; omega) (Below.refl _ _)
          obtain ⟨E9, HE9⟩ : ∃ Q, Hid (rbAllE (bindG uses ds known) ds = Q) := ⟨_, Lib.hid rfl⟩
          unfold RbAllP at hra
          rw [HN.out, HE9.out] at hra
          have HRA := Lib.hid hra
          have HB := Lib.hid (And.intro hB (And.intro hr4 (And.intro hr6 hbx)))
          have hmf : ∀ (fn : Fn) (first cap : Array Value) (w : World), (Instr.makeFunc fn first cap).run Tryz.prog w = .ok (.func fn first cap) w := fun _ _ _ _ => rfl
          have i4 : decide ((q : Int) < (q : Int)) = false := by simp
          have HD9 := Lib.hid (show bindE label uses ds known = E9 by rw [HD1.out, HE9.out])
          clear hml hml' hql hB hmi hqi hbx hsd hsk hr4 hr5 hr6 h1 h2 h3 hF hra HG
          go_wp2_with fail
          refine HRA.out.mono ?_
          rintro e w9 ⟨hb9, ⟨hE, rfl⟩ | ⟨hE, rA, rc, es, hrb, hesl, hds, rfl⟩⟩
          · have hE1 : (E9 != 0) = true := by simpa using hE
            have HE0 := Lib.hid hE
            have hB9 := HB.out.1.trans (hb9.mono HB.out.1.size)
            obtain ⟨hBx, _, _, _, _, _, hr⟩ := HX.out w9 hB9
            clear hb9 hE hB9 t1
            obtain ⟨y0, y1, y2, z0, z1, z2⟩ := row3 hr
            have HS := Lib.hid (three_setB hr (.string ⟨#[]⟩) (.slice none 0 0) (.slice none 0 0))
            have HBx := Lib.hid hBx
            clear hr hBx
            go_wp2
            obtain ⟨W9, hW9, s0, s1, s2, hBf, hsz, hbk⟩ := out3 HS.out HBx.out (by omega)
            rw [hW9]
            refine bodyPost_ret (v := .tuple #[.agg #[.string ⟨#[]⟩, .slice none 0 0, .slice none 0 0], .int .i64 E9]) (by simp [results, Tryz.results20, go_sem, s0, s1, s2]) rfl ?_
            exact ⟨hBf, .inl ⟨by rw [HD9.out]; exact HE0.out, by rw [HD9.out]⟩⟩
          · subst hE
            have hB9 := HB.out.1.trans (hb9.mono HB.out.1.size)
            obtain ⟨hBx, _, _, _, hr4, _, hr⟩ := HX.out w9 hB9
            have t0 : w9.cell? ⟨w.heap.size, 0, none⟩ = some (.slice uA q uc) := cell_of_row w9 _ 0 _ _ (0, 0) hr4
            have HDs := Lib.hid (And.intro hrb (And.intro hesl (And.intro hds hb9)))
            have hlt6 := (Array.getElem?_eq_some_iff.1 HB.out.2.2.1).1
            have HL6 := Lib.hid hlt6
            clear hb9 hB9 t1 hrb hesl hds hr4 hlt6
            obtain ⟨y0, y1, y2, z0, z1, z2⟩ := row3 hr
            have HS := Lib.hid (three_setB hr (.string label) (.slice uA q uc) (.slice rA j rc))
            have HBx := Lib.hid hBx
            clear hr hBx
            go_wp2
            obtain ⟨W9, hW9, s0, s1, s2, hBf, hsz, hbk⟩ := out3 HS.out HBx.out (by omega)
            rw [hW9]
            refine bodyPost_ret (v := .tuple #[.agg #[.string label, .slice uA q uc, .slice rA j rc], .int .i64 0]) (by simp [results, Tryz.results20, go_sem, s0, s1, s2]) rfl ?_
            refine ⟨hBf, .inr ⟨HD9.out, rA, rc, es, HDs.out.1, by rw [HDs.out.2.1, HN.out], HDs.out.2.2.1 W9 (Nat.le_of_eq hsz.symm) (fun k hk _ => hbk k (by have := HL6.out; omega)) (fun x hx => ?_), by rw [HM.out, HN.out]⟩⟩
            obtain ⟨k, hk⟩ := List.getElem?_of_mem hx
            have hkl := (List.getElem?_eq_some_iff.1 hk).1
            obtain ⟨_, _, _, _, hall⟩ := HDd.out.2.2 (by intro e; rw [e] at hkl; simp at hkl)
            exact (hall k x hk).2.1.keep hBf.size fun p hp => hBf.cell hp
end Go.Proofs.YtacjjkbkhpdhnaaGreatDoor
