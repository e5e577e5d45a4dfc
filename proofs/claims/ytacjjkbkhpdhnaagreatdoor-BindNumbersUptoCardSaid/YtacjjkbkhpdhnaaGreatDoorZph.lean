/- bind.dotted (printed by gen_dtd.py) -/
import Derived.Test.YtacjjkbkhpdhnaaGreatDoorSxg
import Derived.Test.YtacjjkbkhpdhnaaGreatDoorZpg
import Derived.Test.YtacjjkbkhpdhnaaGreatDoorZlg
import Derived.Test.YtacjjkbkhpdhnaaGreatDoorZlf
import Derived.Deep.DeepCutAuto
import Derived.Deep.RegionHeld3
import Derived.Deep.RegionLaw
import Derived.Test.YtacjjkbkhpdhnaaGreatDoorZla
import Derived.Test.YtacjjkbkhpdhnaaGreatDoorProg
import Derived.Maps.RangeWalk
import Derived.Maps.StringElems
import Derived.DeepKeys4
import Derived.Sort.MapsRangeIn
import Derived.KernelRfl
import Derived.Test.YtacjjkbkhpdhnaaGreatDoorZpd
namespace Go.Proofs.YtacjjkbkhpdhnaaGreatDoor
open Go.RowKit Go.Proofs Go.Shelf

set_option maxHeartbeats 400000 in
theorem dotted1_any (i : Int) (eb : Nat) (x : Sg) (Z : World) (hm : Z.cell? ⟨eb, 3, none⟩ = some (.int .i64 i)) :
    Calls Tryz.prog 117 (#[.agg x.cells] ++ #[.pointer (some ⟨eb, 0, none⟩)]) Z fun e Y => e = .returned (.bool (x.id == i)) ∧ Below Z.heap.size Z Y := by
  obtain ⟨id, name, vars, kind, var, tA, tn, tc⟩ := x
  simp only [Sg.cells, List.append_toArray, List.cons_append, List.nil_append]
  obtain ⟨W0, hW0⟩ : ∃ W0, Z.alloc (.cells #[.int .i64 id, .string name, .int .i64 vars, .int .i64 kind, .int .i64 var, .slice tA tn tc] 100) = W0 := ⟨_, rfl⟩
  have hb0 : Below Z.heap.size Z W0 := by rw [← hW0]; exact (Below.refl _ _).alloc (Nat.le_refl _) _
  have hr0 : W0.heap[Z.heap.size]? = some (.cells #[.int .i64 id, .string name, .int .i64 vars, .int .i64 kind, .int .i64 var, .slice tA tn tc] 100 (0, 0)) := by rw [← hW0]; exact heap_alloc_new _ _
  have e1 : W0.cell? ⟨Z.heap.size, 0, none⟩ = some (.int .i64 id) := cell_of_row W0 _ 0 _ _ (0, 0) hr0
  have e2 : W0.cell? ⟨eb, 3, none⟩ = some (.int .i64 i) := (hb0.cell (p := ⟨eb, 3, none⟩) (World.block_lt_of_cell? Z _ hm)).trans hm
  have HB := Lib.hid hb0
  clear hb0 hr0 hm
  go_enter Tryz.func117, Tryz.ntmps117
  go_wp2
  go_ret
  exact ⟨rfl, HB.out⟩
set_option maxRecDepth 100000 in
set_option maxHeartbeats 8000000 in
theorem dotted_any (label : ByteArray) (uses : List ByteArray) (uA : Option Addr) (uc : Nat) (dA : Option Addr) (N dc : Nat) (known : List If) (kA : Option Addr) (kc : Nat) (k : Int) (n m : ByteArray) (i d : Int) (A : Option Addr) (l c : Nat) (w : World) (hu : SlS w w.heap.size uA uc uses) (hk : SlI w w.heap.size kA kc known) :
    Calls Tryz.prog 76 #[.agg #[.string label, .slice uA uses.length uc, .slice dA N dc], .slice kA known.length kc, .agg #[.int .i64 k, .string n, .string m, .int .i64 i, .int .i64 d, .slice A l c]] w fun e w' =>
      e = .returned (.tuple #[.agg #[.int .i64 (dotG uses known ⟨k, n, m, i, d⟩).2.k, .string (dotG uses known ⟨k, n, m, i, d⟩).2.n, .string (dotG uses known ⟨k, n, m, i, d⟩).2.m, .int .i64 (dotG uses known ⟨k, n, m, i, d⟩).2.i, .int .i64 (dotG uses known ⟨k, n, m, i, d⟩).2.d, .slice none 0 0], .int .i64 (dotG uses known ⟨k, n, m, i, d⟩).1]) ∧ Below w.heap.size w w' := by
  obtain ⟨M, HM⟩ : ∃ Q, Hid (uses.length = Q) := ⟨_, Lib.hid rfl⟩
  obtain ⟨NK, HNK⟩ : ∃ Q, Hid (known.length = Q) := ⟨_, Lib.hid rfl⟩
  rw [HM.out, HNK.out]
  obtain ⟨W1, hW1⟩ : ∃ W1, ((w.alloc (.cells #[.string label, .slice uA M uc, .slice dA N dc] 25)).alloc (.cells #[.int .i64 k, .string n, .string m, .int .i64 i, .int .i64 d, .slice A l c] 28)).alloc (.cells #[.int .i64 0, .string ⟨#[]⟩, .string ⟨#[]⟩, .int .i64 0, .int .i64 0, .slice none 0 0] 28) = W1 := ⟨_, rfl⟩
  have hB1 : Below w.heap.size w W1 := by rw [← hW1]; exact (((Below.refl _ _).alloc (Nat.le_refl _) _).alloc (by simp) _).alloc (by simp; omega) _
  have hz1 : W1.heap.size = w.heap.size + 3 := by rw [← hW1]; simp
  have hm0 : W1.heap[w.heap.size]? = some (.cells #[.string label, .slice uA M uc, .slice dA N dc] 25 (0, 0)) := by rw [← hW1]; exact (Below.heap_alloc _ _ _ (by simp; omega)).trans ((Below.heap_alloc _ _ _ (by simp)).trans (heap_alloc_new w _))
  have hx0 : W1.heap[w.heap.size + 1]? = some (.cells #[.int .i64 k, .string n, .string m, .int .i64 i, .int .i64 d, .slice A l c] 28 (0, 0)) := by
    rw [← hW1]
    refine (Below.heap_alloc _ _ _ (by simp)).trans ?_
    have h := heap_alloc_new (w.alloc (.cells #[.string label, .slice uA M uc, .slice dA N dc] 25)) (.cells #[.int .i64 k, .string n, .string m, .int .i64 i, .int .i64 d, .slice A l c] 28)
    simpa using h
  have hr : W1.heap[w.heap.size + 1 + 1]? = some (.cells #[.int .i64 0, .string ⟨#[]⟩, .string ⟨#[]⟩, .int .i64 0, .int .i64 0, .slice none 0 0] 28 (0, 0)) := by
    have h := heap_alloc_new ((w.alloc (.cells #[.string label, .slice uA M uc, .slice dA N dc] 25)).alloc (.cells #[.int .i64 k, .string n, .string m, .int .i64 i, .int .i64 d, .slice A l c] 28)) (.cells #[.int .i64 0, .string ⟨#[]⟩, .string ⟨#[]⟩, .int .i64 0, .int .i64 0, .slice none 0 0] 28)
    rw [hW1] at h
    simpa using h
  have x1 : W1.cell? ⟨w.heap.size + 1, 1, none⟩ = some (.string n) := cell_of_row W1 _ 1 _ _ (0, 0) hx0
  have hif := interfaceOf_any known n kA kc W1 (hk.below hB1)
  obtain ⟨f, Hf⟩ : ∃ Q, Hid ((faceO known n).getD noIf = Q) := ⟨_, Lib.hid rfl⟩
  obtain ⟨fb, Hfb⟩ : ∃ Q, Hid ((faceO known n).isSome = Q) := ⟨_, Lib.hid rfl⟩
  rw [HNK.out, Hf.out, Hfb.out] at hif
  obtain ⟨fl, fA, fc, fs⟩ := f
  simp only [If.cells] at hif
  obtain ⟨NS, HNS⟩ : ∃ Q, Hid (fs.length = Q) := ⟨_, Lib.hid rfl⟩
  rw [HNS.out] at hif
  have HIF := Lib.hid hif
  have HH := Lib.hid (And.intro hB1 (And.intro hm0 (And.intro hx0 (And.intro hr (And.intro hz1 (And.intro hu hk))))))
  have HSG := Lib.hid (show ∀ Y : World, Below W1.heap.size W1 Y → SlG Y Y.heap.size fA fc fs from fun Y hY => by
    have hkY := hk.below (hB1.trans (hY.mono hB1.size))
    cases hfo : faceO known n with
    | none =>
      have := Hf.out
      rw [hfo] at this
      simp only [Option.getD_none, noIf, If.mk.injEq] at this
      obtain ⟨_, rfl, rfl, rfl⟩ := this
      exact SlG.nil _ _ _ _ (Nat.zero_le _)
    | some y =>
      have := Hf.out
      rw [hfo] at this
      simp only [Option.getD_some] at this
      subst this
      obtain ⟨j, hj⟩ := List.getElem?_of_mem (List.mem_of_find?_eq_some hfo)
      obtain ⟨_, _, _, _, _, _, hs⟩ := hkY.at_ hj
      exact hs)
  have HSo := Lib.hid (show sigsOf known n = fs by unfold sigsOf; rw [Hf.out])
  clear hif hB1 hm0 hx0 hr hz1 hu hk
  go_enter Tryz.func76, Tryz.ntmps76
  go_wp2_with fail
  refine HIF.out.mono ?_
  rintro e w2 ⟨rfl, hb2⟩
  obtain ⟨W3, hW3⟩ : ∃ q, w2.alloc (.cells #[.string fl, .slice fA NS fc] 55) = q := ⟨_, rfl⟩
  have hb3 : Below W1.heap.size W1 W3 := by rw [← hW3]; exact hb2.alloc hb2.size _
  have hx3 : W3.heap[w2.heap.size]? = some (.cells #[.string fl, .slice fA NS fc] 55 (0, 0)) := by rw [← hW3]; exact heap_alloc_new _ _
  have hr3 := (hb3.block _ (by have := HH.out.2.2.2.2.1; omega)).trans HH.out.2.2.2.1
  have hBx := HH.out.1.trans (hb3.mono HH.out.1.size)
  have HB3 := Lib.hid hb3
  have HX3 := Lib.hid hx3
  clear hb2 hb3 hx3 x1
  cases fb with
  | false =>
    have HG := Lib.hid (show dotG uses known ⟨k, n, m, i, d⟩ = (21, noNx) by unfold dotG; rw [if_neg (by rw [Hfb.out]; simp)])
    obtain ⟨y0, y1, y2, y3, y4, y5, z0, z1, z2, z3, z4, z5⟩ := row6 hr3
    have HS := Lib.hid (six_set hr3 (.int .i64 0) (.string ⟨#[]⟩) (.string ⟨#[]⟩) (.int .i64 0) (.int .i64 0) (.slice none 0 0))
    have HBx := Lib.hid hBx
    clear hr3 hBx
    go_wp2
    obtain ⟨W9, hW9, s0, s1, s2, s3, s4, s5, hBf, hsz, hbk⟩ := out6 HS.out HBx.out (by omega)
    rw [hW9]
    refine bodyPost_ret (v := .tuple #[.agg #[.int .i64 0, .string ⟨#[]⟩, .string ⟨#[]⟩, .int .i64 0, .int .i64 0, .slice none 0 0], .int .i64 21]) (by simp [results, Tryz.results76, go_sem, s0, s1, s2, s3, s4, s5]) rfl ?_
    rw [HG.out]
    exact ⟨rfl, hBf⟩
  | true =>
  have hmo := (HB3.out.block _ (by have := HH.out.2.2.2.2.1; omega)).trans HH.out.2.1
  have hbo := (HB3.out.block _ (by have := HH.out.2.2.2.2.1; omega)).trans HH.out.2.2.1
  have u1 : W3.cell? ⟨w.heap.size, 1, none⟩ = some (.slice uA M uc) := cell_of_row W3 _ 1 _ _ (0, 0) hmo
  have x1 : W3.cell? ⟨w.heap.size + 1, 1, none⟩ = some (.string n) := cell_of_row W3 _ 1 _ _ (0, 0) hbo
  have hcn := slcContains_any uses n uA uc W3 (HH.out.2.2.2.2.2.1.keep hBx.size fun p hp => hBx.cell hp)
  obtain ⟨hb, Hhb⟩ : ∃ Q, Hid (hasS uses n = Q) := ⟨_, Lib.hid rfl⟩
  rw [HM.out, Hhb.out] at hcn
  have HCn := Lib.hid hcn
  have HBX := Lib.hid (And.intro hBx (And.intro hr3 (And.intro hbo hmo)))
  clear hcn hBx hr3 hbo hmo
  go_wp2_with fail
  refine HCn.out.mono ?_
  rintro e w4 ⟨rfl, rfl⟩
  clear u1 x1
  cases hb with
  | false =>
    have HG := Lib.hid (show dotG uses known ⟨k, n, m, i, d⟩ = (21, noNx) by unfold dotG; rw [if_neg (by simp only [Hhb.out]; simp)])
    have hBx := HBX.out.1
    have hr3 := HBX.out.2.1
    obtain ⟨y0, y1, y2, y3, y4, y5, z0, z1, z2, z3, z4, z5⟩ := row6 hr3
    have HS := Lib.hid (six_set hr3 (.int .i64 0) (.string ⟨#[]⟩) (.string ⟨#[]⟩) (.int .i64 0) (.int .i64 0) (.slice none 0 0))
    have HBx := Lib.hid hBx
    clear hr3 hBx
    go_wp2
    obtain ⟨W9, hW9, s0, s1, s2, s3, s4, s5, hBf, hsz, hbk⟩ := out6 HS.out HBx.out (by omega)
    rw [hW9]
    refine bodyPost_ret (v := .tuple #[.agg #[.int .i64 0, .string ⟨#[]⟩, .string ⟨#[]⟩, .int .i64 0, .int .i64 0, .slice none 0 0], .int .i64 21]) (by simp [results, Tryz.results76, go_sem, s0, s1, s2, s3, s4, s5]) rfl ?_
    rw [HG.out]
    exact ⟨rfl, hBf⟩
  | true =>
  have hsg := signature_any W3 117 #[.pointer (some ⟨w.heap.size + 1, 0, none⟩)] (fun s => s.id == i) ⟨enterFn (fid := 117) rfl rfl rfl, fun s Y hY => dotted1_any i (w.heap.size + 1) s Y (by
    have h := (hY.block _ (Array.getElem?_eq_some_iff.1 HBX.out.2.2.1).1).trans HBX.out.2.2.1
    exact cell_of_row Y _ 3 _ _ (0, 0) h)⟩ ⟨fl, fA, fc, fs⟩ W3 (HSG.out W3 HB3.out) (Below.refl _ _)
  simp only [If.cells] at hsg
  obtain ⟨so, Hso⟩ : ∃ Q, Hid (sigO fs (fun s => s.id == i) = Q) := ⟨_, Lib.hid rfl⟩
  obtain ⟨sg, Hsg⟩ : ∃ Q, Hid (so.getD noSg = Q) := ⟨_, Lib.hid rfl⟩
  obtain ⟨sb2, Hsb2⟩ : ∃ Q, Hid (so.isSome = Q) := ⟨_, Lib.hid rfl⟩
  rw [HNS.out, Hso.out, Hsg.out, Hsb2.out] at hsg
  obtain ⟨gid, gname, gvars, gkind, gvar, gA, gn, gc⟩ := sg
  simp only [Sg.cells] at hsg
  have HSg := Lib.hid hsg
  have q0 : W3.cell? ⟨w2.heap.size, 0, none⟩ = some (.string fl) := cell_of_row W3 _ 0 _ _ (0, 0) HX3.out
  have q1 : W3.cell? ⟨w2.heap.size, 1, none⟩ = some (.slice fA NS fc) := cell_of_row W3 _ 1 _ _ (0, 0) HX3.out
  have hmf : ∀ (fn : Fn) (first cap : Array Value) (w : World), (Instr.makeFunc fn first cap).run Tryz.prog w = .ok (.func fn first cap) w := fun _ _ _ _ => rfl
  clear hsg
  go_wp2_with fail
  refine HSg.out.mono ?_
  rintro e w4 ⟨rfl, hb4⟩
  obtain ⟨W5, hW5⟩ : ∃ q, w4.alloc (.cells #[.int .i64 gid, .string gname, .int .i64 gvars, .int .i64 gkind, .int .i64 gvar, .slice gA gn gc] 100) = q := ⟨_, rfl⟩
  have hb5 : Below W3.heap.size W3 W5 := by rw [← hW5]; exact hb4.alloc hb4.size _
  have hx5 : W5.heap[w4.heap.size]? = some (.cells #[.int .i64 gid, .string gname, .int .i64 gvars, .int .i64 gkind, .int .i64 gvar, .slice gA gn gc] 100 (0, 0)) := by rw [← hW5]; exact heap_alloc_new _ _
  have hbo5 := (hb5.block _ (Array.getElem?_eq_some_iff.1 HBX.out.2.2.1).1).trans HBX.out.2.2.1
  have hr5 := (hb5.block _ (Array.getElem?_eq_some_iff.1 HBX.out.2.1).1).trans HBX.out.2.1
  have hBx := HBX.out.1.trans (hb5.mono HBX.out.1.size)
  clear hb4 hb5 q0 q1
  cases sb2 with
  | false =>
    have HG := Lib.hid (show dotG uses known ⟨k, n, m, i, d⟩ = (21, noNx) by
      have hn : so = none := by have := Hsb2.out; simpa using this
      unfold dotG
      rw [if_pos ⟨Hfb.out, Hhb.out⟩]
      simp only [HSo.out, Hso.out, hn])
    clear hx5 hbo5
    obtain ⟨y0, y1, y2, y3, y4, y5, z0, z1, z2, z3, z4, z5⟩ := row6 hr5
    have HS := Lib.hid (six_set hr5 (.int .i64 0) (.string ⟨#[]⟩) (.string ⟨#[]⟩) (.int .i64 0) (.int .i64 0) (.slice none 0 0))
    have HBx := Lib.hid hBx
    clear hr5 hBx
    go_wp2
    obtain ⟨W9, hW9, s0, s1, s2, s3, s4, s5, hBf, hsz, hbk⟩ := out6 HS.out HBx.out (by omega)
    rw [hW9]
    refine bodyPost_ret (v := .tuple #[.agg #[.int .i64 0, .string ⟨#[]⟩, .string ⟨#[]⟩, .int .i64 0, .int .i64 0, .slice none 0 0], .int .i64 21]) (by simp [results, Tryz.results76, go_sem, s0, s1, s2, s3, s4, s5]) rfl ?_
    rw [HG.out]
    exact ⟨rfl, hBf⟩
  | true =>
    have HG := Lib.hid (show dotG uses known ⟨k, n, m, i, d⟩ = (0, ⟨4, aliasB n, gname, 0, 0⟩) by
      obtain ⟨s, hs⟩ : ∃ s, so = some s := Option.isSome_iff_exists.1 Hsb2.out
      have h1 := Hsg.out
      rw [hs] at h1
      simp only [Option.getD_some] at h1
      unfold dotG
      rw [if_pos ⟨Hfb.out, Hhb.out⟩]
      simp only [HSo.out, Hso.out, hs, h1])
    have hx5' : W5.cell? ⟨w4.heap.size, 1, none⟩ = some (.string gname) := cell_of_row W5 _ 1 _ _ (0, 0) hx5
    have x1 : W5.cell? ⟨w.heap.size + 1, 1, none⟩ = some (.string n) := cell_of_row W5 _ 1 _ _ (0, 0) hbo5
    have hl4 : w4.heap.size < W5.heap.size := (Array.getElem?_eq_some_iff.1 hx5).1
    have hlo : w.heap.size + 1 < W5.heap.size := (Array.getElem?_eq_some_iff.1 hbo5).1
    have hlr : w.heap.size + 1 + 1 < W5.heap.size := (Array.getElem?_eq_some_iff.1 hr5).1
    have hne : w4.heap.size ≠ w.heap.size + 1 + 1 := fun e => by
      rw [e, hr5] at hx5
      simp only [Option.some.injEq, Obj.cells.injEq] at hx5
      exact absurd hx5.2.1 (by decide)
    have HAl := Lib.hid (show ∀ X : World, Calls Tryz.prog 14 #[.string n] X fun e Y => e = .returned (.string (aliasB n)) ∧ Below X.heap.size X Y from fun X => alias_any n X)
    have HK6 := Lib.hid (show ∀ Y : World, Below W5.heap.size W5 Y → ∀ V : World, (∀ kk, kk ≠ w.heap.size + 1 + 1 → V.heap[kk]? = Y.heap[kk]?) → V.cell? ⟨w.heap.size + 1, 1, none⟩ = some (.string n) ∧ V.cell? ⟨w4.heap.size, 1, none⟩ = some (.string gname) from fun Y hY V hV => ⟨(World.cell?_of_block (hV (w.heap.size + 1) (by omega))).trans ((hY.cell (p := ⟨w.heap.size + 1, 1, none⟩) hlo).trans x1), (World.cell?_of_block (hV w4.heap.size hne)).trans ((hY.cell (p := ⟨w4.heap.size, 1, none⟩) hl4).trans hx5')⟩)
    have HRY := Lib.hid (show ∀ Y : World, Below W5.heap.size W5 Y → Y.heap[w.heap.size + 1 + 1]? = some (.cells #[.int .i64 0, .string ⟨#[]⟩, .string ⟨#[]⟩, .int .i64 0, .int .i64 0, .slice none 0 0] 28 (0, 0)) from fun Y hY => (hY.block _ hlr).trans hr5)
    have HBx := Lib.hid hBx
    clear hx5 hbo5 hr5 hBx hl4 hlo hlr hne
    go_wp2_with fail
    go_region_law (go_simp; go_at_call 14; (with_reducible refine Calls.mono (HAl.out _) ?_); rintro e Y ⟨rfl, hbY⟩; have hbz : Below W5.heap.size W5 Y := ⟨hbY.os, hbY.tape, hbY.output, hbY.size, hbY.block⟩; have hrY := HRY.out Y hbz; have hx1Y := (HK6.out Y hbz Y (fun _ _ => rfl)).1; have hg1Y := (HK6.out Y hbz Y (fun _ _ => rfl)).2; have y0 := cell_of_row Y (w.heap.size + 1 + 1) 0 _ _ (0, 0) hrY; have y1 := cell_of_row Y (w.heap.size + 1 + 1) 1 _ _ (0, 0) hrY; have y2 := cell_of_row Y (w.heap.size + 1 + 1) 2 _ _ (0, 0) hrY; have y3 := cell_of_row Y (w.heap.size + 1 + 1) 3 _ _ (0, 0) hrY; have y4 := cell_of_row Y (w.heap.size + 1 + 1) 4 _ _ (0, 0) hrY; have y5 := cell_of_row Y (w.heap.size + 1 + 1) 5 _ _ (0, 0) hrY; have z0 := frozen_of_row Y (w.heap.size + 1 + 1) 0 _ _ hrY; have z1 := frozen_of_row Y (w.heap.size + 1 + 1) 1 _ _ hrY; have z2 := frozen_of_row Y (w.heap.size + 1 + 1) 2 _ _ hrY; have z3 := frozen_of_row Y (w.heap.size + 1 + 1) 3 _ _ hrY; have z4 := frozen_of_row Y (w.heap.size + 1 + 1) 4 _ _ hrY; have z5 := frozen_of_row Y (w.heap.size + 1 + 1) 5 _ _ hrY; simp at y0 y1 y2 y3 y4 y5)
    all_goals (
      have HS := Lib.hid (six_set (HRY.out _ hbz) (.int .i64 4) (.string (aliasB n)) (.string gname) (.int .i64 0) (.int .i64 0) (.slice none 0 0))
      have HBx := Lib.hid (HBx.out.trans (hbz.mono HBx.out.size))
      (try go_wp2)
      obtain ⟨W9, hW9, s0, s1, s2, s3, s4, s5, hBf, hsz, hbk⟩ := out6 HS.out HBx.out (by omega)
      rw [hW9]
      refine bodyPost_ret (v := .tuple #[.agg #[.int .i64 4, .string (aliasB n), .string gname, .int .i64 0, .int .i64 0, .slice none 0 0], .int .i64 0]) (by simp [results, Tryz.results76, go_sem, s0, s1, s2, s3, s4, s5]) rfl ?_
      rw [HG.out]
      exact ⟨rfl, hBf⟩)
end Go.Proofs.YtacjjkbkhpdhnaaGreatDoor
/- Maps of the call's own, keyed by names or by strings, whose elements are kept as they are -/
namespace Go.Proofs.YtacjjkbkhpdhnaaGreatDoor
open Go.RowKit Go.Proofs
open Go.Maps (Keyed IsMap)
def raw (v : Value) : Option (DataW Value × List MemPlace) := some (.held v, [])
def encO : Option Value → DataW Value
  | none => .nil
  | some v => .held v
theorem encO_inj {a b : Option Value} (h : encO a = encO b) : a = b := by
  cases a <;> cases b <;> simp [encO] at h <;> simp [h]
structure KeyT (α : Type) where
  ty : TypeId
  val : α → Value
  ok : α → Prop
  law : Keyed Tryz.prog ty
  key : α → Lit
  tot : ∀ a, ok a → keyOf Tryz.prog ty (val a) = some (key a)
  inv : ∀ v kl, keyOf Tryz.prog ty v = some kl → ∃ a, ok a ∧ v = val a
  inj : ∀ a b, val a = val b → a = b
theorem KeyT.key_inj {α : Type} (K : KeyT α) {a b : α} (ha : K.ok a) (hb : K.ok b) (h : K.key a = K.key b) : a = b :=
  K.inj a b (K.law.inj (K.tot a ha) (by rw [h]; exact K.tot b hb))
section
variable {α : Type}
def MapA (K : KeyT α) (w : World) (b N : Nat) (g : α → Option Value) : Prop :=
  ∃ n D, w.ownsMap (H := Value) Tryz.prog K.ty raw b n D ∧ n ≤ N ∧ IsMap D ∧ ∀ a, K.ok a → D.atKey (K.key a) .nil = encO (g a)
theorem MapA.made (K : KeyT α) (w : World) : MapA K (w.alloc (.map #[] 0)) w.heap.size 0 (fun _ => none) :=
  ⟨0, _, World.ownsMap_made _ _ _ _, Nat.le_refl _, ⟨_, rfl⟩, fun _ _ => Maps.atKey_of_not_has rfl _⟩
theorem MapA.lt {K : KeyT α} {w : World} {b N : Nat} {g : α → Option Value} (h : MapA K w b N g) : b < w.heap.size := by
  obtain ⟨n, D, ho, _⟩ := h
  exact ho.lt
theorem MapA.keep {K : KeyT α} {w w' : World} {b N : Nat} {g : α → Option Value} (h : MapA K w b N g) (e : w'.heap[b]? = w.heap[b]?) : MapA K w' b N g := by
  obtain ⟨n, D, ⟨es, cl, h, r⟩, h2⟩ := h
  exact ⟨n, D, ⟨es, cl, e.trans h, r⟩, h2⟩
theorem MapA.mono {K : KeyT α} {w : World} {b N N' : Nat} {g : α → Option Value} (h : MapA K w b N g) (hN : N ≤ N') : MapA K w b N' g := by
  obtain ⟨n, D, h1, h2, h3⟩ := h
  exact ⟨n, D, h1, Nat.le_trans h2 hN, h3⟩
theorem MapA.cong {K : KeyT α} {w : World} {b N : Nat} {g g' : α → Option Value} (h : MapA K w b N g) (e : ∀ a, K.ok a → g a = g' a) : MapA K w b N g' := by
  obtain ⟨n, D, h1, h2, h3, h4⟩ := h
  exact ⟨n, D, h1, h2, h3, fun a ha => by rw [← e a ha]; exact h4 a ha⟩
theorem MapA.look {K : KeyT α} {w : World} {b N : Nat} {g : α → Option Value} (h : MapA K w b N g) (c : Bool) {t e : TypeId} (ht : Tryz.prog.underlying t = some (.map K.ty e)) {z : Value} (hz : (zeroValue e).run Tryz.prog w = .ok z w) {a : α} (ha : K.ok a) :
    (Instr.lookup t (.map (some b)) (K.val a) c).run Tryz.prog w = .ok (if c then .tuple #[(g a).getD z, .bool (g a).isSome] else (g a).getD z) w := by
  obtain ⟨n, D, ⟨es, clock, hb, F, _, rfl⟩, _, _, hat⟩ := h
  have hg := hat a ha
  rcases Maps.fit_look c K.law ht hz hb F (K.tot a ha) with ⟨hrun, _, h2⟩ | ⟨e0, y, _, _, hrun, hR, h2, _⟩
  · rw [h2] at hg
    have : g a = none := encO_inj (b := none) (by rw [← hg]; rfl)
    rw [hrun, this]; rfl
  · rw [h2] at hg
    simp only [raw, Option.some.injEq] at hR
    have : g a = some e0.val := encO_inj (b := some e0.val) (by rw [← hg, ← hR]; rfl)
    rw [hrun, this]; rfl
theorem MapA.put [DecidableEq α] {K : KeyT α} {w : World} {b N : Nat} {g : α → Option Value} (h : MapA K w b N g) {t e : TypeId} (ht : Tryz.prog.underlying t = some (.map K.ty e)) (hN : N < maxLen) {a : α} (ha : K.ok a) (v : Value) :
    ∃ w', (Instr.mapUpdate t (.map (some b)) (K.val a) v).run Tryz.prog w = .ok () w' ∧ MapA K w' b (N + 1) (fun x => if x = a then some v else g x) ∧ w.grownBy w' (some b) := by
  obtain ⟨n, D, ho, hn, hm, hat⟩ := h
  obtain ⟨w', hrun, ho', hg⟩ := ho.update (d := .held v) (ps := []) K.law ht (by omega) (K.tot a ha) rfl
  refine ⟨w', hrun, ⟨n + 1, _, ho', by omega, hm.put _ _, fun x hx => ?_⟩, hg⟩
  have hk := K.law.key (K.tot x hx)
  by_cases e : x = a
  · subst e
    rw [Maps.atKey_put_same hm hk]; simp [encO]
  · rw [Maps.atKey_put_other (fun h => e (K.key_inj hx ha h)), hat x hx]; simp [e]
def Rng (K : KeyT α) (w : World) (b r N : Nat) (g : α → Option Value) (ss : List α) (cnt : Nat) : Prop :=
  ∃ n D left, w.ranges (H := Value) Tryz.prog K.ty raw b r n D left cnt ∧ n ≤ N ∧ IsMap D ∧ (∀ a, K.ok a → D.atKey (K.key a) .nil = encO (g a)) ∧ ss.Nodup ∧ (∀ a ∈ ss, K.ok a ∧ (g a).isSome = true) ∧
    (∀ a, K.ok a → (left (K.key a) = true ↔ ((g a).isSome = true ∧ a ∉ ss))) ∧ ss.length + cnt ≤ Maps.size D ∧ Maps.size D ≤ N
theorem Rng.owns {K : KeyT α} {w : World} {b r N : Nat} {g : α → Option Value} {ss : List α} {cnt : Nat} (h : Rng K w b r N g ss cnt) : MapA K w b N g := by
  obtain ⟨n, D, left, h1, h2, h3, h4, _⟩ := h
  exact ⟨n, D, h1.owns, h2, h3, h4⟩
theorem Rng.keep {K : KeyT α} {w w' : World} {b r N : Nat} {g : α → Option Value} {ss : List α} {cnt : Nat} (h : Rng K w b r N g ss cnt) (hb : w'.heap[b]? = w.heap[b]?) (hr : w'.heap[r]? = w.heap[r]?) : Rng K w' b r N g ss cnt := by
  obtain ⟨n, D, left, ⟨es, clock, since, seen, c0, h1, F, hs, hD, h2, rest⟩, more⟩ := h
  exact ⟨n, D, left, ⟨es, clock, since, seen, c0, hb.trans h1, F, hs, hD, hr.trans h2, rest⟩, more⟩
theorem MapA.range {K : KeyT α} {w : World} {b N : Nat} {g : α → Option Value} (h : MapA K w b N g) {t e : TypeId} (ht : Tryz.prog.underlying t = some (.map K.ty e)) (hz : ∃ z, (zeroValue e).run Tryz.prog w = .ok z w) :
    ∃ w' cnt, (Instr.range t (.map (some b))).run Tryz.prog w = .ok (.pointer (some ⟨w.heap.size, 0, none⟩)) w' ∧ Rng K w' b w.heap.size N g [] cnt ∧ w.grownBy w' none ∧ w'.heap.size = w.heap.size + 1 := by
  obtain ⟨z, hz⟩ := hz
  obtain ⟨n, D, ho, hn, hm, hat⟩ := h
  obtain ⟨w', hrun, hr, hg, hs⟩ := ho.range K.law ht
  have hsz : Maps.size D ≤ n := by
    obtain ⟨es, clock, _, _, h1, rfl⟩ := ho
    simp [Maps.size, length_sorted]
    exact h1
  refine ⟨w', _, hrun, ⟨n, D, _, hr, hn, hm, hat, List.nodup_nil, by simp, fun a ha => ?_, by simp, by omega⟩, hg, hs⟩
  have hga := hat a ha
  obtain ⟨es, clock, hb, F, _, rfl⟩ := ho
  rcases Maps.fit_look true K.law ht hz hb F (K.tot a ha) with ⟨_, _, h2⟩ | ⟨e0, y, _, _, _, hR, h2, _⟩
  · rw [Maps.has_false_of_atKey h2]
    rw [h2] at hga
    have : g a = none := encO_inj (b := none) (by rw [← hga]; rfl)
    simp [this]
  · rw [Maps.has_true_of_atKey h2]
    rw [h2] at hga
    simp only [raw, Option.some.injEq] at hR
    have : g a = some e0.val := encO_inj (b := some e0.val) (by rw [← hga, ← hR]; rfl)
    simp [this]
theorem Rng.next {K : KeyT α} {w : World} {b r N : Nat} {g : α → Option Value} {ss : List α} {cnt : Nat} (h : Rng K w b r N g ss cnt) (ty : TypeId) :
    (cnt = 0 ∧ (∀ a, K.ok a → ((g a).isSome = true ↔ a ∈ ss)) ∧ (Instr.next (.pointer (some ⟨r, 0, none⟩)) false ty).run Tryz.prog w = .ok (.tuple #[.bool false]) w) ∨
    ∃ x v w' cnt', K.ok x ∧ g x = some v ∧ x ∉ ss ∧ (Instr.next (.pointer (some ⟨r, 0, none⟩)) false ty).run Tryz.prog w = .ok (.tuple #[.bool true, K.val x, v]) w' ∧ Rng K w' b r N g (ss ++ [x]) cnt' ∧ cnt' < cnt ∧
      w.grownBy w' (some r) ∧ w'.heap.size = w.heap.size ∧ (Instr.entry (.pointer (some ⟨r, 0, none⟩))).run Tryz.prog w' = .ok (.tuple #[K.val x, v]) w' := by
  obtain ⟨n, D, left, hr, hn, hm, hat, hnd, hss, hl, hc1, hc2⟩ := h
  rcases hr.next K.law ty with ⟨h0, hl0, hrun⟩ | ⟨key, v, kl, y, w', cnt', hkey, hlk, hv, hat2, hrun, hrg, hlt, hgr, hsz, hen⟩
  · refine .inl ⟨h0, fun a ha => ⟨fun hs => ?_, fun hs => (hss a hs).2⟩, hrun⟩
    have h1 := hl a ha
    rw [hl0] at h1
    simp only [Bool.false_eq_true, false_iff, not_and] at h1
    exact Classical.not_not.1 (h1 hs)
  · obtain ⟨x, hx, rfl⟩ := K.inv key kl hkey
    have hkl : kl = K.key x := by have := K.tot x hx; rw [hkey] at this; exact Option.some.inj this
    subst hkl
    obtain ⟨hgs, hxn⟩ := (hl x hx).1 hlk
    have hgx : g x = some v := by
      have h1 := hat x hx
      rw [hat2] at h1
      simp only [raw, Option.some.injEq] at hv
      exact encO_inj (b := some v) (by rw [← h1, ← hv]; rfl)
    refine .inr ⟨x, v, w', cnt', hx, hgx, hxn, hrun, ⟨n, D, _, hrg, hn, hm, hat, ?_, ?_, ?_, ?_, hc2⟩, hlt, hgr, hsz, hen⟩
    · exact List.nodup_append.2 ⟨hnd, by simp, fun a ha b hb e => hxn (by rw [List.mem_singleton.1 hb] at e; rw [← e]; exact ha)⟩
    · intro a ha
      rcases List.mem_append.1 ha with ha | ha
      · exact hss a ha
      · rw [List.mem_singleton.1 ha]; exact ⟨hx, hgs⟩
    · intro a ha
      have h1 := hl a ha
      by_cases hax : a = x
      · subst hax
        simp [WideAt.sameKey_self (K.law.key (K.tot a ha))]
      · have hne : (K.key a).sameKey (K.key x) = false := Maps.sameKey_ne (fun e => hax (K.key_inj ha hx e))
        simp only [hne, Bool.not_false, Bool.and_true, List.mem_append, List.mem_singleton, hax, or_false]
        exact h1
    · rw [List.length_append, List.length_singleton]; omega
section
variable {F : Fence} {n : Nat}
end
end
def strK : KeyT ByteArray where
  ty := 9
  val := .string
  ok s := s.size ≤ maxLen
  law := Maps.string_keyed Tryz.underlying9
  key s := .string s.data.toList
  tot s h := by simp [keyOf, Tryz.underlying9, mapKey, h]
  inv v kl h := by
    cases v <;> simp [keyOf, Tryz.underlying9, mapKey] at h
    exact ⟨_, h.1, rfl⟩
  inj a b h := by simpa using h
end Go.Proofs.YtacjjkbkhpdhnaaGreatDoor
/- Maps keyed by ints -/
namespace Go.Proofs.YtacjjkbkhpdhnaaGreatDoor
open Go.RowKit Go.Proofs

def intK : KeyT Int where
  ty := 3
  val := .int .i64
  ok i := (Lit.int .i64 i).wf = true
  law := Maps.int_keyed Tryz.underlying3
  key i := .int .i64 i
  tot i h := by simp [keyOf, Tryz.underlying3, mapKey, h]
  inv v kl h := by
    cases v <;> simp [keyOf, Tryz.underlying3, mapKey] at h
    obtain ⟨⟨rfl, h1⟩, _⟩ := h
    exact ⟨_, h1, rfl⟩
  inj a b h := by simpa using h
end Go.Proofs.YtacjjkbkhpdhnaaGreatDoor
/- bind.Unbind: the function that replaces nodes (printed by gen_ugc.py) -/
namespace Go.Proofs.YtacjjkbkhpdhnaaGreatDoor
open Go.RowKit Go.Proofs Go.Shelf

theorem lastD_mem : ∀ {ds : List Dc} {i : Int} {a : Option Dc} {y : Dc}, ds.foldl (fun a x => if x.id = i then some x else a) a = some y → y ∈ ds ∨ a = some y
  | [], _, _, _, h => .inr h
  | x :: r, i, a, y, h => by
    rw [List.foldl_cons] at h
    rcases lastD_mem h with h1 | h1
    · exact .inl (List.mem_cons_of_mem _ h1)
    · by_cases hx : x.id = i
      · rw [if_pos hx] at h1
        exact .inl (by rw [← Option.some.inj h1]; exact List.mem_cons_self)
      · rw [if_neg hx] at h1
        exact .inr h1
set_option maxRecDepth 100000 in
set_option maxHeartbeats 8000000 in
theorem bUnbind1_any (w00 : World) (label : ByteArray) (uses : List ByteArray) (uA : Option Addr) (uc : Nat) (dA : Option Addr) (N dc : Nat) (ds : List Dc) (known : List If) (kA : Option Addr) (kc p1 p2 p3 nb N1 : Nat)
    (h1 : w00.heap[p1]? = some (.cells #[.string label, .slice uA uses.length uc, .slice dA N dc] 25 (0, 0))) (h2 : w00.cell? ⟨p2, 0, none⟩ = some (.slice kA known.length kc)) (h3 : w00.cell? ⟨p3, 0, none⟩ = some (.map (some nb)))
    (hn : MapA intK w00 nb N1 (fun q => (lastD ds q).map fun y => Value.slice y.nA y.names.length y.nc)) (hu : SlS w00 w00.heap.size uA uc uses) (hk : SlI w00 w00.heap.size kA kc known)
    (hns : ∀ x ∈ ds, SlS w00 w00.heap.size x.nA x.nc x.names) (hst : StrD ds) :
    ReplOk w00 75 #[.pointer (some ⟨p1, 0, none⟩), .pointer (some ⟨p2, 0, none⟩), .pointer (some ⟨p3, 0, none⟩)] (gUnb uses ds known) := by
  refine ⟨enterFn (fid := 75) rfl rfl rfl, fun k n m i d A l c b sc X hnn hmm hX hset => ?_⟩
  obtain ⟨W1, hW1⟩ : ∃ W1, (X.alloc (.cells #[.int .i64 k, .string n, .string m, .int .i64 i, .int .i64 d, .slice A l c] 28)).alloc (.cells #[.int .i64 0, .string ⟨#[]⟩, .string ⟨#[]⟩, .int .i64 0, .int .i64 0, .slice none 0 0] 28) = W1 := ⟨_, rfl⟩
  have hB1 : Below X.heap.size X W1 := by rw [← hW1]; exact ((Below.refl _ _).alloc (Nat.le_refl _) _).alloc (by simp) _
  have hz1 : X.heap.size + 1 < W1.heap.size := by rw [← hW1]; simp
  have hx0 : W1.heap[X.heap.size]? = some (.cells #[.int .i64 k, .string n, .string m, .int .i64 i, .int .i64 d, .slice A l c] 28 (0, 0)) := by rw [← hW1]; exact (Below.heap_alloc _ _ _ (by simp)).trans (heap_alloc_new X _)
  have hr : W1.heap[X.heap.size + 1]? = some (.cells #[.int .i64 0, .string ⟨#[]⟩, .string ⟨#[]⟩, .int .i64 0, .int .i64 0, .slice none 0 0] 28 (0, 0)) := by
    have := heap_alloc_new (X.alloc (.cells #[.int .i64 k, .string n, .string m, .int .i64 i, .int .i64 d, .slice A l c] 28)) (.cells #[.int .i64 0, .string ⟨#[]⟩, .string ⟨#[]⟩, .int .i64 0, .int .i64 0, .slice none 0 0] 28)
    rw [hW1] at this
    simpa using this
  have x0 := cell_of_row W1 X.heap.size 0 _ _ (0, 0) hx0
  have x1 := cell_of_row W1 X.heap.size 1 _ _ (0, 0) hx0
  have x2 := cell_of_row W1 X.heap.size 2 _ _ (0, 0) hx0
  have x3 := cell_of_row W1 X.heap.size 3 _ _ (0, 0) hx0
  have x4 := cell_of_row W1 X.heap.size 4 _ _ (0, 0) hx0
  have x5 := cell_of_row W1 X.heap.size 5 _ _ (0, 0) hx0
  simp at x0 x1 x2 x3 x4 x5
  have h01 := hX.trans (hB1.mono hX.size)
  obtain ⟨UL, HUL⟩ : ∃ Q, Hid (uses.length = Q) := ⟨_, Lib.hid rfl⟩
  obtain ⟨KL, HKL⟩ : ∃ Q, Hid (known.length = Q) := ⟨_, Lib.hid rfl⟩
  have hbm := (h01.block _ (Array.getElem?_eq_some_iff.1 h1).1).trans h1
  have c2 := (h01.cell (p := ⟨p2, 0, none⟩) (World.block_lt_of_cell? w00 _ h2)).trans h2
  have c3 := (h01.cell (p := ⟨p3, 0, none⟩) (World.block_lt_of_cell? w00 _ h3)).trans h3
  rw [HUL.out] at hbm
  rw [HKL.out] at c2
  have hset1 := hset.keep (hB1.block _ hset.lt)
  have hn1 := hn.keep (h01.block _ hn.lt)
  have hnl0 : k = 5 → (Instr.lookup 111 (.map (some nb)) (.int .i64 i) false).run Tryz.prog W1 = .ok (((lastD ds i).map fun y => Value.slice y.nA y.names.length y.nc).getD (.slice none 0 0)) W1 := fun hk5 => by
    have h := hn1.look false Tryz.underlying111 (z := .slice none 0 0) (by kernel_rfl) (a := i) (hmm.2 hk5)
    simpa only [intK, Bool.false_eq_true, if_false] using h
  have HH := Lib.hid (And.intro hB1 (And.intro h01 (And.intro hset1 (And.intro hns (And.intro hst (And.intro hu hk))))))
  clear hX hB1 hx0 h01 hk hmm hset hset1 hn hn1 h1 h2 h3 hz1 hu hns hst
  simp only [List.append_toArray, List.cons_append, List.nil_append]
  by_cases h5 : k = 5
  rotate_left
  · have HG := Lib.hid (show gUnb uses ds known ⟨k, n, m, i, d⟩ sc = (0, ⟨k, n, m, i, d⟩) by unfold gUnb; rw [if_neg h5])
    have k5 : (k != 5) = true := by simpa using h5
    have hBx := HH.out.1
    clear h5 hnl0 hbm c2 c3
    go_enter Tryz.func75, Tryz.ntmps75
    obtain ⟨y0, y1, y2, y3, y4, y5, z0, z1, z2, z3, z4, z5⟩ := row6 hr
    have HS := Lib.hid (six_set hr (.int .i64 k) (.string n) (.string m) (.int .i64 i) (.int .i64 d) (.slice A l c))
    have HBx := Lib.hid hBx
    clear hr hBx
    go_wp2
    obtain ⟨W9, hW9, s0, s1, s2, s3, s4, s5, hBf, hsz, hbk⟩ := out6 HS.out HBx.out (by omega)
    rw [hW9]
    refine bodyPost_ret (v := .tuple #[.agg #[.int .i64 k, .string n, .string m, .int .i64 i, .int .i64 d, .slice A l c], .int .i64 0]) (by simp [results, Tryz.results75, go_sem, s0, s1, s2, s3, s4, s5]) rfl ?_
    rw [HG.out]
    exact ⟨_, _, _, rfl, hBf⟩
  subst h5
  have hnl := hnl0 rfl
  clear hnl0
  cases hem : n.toList.isEmpty with
  | false =>
    have m0 := cell_of_row W1 p1 0 _ _ (0, 0) hbm
    have m1 := cell_of_row W1 p1 1 _ _ (0, 0) hbm
    have m2 := cell_of_row W1 p1 2 _ _ (0, 0) hbm
    simp at m0 m1 m2
    have HG := Lib.hid (show gUnb uses ds known ⟨5, n, m, i, d⟩ sc = dotG uses known ⟨5, n, m, i, d⟩ by unfold gUnb; rw [if_pos rfl, if_pos hem])
    have hdt := dotted_any label uses uA uc dA N dc known kA kc 5 n m i d A l c W1 (HH.out.2.2.2.2.2.1.keep HH.out.2.1.size fun p hp => HH.out.2.1.cell hp) (HH.out.2.2.2.2.2.2.below HH.out.2.1)
    obtain ⟨q, Hq⟩ : ∃ q, Hid (dotG uses known ⟨5, n, m, i, d⟩ = q) := ⟨_, Lib.hid rfl⟩
    rw [HUL.out, HKL.out, Hq.out] at hdt
    obtain ⟨qe, qk, qn, qm, qi, qd⟩ := q
    have HDt := Lib.hid hdt
    have HR := Lib.hid hr
    clear hdt hnl hr hbm
    go_enter Tryz.func75, Tryz.ntmps75
    go_wp2_with fail
    refine HDt.out.mono ?_
    rintro e w2 ⟨rfl, hb2⟩
    have hr2 := (hb2.block _ (lt_of_block HR.out)).trans HR.out
    have hBx := HH.out.1.trans (hb2.mono HH.out.1.size)
    have HG2 := Lib.hid (HG.out.trans Hq.out)
    clear hb2 x0 x1 x2 x3 x4 x5 m0 m1 m2 c2 c3
    obtain ⟨y0, y1, y2, y3, y4, y5, z0, z1, z2, z3, z4, z5⟩ := row6 hr2
    have HS := Lib.hid (six_set hr2 (.int .i64 qk) (.string qn) (.string qm) (.int .i64 qi) (.int .i64 qd) (.slice none 0 0))
    have HBx := Lib.hid hBx
    clear hr2 hBx
    go_wp2
    obtain ⟨W9, hW9, s0, s1, s2, s3, s4, s5, hBf, hsz, hbk⟩ := out6 HS.out HBx.out (by omega)
    rw [hW9]
    refine bodyPost_ret (v := .tuple #[.agg #[.int .i64 qk, .string qn, .string qm, .int .i64 qi, .int .i64 qd, .slice none 0 0], .int .i64 qe]) (by simp [results, Tryz.results75, go_sem, s0, s1, s2, s3, s4, s5]) rfl ?_
    rw [HG2.out]
    exact ⟨_, _, _, rfl, hBf⟩
  | true =>
    have hne : (!n.toList.isEmpty) = false := by rw [hem]; rfl
    clear hbm c2
    cases hL : lastD ds i with
    | none =>
      have HG := Lib.hid (show gUnb uses ds known ⟨5, n, m, i, d⟩ sc = (21, noNx) by unfold gUnb; rw [if_pos rfl, if_neg (by simp only [hem]; simp)]; simp only [hL])
      rw [hL] at hnl
      simp only [Option.map_none, Option.getD_none] at hnl
      have hBx := HH.out.1
      clear hL
      go_enter Tryz.func75, Tryz.ntmps75
      obtain ⟨y0, y1, y2, y3, y4, y5, z0, z1, z2, z3, z4, z5⟩ := row6 hr
      have HS := Lib.hid (six_set hr (.int .i64 0) (.string ⟨#[]⟩) (.string ⟨#[]⟩) (.int .i64 0) (.int .i64 0) (.slice none 0 0))
      have HBx := Lib.hid hBx
      clear hr hBx
      go_wp2
      obtain ⟨W9, hW9, s0, s1, s2, s3, s4, s5, hBf, hsz, hbk⟩ := out6 HS.out HBx.out (by omega)
      rw [hW9]
      refine bodyPost_ret (v := .tuple #[.agg #[.int .i64 0, .string ⟨#[]⟩, .string ⟨#[]⟩, .int .i64 0, .int .i64 0, .slice none 0 0], .int .i64 21]) (by simp [results, Tryz.results75, go_sem, s0, s1, s2, s3, s4, s5]) rfl ?_
      rw [HG.out]
      exact ⟨_, _, _, rfl, hBf⟩
    | some y =>
      rw [hL] at hnl
      simp only [Option.map_some, Option.getD_some] at hnl
      have hy : y ∈ ds := (lastD_mem hL).resolve_right (by simp)
      have hsy := (HH.out.2.2.2.1 y hy).keep HH.out.2.1.size fun p hp => HH.out.2.1.cell hp
      have hsty := HH.out.2.2.2.2.1 y hy
      have HG := Lib.hid (show gUnb uses ds known ⟨5, n, m, i, d⟩ sc = if y.names.length = 0 then (21, noNx) else if 1 < y.names.length then (17, noNx) else if hasN sc (nameOf y) = true then (6, noNx) else (0, ⟨3, nameOf y, ⟨#[]⟩, 0, 0⟩) by unfold gUnb; rw [if_pos rfl, if_neg (by simp only [hem]; simp)]; simp only [hL])
      obtain ⟨yid, ykind, ypub, ynA, ync, ynames, ydoubt, yk, yn, ym, yi, yd, yA, yc, ys⟩ := y
      simp only [nameOf] at hnl hsy hsty HG
      have hc1 := hsy.1
      have hc2 := hsy.2.1
      unfold maxLen at hc2
      clear hL hy
      have hBx := HH.out.1
      obtain ⟨NL, HNL⟩ : ∃ Q, Hid (ynames.length = Q) := ⟨_, Lib.hid rfl⟩
      rw [HNL.out] at hnl hc1
      by_cases hl0 : NL = 0
      · have HG2 := Lib.hid (HG.out.trans (if_pos (HNL.out.trans hl0)))
        subst hl0
        have hi0 : ((0 : Nat) : Int) = 0 := rfl
        clear hsy hsty
        go_enter Tryz.func75, Tryz.ntmps75
        obtain ⟨y0, y1, y2, y3, y4, y5, z0, z1, z2, z3, z4, z5⟩ := row6 hr
        have HS := Lib.hid (six_set hr (.int .i64 0) (.string ⟨#[]⟩) (.string ⟨#[]⟩) (.int .i64 0) (.int .i64 0) (.slice none 0 0))
        have HBx := Lib.hid hBx
        clear hr hBx
        go_wp2
        obtain ⟨W9, hW9, s0, s1, s2, s3, s4, s5, hBf, hsz, hbk⟩ := out6 HS.out HBx.out (by omega)
        rw [hW9]
        refine bodyPost_ret (v := .tuple #[.agg #[.int .i64 0, .string ⟨#[]⟩, .string ⟨#[]⟩, .int .i64 0, .int .i64 0, .slice none 0 0], .int .i64 21]) (by simp [results, Tryz.results75, go_sem, s0, s1, s2, s3, s4, s5]) rfl ?_
        rw [HG2.out]
        exact ⟨_, _, _, rfl, hBf⟩
      · have HG1 := Lib.hid (HG.out.trans (if_neg (by rw [HNL.out]; exact hl0)))
        have j0 : ((NL : Int) == 0) = false := by simp; omega
        by_cases hl1 : 1 < NL
        · have HG2 := Lib.hid (HG1.out.trans (if_pos (by rw [HNL.out]; exact hl1)))
          have j1 : decide ((NL : Int) > 1) = true := by simp; omega
          have j2 : decide (NL > 1) = true := by simp; omega
          have j3 : decide ((1 : Int) < (NL : Int)) = true := by simp; omega
          clear hsy hsty
          go_enter Tryz.func75, Tryz.ntmps75
          obtain ⟨y0, y1, y2, y3, y4, y5, z0, z1, z2, z3, z4, z5⟩ := row6 hr
          have HS := Lib.hid (six_set hr (.int .i64 0) (.string ⟨#[]⟩) (.string ⟨#[]⟩) (.int .i64 0) (.int .i64 0) (.slice none 0 0))
          have HBx := Lib.hid hBx
          clear hr hBx
          go_wp2
          obtain ⟨W9, hW9, s0, s1, s2, s3, s4, s5, hBf, hsz, hbk⟩ := out6 HS.out HBx.out (by omega)
          rw [hW9]
          refine bodyPost_ret (v := .tuple #[.agg #[.int .i64 0, .string ⟨#[]⟩, .string ⟨#[]⟩, .int .i64 0, .int .i64 0, .slice none 0 0], .int .i64 17]) (by simp [results, Tryz.results75, go_sem, s0, s1, s2, s3, s4, s5]) rfl ?_
          rw [HG2.out]
          exact ⟨_, _, _, rfl, hBf⟩
        · have hN1 : NL = 1 := by omega
          subst hN1
          obtain ⟨nm, rfl⟩ : ∃ nm, ynames = [nm] := List.length_eq_one_iff.1 HNL.out
          obtain ⟨nbk, no, rfl, hnb, hncell⟩ := hsy.at_ (j := 0) (by simp)
          simp only [List.getElem_cons_zero, Nat.add_zero] at hncell
          have hnms : nm.size ≤ maxLen := hsty nm (by simp)
          have hlk : (Instr.lookup 89 (.map (some b)) (.string nm) false).run Tryz.prog W1 = .ok (.bool (hasN sc nm)) W1 := by
            rw [← keyS_has]
            exact HH.out.2.2.1.look strKeyed Tryz.underlying89 (keyS_of hnms)
          have HG2 := Lib.hid (HG1.out.trans (if_neg (by simp)))
          clear hsy hsty hnb hl0 hl1 j0
          cases hsb : hasN sc nm with
          | true =>
            have HG3 := Lib.hid (HG2.out.trans (if_pos (by simpa using hsb)))
            rw [hsb] at hlk
            clear hsb
            go_enter Tryz.func75, Tryz.ntmps75
            obtain ⟨y0, y1, y2, y3, y4, y5, z0, z1, z2, z3, z4, z5⟩ := row6 hr
            have HS := Lib.hid (six_set hr (.int .i64 0) (.string ⟨#[]⟩) (.string ⟨#[]⟩) (.int .i64 0) (.int .i64 0) (.slice none 0 0))
            have HBx := Lib.hid hBx
            clear hr hBx
            go_wp2
            obtain ⟨W9, hW9, s0, s1, s2, s3, s4, s5, hBf, hsz, hbk⟩ := out6 HS.out HBx.out (by omega)
            rw [hW9]
            refine bodyPost_ret (v := .tuple #[.agg #[.int .i64 0, .string ⟨#[]⟩, .string ⟨#[]⟩, .int .i64 0, .int .i64 0, .slice none 0 0], .int .i64 6]) (by simp [results, Tryz.results75, go_sem, s0, s1, s2, s3, s4, s5]) rfl ?_
            rw [HG3.out]
            exact ⟨_, _, _, rfl, hBf⟩
          | false =>
            have HG3 := Lib.hid (HG2.out.trans (if_neg (by simpa using hsb)))
            rw [hsb] at hlk
            clear hsb
            go_enter Tryz.func75, Tryz.ntmps75
            obtain ⟨y0, y1, y2, y3, y4, y5, z0, z1, z2, z3, z4, z5⟩ := row6 hr
            have HS := Lib.hid (six_set hr (.int .i64 3) (.string nm) (.string ⟨#[]⟩) (.int .i64 0) (.int .i64 0) (.slice none 0 0))
            have HBx := Lib.hid hBx
            clear hr hBx
            go_wp2
            obtain ⟨W9, hW9, s0, s1, s2, s3, s4, s5, hBf, hsz, hbk⟩ := out6 HS.out HBx.out (by omega)
            rw [hW9]
            refine bodyPost_ret (v := .tuple #[.agg #[.int .i64 3, .string nm, .string ⟨#[]⟩, .int .i64 0, .int .i64 0, .slice none 0 0], .int .i64 0]) (by simp [results, Tryz.results75, go_sem, s0, s1, s2, s3, s4, s5]) rfl ?_
            rw [HG3.out]
            exact ⟨_, _, _, rfl, hBf⟩
end Go.Proofs.YtacjjkbkhpdhnaaGreatDoor
