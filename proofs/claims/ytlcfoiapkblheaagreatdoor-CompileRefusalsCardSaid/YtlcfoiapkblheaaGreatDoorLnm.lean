/- law28.CompileNames -/
import Derived.Test.YtlcfoiapkblheaaGreatDoorNmd
import Derived.Test.YtlcfoiapkblheaaGreatDoorRnm
import Derived.Test.YtlcfoiapkblheaaGreatDoorGkl
import Derived.Test.YtlcfoiapkblheaaGreatDoorAwm
namespace Go.Proofs.YtlcfoiapkblheaaGreatDoor
open Go.RowKit Go.Proofs Go.Shelf

theorem ba_ext {a b : ByteArray} (h : a.data.toList = b.data.toList) : a = b := by
  cases a with
  | mk x =>
    cases b with
    | mk y => exact congrArg ByteArray.mk (Array.ext' h)
/-- What a call of Module leaves: slices, and code where there is no error. -/
theorem ModP.forms {label : ByteArray} {uses : List ByteArray} {decls : List Dc} {w w' : World} {e : Ending} (h : ModP label uses decls w e w') :
    ∃ lb A1 n1 c1 A2 n2 c2, e = .returned (.tuple #[.agg #[.string lb, .slice A1 n1 c1, .slice A2 n2 c2], .int .i64 (modE label uses decls)]) ∧ Below w.heap.size w w' ∧
      (modE label uses decls = 0 → lb = label ∧ BlocksAt w' (.slice A1 n1 c1) (modGo label 0 decls).1 ∧ CdAt w' (.slice A2 n2 c2) (modGo label 0 decls).2) := by
  obtain ⟨lb, bv, dv, rfl, hb, h⟩ := h
  rcases h with ⟨h0, h1, h2⟩ | ⟨h0, rfl, rfl, rfl⟩
  · obtain ⟨hbA, hcA⟩ := h2.at_
    obtain ⟨bA, bc, rfl, _⟩ := hbA.form
    obtain ⟨vA, vc, rfl, _⟩ := hcA.form
    exact ⟨lb, bA, _, bc, vA, _, vc, rfl, hb, fun _ => ⟨h1, hbA, hcA⟩⟩
  · exact ⟨_, _, _, _, _, _, _, rfl, hb, fun h => absurd h h0⟩

set_option maxRecDepth 100000 in
set_option maxHeartbeats 4000000 in
theorem lawNames_any (label : ByteArray) (uses : List ByteArray) (uA : Option Addr) (uc : Nat) (decls : List Dc) (dA : Option Addr) (dc : Nat) (id : Int) (name : ByteArray) (w : World) (hu : SlS w w.heap.size uA uc uses) (hd : SlD w w.heap.size dA dc decls) :
    Calls Tryz.prog 6 #[.agg #[.string label, .slice uA uses.length uc, .slice dA decls.length dc], .int .i64 id, .string name] w fun e w' => e = .returned (.bool true) ∧ Below w.heap.size w w' := by
  obtain ⟨N, HN⟩ : ∃ Q, Hid (decls.length = Q) := ⟨_, Lib.hid rfl⟩
  obtain ⟨NU, HNU⟩ : ∃ Q, Hid (uses.length = Q) := ⟨_, Lib.hid rfl⟩
  obtain ⟨W0, hW0⟩ : ∃ W0, w.alloc (.cells #[.string label, .slice uA NU uc, .slice dA N dc] 25) = W0 := ⟨_, rfl⟩
  have hzw : w.heap.size < W0.heap.size := by subst hW0; simp
  have hB0 : Below w.heap.size w W0 := by subst hW0; exact (Below.refl _ _).alloc (Nat.le_refl _) _
  have hx0 : W0.heap[w.heap.size]? = some (.cells #[.string label, .slice uA NU uc, .slice dA N dc] 25 (0, 0)) := by rw [← hW0]; exact heap_alloc_new w _
  have HC : Hid (∀ X, Below W0.heap.size W0 X → Below w.heap.size w X ∧ w.heap.size < X.heap.size ∧ SlS X X.heap.size uA uc uses ∧ SlD X X.heap.size dA dc decls ∧ X.cell? ⟨w.heap.size, 0, none⟩ = some (.string label) ∧ X.cell? ⟨w.heap.size, 1, none⟩ = some (.slice uA NU uc) ∧ X.cell? ⟨w.heap.size, 2, none⟩ = some (.slice dA N dc)) := fun X hX => by
    have hx := (hX.block w.heap.size (by omega)).trans hx0
    have hb := hB0.trans (hX.mono (by omega))
    exact ⟨hb, Nat.lt_of_lt_of_le hzw hX.size, hu.keep (by have := hb.size; omega) (fun p hp => hb.cell hp), hd.keep (by have := hb.size; omega) (fun p hp => hb.cell hp), cell_of_row X w.heap.size 0 _ _ (0, 0) hx, cell_of_row X w.heap.size 1 _ _ (0, 0) hx, cell_of_row X w.heap.size 2 _ _ (0, 0) hx⟩
  have HAW : Hid (∀ X, Below w.heap.size w X → Calls Tryz.prog 16 #[] X fun e Y => e = .returned (.bool true) ∧ Below w.heap.size w Y) := fun X hX => (awake28_any X).mono fun e Y ⟨h1, h2⟩ => ⟨h1, hX.trans (h2.mono hX.size)⟩
  have hdl := hd.1
  have hdl2 := hd.2.1
  unfold maxLen at hdl2
  rw [HNU.out]
  rw [HN.out] at hdl ⊢
  obtain ⟨_, _, hsa, hda, y0, y1, y2⟩ := HC.out W0 (Below.refl _ _)
  have hgr := great24_any label uses uA uc decls dA dc W0 hsa hda
  obtain ⟨G, HG⟩ : ∃ Q, Hid (greatM label uses decls = Q) := ⟨_, Lib.hid rfl⟩
  rw [HNU.out, HN.out, HG.out] at hgr
  have HGR := Lib.hid hgr
  clear hgr hu hd hB0 hx0 hsa hda
  go_enter Tryz.func6, Tryz.ntmps6
  go_wp2_with fail
  refine HGR.out.mono ?_
  rintro e w1 ⟨rfl, hb1⟩
  have HB1 := Lib.hid hb1
  clear hb1 y0 y1 y2 hW0 HGR
  cases G
  rotate_left
  · have HA := Lib.hid (HAW.out w1 (HC.out w1 HB1.out).1)
    go_wp2_with fail
    refine HA.out.mono ?_
    rintro e w2 ⟨rfl, hb2⟩
    have HB2 := Lib.hid hb2
    clear hb2
    go_wp2
    go_ret
    exact ⟨rfl, HB2.out⟩
  by_cases hnl : name.size ≤ 100
  rotate_left
  · have HA := Lib.hid (HAW.out w1 (HC.out w1 HB1.out).1)
    go_wp2_with fail
    refine HA.out.mono ?_
    rintro e w2 ⟨rfl, hb2⟩
    have HB2 := Lib.hid hb2
    clear hb2
    go_wp2
    go_ret
    exact ⟨rfl, HB2.out⟩
  obtain ⟨_, hz1, hs1, hd1, y0, y1, y2⟩ := HC.out w1 HB1.out
  have hrn := rename_any label uses uA uc decls dA dc id name w1 hs1 hd1
  rw [HNU.out, HN.out] at hrn
  have HRN := Lib.hid hrn
  clear hrn hs1 hd1
  go_wp2_with fail
  refine HRN.out.mono ?_
  rintro e w2 ⟨lb, a1, n1, c1, a2, n2, c2, er, rfl, hb2, hren⟩
  have hb12 := HB1.out.trans (hb2.mono HB1.out.size)
  have HREN := Lib.hid hren
  clear HRN y0 y1 y2 hren
  obtain ⟨W3, hW3⟩ : ∃ W3, w2.alloc (.cells #[.string lb, .slice a1 n1 c1, .slice a2 n2 c2] 25) = W3 := ⟨_, rfl⟩
  have hb3 : Below w2.heap.size w2 W3 := by rw [← hW3]; exact (Below.refl _ _).alloc (Nat.le_refl _) _
  have hz3 : w2.heap.size < W3.heap.size := by rw [← hW3]; simp
  have hr3 : W3.heap[w2.heap.size]? = some (.cells #[.string lb, .slice a1 n1 c1, .slice a2 n2 c2] 25 (0, 0)) := by rw [← hW3]; exact heap_alloc_new w2 _
  have hb13 := hb12.trans (hb3.mono hb12.size)
  obtain ⟨_, _, hs3, hd3, y0, y1, y2⟩ := HC.out W3 hb13
  have hmo := module_any label uses uA uc decls dA dc W3 hs3 hd3
  rw [HNU.out, HN.out] at hmo
  have HMO := Lib.hid hmo
  have H3 := Lib.hid (And.intro hb13 (And.intro hb3 hr3))
  clear hmo hs3 hd3 hb2 hb12 hb3 hb13 hr3
  go_wp2_with fail
  refine HMO.out.mono ?_
  intro e w4 hm4
  obtain ⟨lb4, A1, m1, k1, A2, m2, k2, rfl, hb4, hcode⟩ := hm4.forms
  clear hm4 HMO y0 y1 y2
  have hb14 := H3.out.1.trans (hb4.mono H3.out.1.size)
  obtain ⟨E, HE⟩ : ∃ Q, Hid (modE label uses decls = Q) := ⟨_, Lib.hid rfl⟩
  rw [HE.out] at hcode ⊢
  obtain ⟨W5, hW5⟩ : ∃ W5, w4.alloc (.cells #[.string lb4, .slice A1 m1 k1, .slice A2 m2 k2] 31) = W5 := ⟨_, rfl⟩
  have hb5 : Below w4.heap.size w4 W5 := by rw [← hW5]; exact (Below.refl _ _).alloc (Nat.le_refl _) _
  have hz5 : w4.heap.size < W5.heap.size := by rw [← hW5]; simp
  have hr5 : W5.heap[w4.heap.size]? = some (.cells #[.string lb4, .slice A1 m1 k1, .slice A2 m2 k2] 31 (0, 0)) := by rw [← hW5]; exact heap_alloc_new w4 _
  have hb15 := hb14.trans (hb5.mono hb14.size)
  have HA5 := Lib.hid (HAW.out W5 (HC.out W5 hb15).1)
  have hz4 := hb4.size
  have H5 := Lib.hid (And.intro hb15 (And.intro hb5 (And.intro hr5 (And.intro hb4 hcode))))
  clear hb14 hb15 hb5 hr5 hb4 hcode
  by_cases her : er = 0
  rotate_left
  · have her' : (er != 0) = true := by simpa using her
    clear her
    go_wp2_with fail
    refine HA5.out.mono ?_
    rintro e w6 ⟨rfl, hb6⟩
    have HB6 := Lib.hid hb6
    clear hb6
    go_wp2
    go_ret
    exact ⟨rfl, HB6.out⟩
  by_cases hE : E = 0
  rotate_left
  · have hE' : (E != 0) = true := by simpa using hE
    subst her
    clear hE
    go_wp2_with fail
    refine HA5.out.mono ?_
    rintro e w6 ⟨rfl, hb6⟩
    have HB6 := Lib.hid hb6
    clear hb6
    go_wp2
    go_ret
    exact ⟨rfl, HB6.out⟩
  subst her hE
  obtain ⟨e1, e2, e3, e4, e5, hnb, hck, q, x, nA, hxq, hoth, hsld⟩ := HREN.out rfl
  subst e1 e2 e3 e4 e5
  obtain ⟨e6, hB4, hC4⟩ := H5.out.2.2.2.2 rfl
  have e6' := e6.symm
  subst e6'
  have hb25 : Below w2.heap.size w2 W5 := H3.out.2.1.trans ((H5.out.2.2.2.1.mono (Nat.le_refl _)).trans (H5.out.2.1.mono hz4) |>.mono (Nat.le_of_lt hz3))
  have hconf := (modE_zero HE.out).2.1
  rw [confB_false] at hconf
  have hms := mod_set (y := { x with nA := nA, nc := 1, names := [name] }) (name := name) HE.out hxq rfl rfl (by simp [dnE, dnB, hnb]) (fun j z hj hz => by
    have := hoth j z hj hz (hconf.1 z (List.mem_of_getElem? hz)).2.1
    intro h
    rw [ba_ext h] at this
    simp at this)
  obtain ⟨_, _, hs5, _, _, _, _⟩ := HC.out W5 H5.out.1
  have hsl5 := hsld.keep (w' := W5) (B' := W5.heap.size) hb25.size fun p hp => hb25.cell hp
  have hmo := module_any lb uses a1 c1 _ a2 c2 W5 hs5 hsl5
  rw [List.length_set] at hmo
  have n0 := cell_of_row W5 w2.heap.size 0 _ _ (0, 0) ((H5.out.2.1.block _ (by omega)).trans ((H5.out.2.2.2.1.block _ (by omega)).trans H3.out.2.2))
  have n1 := cell_of_row W5 w2.heap.size 1 _ _ (0, 0) ((H5.out.2.1.block _ (by omega)).trans ((H5.out.2.2.2.1.block _ (by omega)).trans H3.out.2.2))
  have n2 := cell_of_row W5 w2.heap.size 2 _ _ (0, 0) ((H5.out.2.1.block _ (by omega)).trans ((H5.out.2.2.2.1.block _ (by omega)).trans H3.out.2.2))
  simp at n0 n1 n2
  have HMO := Lib.hid hmo
  have HMS := Lib.hid hms
  have H4 := Lib.hid (And.intro hB4 hC4)
  clear hmo hms hB4 hC4 hs5 hsl5 hsld hoth hxq hconf hck hnb HREN hb25
  obtain ⟨D', HD'⟩ : ∃ Q, Hid (decls.set q { x with nA := nA, nc := 1, names := [name] } = Q) := ⟨_, Lib.hid rfl⟩
  rw [HD'.out] at HMO HMS
  rw [HN.out, HNU.out] at HMO
  rw [HN.out] at n2
  rw [HNU.out] at n1
  go_wp2_with fail
  refine HMO.out.mono ?_
  intro e w6 hm6
  obtain ⟨lb6, B1, p1, q1, B2, p2, q2, rfl, hb6, hcode6⟩ := hm6.forms
  rw [HMS.out.1] at hcode6 ⊢
  obtain ⟨e7, hB6, hC6⟩ := hcode6 rfl
  have e7' := e7.symm
  subst e7'
  rw [HMS.out.2] at hB6 hC6
  clear hm6 hcode6 HMO n0 n1 n2
  obtain ⟨W7, hW7⟩ : ∃ W7, w6.alloc (.cells #[.string lb, .slice B1 p1 q1, .slice B2 p2 q2] 31) = W7 := ⟨_, rfl⟩
  have hb7 : Below w6.heap.size w6 W7 := by rw [← hW7]; exact (Below.refl _ _).alloc (Nat.le_refl _) _
  have hz7 : w6.heap.size < W7.heap.size := by rw [← hW7]; simp
  have hr7 : W7.heap[w6.heap.size]? = some (.cells #[.string lb, .slice B1 p1 q1, .slice B2 p2 q2] 31 (0, 0)) := by rw [← hW7]; exact heap_alloc_new w6 _
  have hz6 := hb6.size
  have hb57 := hb6.trans (hb7.mono hz6)
  have hb47 : Below w4.heap.size w4 W7 := H5.out.2.1.trans (hb57.mono (Nat.le_of_lt hz5))
  have hr47 := (hb57.block w4.heap.size hz5).trans H5.out.2.2.1
  have o0 := cell_of_row W7 w4.heap.size 0 _ _ (0, 0) hr47
  have o1 := cell_of_row W7 w4.heap.size 1 _ _ (0, 0) hr47
  have o2 := cell_of_row W7 w4.heap.size 2 _ _ (0, 0) hr47
  have r0 := cell_of_row W7 w6.heap.size 0 _ _ (0, 0) hr7
  have r1 := cell_of_row W7 w6.heap.size 1 _ _ (0, 0) hr7
  have r2 := cell_of_row W7 w6.heap.size 2 _ _ (0, 0) hr7
  simp at o0 o1 o2 r0 r1 r2
  have HSA := Lib.hid (same_eq lb _ _ _ _ _ _ W7 (H4.out.1.below hb47) (hB6.below hb7) (H4.out.2.below hb47) (hC6.below hb7))
  have hb17 := H5.out.1.trans (hb57.mono H5.out.1.size)
  have H7 := Lib.hid (HC.out W7 hb17).1
  clear hb7 hr7 hb57 hb47 hr47 hB6 hC6 hb6 hb17
  go_wp2_with fail
  refine HSA.out.mono ?_
  rintro e w8 ⟨rfl, hb8⟩
  have H8 := Lib.hid (H7.out.trans (hb8.mono H7.out.size))
  have HA8 := Lib.hid (HAW.out w8 H8.out)
  clear hb8 HSA o0 o1 o2 r0 r1 r2
  go_wp2_with fail
  refine HA8.out.mono ?_
  rintro e w9 ⟨rfl, hb9⟩
  have HB9 := Lib.hid hb9
  clear hb9
  go_wp2
  go_ret
  exact ⟨rfl, HB9.out⟩
end Go.Proofs.YtlcfoiapkblheaaGreatDoor
