/- bind.Unbind (printed by gen_unb.py) -/
import Derived.Test.YtacjjkbkhpdhnaaGreatDoorSxg
import Derived.Test.YtacjjkbkhpdhnaaGreatDoorZpf
import Derived.Test.YtacjjkbkhpdhnaaGreatDoorZph
import Derived.Test.YtacjjkbkhpdhnaaGreatDoorChk
import Derived.Deep.AppendLies
import Derived.Deep.RegionHeld3
import Derived.Test.YtacjjkbkhpdhnaaGreatDoorZpc
import Derived.Test.YtacjjkbkhpdhnaaGreatDoorZlj
import Derived.Test.YtacjjkbkhpdhnaaGreatDoorZlp
import Derived.Test.YtacjjkbkhpdhnaaGreatDoorZpg
import Derived.Test.YtacjjkbkhpdhnaaGreatDoorZll
import Derived.Test.YtacjjkbkhpdhnaaGreatDoorZpn
import Derived.Test.YtacjjkbkhpdhnaaGreatDoorZpj
namespace Go.Proofs.YtacjjkbkhpdhnaaGreatDoor
open Go.RowKit Go.Proofs Go.Shelf
theorem two_setU {W : World} {b : Nat} {t : TypeId} {c0 c1 : Value} (h : W.heap[b]? = some (.cells #[c0, c1] t (0, 0))) (u0 u1 : Value) :
    ((W.setCell ⟨b, 0, none⟩ u0).setCell ⟨b, 1, none⟩ u1).heap[b]? = some (.cells #[u0, u1] t (0, 0)) := by
  simp [World.setCell, Array.getElem?_modify, h]
theorem declsE_mem {label : ByteArray} : ∀ {p : Option Int} {ds : List Dc}, declsE label p ds = 0 → ∀ x ∈ ds, declE label x = 0
  | _, [], _, x, hx => by cases hx
  | none, y :: r, h, x, hx => by
    unfold declsE at h
    by_cases h1 : declE label y = 0
    · rw [if_pos h1] at h
      rcases List.mem_cons.1 hx with rfl | hx
      · exact h1
      · exact declsE_mem h x hx
    · rw [if_neg h1] at h
      exact absurd h h1
  | some p, y :: r, h, x, hx => by
    unfold declsE at h
    by_cases h1 : declE label y = 0
    · rw [if_pos h1] at h
      rcases List.mem_cons.1 hx with rfl | hx
      · exact h1
      · by_cases h2 : y.id ≤ p
        · rw [if_pos h2] at h; cases h
        · rw [if_neg h2] at h
          exact declsE_mem h x hx
    · rw [if_neg h1] at h
      exact absurd h h1
theorem checkE_parts {label : ByteArray} {uses : List ByteArray} {ds : List Dc} (h : checkE label uses ds = 0) : labelB label = true ∧ srcE uses = 0 ∧ useAll label uses uses.length 0 = 0 ∧ ds.length ≤ 100 ∧ declsE label none ds = 0 := by
  unfold checkE at h
  by_cases h1 : labelB label = false
  · rw [if_pos h1] at h; cases h
  rw [if_neg h1] at h
  by_cases h2 : srcE uses = 0
  rotate_left
  · rw [if_pos h2] at h; exact absurd h h2
  rw [if_neg (by simpa using h2)] at h
  by_cases h3 : useAll label uses uses.length 0 = 0
  rotate_left
  · rw [if_pos h3] at h; exact absurd h h3
  rw [if_neg (by simpa using h3)] at h
  by_cases h4 : 100 < ds.length
  · rw [if_pos h4] at h; cases h
  rw [if_neg h4] at h
  exact ⟨by simpa using h1, h2, h3, by omega, h⟩
theorem declE_expr {label : ByteArray} {x : Dc} (h : declE label x = 0) : 1 ≤ x.id ∧ x.id ≤ 999999 ∧ exprE x.pre = 0 := by
  unfold declE at h
  by_cases h1 : x.id < 1 ∨ 999999 < x.id
  · rw [if_pos h1] at h; simp at h
  rw [if_neg h1] at h
  by_cases h2 : x.kind ≠ 1 ∧ x.kind ≠ 2 ∧ x.kind ≠ 3
  · rw [if_pos h2] at h; simp at h
  rw [if_neg h2] at h
  by_cases h3 : dnE x.names ≠ 0
  · rw [if_pos h3] at h; exact absurd h h3
  rw [if_neg h3] at h
  by_cases h4 : exprE x.pre ≠ 0
  · rw [if_pos h4] at h; exact absurd h h4
  exact ⟨by omega, by omega, by omega⟩
def UnbR (label : ByteArray) (uses : List ByteArray) (uA : Option Addr) (uc : Nat) (ds : List Dc) (known : List If) (w : World) (e : Ending) (w' : World) : Prop :=
  Below w.heap.size w w' ∧ ((unbE label uses ds known ≠ 0 ∧ e = .returned (.tuple #[.agg #[.slice none 0 0, .slice none 0 0], .int .i64 (unbE label uses ds known)])) ∨
    (unbE label uses ds known = 0 ∧ ∃ A c es, RbDs (gUnb uses ds known) ds es ∧ es.length = ds.length ∧ SlD w' w'.heap.size A c es ∧ e = .returned (.tuple #[.agg #[.slice uA uses.length uc, .slice A ds.length c], .int .i64 0])))
set_option maxRecDepth 100000 in
set_option maxHeartbeats 16000000 in
theorem bUnbind_any (label : ByteArray) (uses : List ByteArray) (uA : Option Addr) (uc : Nat) (ds : List Dc) (dA : Option Addr) (dc : Nat) (known : List If) (kA : Option Addr) (kc : Nat) (w : World) (hu : SlS w w.heap.size uA uc uses) (hd : SlD w w.heap.size dA dc ds) (hst : StrD ds) (hnm : NmIn ds) (hk : SlI w w.heap.size kA kc known) :
    Calls Tryz.prog 24 #[.agg #[.string label, .slice uA uses.length uc, .slice dA ds.length dc], .slice kA known.length kc] w (UnbR label uses uA uc ds known w) := by
  obtain ⟨W0, hW0⟩ : ∃ W0, ((w.alloc (.cells #[.string label, .slice uA uses.length uc, .slice dA ds.length dc] 25)).alloc (.cells #[.slice kA known.length kc] 41)).alloc (.cells #[.slice none 0 0, .slice none 0 0] 40) = W0 := ⟨_, rfl⟩
  have hb0 : Below w.heap.size w W0 := by rw [← hW0]; exact (((Below.refl _ _).alloc (Nat.le_refl _) _).alloc (by simp) _).alloc (by simp; omega) _
  have hz0 : W0.heap.size = w.heap.size + 3 := by rw [← hW0]; simp
  have hr4 : W0.heap[w.heap.size]? = some (.cells #[.string label, .slice uA uses.length uc, .slice dA ds.length dc] 25 (0, 0)) := by rw [← hW0]; exact (Below.heap_alloc _ _ _ (by simp; omega)).trans ((Below.heap_alloc _ _ _ (by simp)).trans (heap_alloc_new w _))
  have hr5 : W0.heap[w.heap.size + 1]? = some (.cells #[.slice kA known.length kc] 41 (0, 0)) := by
    rw [← hW0]
    refine (Below.heap_alloc _ _ _ (by simp)).trans ?_
    have h := heap_alloc_new (w.alloc (.cells #[.string label, .slice uA uses.length uc, .slice dA ds.length dc] 25)) (.cells #[.slice kA known.length kc] 41)
    simpa using h
  have hr6 : W0.heap[w.heap.size + 1 + 1]? = some (.cells #[.slice none 0 0, .slice none 0 0] 40 (0, 0)) := by
    have h := heap_alloc_new ((w.alloc (.cells #[.string label, .slice uA uses.length uc, .slice dA ds.length dc] 25)).alloc (.cells #[.slice kA known.length kc] 41)) (.cells #[.slice none 0 0, .slice none 0 0] 40)
    rw [hW0] at h
    simpa using h
  have hul1 := hu.1
  have hul2 := hu.2.1
  have hdl1 := hd.1
  have hdl2 := hd.2.1
  have hkl2 := hk.2.1
  unfold maxLen at hul2 hdl2 hkl2
  have HX := Lib.hid (show ∀ X : World, Below W0.heap.size W0 X → Below w.heap.size w X ∧ SlS X X.heap.size uA uc uses ∧ SlD X X.heap.size dA dc ds ∧ SlI X X.heap.size kA kc known ∧ X.heap[w.heap.size]? = some (.cells #[.string label, .slice uA uses.length uc, .slice dA ds.length dc] 25 (0, 0)) ∧ X.heap[w.heap.size + 1]? = some (.cells #[.slice kA known.length kc] 41 (0, 0)) ∧ X.heap[w.heap.size + 1 + 1]? = some (.cells #[.slice none 0 0, .slice none 0 0] 40 (0, 0)) from fun X hX => by
    have h1 := hb0.trans (hX.mono hb0.size)
    exact ⟨h1, hu.keep h1.size (fun p hp => h1.cell hp), hd.keep h1.size (fun p hp => h1.cell hp), hk.below h1, (hX.block _ (by omega)).trans hr4, (hX.block _ (by omega)).trans hr5, (hX.block _ (by omega)).trans hr6⟩)
  obtain ⟨M, HM⟩ : ∃ Q, Hid (uses.length = Q) := ⟨_, Lib.hid rfl⟩
  obtain ⟨N, HN⟩ : ∃ Q, Hid (ds.length = Q) := ⟨_, Lib.hid rfl⟩
  obtain ⟨K, HK⟩ : ∃ Q, Hid (known.length = Q) := ⟨_, Lib.hid rfl⟩
  obtain ⟨_, hsu, hsd, hsk, _, _, _⟩ := HX.out W0 (Below.refl _ _)
  have hck := bCheck_any label uses uA uc ds dA dc W0 hsu hsd
  obtain ⟨E1, HE1⟩ : ∃ Q, Hid (checkE label uses ds = Q) := ⟨_, Lib.hid rfl⟩
  rw [HM.out, HN.out, HE1.out] at hck
  rw [HM.out] at hul1
  rw [HN.out] at hdl1
  rw [HM.out, HN.out, HK.out] at HX hW0 ⊢
  rw [HM.out, HN.out] at hr4
  rw [HK.out] at hr5
  have t0 : W0.cell? ⟨w.heap.size, 0, none⟩ = some (.string label) := cell_of_row W0 _ 0 _ _ (0, 0) hr4
  have t1 : W0.cell? ⟨w.heap.size, 1, none⟩ = some (.slice uA M uc) := cell_of_row W0 _ 1 _ _ (0, 0) hr4
  have t2 : W0.cell? ⟨w.heap.size, 2, none⟩ = some (.slice dA N dc) := cell_of_row W0 _ 2 _ _ (0, 0) hr4
  have HCk := Lib.hid hck
  have HH := Lib.hid (And.intro hst (And.intro hnm hb0))
  have HD := Lib.hid (show unbE label uses ds known = if E1 ≠ 0 then E1 else if twB [] ds = true then 17 else rbAllE (gUnb uses ds known) ds by unfold unbE; rw [HE1.out])
  have hmm := @run_makeMap Tryz.prog
  have HZ0 := Lib.hid hz0
  have HDd := Lib.hid hd
  clear hu hd hst hnm hk hr4 hr5 hr6 hck hsu hsd hsk hb0 hz0
  go_enter Tryz.func24, Tryz.ntmps24
  go_wp2_with fail
  refine HCk.out.mono ?_
  rintro e w1 ⟨rfl, hb1⟩
  have HB1 := Lib.hid hb1
  clear hb1 HCk t0 t1 t2 hW0
  by_cases he1 : E1 = 0
  rotate_left
  · have HR := Lib.hid (show unbE label uses ds known = E1 from HD.out.trans (if_pos he1))
    have HE0 := Lib.hid he1
    have he1' : (E1 != 0) = true := by simpa using he1
    obtain ⟨hBx, _, _, _, _, _, hr⟩ := HX.out w1 HB1.out
    clear he1
    obtain ⟨y0, y1, z0, z1⟩ := row2 hr
    have HS := Lib.hid (two_setU hr (.slice none 0 0) (.slice none 0 0))
    have HBx := Lib.hid hBx
    clear hr hBx
    go_wp2
    obtain ⟨W9, hW9, s0, s1, hBf, hsz, hbk⟩ := out2 HS.out HBx.out (by omega)
    rw [hW9]
    refine bodyPost_ret (v := .tuple #[.agg #[.slice none 0 0, .slice none 0 0], .int .i64 E1]) (by simp [results, Tryz.results24, go_sem, s0, s1]) rfl ?_
    exact ⟨hBf, .inl ⟨by rw [HR.out]; exact HE0.out, by rw [HR.out]⟩⟩
  subst he1
  have HD1 := Lib.hid (HD.out.trans (if_neg (by simp)))
  obtain ⟨_, _, _, hl100, hde⟩ := checkE_parts HE1.out
  have HV0 := Lib.hid (declsE_mem hde)
  have HIn := Lib.hid (show RbIn ds from rbIn_of HH.out.2.1 fun x hx => (declE_expr (HV0.out x hx)).2.2)
  obtain ⟨_, _, hsd1, _, hrm1, _, _⟩ := HX.out w1 HB1.out
  have htw := twice_any ds dA dc w1 hsd1 HH.out.1 hl100
  obtain ⟨tb, Htb⟩ : ∃ Q, Hid (twB [] ds = Q) := ⟨_, Lib.hid rfl⟩
  rw [HN.out, Htb.out] at htw
  rw [HN.out] at hl100
  have HTw := Lib.hid htw
  have t2 : w1.cell? ⟨w.heap.size, 2, none⟩ = some (.slice dA N dc) := cell_of_row w1 _ 2 _ _ (0, 0) hrm1
  clear hde hsd1 hrm1 htw
  go_wp2_with fail
  refine HTw.out.mono ?_
  rintro e w2 ⟨rfl, hb2⟩
  have HB2 := Lib.hid (HB1.out.trans (hb2.mono HB1.out.size))
  clear hb2 HTw t2
  cases tb with
  | true =>
    have HR := Lib.hid (show unbE label uses ds known = 17 from HD1.out.trans (if_pos Htb.out))
    obtain ⟨hBx, _, _, _, _, _, hr⟩ := HX.out w2 HB2.out
    obtain ⟨y0, y1, z0, z1⟩ := row2 hr
    have HS := Lib.hid (two_setU hr (.slice none 0 0) (.slice none 0 0))
    have HBx := Lib.hid hBx
    clear hr hBx
    go_wp2
    obtain ⟨W9, hW9, s0, s1, hBf, hsz, hbk⟩ := out2 HS.out HBx.out (by omega)
    rw [hW9]
    refine bodyPost_ret (v := .tuple #[.agg #[.slice none 0 0, .slice none 0 0], .int .i64 17]) (by simp [results, Tryz.results24, go_sem, s0, s1]) rfl ?_
    exact ⟨hBf, .inl ⟨by rw [HR.out]; simp, by rw [HR.out]⟩⟩
  | false =>
  have HD2 := Lib.hid (HD1.out.trans (if_neg (by rw [Htb.out]; simp)))
  obtain ⟨V1, hV1⟩ : ∃ q, (w2.alloc (.map #[] 0)).alloc (.cells #[.map (some w2.heap.size)] 111) = q := ⟨_, rfl⟩
  have hbV : Below w2.heap.size w2 V1 := by rw [← hV1]; exact ((Below.refl _ _).alloc (Nat.le_refl _) _).alloc (by simp) _
  have hmV : MapA intK V1 w2.heap.size 0 (fun _ => none) := by
    have h := MapA.made intK w2
    rw [← hV1]
    exact h.keep (Below.heap_alloc _ _ _ h.lt)
  have hqV : V1.heap[w2.heap.size + 1]? = some (.cells #[.map (some w2.heap.size)] 111 (0, 0)) := by
    have h := heap_alloc_new (w2.alloc (.map #[] 0)) (.cells #[.map (some w2.heap.size)] 111)
    rw [hV1] at h
    simpa using h
  have hBV := HB2.out.trans (hbV.mono HB2.out.size)
  have f1 : V1.cell? ⟨w.heap.size, 2, none⟩ = some (.slice dA N dc) := cell_of_row V1 _ 2 _ _ (0, 0) (HX.out V1 hBV).2.2.2.2.1
  have HV := Lib.hid (And.intro hmV (And.intro hqV hBV))
  clear hmV hqV hBV hbV
  go_wp2
  obtain ⟨mb, hmb⟩ : ∃ q, w2.heap.size = q := ⟨_, rfl⟩
  have HMb := Lib.hid hmb
  rw [hmb] at HV ⊢
  clear hmb
  go_loopg [9, 27] N (fun gg _ ct X => ∃ j : Nat, gg = N - j ∧ j ≤ N ∧ ct = .int .i64 j ∧ MapA intK X mb j (fun q => (lastD (ds.take j) q).map fun y => Value.slice y.nA y.names.length y.nc) ∧ X.heap[mb + 1]? = some (.cells #[.map (some mb)] 111 (0, 0)) ∧ Below W0.heap.size W0 X)
  case atStart => exact ⟨0, rfl, by omega, rfl, HV.out.1, HV.out.2.1, HV.out.2.2⟩
  case round =>
    obtain ⟨j, HG, hj, rfl, hmap, hq9, hB⟩ := hrel
    have hqlt := (Array.getElem?_eq_some_iff.1 hq9).1
    by_cases hlt : j < N
    · have hlt' : j < ds.length := by rw [HN.out]; exact hlt
      obtain ⟨x, hx⟩ : ∃ x, ds[j]? = some x := ⟨_, List.getElem?_eq_getElem hlt'⟩
      obtain ⟨_, _, hdX, _, _, _, _⟩ := HX.out wr hB
      obtain ⟨b, o, rfl, hb, hall⟩ := hdX.2.2 (by intro e; rw [e] at hlt'; simp at hlt')
      obtain ⟨hcs, _⟩ := hall j x hx
      obtain ⟨hid1, hid2, _⟩ := declE_expr (HV0.out x (List.mem_of_getElem? hx))
      have HTk := Lib.hid (show ds.take (j + 1) = ds.take j ++ [x] by
        rw [List.take_succ_eq_append_getElem hlt']
        rw [(List.getElem?_eq_some_iff.1 hx).2])
      obtain ⟨xid, xkind, xpub, xnA, xnc, xnames, xdoubt, xk, xn, xm, xi, xd, xA, xc, xs⟩ := x
      simp only at hid1 hid2
      obtain ⟨xL, HxL⟩ : ∃ Q, Hid (xnames.length = Q) := ⟨_, Lib.hid rfl⟩
      have d0 : wr.cell? ⟨b, o + j * 11, none⟩ = some (.int .i64 xid) := hcs 0 _ rfl
      have d1 : wr.cell? ⟨b, o + j * 11 + 1, none⟩ = some (.int .i64 xkind) := hcs 1 _ rfl
      have d2 : wr.cell? ⟨b, o + j * 11 + 2, none⟩ = some (.bool xpub) := hcs 2 _ rfl
      have d3 : wr.cell? ⟨b, o + j * 11 + 3, none⟩ = some (.slice xnA xnames.length xnc) := hcs 3 _ rfl
      have d4 : wr.cell? ⟨b, o + j * 11 + 4, none⟩ = some (.bool xdoubt) := hcs 4 _ rfl
      have d5 : wr.cell? ⟨b, o + j * 11 + 5, none⟩ = some (.int .i64 xk) := hcs 5 _ rfl
      have d6 : wr.cell? ⟨b, o + j * 11 + 6, none⟩ = some (.string xn) := hcs 6 _ rfl
      have d7 : wr.cell? ⟨b, o + j * 11 + 7, none⟩ = some (.string xm) := hcs 7 _ rfl
      have d8 : wr.cell? ⟨b, o + j * 11 + 8, none⟩ = some (.int .i64 xi) := hcs 8 _ rfl
      have d9 : wr.cell? ⟨b, o + j * 11 + 9, none⟩ = some (.int .i64 xd) := hcs 9 _ rfl
      have d10 : wr.cell? ⟨b, o + j * 11 + 10, none⟩ = some (.slice xA xs.len xc) := hcs 10 _ rfl
      rw [HxL.out] at d3
      obtain ⟨W3, hW3⟩ : ∃ q, wr.alloc (.cells #[.int .i64 xid, .int .i64 xkind, .bool xpub, .slice xnA xL xnc, .bool xdoubt, .int .i64 xk, .string xn, .string xm, .int .i64 xi, .int .i64 xd, .slice xA xs.len xc] 63) = q := ⟨_, rfl⟩
      have hb3 : Below wr.heap.size wr W3 := by rw [← hW3]; exact (Below.refl _ _).alloc (Nat.le_refl _) _
      have hx3 : W3.heap[wr.heap.size]? = some (.cells #[.int .i64 xid, .int .i64 xkind, .bool xpub, .slice xnA xL xnc, .bool xdoubt, .int .i64 xk, .string xn, .string xm, .int .i64 xi, .int .i64 xd, .slice xA xs.len xc] 63 (0, 0)) := by rw [← hW3]; exact heap_alloc_new _ _
      have hq3 := (hb3.block _ hqlt).trans hq9
      have hm3 := hmap.keep (hb3.block _ hmap.lt)
      have hB3 := hB.trans (hb3.mono hB.size)
      have f0 : W3.cell? ⟨wr.heap.size, 0, none⟩ = some (.int .i64 xid) := cell_of_row W3 _ 0 _ _ (0, 0) hx3
      have f3 : W3.cell? ⟨wr.heap.size, 3, none⟩ = some (.slice xnA xL xnc) := cell_of_row W3 _ 3 _ _ (0, 0) hx3
      have hq0 : W3.cell? ⟨mb + 1, 0, none⟩ = some (.map (some mb)) := cell_of_row W3 _ 0 _ _ (0, 0) hq3
      obtain ⟨w6, hrun0, hm6, hg6⟩ := hm3.put Tryz.underlying111 (by unfold maxLen; omega) (a := xid) (wf_small hid1 hid2) (.slice xnA xL xnc)
      have hrun : (Instr.mapUpdate 111 (.map (some mb)) (.int .i64 xid) (.slice xnA xL xnc)).run Tryz.prog W3 = .ok () w6 := hrun0
      have H6 := Lib.hid (And.intro hm6 hg6)
      have HT := Lib.hid (And.intro HG (And.intro hq3 hB3))
      clear HG hmap hq9 hB hdX hall hcs hb3 hq3 hm3 hB3 hx hrun0 hm6 hg6
      go_wp2
      go_roundg (N - (j + 1))
      case measure => rw [HT.out.1]; omega
      case rel =>
        have hg6 := H6.out.2
        refine ⟨j + 1, rfl, by omega, by go_num, H6.out.1.cong fun s _ => ?_, ?_, ?_⟩
        · rw [HTk.out, lastD_step]
          by_cases hs : s = xid
          · subst hs
            simp [HxL.out]
          · rw [if_neg hs, if_neg (fun h => hs h.symm)]
        · exact (hg6.block _ (Array.getElem?_eq_some_iff.1 HT.out.2.1).1 (fun e => absurd (Option.some.inj e) (by omega))).trans HT.out.2.1
        · have h1 : Below W0.heap.size W0 W3 := HT.out.2.2
          exact h1.grown hg6 h1.size (fun k hk => by cases hk; rw [← HMb.out]; exact HB2.out.size)
    · have hjN : j = N := by omega
      subst hjN
      have HIds := Lib.hid (show ds.take j = ds from List.take_of_length_le (by rw [HN.out]; exact Nat.le_refl _))
      have hmap0 : MapA intK wr mb j (fun q => (lastD ds q).map fun y => Value.slice y.nA y.names.length y.nc) := by have := hmap; rwa [HIds.out] at this
      obtain ⟨hbx, hsu, hsd, hsk, hr4, hr5, hr6⟩ := HX.out wr hB
      have h2 : wr.cell? ⟨w.heap.size + 1, 0, none⟩ = some (.slice kA K kc) := cell_of_row wr _ 0 _ _ (0, 0) hr5
      have h3 : wr.cell? ⟨mb + 1, 0, none⟩ = some (.map (some mb)) := cell_of_row wr _ 0 _ _ (0, 0) hq9
      have t1 : wr.cell? ⟨w.heap.size, 2, none⟩ = some (.slice dA j dc) := cell_of_row wr _ 2 _ _ (0, 0) hr4
      have hns : ∀ x ∈ ds, SlS wr wr.heap.size x.nA x.nc x.names := fun x hx => by
        obtain ⟨q, hq⟩ := List.getElem?_of_mem hx
        have hql := (List.getElem?_eq_some_iff.1 hq).1
        obtain ⟨_, _, _, _, hall⟩ := hsd.2.2 (by intro e; rw [e] at hql; simp at hql)
        exact (hall q x hq).2.1
      have hF := bUnbind1_any wr label uses uA uc dA j dc ds known kA kc w.heap.size (w.heap.size + 1) (mb + 1) mb j (by rw [HM.out]; exact hr4) (by rw [HK.out]; exact h2) h3 hmap0 hsu hsk hns HH.out.1
      have hra := rebuildAll_any wr 75 #[.pointer (some ⟨w.heap.size, 0, none⟩), .pointer (some ⟨w.heap.size + 1, 0, none⟩), .pointer (some ⟨mb + 1, 0, none⟩)] (gUnb uses ds known) hF ds dA dc wr hsd HIn.out (by rw [HN.out]; omega) (Below.refl _ _)
      obtain ⟨E9, HE9⟩ : ∃ Q, Hid (rbAllE (gUnb uses ds known) ds = Q) := ⟨_, Lib.hid rfl⟩
      unfold RbAllP at hra
      rw [HN.out, HE9.out] at hra
      have HRA := Lib.hid hra
      have HB := Lib.hid (And.intro hB (And.intro hr4 (And.intro hr6 hbx)))
      have hmf : ∀ (fn : Fn) (first cap : Array Value) (w : World), (Instr.makeFunc fn first cap).run Tryz.prog w = .ok (.func fn first cap) w := fun _ _ _ _ => rfl
      have i4 : decide ((j : Int) < (j : Int)) = false := by simp
      have HD9 := Lib.hid (show unbE label uses ds known = E9 by rw [HD2.out, HE9.out])
      clear hmap hmap0 hq9 hqlt hB hbx hsu hsd hsk hr4 hr5 hr6 h2 h3 hns hF hra HG
      go_wp2_with fail
      refine HRA.out.mono ?_
      rintro e w9 ⟨hb9, ⟨hE, rfl⟩ | ⟨hE, rA, rc, es, hrb, hesl, hds, rfl⟩⟩
      · have hE1 : (E9 != 0) = true := by simpa using hE
        have HE0 := Lib.hid hE
        have hB9 := HB.out.1.trans (hb9.mono HB.out.1.size)
        obtain ⟨hBx, _, _, _, _, _, hr⟩ := HX.out w9 hB9
        clear hb9 hE hB9 t1
        obtain ⟨y0, y1, z0, z1⟩ := row2 hr
        have HS := Lib.hid (two_setU hr (.slice none 0 0) (.slice none 0 0))
        have HBx := Lib.hid hBx
        clear hr hBx
        go_wp2
        obtain ⟨W9, hW9, s0, s1, hBf, hsz, hbk⟩ := out2 HS.out HBx.out (by omega)
        rw [hW9]
        refine bodyPost_ret (v := .tuple #[.agg #[.slice none 0 0, .slice none 0 0], .int .i64 E9]) (by simp [results, Tryz.results24, go_sem, s0, s1]) rfl ?_
        exact ⟨hBf, .inl ⟨by rw [HD9.out]; exact HE0.out, by rw [HD9.out]⟩⟩
      · subst hE
        have hB9 := HB.out.1.trans (hb9.mono HB.out.1.size)
        obtain ⟨hBx, _, _, _, hr4, _, hr⟩ := HX.out w9 hB9
        have t0 : w9.cell? ⟨w.heap.size, 1, none⟩ = some (.slice uA M uc) := cell_of_row w9 _ 1 _ _ (0, 0) hr4
        have HDs := Lib.hid (And.intro hrb (And.intro hesl (And.intro hds hb9)))
        have hlt6 := (Array.getElem?_eq_some_iff.1 HB.out.2.2.1).1
        have HL6 := Lib.hid hlt6
        clear hb9 hB9 t1 hrb hesl hds hr4 hlt6
        obtain ⟨y0, y1, z0, z1⟩ := row2 hr
        have HS := Lib.hid (two_setU hr (.slice uA M uc) (.slice rA j rc))
        have HBx := Lib.hid hBx
        clear hr hBx
        go_wp2
        obtain ⟨W9, hW9, s0, s1, hBf, hsz, hbk⟩ := out2 HS.out HBx.out (by omega)
        rw [hW9]
        refine bodyPost_ret (v := .tuple #[.agg #[.slice uA M uc, .slice rA j rc], .int .i64 0]) (by simp [results, Tryz.results24, go_sem, s0, s1]) rfl ?_
        refine ⟨hBf, .inr ⟨HD9.out, rA, rc, es, HDs.out.1, by rw [HDs.out.2.1, HN.out], HDs.out.2.2.1 W9 (Nat.le_of_eq hsz.symm) (fun k hk _ => hbk k (by have := HL6.out; omega)) (fun x hx => ?_), by rw [HM.out, HN.out]⟩⟩
        obtain ⟨k, hk⟩ := List.getElem?_of_mem hx
        have hkl := (List.getElem?_eq_some_iff.1 hk).1
        obtain ⟨_, _, _, _, hall⟩ := HDd.out.2.2 (by intro e; rw [e] at hkl; simp at hkl)
        exact (hall k x hk).2.1.keep hBf.size fun p hp => hBf.cell hp
end Go.Proofs.YtacjjkbkhpdhnaaGreatDoor
/- Forests with scopes: what holds at every node; what rebuilding keeps, and how it is undone -/
namespace Go.Proofs.YtacjjkbkhpdhnaaGreatDoor
open Go Go.RowKit Go.Proofs Go.Shelf
abbrev NV := Nx → Nat → List ByteArray → Prop
def Pt.AllV (V : NV) : Pt → Int → ByteArray → ByteArray → Nat → List ByteArray → Prop
  | .nil, _, _, _, _, _ => True
  | .cons k n m i d s r, pk, pn, pm, j, sc => V ⟨k, n, m, i, d⟩ s.len (sc ++ bndB pk pn pm j) ∧ s.AllV V k n m 0 (sc ++ bndB pk pn pm j) ∧ r.AllV V pk pn pm (j + 1) sc
theorem Pt.AllV.imp {V V' : NV} (H : ∀ x len sc, V x len sc → V' x len sc) : ∀ {s : Pt} {pk : Int} {pn pm : ByteArray} {j : Nat} {sc : List ByteArray}, s.AllV V pk pn pm j sc → s.AllV V' pk pn pm j sc
  | .nil, _, _, _, _, _, _ => trivial
  | .cons .., _, _, _, _, _, h => ⟨H _ _ _ h.1, h.2.1.imp H, h.2.2.imp H⟩
theorem Pt.AllV.and {V V' : NV} : ∀ {s : Pt} {pk : Int} {pn pm : ByteArray} {j : Nat} {sc : List ByteArray}, s.AllV V pk pn pm j sc → s.AllV V' pk pn pm j sc → s.AllV (fun x len sc => V x len sc ∧ V' x len sc) pk pn pm j sc
  | .nil, _, _, _, _, _, _, _ => trivial
  | .cons .., _, _, _, _, _, h, h' => ⟨⟨h.1, h'.1⟩, h.2.1.and h'.2.1, h.2.2.and h'.2.2⟩
def AllN (V : NV) (x : Nx) (s : Pt) : Prop := V x s.len [] ∧ s.AllV V x.k x.n x.m 0 []
end Go.Proofs.YtacjjkbkhpdhnaaGreatDoor
/- Binding and unbinding a node, and back -/
namespace Go.Proofs.YtacjjkbkhpdhnaaGreatDoor
open Go Go.RowKit Go.Proofs Go.Shelf
end Go.Proofs.YtacjjkbkhpdhnaaGreatDoor
/- Binding what was unbound, and unbinding what was bound, in plain words -/
namespace Go.Proofs.YtacjjkbkhpdhnaaGreatDoor
open Go Go.RowKit Go.Proofs Go.Shelf
theorem srcDE_parts {l : List ByteArray} {ds : List Dc} (h : srcDE l ds = 0) : l.length ≤ 20 ∧ usesE none l = 0 ∧ ds.length ≤ 100 ∧ sdsE none [] ds = 0 := by
  unfold srcDE at h
  by_cases h1 : 20 < l.length
  · rw [if_pos h1] at h; cases h
  rw [if_neg h1] at h
  by_cases h2 : usesE none l = 0
  rotate_left
  · rw [if_pos h2] at h; exact absurd h h2
  rw [if_neg (by simpa using h2)] at h
  by_cases h3 : 100 < ds.length
  · rw [if_pos h3] at h; cases h
  rw [if_neg h3] at h
  exact ⟨by omega, h2, by omega, h⟩
theorem AllN.imp {V V' : NV} (H : ∀ x len sc, V x len sc → V' x len sc) {x : Nx} {s : Pt} (h : AllN V x s) : AllN V' x s := ⟨H _ _ _ h.1, h.2.imp H⟩
theorem AllN.and {V V' : NV} {x : Nx} {s : Pt} (h : AllN V x s) (h' : AllN V' x s) : AllN (fun x len sc => V x len sc ∧ V' x len sc) x s := ⟨⟨h.1, h'.1⟩, h.2.and h'.2⟩
theorem sdE_parts {x : Dc} (h : sdE x = 0) : 0 ≤ x.id ∧ x.id ≤ 999999 ∧ (x.kind = 1 ∨ x.kind = 2 ∨ x.kind = 3) ∧ dnE x.names = 0 ∧ exprE x.pre = 0 ∧ ∀ z ∈ x.pre, z.k ≠ 5 := by
  unfold sdE at h
  by_cases h1 : x.id < 0 ∨ 999999 < x.id
  · rw [if_pos h1] at h; cases h
  rw [if_neg h1] at h
  by_cases h2 : x.kind ≠ 1 ∧ x.kind ≠ 2 ∧ x.kind ≠ 3
  · rw [if_pos h2] at h; cases h
  rw [if_neg h2] at h
  by_cases h3 : dnE x.names = 0
  rotate_left
  · rw [if_pos h3] at h; exact absurd h h3
  rw [if_neg (by simpa using h3)] at h
  by_cases h4 : exprE x.pre = 0
  rotate_left
  · rw [if_pos h4] at h; exact absurd h h4
  rw [if_neg (by simpa using h4)] at h
  refine ⟨by omega, by omega, by omega, h3, h4, fun z hz hk => ?_⟩
  have : (x.pre.any fun y => y.k == 5) = true := List.any_eq_true.2 ⟨z, hz, by simp [hk]⟩
  rw [if_pos this] at h
  cases h
end Go.Proofs.YtacjjkbkhpdhnaaGreatDoor
