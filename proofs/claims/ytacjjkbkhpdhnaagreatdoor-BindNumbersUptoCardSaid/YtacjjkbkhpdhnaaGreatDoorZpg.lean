/- bind.Bind in the reference's words: first declaration, first use -/
import Derived.Test.YtacjjkbkhpdhnaaGreatDoorZpe
import Derived.Test.YtacjjkbkhpdhnaaGreatDoorZlp
import Derived.Test.YtacjjkbkhpdhnaaGreatDoorSxg
namespace Go.Proofs.YtacjjkbkhpdhnaaGreatDoor
open Go Go.RowKit Go.Proofs Go.Shelf
end Go.Proofs.YtacjjkbkhpdhnaaGreatDoor
/- bind.twice -/
namespace Go.Proofs.YtacjjkbkhpdhnaaGreatDoor
open Go.RowKit Go.Proofs Go.Shelf
def twB : List ByteArray → List Dc → Bool
  | _, [] => false
  | met, x :: r => if x.names.length = 1 then (if hasN met (nameOf x) = true then true else twB (met ++ [nameOf x]) r) else twB met r
set_option maxRecDepth 100000 in
set_option maxHeartbeats 2000000 in
theorem twice_any (decls : List Dc) (dA : Option Addr) (dc : Nat) (w : World) (hd : SlD w w.heap.size dA dc decls) (hst : StrD decls) (hdl : decls.length ≤ 100) :
    Calls Tryz.prog 74 #[.slice dA decls.length dc] w fun e w' => e = .returned (.bool (twB [] decls)) ∧ Below w.heap.size w w' := by
  obtain ⟨E, HE⟩ : ∃ E, Hid (twB [] decls = E) := ⟨_, Lib.hid rfl⟩
  rw [HE.out]
  have hmm := @run_makeMap Tryz.prog
  obtain ⟨W0, hW0⟩ : ∃ W0, w.alloc (.map #[] 0) = W0 := ⟨_, rfl⟩
  have hzw : w.heap.size < W0.heap.size := by subst hW0; simp
  have hB0 : Below w.heap.size w W0 := by subst hW0; exact (Below.refl _ _).alloc (Nat.le_refl _) _
  have hm0 : SetK W0 9 w.heap.size [] := by
    have := SetK.made w 9
    rwa [hW0] at this
  have HD0 := Lib.hid (And.intro hd (And.intro hst (And.intro hB0 hm0)))
  obtain ⟨N, HN⟩ : ∃ Q, Hid (decls.length = Q) := ⟨_, Lib.hid rfl⟩
  rw [HN.out] at hdl ⊢
  clear hd hst hB0 hm0
  go_enter Tryz.func74, Tryz.ntmps74
  go_wp2
  go_loopg [9] N (fun g ct wr => ∃ (j : Nat) (met : List ByteArray), g = N - j ∧ j ≤ N ∧ ct = .int .i64 j ∧ E = twB met (decls.drop j) ∧ met.length ≤ j ∧ SetK wr 9 w.heap.size (met.map keyS) ∧ Below w.heap.size w wr ∧ w.heap.size < wr.heap.size)
  case atStart => exact ⟨0, [], rfl, by omega, rfl, by rw [← HE.out]; rfl, by simp, HD0.out.2.2.2, HD0.out.2.2.1, hzw⟩
  case round =>
    obtain ⟨j, met, HG, hj, rfl, HA, hml, hset, hBr, hzr⟩ := hrel
    by_cases hlt : j < N
    · have hlt' : j < decls.length := by rw [HN.out]; exact hlt
      have hj3 : decls[j]? = some decls[j] := List.getElem?_eq_getElem hlt'
      obtain ⟨b, o, rfl, hb, hall⟩ := HD0.out.1.2.2 (by intro e; rw [e] at hlt'; simp at hlt')
      obtain ⟨hcs0, hok0⟩ := hall j _ hj3
      have hstr := HD0.out.2.1 decls[j] (List.mem_of_getElem? hj3)
      have HDR := Lib.hid (show decls.drop j = decls[j] :: decls.drop (j + 1) from List.drop_eq_getElem_cons hlt')
      clear hall hj3
      generalize decls[j] = x at hcs0 hok0 HDR hstr
      have hcs : ∀ q v, x.cells[q]? = some v → wr.cell? ⟨b, o + j * 11 + q, none⟩ = some v := fun q v hq => (hBr.cell (p := ⟨b, o + j * 11 + q, none⟩) hb).trans (hcs0 q v hq)
      have hnm := hok0.1
      have hsl := hok0.2
      obtain ⟨xid, xkind, xpub, xnA, xnc, xnames, xdoubt, xk, xn, xm, xi, xd, xA, xc, xs⟩ := x
      simp only at hnm hsl hstr
      have d0 : wr.cell? ⟨b, o + j * 11, none⟩ = some (.int .i64 xid) := hcs 0 _ rfl
      have d1 : wr.cell? ⟨b, o + j * 11 + 1, none⟩ = some (.int .i64 xkind) := hcs 1 _ rfl
      have d2 : wr.cell? ⟨b, o + j * 11 + 2, none⟩ = some (.bool xpub) := hcs 2 _ rfl
      have d3 : wr.cell? ⟨b, o + j * 11 + 3, none⟩ = some (.slice xnA xnames.length xnc) := hcs 3 _ rfl
      have d4 : wr.cell? ⟨b, o + j * 11 + 4, none⟩ = some (.bool xdoubt) := hcs 4 _ rfl
      have d5 : wr.cell? ⟨b, o + j * 11 + 5, none⟩ = some (.int .i64 xk) := hcs 5 _ rfl
      have d6 : wr.cell? ⟨b, o + j * 11 + 6, none⟩ = some (.string xn) := hcs 6 _ rfl
      have d7 : wr.cell? ⟨b, o + j * 11 + 7, none⟩ = some (.string xm) := hcs 7 _ rfl
      have d8 : wr.cell? ⟨b, o + j * 11 + 8, none⟩ = some (.int .i64 xi) := hcs 8 _ rfl
      have d9 : wr.cell? ⟨b, o + j * 11 + 9, none⟩ = some (.int .i64 xd) := hcs 9 _ rfl
      have d10 : wr.cell? ⟨b, o + j * 11 + 10, none⟩ = some (.slice xA xs.len xc) := hcs 10 _ rfl
      obtain ⟨W3, hW3⟩ : ∃ W3, wr.alloc (.cells #[.int .i64 xid, .int .i64 xkind, .bool xpub, .slice xnA xnames.length xnc, .bool xdoubt, .int .i64 xk, .string xn, .string xm, .int .i64 xi, .int .i64 xd, .slice xA xs.len xc] 63) = W3 := ⟨_, rfl⟩
      have hb3 : Below wr.heap.size wr W3 := by subst hW3; exact (Below.refl _ _).alloc (Nat.le_refl _) _
      have hz3 : wr.heap.size < W3.heap.size := by subst hW3; simp
      have hx3 : W3.heap[wr.heap.size]? = some (.cells #[.int .i64 xid, .int .i64 xkind, .bool xpub, .slice xnA xnames.length xnc, .bool xdoubt, .int .i64 xk, .string xn, .string xm, .int .i64 xi, .int .i64 xd, .slice xA xs.len xc] 63 (0, 0)) := by rw [← hW3]; exact heap_alloc_new wr _
      have HF : Hid (∀ W, Below W3.heap.size W3 W → W.cell? ⟨wr.heap.size, 3, none⟩ = some (.slice xnA xnames.length xnc) ∧ W.cell? ⟨wr.heap.size, 4, none⟩ = some (.bool xdoubt) ∧ W.cell? ⟨wr.heap.size, 5, none⟩ = some (.int .i64 xk) ∧ W.cell? ⟨wr.heap.size, 6, none⟩ = some (.string xn) ∧ W.cell? ⟨wr.heap.size, 7, none⟩ = some (.string xm) ∧ W.cell? ⟨wr.heap.size, 8, none⟩ = some (.int .i64 xi) ∧ W.cell? ⟨wr.heap.size, 9, none⟩ = some (.int .i64 xd) ∧ W.cell? ⟨wr.heap.size, 10, none⟩ = some (.slice xA xs.len xc)) := by
        intro W hW
        have h := (hW.block wr.heap.size hz3).trans hx3
        exact ⟨cell_of_row W _ 3 _ _ (0, 0) h, cell_of_row W _ 4 _ _ (0, 0) h, cell_of_row W _ 5 _ _ (0, 0) h, cell_of_row W _ 6 _ _ (0, 0) h, cell_of_row W _ 7 _ _ (0, 0) h, cell_of_row W _ 8 _ _ (0, 0) h, cell_of_row W _ 9 _ _ (0, 0) h, cell_of_row W _ 10 _ _ (0, 0) h⟩
      obtain ⟨f3, f4, f5, f6, f7, f8, f9, f10⟩ := HF.out W3 (Below.refl _ _)
      have hs3 : SetK W3 9 (w.heap.size) (met.map keyS) := hset.keep (hb3.block _ hset.lt)
      have hB3 := Lib.hid (hBr.trans (hb3.mono (by omega)))
      have hnm3 : SlS W3 w.heap.size xnA xnc xnames := hnm.keep (Nat.le_refl _) fun p hp => (hB3.out.cell hp)
      have HS := Lib.hid (And.intro hs3 (And.intro hnm3 hstr))
      have hmet := Lib.hid (And.intro HG (And.intro HA hml))
      clear hcs hcs0 hok0 hnm hsl hset hBr hb3 hx3 HG HA hnm3 hs3 hstr
      by_cases hn1 : xnames.length = 1
      rotate_left
      · have hn1' : ((xnames.length : Int) == 1) = false := by simp; omega
        have HCE : Hid (E = twB met (decls.drop (j + 1))) := by
          show _ = _
          rw [hmet.out.2.1, HDR.out, twB, if_neg hn1]
        have hml' : met.length ≤ j + 1 := by omega
        have HML := Lib.hid hml'
        clear hml hn1 hml'
        go_wp2
        go_roundg (N - (j + 1))
        case measure => rw [hmet.out.1]; omega
        case rel => exact ⟨j + 1, met, rfl, by omega, by go_num, HCE.out, HML.out, HS.out.1, hB3.out, by omega⟩
      obtain ⟨nm, rfl⟩ : ∃ nm, xnames = [nm] := List.length_eq_one_iff.1 hn1
      obtain ⟨nb, no, rfl, hnb, hncell⟩ := HS.out.2.1.at_ (j := 0) (by simp)
      have hnc2 := HS.out.2.1.1
      have hnc3 := HS.out.2.1.2.1
      unfold maxLen at hnc3
      simp only [List.length_singleton, List.getElem_cons_zero, Nat.add_zero] at hncell hnc2 d3 f3 hW3 HF
      have hns : nm.size ≤ maxLen := HS.out.2.2 nm (by simp)
      have HNS := Lib.hid hns
      have HCE : Hid (E = if hasN met nm = true then true else twB (met ++ [nm]) (decls.drop (j + 1))) := by
        show _ = _
        rw [hmet.out.2.1, HDR.out, twB]
        simp [nameOf]
      clear hns hn1
      have HLK : Hid ((met.map keyS).any (fun x => x.sameKey (keyS nm)) = hasN met nm) := keyS_has met nm
      obtain ⟨hb', Hhb⟩ : ∃ Q, Hid (hasN met nm = Q) := ⟨_, Lib.hid rfl⟩
      rw [Hhb.out] at HLK HCE
      have hlk : (Instr.lookup 89 (.map (some w.heap.size)) (.string nm) false).run Tryz.prog W3 = .ok (.bool hb') W3 := by
        rw [← HLK.out]
        exact HS.out.1.look strKeyed Tryz.underlying89 (keyS_of HNS.out)
      cases hb'
      · have HML := Lib.hid (show (met ++ [nm]).length ≤ j + 1 by rw [List.length_append, List.length_singleton]; omega)
        have HMM := Lib.hid (show (met.map keyS).length < 1000000 by rw [List.length_map]; omega)
        clear hml
        go_wp2_with (at_mapUpdate; refine wpList_setAdd _ rfl _ _ _ 89 rfl 9 strKeyed Tryz.underlying89 w.heap.size (met.map keyS) rfl HS.out.1 HMM.out _ (keyS nm) rfl rfl (keyS_of HNS.out) ?_; intro w5 hset5 hg5)
        go_roundg (N - (j + 1))
        case measure => rw [hmet.out.1]; omega
        case rel =>
          have hz5 := hg5.size
          exact ⟨j + 1, met ++ [nm], rfl, by omega, by go_num, by rw [HCE.out]; simp, HML.out, by simpa using hset5, hB3.out.grown hg5 (by omega) (fun q hq => by cases hq; omega), by omega⟩
      · have HR := Lib.hid (show E = true by rw [HCE.out]; simp)
        clear hml
        go_wp2
        go_ret
        exact ⟨by rw [HR.out]; rfl, hB3.out⟩
    · have hjN : N = j := by omega
      have HR := Lib.hid (show E = false by rw [HA, List.drop_of_length_le (by rw [HN.out]; omega)]; rfl)
      have i2 : decide ((j : Int) < (N : Int)) = false := decide_eq_false (by omega)
      have i3 : decide (j < N) = false := decide_eq_false (by omega)
      clear HA hml hset hjN
      go_wp2
      go_ret
      exact ⟨by rw [HR.out]; rfl, hBr⟩
end Go.Proofs.YtacjjkbkhpdhnaaGreatDoor
/- bind.Unbind in plain words -/
namespace Go.Proofs.YtacjjkbkhpdhnaaGreatDoor
open Go Go.RowKit Go.Proofs Go.Shelf
def lastD (ds : List Dc) (i : Int) : Option Dc := ds.foldl (fun a x => if x.id = i then some x else a) none
theorem lastD_step (ds : List Dc) (x : Dc) (i : Int) : lastD (ds ++ [x]) i = if x.id = i then some x else lastD ds i := by
  unfold lastD
  rw [List.foldl_append]
  rfl
def dotG (uses : List ByteArray) (known : List If) (x : Nx) : Int × Nx :=
  if (faceO known x.n).isSome = true ∧ hasS uses x.n = true then
    match sigO (sigsOf known x.n) (fun s => s.id == x.i) with
    | some s => (0, ⟨4, aliasB x.n, s.name, 0, 0⟩)
    | none => (21, noNx)
  else (21, noNx)
def gUnb (uses : List ByteArray) (ds : List Dc) (known : List If) : Repl := fun x sc =>
  if x.k = 5 then
    if x.n.toList.isEmpty = false then dotG uses known x
    else
      match lastD ds x.i with
      | none => (21, noNx)
      | some y => if y.names.length = 0 then (21, noNx) else if 1 < y.names.length then (17, noNx) else if hasN sc (nameOf y) = true then (6, noNx) else (0, ⟨3, nameOf y, ⟨#[]⟩, 0, 0⟩)
  else (0, x)
def unbE (label : ByteArray) (uses : List ByteArray) (ds : List Dc) (known : List If) : Int :=
  if checkE label uses ds ≠ 0 then checkE label uses ds else
  if twB [] ds = true then 17 else rbAllE (gUnb uses ds known) ds
end Go.Proofs.YtacjjkbkhpdhnaaGreatDoor
/- bind.interfaceOf, signature -/
namespace Go.Proofs.YtacjjkbkhpdhnaaGreatDoor
open Go.RowKit Go.Proofs Go.Shelf
theorem str_beq (a b : ByteArray) : (a.toList == b.toList) = decide (a = b) := by
  rw [Bool.eq_iff_iff, beq_iff_eq, decide_eq_true_iff]
  refine ⟨fun h => ?_, fun h => by rw [h]⟩
  rw [ByteArray.toList_eq, ByteArray.toList_eq] at h
  exact ByteArray.ext (Array.ext' h)
theorem pair_set {W : World} {b : Nat} {t : TypeId} {c0 c1 : Value} (h : W.heap[b]? = some (.cells #[c0, c1] t (0, 0))) (u0 u1 : Value) :
    ((W.setCell ⟨b, 0, none⟩ u0).setCell ⟨b, 1, none⟩ u1).heap[b]? = some (.cells #[u0, u1] t (0, 0)) := by
  simp [World.setCell, Array.getElem?_modify, h]
theorem six_set {W : World} {b : Nat} {t : TypeId} {c0 c1 c2 c3 c4 c5 : Value} (h : W.heap[b]? = some (.cells #[c0, c1, c2, c3, c4, c5] t (0, 0))) (u0 u1 u2 u3 u4 u5 : Value) :
    ((((((W.setCell ⟨b, 0, none⟩ u0).setCell ⟨b, 1, none⟩ u1).setCell ⟨b, 2, none⟩ u2).setCell ⟨b, 3, none⟩ u3).setCell ⟨b, 4, none⟩ u4).setCell ⟨b, 5, none⟩ u5).heap[b]? = some (.cells #[u0, u1, u2, u3, u4, u5] t (0, 0)) := by
  simp [World.setCell, Array.getElem?_modify, h]
set_option maxRecDepth 100000 in
set_option maxHeartbeats 2000000 in
theorem interfaceOf_any (known : List If) (label : ByteArray) (A : Option Addr) (c : Nat) (w : World) (hk : SlI w w.heap.size A c known) :
    Calls Tryz.prog 65 #[.slice A known.length c, .string label] w fun e w' => e = .returned (.tuple #[.agg ((faceO known label).getD noIf).cells, .bool (faceO known label).isSome]) ∧ Below w.heap.size w w' := by
  obtain ⟨W0, hW0⟩ : ∃ W0, w.alloc (.cells #[.string ⟨#[]⟩, .slice none 0 0] 55) = W0 := ⟨_, rfl⟩
  have hb0 : Below w.heap.size w W0 := by rw [← hW0]; exact (Below.refl _ _).alloc (Nat.le_refl _) _
  have hr0 : W0.heap[w.heap.size]? = some (.cells #[.string ⟨#[]⟩, .slice none 0 0] 55 (0, 0)) := by rw [← hW0]; exact heap_alloc_new _ _
  have hc2 := hk.2.1
  have hc1 := hk.1
  unfold maxLen at hc2
  obtain ⟨N, HN⟩ : ∃ Q, Hid (known.length = Q) := ⟨_, Lib.hid rfl⟩
  have H0 := Lib.hid (And.intro hk (And.intro hb0 hr0))
  rw [HN.out] at hc1 ⊢
  clear hk hb0 hr0
  go_enter Tryz.func65, Tryz.ntmps65
  go_wp2
  go_loopg [7, 10] N (fun gg _ ct wr => ∃ j : Nat, gg = N - j ∧ j ≤ N ∧ ct = .int .i64 j ∧ Hid (faceO known label = faceO (known.drop j) label) ∧ Below w.heap.size w wr ∧ wr.heap[w.heap.size]? = some (.cells #[.string ⟨#[]⟩, .slice none 0 0] 55 (0, 0)))
  case atStart => exact ⟨0, rfl, by omega, rfl, Lib.hid rfl, H0.out.2.1, H0.out.2.2⟩
  case round =>
    obtain ⟨j, HG, hj, rfl, HA, hB, hr⟩ := hrel
    have hrl : w.heap.size < wr.heap.size := (Array.getElem?_eq_some_iff.1 hr).1
    by_cases hlt : j < N
    · have hlt' : j < known.length := by rw [HN.out]; exact hlt
      obtain ⟨x, hx⟩ : ∃ x, known[j]? = some x := ⟨_, List.getElem?_eq_getElem hlt'⟩
      have hSl : SlI wr wr.heap.size A c known := H0.out.1.below hB
      obtain ⟨b, o, rfl, hb, d0, d1, hsg⟩ := hSl.at_ hx
      obtain ⟨NS, HNS⟩ : ∃ Q, Hid (x.sigs.length = Q) := ⟨_, Lib.hid rfl⟩
      rw [HNS.out] at d1
      have hstep := faceO_drop (label := label) hx
      obtain ⟨W3, hW3⟩ : ∃ W3, wr.alloc (.cells #[.string x.label, .slice x.sA NS x.sc] 55) = W3 := ⟨_, rfl⟩
      have hb3 : Below wr.heap.size wr W3 := by rw [← hW3]; exact (Below.refl _ _).alloc (Nat.le_refl _) _
      have hx3 : W3.heap[wr.heap.size]? = some (.cells #[.string x.label, .slice x.sA NS x.sc] 55 (0, 0)) := by rw [← hW3]; exact heap_alloc_new _ _
      have hr3 := (hb3.block _ hrl).trans hr
      have e0 : W3.cell? ⟨wr.heap.size, 0, none⟩ = some (.string x.label) := cell_of_row W3 _ 0 _ _ (0, 0) hx3
      have e1 : W3.cell? ⟨wr.heap.size, 1, none⟩ = some (.slice x.sA NS x.sc) := cell_of_row W3 _ 1 _ _ (0, 0) hx3
      have hst := str_beq x.label label
      by_cases hL : x.label = label
      · rw [decide_eq_true hL] at hst
        have r0 : W3.cell? ⟨w.heap.size, 0, none⟩ = some (.string ⟨#[]⟩) := cell_of_row W3 _ 0 _ _ (0, 0) hr3
        have r1 : W3.cell? ⟨w.heap.size, 1, none⟩ = some (.slice none 0 0) := cell_of_row W3 _ 1 _ _ (0, 0) hr3
        have f0 : W3.frozen? ⟨w.heap.size, 0, none⟩ = false := frozen_of_row W3 _ 0 _ _ hr3
        have f1 : W3.frozen? ⟨w.heap.size, 1, none⟩ = false := frozen_of_row W3 _ 1 _ _ hr3
        have HR := Lib.hid (show faceO known label = some x by rw [HA.out, hstep, if_pos hL])
        have HS := Lib.hid (pair_set hr3 (.string x.label) (.slice x.sA NS x.sc))
        have HB3 := Lib.hid (hB.trans (hb3.mono (by omega)))
        clear hSl hx hstep hL hb3 hx3 hr3 HA hB hr hsg
        go_wp2
        obtain ⟨W9, hW9, s0, s1, hBf, hsz, hbk⟩ := out2 HS.out HB3.out (by omega)
        rw [hW9]
        refine bodyPost_ret (v := .tuple #[.agg #[.string x.label, .slice x.sA NS x.sc], .bool true]) (by simp [results, Tryz.results65, go_sem, s0, s1]) rfl ⟨?_, hBf⟩
        rw [HR.out, Option.getD_some, Option.isSome_some, If.cells, HNS.out]
      · rw [decide_eq_false hL] at hst
        have HR := Lib.hid (show faceO known label = faceO (known.drop (j + 1)) label by rw [HA.out, hstep, if_neg hL])
        have HT := Lib.hid (And.intro HG (And.intro (hB.trans (hb3.mono (by omega))) hr3))
        clear hSl hx hstep hL hb3 hx3 hr3 HA hB hr hsg HG
        go_wp2
        go_roundg (N - (j + 1))
        case measure => rw [HT.out.1]; omega
        case rel => exact ⟨j + 1, rfl, by omega, by go_num, HR, HT.out.2.1, HT.out.2.2⟩
    · have hjN : N = j := by omega
      have HR := Lib.hid (show faceO known label = none by rw [HA.out, List.drop_of_length_le (by rw [HN.out]; omega)]; rfl)
      have i2 : decide ((j : Int) < (N : Int)) = false := decide_eq_false (by omega)
      have i3 : decide (j < N) = false := decide_eq_false (by omega)
      have r0 : wr.cell? ⟨w.heap.size, 0, none⟩ = some (.string ⟨#[]⟩) := cell_of_row wr _ 0 _ _ (0, 0) hr
      have r1 : wr.cell? ⟨w.heap.size, 1, none⟩ = some (.slice none 0 0) := cell_of_row wr _ 1 _ _ (0, 0) hr
      have f0 : wr.frozen? ⟨w.heap.size, 0, none⟩ = false := frozen_of_row wr _ 0 _ _ hr
      have f1 : wr.frozen? ⟨w.heap.size, 1, none⟩ = false := frozen_of_row wr _ 1 _ _ hr
      have HS := Lib.hid (pair_set hr (.string ⟨#[]⟩) (.slice none 0 0))
      have HB3 := Lib.hid hB
      clear HA hjN hB hr
      go_wp2
      obtain ⟨W9, hW9, s0, s1, hBf, hsz, hbk⟩ := out2 HS.out HB3.out (by omega)
      rw [hW9]
      refine bodyPost_ret (v := .tuple #[.agg #[.string ⟨#[]⟩, .slice none 0 0], .bool false]) (by simp [results, Tryz.results65, go_sem, s0, s1]) rfl ⟨?_, hBf⟩
      rw [HR.out]
      rfl
def FitsOk (w00 : World) (fid : Nat) (lb : Array Value) (p : Sg → Bool) : Prop :=
  (∀ (args : Array Value) (W : World), (callFunc fid args).run Tryz.prog W = .ok (.enter fid args) W) ∧
  ∀ (x : Sg) (X : World), Below w00.heap.size w00 X → Calls Tryz.prog fid (#[.agg x.cells] ++ lb) X fun e Y => e = .returned (.bool (p x)) ∧ Below X.heap.size X Y
def noSg : Sg := ⟨0, ⟨#[]⟩, 0, 0, 0, none, 0, 0⟩
set_option maxRecDepth 100000 in
set_option maxHeartbeats 4000000 in
theorem signature_any (w00 : World) (fid : Nat) (lb : Array Value) (p : Sg → Bool) (hF : FitsOk w00 fid lb p) (x : If) (w : World) (hk : SlG w w.heap.size x.sA x.sc x.sigs) (hw : Below w00.heap.size w00 w) :
    Calls Tryz.prog 66 #[.agg x.cells, .func (.func fid) #[] lb] w fun e w' => e = .returned (.tuple #[.agg ((sigO x.sigs p).getD noSg).cells, .bool (sigO x.sigs p).isSome]) ∧ Below w.heap.size w w' := by
  obtain ⟨label, A, c, sigs⟩ := x
  simp only [If.cells] at hk ⊢
  obtain ⟨hfn, hF2⟩ := hF
  obtain ⟨W0, hW0⟩ : ∃ W0, (w.alloc (.cells #[.string label, .slice A sigs.length c] 55)).alloc (.cells #[.int .i64 0, .string ⟨#[]⟩, .int .i64 0, .int .i64 0, .int .i64 0, .slice none 0 0] 100) = W0 := ⟨_, rfl⟩
  have hb0 : Below w.heap.size w W0 := by rw [← hW0]; exact ((Below.refl _ _).alloc (Nat.le_refl _) _).alloc (by simp) _
  have hr0 : W0.heap[w.heap.size + 1]? = some (.cells #[.int .i64 0, .string ⟨#[]⟩, .int .i64 0, .int .i64 0, .int .i64 0, .slice none 0 0] 100 (0, 0)) := by
    have h := heap_alloc_new (w.alloc (.cells #[.string label, .slice A sigs.length c] 55)) (.cells #[.int .i64 0, .string ⟨#[]⟩, .int .i64 0, .int .i64 0, .int .i64 0, .slice none 0 0] 100)
    rw [hW0] at h
    simpa using h
  have h1 : W0.cell? ⟨w.heap.size, 1, none⟩ = some (.slice A sigs.length c) := by subst hW0; go_simp
  have hc2 := hk.2.1
  have hc1 := hk.1
  unfold maxLen at hc2
  obtain ⟨N, HN⟩ : ∃ Q, Hid (sigs.length = Q) := ⟨_, Lib.hid rfl⟩
  have H0 := Lib.hid (And.intro hk (And.intro hb0 (And.intro hr0 (And.intro hw hF2))))
  rw [HN.out] at hc1 h1 hW0 ⊢
  clear hk hb0 hr0 hw hF2
  go_enter Tryz.func66, Tryz.ntmps66
  go_wp2
  go_loopg [7, 11] N (fun gg _ ct wr => ∃ j : Nat, gg = N - j ∧ j ≤ N ∧ ct = .int .i64 j ∧ Hid (sigO sigs p = sigO (sigs.drop j) p) ∧ Below w.heap.size w wr ∧ wr.heap[w.heap.size + 1]? = some (.cells #[.int .i64 0, .string ⟨#[]⟩, .int .i64 0, .int .i64 0, .int .i64 0, .slice none 0 0] 100 (0, 0)))
  case atStart => exact ⟨0, rfl, by omega, rfl, Lib.hid rfl, H0.out.2.1, H0.out.2.2.1⟩
  case round =>
    obtain ⟨j, HG, hj, rfl, HA, hB, hr⟩ := hrel
    have hrl : w.heap.size + 1 < wr.heap.size := (Array.getElem?_eq_some_iff.1 hr).1
    by_cases hlt : j < N
    · have hlt' : j < sigs.length := by rw [HN.out]; exact hlt
      obtain ⟨x, hx⟩ : ∃ x, sigs[j]? = some x := ⟨_, List.getElem?_eq_getElem hlt'⟩
      have hSl : SlG wr wr.heap.size A c sigs := H0.out.1.keep hB.size fun p hp => hB.cell hp
      obtain ⟨b, o, rfl, hb, d0, d1, d2, d3, d4, d5⟩ := hSl.at_ hx
      have hstep := sigO_drop (p := p) hx
      obtain ⟨W3, hW3⟩ : ∃ W3, wr.alloc (.cells #[.int .i64 x.id, .string x.name, .int .i64 x.vars, .int .i64 x.kind, .int .i64 x.var, .slice x.tA x.tn x.tc] 100) = W3 := ⟨_, rfl⟩
      have hb3 : Below wr.heap.size wr W3 := by rw [← hW3]; exact (Below.refl _ _).alloc (Nat.le_refl _) _
      have hz3 : wr.heap.size < W3.heap.size := by rw [← hW3]; simp
      have hx3 : W3.heap[wr.heap.size]? = some (.cells #[.int .i64 x.id, .string x.name, .int .i64 x.vars, .int .i64 x.kind, .int .i64 x.var, .slice x.tA x.tn x.tc] 100 (0, 0)) := by rw [← hW3]; exact heap_alloc_new _ _
      have hr3 := (hb3.block _ hrl).trans hr
      have hB3 := hB.trans (hb3.mono (by omega))
      have HE := Lib.hid (show ∀ X : World, Below W3.heap.size W3 X → X.cell? ⟨wr.heap.size, 0, none⟩ = some (.int .i64 x.id) ∧ X.cell? ⟨wr.heap.size, 1, none⟩ = some (.string x.name) ∧ X.cell? ⟨wr.heap.size, 2, none⟩ = some (.int .i64 x.vars) ∧ X.cell? ⟨wr.heap.size, 3, none⟩ = some (.int .i64 x.kind) ∧ X.cell? ⟨wr.heap.size, 4, none⟩ = some (.int .i64 x.var) ∧ X.cell? ⟨wr.heap.size, 5, none⟩ = some (.slice x.tA x.tn x.tc) ∧ X.heap[w.heap.size + 1]? = some (.cells #[.int .i64 0, .string ⟨#[]⟩, .int .i64 0, .int .i64 0, .int .i64 0, .slice none 0 0] 100 (0, 0)) from fun X hX => by
        have h1 := (hX.block _ hz3).trans hx3
        exact ⟨cell_of_row X _ 0 _ _ (0, 0) h1, cell_of_row X _ 1 _ _ (0, 0) h1, cell_of_row X _ 2 _ _ (0, 0) h1, cell_of_row X _ 3 _ _ (0, 0) h1, cell_of_row X _ 4 _ _ (0, 0) h1, cell_of_row X _ 5 _ _ (0, 0) h1, (hX.block _ (by omega)).trans hr3⟩)
      obtain ⟨e0, e1, _, _, _, _, _⟩ := HE.out W3 (Below.refl _ _)
      have HT := Lib.hid (And.intro HG (And.intro hB3 (And.intro HA hstep)))
      have HNoR := Lib.hid (show (sgB x && p x) = false → sigO sigs p = sigO (sigs.drop (j + 1)) p from fun h => by rw [HA.out, hstep, h, if_neg (by simp)])
      clear hSl hx hstep hb3 hx3 hr3 HA hB hr HG hB3
      by_cases c1 : 1 ≤ x.id
      rotate_left
      · have k1 : decide (1 ≤ x.id) = false := decide_eq_false c1
        have HR := Lib.hid (HNoR.out (by unfold sgB; rw [k1]; rfl))
        clear c1
        go_wp2
        go_roundg (N - (j + 1))
        case measure => rw [HT.out.1]; omega
        case rel => exact ⟨j + 1, rfl, by omega, by go_num, HR, HT.out.2.1, (HE.out W3 (Below.refl _ _)).2.2.2.2.2.2⟩
      have k1 : decide (1 ≤ x.id) = true := decide_eq_true c1
      by_cases c2 : x.id ≤ 999999
      rotate_left
      · have k2 : decide (x.id ≤ 999999) = false := decide_eq_false c2
        have HR := Lib.hid (HNoR.out (by unfold sgB; rw [k2]; simp))
        clear c1 c2
        go_wp2
        go_roundg (N - (j + 1))
        case measure => rw [HT.out.1]; omega
        case rel => exact ⟨j + 1, rfl, by omega, by go_num, HR, HT.out.2.1, (HE.out W3 (Below.refl _ _)).2.2.2.2.2.2⟩
      have k2 : decide (x.id ≤ 999999) = true := decide_eq_true c2
      clear c1 c2
      have HNm := Lib.hid (isName_any x.name W3)
      obtain ⟨bn, Hbn⟩ : ∃ Q, Hid (nameB x.name = Q) := ⟨_, Lib.hid rfl⟩
      rw [Hbn.out] at HNm
      go_wp2_with fail
      refine HNm.out.mono ?_
      rintro e w4 ⟨rfl, hb4⟩
      obtain ⟨g0, g1, g2, g3, g4, g5, hrr⟩ := HE.out w4 hb4
      have HB4 := Lib.hid (And.intro hb4 (And.intro hrr (HT.out.2.1.trans (hb4.mono HT.out.2.1.size))))
      have HC := Lib.hid (H0.out.2.2.2.2 x w4 (H0.out.2.2.2.1.trans (HB4.out.2.2.mono H0.out.2.2.2.1.size)))
      clear hb4 hrr e0 e1 HNm
      cases bn with
      | false =>
        have HR := Lib.hid (HNoR.out (by unfold sgB; rw [Hbn.out]; simp))
        go_wp2
        go_roundg (N - (j + 1))
        case measure => rw [HT.out.1]; omega
        case rel => exact ⟨j + 1, rfl, by omega, by go_num, HR, HB4.out.2.2, HB4.out.2.1⟩
      | true =>
        obtain ⟨bp, Hbp⟩ : ∃ Q, Hid (p x = Q) := ⟨_, Lib.hid rfl⟩
        have hCx := HC.out
        rw [Hbp.out] at hCx
        simp only [Sg.cells] at hCx
        have HCx := Lib.hid hCx
        have HSg := Lib.hid (show sgB x = true by unfold sgB; rw [k1, k2, Hbn.out]; rfl)
        clear hCx HC
        go_wp2_with fail
        refine HCx.out.mono ?_
        rintro e w5 ⟨rfl, hb5⟩
        have hb35 := HB4.out.1.trans (hb5.mono HB4.out.1.size)
        obtain ⟨q0, q1, q2, q3, q4, q5, hr5⟩ := HE.out w5 hb35
        have HB5 := Lib.hid (HT.out.2.1.trans (hb35.mono HT.out.2.1.size))
        clear hb5 hb35 g0 g1 g2 g3 g4 g5 HCx
        cases bp with
        | false =>
          have HR := Lib.hid (HNoR.out (by rw [Hbp.out]; simp))
          have HR5 := Lib.hid hr5
          clear hr5
          go_wp2
          go_roundg (N - (j + 1))
          case measure => rw [HT.out.1]; omega
          case rel => exact ⟨j + 1, rfl, by omega, by go_num, HR, HB5.out, HR5.out⟩
        | true =>
          have HR := Lib.hid (show sigO sigs p = some x by rw [HT.out.2.2.1.out, HT.out.2.2.2, HSg.out, Hbp.out]; rfl)
          obtain ⟨y0, y1, y2, y3, y4, y5, z0, z1, z2, z3, z4, z5⟩ := row6 hr5
          have HS := Lib.hid (six_set hr5 (.int .i64 x.id) (.string x.name) (.int .i64 x.vars) (.int .i64 x.kind) (.int .i64 x.var) (.slice x.tA x.tn x.tc))
          clear hr5
          go_wp2
          obtain ⟨W9, hW9, s0, s1, s2, s3, s4, s5, hBf, hsz, hbk⟩ := out6 HS.out HB5.out (by omega)
          rw [hW9]
          refine bodyPost_ret (v := .tuple #[.agg #[.int .i64 x.id, .string x.name, .int .i64 x.vars, .int .i64 x.kind, .int .i64 x.var, .slice x.tA x.tn x.tc], .bool true]) (by simp [results, Tryz.results66, go_sem, s0, s1, s2, s3, s4, s5]) rfl ⟨?_, hBf⟩
          rw [HR.out]
          rfl
    · have hjN : N = j := by omega
      have HR := Lib.hid (show sigO sigs p = none by rw [HA.out, List.drop_of_length_le (by rw [HN.out]; omega)]; rfl)
      have i2 : decide ((j : Int) < (N : Int)) = false := decide_eq_false (by omega)
      have i3 : decide (j < N) = false := decide_eq_false (by omega)
      obtain ⟨y0, y1, y2, y3, y4, y5, z0, z1, z2, z3, z4, z5⟩ := row6 hr
      have HS := Lib.hid (six_set hr (.int .i64 0) (.string ⟨#[]⟩) (.int .i64 0) (.int .i64 0) (.int .i64 0) (.slice none 0 0))
      have HB5 := Lib.hid hB
      clear hr HA hjN hB
      go_wp2
      obtain ⟨W9, hW9, s0, s1, s2, s3, s4, s5, hBf, hsz, hbk⟩ := out6 HS.out HB5.out (by omega)
      rw [hW9]
      refine bodyPost_ret (v := .tuple #[.agg #[.int .i64 0, .string ⟨#[]⟩, .int .i64 0, .int .i64 0, .int .i64 0, .slice none 0 0], .bool false]) (by simp [results, Tryz.results66, go_sem, s0, s1, s2, s3, s4, s5]) rfl ⟨?_, hBf⟩
      rw [HR.out]
      rfl
end Go.Proofs.YtacjjkbkhpdhnaaGreatDoor
