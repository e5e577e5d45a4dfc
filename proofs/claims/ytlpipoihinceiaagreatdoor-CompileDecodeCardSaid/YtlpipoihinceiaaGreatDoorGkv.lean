/- compile.checkConflicts -/
import Derived.Test.YtlpipoihinceiaaGreatDoorGkn
import Derived.Test.YtlpipoihinceiaaGreatDoorGkj
import Derived.Test.YtlpipoihinceiaaGreatDoorGkg
import Derived.Test.YtlpipoihinceiaaGreatDoorGku
namespace Go.Proofs.YtlpipoihinceiaaGreatDoor
open Go.RowKit Go.Proofs Go.Shelf

def hasN (met : List ByteArray) (s : ByteArray) : Bool := met.any fun t => t.data.toList == s.data.toList
def nameOf (x : Dc) : ByteArray := x.names.headD ⟨#[]⟩
/-- Whether declarations have a conflict; met: the names ahead. -/
def confB : List ByteArray → List Dc → Bool
  | _, [] => false
  | met, x :: r => if (x.doubt || x.names.length != 1 || (x.k == 15 || x.s.sum) || hasN met (nameOf x)) = true then true else confB (met ++ [nameOf x]) r
def keyS (s : ByteArray) : Lit := .string s.data.toList
theorem keyS_has (met : List ByteArray) (s : ByteArray) : ((met.map keyS).any fun x => x.sameKey (keyS s)) = hasN met s := by
  unfold hasN
  rw [List.any_map]
  rfl
theorem keyS_of {s : ByteArray} (h : s.size ≤ maxLen) : keyOf Tryz.prog 9 (.string s) = some (keyS s) := WideMaps.keyOf_string_mk Tryz.underlying9 h
/-- All names of declarations are of a length that a string can have. -/
def StrD (l : List Dc) : Prop := ∀ x ∈ l, ∀ s ∈ x.names, s.size ≤ maxLen

set_option maxRecDepth 100000 in
set_option maxHeartbeats 2000000 in
theorem checkConflicts_any (label : ByteArray) (uses : List ByteArray) (uA : Option Addr) (uc : Nat) (decls : List Dc) (dA : Option Addr) (dc : Nat) (w : World) (hd : SlD w w.heap.size dA dc decls) (hst : StrD decls) (hdl : decls.length ≤ 100) :
    Calls Tryz.prog 141 #[.agg #[.string label, .slice uA uses.length uc, .slice dA decls.length dc]] w fun e w' => e = .returned (.int .i64 (if confB [] decls = true then 17 else 0)) ∧ Below w.heap.size w w' := by
  obtain ⟨E, HE⟩ : ∃ E, Hid (confB [] decls = E) := ⟨_, Lib.hid rfl⟩
  rw [HE.out]
  obtain ⟨RV, HRV⟩ : ∃ RV : Int, Hid ((if E = true then (17 : Int) else 0) = RV) := ⟨_, Lib.hid rfl⟩
  rw [HRV.out]
  have hmm := @run_makeMap Tryz.prog
  obtain ⟨W0, hW0⟩ : ∃ W0, (w.alloc (.cells #[.string label, .slice uA uses.length uc, .slice dA decls.length dc] 25)).alloc (.map #[] 0) = W0 := ⟨_, rfl⟩
  have hzw : w.heap.size + 1 < W0.heap.size := by subst hW0; simp
  have hB0 : Below w.heap.size w W0 := by subst hW0; exact ((Below.refl _ _).alloc (Nat.le_refl _) _).alloc (by simp) _
  have h2 : W0.cell? ⟨w.heap.size, 2, none⟩ = some (.slice dA decls.length dc) := by subst hW0; go_simp
  have hm0 : SetK W0 9 (w.heap.size + 1) [] := by
    have := SetK.made (w.alloc (.cells #[.string label, .slice uA uses.length uc, .slice dA decls.length dc] 25)) 9
    rw [hW0] at this
    simpa using this
  have HD0 := Lib.hid (And.intro hd (And.intro hst (And.intro hB0 hm0)))
  obtain ⟨N, HN⟩ : ∃ Q, Hid (decls.length = Q) := ⟨_, Lib.hid rfl⟩
  rw [HN.out] at h2 hdl hW0 ⊢
  clear hd hst hB0 hm0
  go_enter Tryz.func141, Tryz.ntmps141
  go_wp2
  go_loopg [5, 10] N (fun g _ ct wr => ∃ (j : Nat) (met : List ByteArray), g = N - j ∧ j ≤ N ∧ ct = .int .i64 j ∧ E = confB met (decls.drop j) ∧ met.length = j ∧ SetK wr 9 (w.heap.size + 1) (met.map keyS) ∧ Below w.heap.size w wr ∧ w.heap.size + 1 < wr.heap.size)
  case atStart => exact ⟨0, [], rfl, by omega, rfl, by rw [← HE.out]; rfl, rfl, HD0.out.2.2.2, HD0.out.2.2.1, hzw⟩
  case round =>
    obtain ⟨j, met, HG, hj, rfl, HA, hml, hset, hBr, hzr⟩ := hrel
    by_cases hlt : j < N
    · have hlt' : j < decls.length := by rw [HN.out]; exact hlt
      have hj3 : decls[j]? = some decls[j] := List.getElem?_eq_getElem hlt'
      obtain ⟨b, o, rfl, hb, hall⟩ := HD0.out.1.2.2 (by intro e; rw [e] at hlt'; simp at hlt')
      obtain ⟨hcs0, hok0⟩ := hall j _ hj3
      have hstr := HD0.out.2.1 decls[j] (List.mem_of_getElem? hj3)
      have HDR := Lib.hid (show decls.drop j = decls[j] :: decls.drop (j + 1) from List.drop_eq_getElem_cons hlt')
      clear hall hj3
      generalize decls[j] = x at hcs0 hok0 HDR hstr
      have hcs : ∀ q v, x.cells[q]? = some v → wr.cell? ⟨b, o + j * 11 + q, none⟩ = some v := fun q v hq => (hBr.cell (p := ⟨b, o + j * 11 + q, none⟩) hb).trans (hcs0 q v hq)
      have hnm := hok0.1
      have hsl := hok0.2
      obtain ⟨xid, xkind, xpub, xnA, xnc, xnames, xdoubt, xk, xn, xm, xi, xd, xA, xc, xs⟩ := x
      simp only at hnm hsl hstr
      have d0 : wr.cell? ⟨b, o + j * 11, none⟩ = some (.int .i64 xid) := hcs 0 _ rfl
      have d1 : wr.cell? ⟨b, o + j * 11 + 1, none⟩ = some (.int .i64 xkind) := hcs 1 _ rfl
      have d2 : wr.cell? ⟨b, o + j * 11 + 2, none⟩ = some (.bool xpub) := hcs 2 _ rfl
      have d3 : wr.cell? ⟨b, o + j * 11 + 3, none⟩ = some (.slice xnA xnames.length xnc) := hcs 3 _ rfl
      have d4 : wr.cell? ⟨b, o + j * 11 + 4, none⟩ = some (.bool xdoubt) := hcs 4 _ rfl
      have d5 : wr.cell? ⟨b, o + j * 11 + 5, none⟩ = some (.int .i64 xk) := hcs 5 _ rfl
      have d6 : wr.cell? ⟨b, o + j * 11 + 6, none⟩ = some (.string xn) := hcs 6 _ rfl
      have d7 : wr.cell? ⟨b, o + j * 11 + 7, none⟩ = some (.string xm) := hcs 7 _ rfl
      have d8 : wr.cell? ⟨b, o + j * 11 + 8, none⟩ = some (.int .i64 xi) := hcs 8 _ rfl
      have d9 : wr.cell? ⟨b, o + j * 11 + 9, none⟩ = some (.int .i64 xd) := hcs 9 _ rfl
      have d10 : wr.cell? ⟨b, o + j * 11 + 10, none⟩ = some (.slice xA xs.len xc) := hcs 10 _ rfl
      obtain ⟨W3, hW3⟩ : ∃ W3, wr.alloc (.cells #[.int .i64 xid, .int .i64 xkind, .bool xpub, .slice xnA xnames.length xnc, .bool xdoubt, .int .i64 xk, .string xn, .string xm, .int .i64 xi, .int .i64 xd, .slice xA xs.len xc] 76) = W3 := ⟨_, rfl⟩
      have hb3 : Below wr.heap.size wr W3 := by subst hW3; exact (Below.refl _ _).alloc (Nat.le_refl _) _
      have hz3 : wr.heap.size < W3.heap.size := by subst hW3; simp
      have hx3 : W3.heap[wr.heap.size]? = some (.cells #[.int .i64 xid, .int .i64 xkind, .bool xpub, .slice xnA xnames.length xnc, .bool xdoubt, .int .i64 xk, .string xn, .string xm, .int .i64 xi, .int .i64 xd, .slice xA xs.len xc] 76 (0, 0)) := by rw [← hW3]; exact heap_alloc_new wr _
      have HF : Hid (∀ W, Below W3.heap.size W3 W → W.cell? ⟨wr.heap.size, 3, none⟩ = some (.slice xnA xnames.length xnc) ∧ W.cell? ⟨wr.heap.size, 4, none⟩ = some (.bool xdoubt) ∧ W.cell? ⟨wr.heap.size, 5, none⟩ = some (.int .i64 xk) ∧ W.cell? ⟨wr.heap.size, 6, none⟩ = some (.string xn) ∧ W.cell? ⟨wr.heap.size, 7, none⟩ = some (.string xm) ∧ W.cell? ⟨wr.heap.size, 8, none⟩ = some (.int .i64 xi) ∧ W.cell? ⟨wr.heap.size, 9, none⟩ = some (.int .i64 xd) ∧ W.cell? ⟨wr.heap.size, 10, none⟩ = some (.slice xA xs.len xc)) := by
        intro W hW
        have h := (hW.block wr.heap.size hz3).trans hx3
        exact ⟨cell_of_row W _ 3 _ _ (0, 0) h, cell_of_row W _ 4 _ _ (0, 0) h, cell_of_row W _ 5 _ _ (0, 0) h, cell_of_row W _ 6 _ _ (0, 0) h, cell_of_row W _ 7 _ _ (0, 0) h, cell_of_row W _ 8 _ _ (0, 0) h, cell_of_row W _ 9 _ _ (0, 0) h, cell_of_row W _ 10 _ _ (0, 0) h⟩
      obtain ⟨f3, f4, f5, f6, f7, f8, f9, f10⟩ := HF.out W3 (Below.refl _ _)
      have hs3 : SetK W3 9 (w.heap.size + 1) (met.map keyS) := hset.keep (hb3.block _ hset.lt)
      have hB3 := Lib.hid (hBr.trans (hb3.mono (by omega)))
      have hsl3 : xs.Sl W3 W3.heap.size xA xc := hsl.keep (by omega) fun p hp => (hB3.out.cell hp)
      have hnm3 : SlS W3 w.heap.size xnA xnc xnames := hnm.keep (Nat.le_refl _) fun p hp => (hB3.out.cell hp)
      have HS := Lib.hid (And.intro hs3 (And.intro (hasSum_any xs xk xn xm xi xd xA xc W3 hsl3) (And.intro hnm3 hstr)))
      have hmet := Lib.hid (And.intro HG (And.intro HA hml))
      clear hcs hcs0 hok0 hnm hsl hset hBr hb3 hx3 HG HA hsl3 hnm3 hs3 hstr
      cases xdoubt
      rotate_left
      · have HR := Lib.hid (show RV = 17 by rw [← HRV.out, if_pos (show E = true by rw [hmet.out.2.1, HDR.out]; simp [confB])])
        clear hml
        go_wp2
        go_ret
        exact ⟨by rw [HR.out]; rfl, hB3.out⟩
      by_cases hn1 : xnames.length = 1
      rotate_left
      · have hn1' : ((xnames.length : Int) != 1) = true := by simp; omega
        have HR := Lib.hid (show RV = 17 by rw [← HRV.out, if_pos (show E = true by rw [hmet.out.2.1, HDR.out]; simp [confB, hn1])])
        clear hml hn1
        go_wp2
        go_ret
        exact ⟨by rw [HR.out]; rfl, hB3.out⟩
      obtain ⟨nm, rfl⟩ : ∃ nm, xnames = [nm] := List.length_eq_one_iff.1 hn1
      obtain ⟨nb, no, rfl, hnb, hncell⟩ := HS.out.2.2.1.at_ (j := 0) (by simp)
      have hnc2 := HS.out.2.2.1.1
      have hnc3 := HS.out.2.2.1.2.1
      unfold maxLen at hnc3
      simp only [List.length_singleton, List.getElem_cons_zero, Nat.add_zero] at hncell hnc2 d3 f3 hW3 HF
      have hns : nm.size ≤ maxLen := HS.out.2.2.2 nm (by simp)
      have HNS := Lib.hid hns
      clear hns hn1
      obtain ⟨q, Hq⟩ : ∃ q, Hid ((xk == 15 || xs.sum) = q) := ⟨_, Lib.hid rfl⟩
      have HSM := Lib.hid (HS.out.2.1)
      rw [Hq.out] at HSM
      have HCE : Hid (E = if (q || hasN met nm) = true then true else confB (met ++ [nm]) (decls.drop (j + 1))) := by
        show _ = _
        rw [hmet.out.2.1, HDR.out]
        simp [confB, Hq.out, nameOf]
      go_wp2_with fail
      refine HSM.out.mono ?_
      rintro e w4 ⟨rfl, hb4⟩
      obtain ⟨g3, g4, g5, g6, g7, g8, g9, g10⟩ := HF.out w4 hb4
      have hnc4 := (hb4.cell (p := ⟨nb, no, none⟩) (by simp; omega)).trans hncell
      have hB4 := Lib.hid (hB3.out.trans (hb4.mono (by have := hB3.out.size; omega)))
      have hset4 : SetK w4 9 (w.heap.size + 1) (met.map keyS) := HS.out.1.keep (hb4.block _ HS.out.1.lt)
      have HS4 := Lib.hid (And.intro hset4 hb4)
      clear hW3 d0 d1 d2 d3 d4 d5 d6 d7 d8 d9 d10 f3 f4 f5 f6 f7 f8 f9 f10 hncell hset4 HF HSM
      cases q
      rotate_left
      · have HR := Lib.hid (show RV = 17 by rw [← HRV.out, if_pos (show E = true by rw [HCE.out]; simp)])
        clear hb4
        go_wp2
        go_ret
        exact ⟨by rw [HR.out]; rfl, hB4.out⟩
      have HLK : Hid ((met.map keyS).any (fun x => x.sameKey (keyS nm)) = hasN met nm) := keyS_has met nm
      obtain ⟨hb', Hhb⟩ : ∃ Q, Hid (hasN met nm = Q) := ⟨_, Lib.hid rfl⟩
      rw [Hhb.out] at HLK HCE
      have hlk : (Instr.lookup 96 (.map (some (w.heap.size + 1))) (.string nm) false).run Tryz.prog w4 = .ok (.bool hb') w4 := by
        rw [← HLK.out]
        exact HS4.out.1.look strKeyed Tryz.underlying96 (keyS_of HNS.out)
      clear hb4
      cases hb'
      · clear hml
        go_wp2_with (at_mapUpdate; refine wpList_setAdd _ rfl _ _ _ 96 rfl 9 strKeyed Tryz.underlying96 (w.heap.size + 1) (met.map keyS) rfl HS4.out.1 (by rw [List.length_map, hmet.out.2.2]; omega) _ (keyS nm) rfl rfl (keyS_of HNS.out) ?_; intro w5 hset5 hg5)
        go_roundg (N - (j + 1))
        case measure => rw [hmet.out.1]; omega
        case rel =>
          have hz4 := HS4.out.2.size
          have hz5 := hg5.size
          exact ⟨j + 1, met ++ [nm], rfl, by omega, by go_num, by rw [HCE.out]; simp, by simp [hmet.out.2.2], by simpa using hset5, hB4.out.grown hg5 (by omega) (fun q hq => by cases hq; omega), by omega⟩
      · have HR := Lib.hid (show RV = 17 by rw [← HRV.out, if_pos (show E = true by rw [HCE.out]; simp)])
        clear hml
        go_wp2
        go_ret
        exact ⟨by rw [HR.out]; rfl, hB4.out⟩
    · obtain rfl : j = N := by omega
      have HR := Lib.hid (show RV = 0 by rw [← HRV.out, if_neg (by rw [show E = false by rw [HA, List.drop_of_length_le (by rw [HN.out]; exact Nat.le_refl _)]; rfl]; simp)])
      clear HA hml hset
      go_wp2
      go_ret
      exact ⟨by rw [HR.out]; rfl, hBr⟩
end Go.Proofs.YtlpipoihinceiaaGreatDoor
/- compile.checkRefs -/
namespace Go.Proofs.YtlpipoihinceiaaGreatDoor
open Go.RowKit Go.Proofs Go.Shelf

/-- The cells of a declaration of a slice. -/
theorem SlD.cells_at {w wr : World} {B : Nat} {A : Option Addr} {c : Nat} {l : List Dc} (h : SlD w B A c l) (hb : ∀ p : Addr, p.block < B → wr.cell? p = w.cell? p) {j : Nat} {x : Dc} (hx : l[j]? = some x) : ∃ b o, A = some ⟨b, o, none⟩ ∧ b < B ∧
    wr.cell? ⟨b, o + j * 11, none⟩ = some (.int .i64 x.id) ∧ wr.cell? ⟨b, o + j * 11 + 1, none⟩ = some (.int .i64 x.kind) ∧ wr.cell? ⟨b, o + j * 11 + 2, none⟩ = some (.bool x.pub) ∧ wr.cell? ⟨b, o + j * 11 + 3, none⟩ = some (.slice x.nA x.names.length x.nc) ∧ wr.cell? ⟨b, o + j * 11 + 4, none⟩ = some (.bool x.doubt) ∧
    wr.cell? ⟨b, o + j * 11 + 5, none⟩ = some (.int .i64 x.k) ∧ wr.cell? ⟨b, o + j * 11 + 6, none⟩ = some (.string x.n) ∧ wr.cell? ⟨b, o + j * 11 + 7, none⟩ = some (.string x.m) ∧ wr.cell? ⟨b, o + j * 11 + 8, none⟩ = some (.int .i64 x.i) ∧ wr.cell? ⟨b, o + j * 11 + 9, none⟩ = some (.int .i64 x.d) ∧ wr.cell? ⟨b, o + j * 11 + 10, none⟩ = some (.slice x.A x.s.len x.c) ∧ x.Ok w B := by
  obtain ⟨b, o, e, hB, hall⟩ := h.2.2 (by intro e; subst e; simp at hx)
  obtain ⟨hcs, hok⟩ := hall j x hx
  have q : ∀ q v, x.cells[q]? = some v → wr.cell? ⟨b, o + j * 11 + q, none⟩ = some v := fun q v hq => (hb _ hB).trans (hcs q v hq)
  exact ⟨b, o, e, hB, q 0 _ rfl, q 1 _ rfl, q 2 _ rfl, q 3 _ rfl, q 4 _ rfl, q 5 _ rfl, q 6 _ rfl, q 7 _ rfl, q 8 _ rfl, q 9 _ rfl, q 10 _ rfl, hok⟩

theorem own_pos2 {X : World} {base : Nat} {e : TypeId} {size : Nat} {v : Value} {n : Nat} {xs : List Value} (h : X.ownsRow base e size v n xs) (hn : 0 < n) : ∃ g c, v = .slice (some ⟨g, 0, none⟩) n c ∧ n ≤ c ∧ c ≤ 9223372036854775807 := by
  rcases h.2 with ⟨_, h0⟩ | ⟨g, cap, cur, h1, _, _, hle, hmx, _⟩
  · omega
  · unfold maxLen at hmx; exact ⟨g, cap, h1, hle, hmx⟩
def keyI (i : Int) : Lit := .int .i64 i
theorem keyI_of {i : Int} (h : (Lit.int .i64 i).wf = true) : keyOf Tryz.prog 3 (.int .i64 i) = some (keyI i) := Maps.keyOf_int_mk Tryz.underlying3 h
def hasI (l : List Int) (i : Int) : Bool := l.any fun x => decide (x = i)
theorem keyI_has (l : List Int) (i : Int) : ((l.map keyI).any fun x => x.sameKey (keyI i)) = hasI l i := by
  unfold hasI
  rw [List.any_map]
  congr 1
  funext x
  simp [keyI, Lit.sameKey]
/-- A reference leads somewhere. -/
def refOK (ids : List Int) (uses : List ByteArray) (r : ByteArray × Int) : Bool := if r.1.toList.isEmpty = true then hasI ids r.2 else hasS uses r.1
def Dc.refs (x : Dc) : List (ByteArray × Int) := refsOf x.body.vis
def leadsB (ids : List Int) (uses : List ByteArray) (l : List Dc) : Bool := l.all fun x => x.refs.all (refOK ids uses)
/-- What the references of declarations are like. -/
def OkR (l : List Dc) : Prop := ∀ x ∈ l, (Lit.int .i64 x.id).wf = true ∧ x.s.count ≤ 100000 ∧ ∀ r ∈ x.refs, r.1.size ≤ maxLen ∧ (Lit.int .i64 r.2).wf = true

set_option maxRecDepth 100000 in
set_option maxHeartbeats 2000000 in
theorem checkRefs_any (label : ByteArray) (uses : List ByteArray) (uA : Option Addr) (uc : Nat) (decls : List Dc) (dA : Option Addr) (dc : Nat) (w : World) (hu : SlS w w.heap.size uA uc uses) (hd : SlD w w.heap.size dA dc decls) (hok : OkR decls) (hdl : decls.length ≤ 100) :
    Calls Tryz.prog 142 #[.agg #[.string label, .slice uA uses.length uc, .slice dA decls.length dc]] w fun e w' => e = .returned (.int .i64 (if leadsB (decls.map Dc.id) uses decls = true then 0 else 21)) ∧ Below w.heap.size w w' := by
  obtain ⟨ids, Hids⟩ : ∃ Q, Hid (decls.map Dc.id = Q) := ⟨_, Lib.hid rfl⟩
  rw [Hids.out]
  obtain ⟨RV, HRV⟩ : ∃ RV : Int, Hid ((if leadsB ids uses decls = true then (0 : Int) else 21) = RV) := ⟨_, Lib.hid rfl⟩
  rw [HRV.out]
  have hmm := @run_makeMap Tryz.prog
  have hul := hu.1
  have hul2 := hu.2.1
  unfold maxLen at hul2
  obtain ⟨N, HN⟩ : ∃ Q, Hid (decls.length = Q) := ⟨_, Lib.hid rfl⟩
  obtain ⟨NU, HNU⟩ : ∃ Q, Hid (uses.length = Q) := ⟨_, Lib.hid rfl⟩
  rw [HN.out] at hdl ⊢
  rw [HNU.out] at hul ⊢
  obtain ⟨W0, hW0⟩ : ∃ W0, (w.alloc (.cells #[.string label, .slice uA NU uc, .slice dA N dc] 25)).alloc (.map #[] 0) = W0 := ⟨_, rfl⟩
  have hzw : w.heap.size + 1 < W0.heap.size := by subst hW0; simp
  have hB0 : Below w.heap.size w W0 := by subst hW0; exact ((Below.refl _ _).alloc (Nat.le_refl _) _).alloc (by simp) _
  have hx0 : W0.heap[w.heap.size]? = some (.cells #[.string label, .slice uA NU uc, .slice dA N dc] 25 (0, 0)) := by rw [← hW0]; exact (Below.heap_alloc _ _ _ (by simp)).trans (heap_alloc_new w _)
  have h1 := cell_of_row W0 w.heap.size 1 _ _ (0, 0) hx0
  have h2 := cell_of_row W0 w.heap.size 2 _ _ (0, 0) hx0
  have hm0 : SetK W0 3 (w.heap.size + 1) [] := by
    have := SetK.made (w.alloc (.cells #[.string label, .slice uA NU uc, .slice dA N dc] 25)) 3
    rw [hW0] at this
    simpa using this
  have HD0 := Lib.hid (And.intro hd (And.intro hok (And.intro hB0 (And.intro hm0 (And.intro hx0 hu)))))
  simp at h1 h2
  clear hd hok hB0 hm0 hx0 hu
  go_enter Tryz.func142, Tryz.ntmps142
  go_wp2
  go_loopg [5, 14] N (fun g _ ct wr => ∃ j : Nat, g = N - j ∧ j ≤ N ∧ ct = .int .i64 j ∧ SetK wr 3 (w.heap.size + 1) ((ids.take j).map keyI) ∧ Below w.heap.size w wr ∧ w.heap.size + 1 < wr.heap.size ∧ wr.heap[w.heap.size]? = some (.cells #[.string label, .slice uA NU uc, .slice dA N dc] 25 (0, 0)))
  case atStart => exact ⟨0, rfl, by omega, rfl, HD0.out.2.2.2.1, HD0.out.2.2.1, hzw, HD0.out.2.2.2.2.1⟩
  case round =>
    obtain ⟨j, HG, hj, rfl, hset, hBr, hzr, hxr⟩ := hrel
    by_cases hlt : j < N
    · have hlt' : j < decls.length := by rw [HN.out]; exact hlt
      have hj3 : decls[j]? = some decls[j] := List.getElem?_eq_getElem hlt'
      obtain ⟨b, o, rfl, hb, d0, d1, d2, d3, d4, d5, d6, d7, d8, d9, d10, _⟩ := HD0.out.1.cells_at (fun p hp => hBr.cell hp) hj3
      have hwf := (HD0.out.2.1 _ (List.mem_of_getElem? hj3)).1
      have htk : ids.take (j + 1) = ids.take j ++ [decls[j].id] := by
        rw [← Hids.out, List.take_succ_eq_append_getElem (by simpa using hlt')]
        simp
      have HT := Lib.hid (And.intro HG (And.intro hset (And.intro hBr (And.intro hwf (And.intro htk hxr)))))
      clear HG hset hBr hwf htk hj3 hxr
      generalize decls[j] = x at d0 d1 d2 d3 d4 d5 d6 d7 d8 d9 d10 HT
      go_wp2_with (at_mapUpdate; refine wpList_setAdd _ rfl _ _ _ 229 rfl 3 intKeyed Tryz.underlying229 (w.heap.size + 1) ((ids.take j).map keyI) rfl (HT.out.2.1.keep (Below.heap_alloc _ _ _ (by omega))) (by rw [List.length_map, List.length_take]; omega) _ (keyI x.id) rfl rfl (keyI_of HT.out.2.2.2.1) ?_; intro w5 hset5 hg5)
      go_roundg (N - (j + 1))
      case measure => rw [HT.out.1]; omega
      case rel =>
        have hz5 := hg5.size
        simp at hz5
        refine ⟨j + 1, rfl, by omega, by go_num, ?_, ?_, by omega, ?_⟩
        · rw [HT.out.2.2.2.2.1]; simpa using hset5
        · exact (HT.out.2.2.1.alloc (by omega) _).grown hg5 (by simp; omega) (fun q hq => by cases hq; omega)
        · exact (hg5.block _ (by simp; omega) (by simp)).trans ((Below.heap_alloc _ _ _ (by omega)).trans HT.out.2.2.2.2.2)
    · obtain rfl : j = N := by omega
      have hset' : SetK wr 3 (w.heap.size + 1) (ids.map keyI) := by
        rw [List.take_of_length_le (by rw [← Hids.out, List.length_map, HN.out]; exact Nat.le_refl _)] at hset
        exact hset
      have g2 := cell_of_row wr w.heap.size 2 _ _ (0, 0) hxr
      simp at g2
      obtain ⟨w1, rfl⟩ : ∃ w1 : World, w1 = wr := ⟨_, rfl⟩
      have H1 := Lib.hid (And.intro hset' (And.intro hBr hxr))
      clear hset hset' hBr hxr HG h1 h2
      go_wp2
      go_loopg [7, 25] j (fun g _ ct wr => ∃ q : Nat, g = j - q ∧ q ≤ j ∧ ct = .int .i64 q ∧ (leadsB ids uses decls = leadsB ids uses (decls.drop q)) ∧ Below w1.heap.size w1 wr)
      case atStart => exact ⟨0, rfl, by omega, rfl, rfl, Below.refl _ _⟩
      case round =>
        obtain ⟨q, HG, hq, rfl, HL, hB2⟩ := hrel
        have hz2 := hB2.size
        by_cases hlt2 : q < j
        · have hlt' : q < decls.length := by rw [HN.out]; exact hlt2
          have hj3 : decls[q]? = some decls[q] := List.getElem?_eq_getElem hlt'
          obtain ⟨b, o, rfl, hb, d0, d1, d2, d3, d4, d5, d6, d7, d8, d9, d10, hxok⟩ := HD0.out.1.cells_at (fun p hp => (hB2.cell (by omega)).trans (H1.out.2.1.cell hp)) hj3
          obtain ⟨_, hcnt, hrefs⟩ := HD0.out.2.1 _ (List.mem_of_getElem? hj3)
          have hdr : decls.drop q = decls[q] :: decls.drop (q + 1) := List.drop_eq_getElem_cons hlt'
          have HT := Lib.hid (And.intro HG (And.intro HL (And.intro hB2 (And.intro hrefs hdr))))
          have hxsl := hxok.2
          clear HG HL hB2 hrefs hdr hj3 hxok
          generalize decls[q] = x at d0 d1 d2 d3 d4 d5 d6 d7 d8 d9 d10 HT hcnt hxsl
          obtain ⟨W3, hW3⟩ : ∃ W3, wr.alloc (.cells #[.int .i64 x.id, .int .i64 x.kind, .bool x.pub, .slice x.nA x.names.length x.nc, .bool x.doubt, .int .i64 x.k, .string x.n, .string x.m, .int .i64 x.i, .int .i64 x.d, .slice x.A x.s.len x.c] 76) = W3 := ⟨_, rfl⟩
          have hb3 : Below wr.heap.size wr W3 := by subst hW3; exact (Below.refl _ _).alloc (Nat.le_refl _) _
          have hz3 : wr.heap.size < W3.heap.size := by subst hW3; simp
          have f5 : W3.cell? ⟨wr.heap.size, 5, none⟩ = some (.int .i64 x.k) := by subst hW3; go_simp
          have f6 : W3.cell? ⟨wr.heap.size, 6, none⟩ = some (.string x.n) := by subst hW3; go_simp
          have f7 : W3.cell? ⟨wr.heap.size, 7, none⟩ = some (.string x.m) := by subst hW3; go_simp
          have f8 : W3.cell? ⟨wr.heap.size, 8, none⟩ = some (.int .i64 x.i) := by subst hW3; go_simp
          have f9 : W3.cell? ⟨wr.heap.size, 9, none⟩ = some (.int .i64 x.d) := by subst hW3; go_simp
          have f10 : W3.cell? ⟨wr.heap.size, 10, none⟩ = some (.slice x.A x.s.len x.c) := by subst hW3; go_simp
          have hB13 := HT.out.2.2.1.trans (hb3.mono (by omega))
          have hB03 := H1.out.2.1.trans (hB13.mono (by have := H1.out.2.1.size; omega))
          have HRF := Lib.hid (refs_any x.k x.n x.m x.i x.d x.A x.c x.s W3 (hxsl.keep (by omega) fun p hp => hB03.cell hp) hcnt)
          have HB13 := Lib.hid hB13
          clear hb3 hB13 hB03
          obtain ⟨R, HR⟩ : ∃ Q, Hid (x.refs = Q) := ⟨_, Lib.hid rfl⟩
          have HRR : Hid (refsOf (Fo.cons x.k x.n x.m x.i x.d x.A x.c x.s .nil).vis = R) := HR.out
          rw [HRR.out] at HRF
          go_wp2_with fail
          refine HRF.out.mono ?_
          rintro e w4 ⟨v, rfl, hown4, hb4⟩
          obtain ⟨rA, rc, rfl⟩ : ∃ A c, v = .slice A R.length c := (refs_tail R _ v w4 hown4).1
          have hrc : R.length ≤ 9223372036854775807 := by
            rcases hown4.2 with ⟨_, h0⟩ | ⟨_, _, _, _, _, _, h1, h2, _⟩
            · omega
            · unfold maxLen at h2; omega
          have hz4 := hb4.size
          have HB14 := Lib.hid (HB13.out.trans (hb4.mono (by have := HB13.out.size; omega)))
          have HO4 := Lib.hid hown4
          have hw14 := HB14.out.size
          clear hown4 hb4 hW3 d0 d1 d2 d3 d4 d5 d6 d7 d8 d9 d10 f5 f6 f7 f8 f9 f10 HRF
          go_wp2
          go_loopg [9, 33] R.length (fun g _ ct wr => ∃ p : Nat, g = R.length - p ∧ p ≤ R.length ∧ ct = .int .i64 p ∧ (R.take p).all (refOK ids uses) = true ∧ Below w4.heap.size w4 wr)
          case atStart => exact ⟨0, rfl, by omega, rfl, rfl, Below.refl _ _⟩
          case round =>
            obtain ⟨p, HG, hp, rfl, HA, hB5⟩ := hrel
            have hz5 := hB5.size
            have HG5 := Lib.hid (And.intro HG HA)
            clear HG HA
            by_cases hlt3 : p < R.length
            · have hp3 : R[p]? = some R[p] := List.getElem?_eq_getElem hlt3
              have htk : R.take (p + 1) = R.take p ++ [R[p]] := List.take_succ_eq_append_getElem hlt3
              obtain ⟨gr, rcap, hform, hcap1, hcap2⟩ := own_pos2 HO4.out (by omega)
              simp only [Value.slice.injEq, true_and] at hform
              obtain ⟨rfl, rfl⟩ := hform
              obtain ⟨n0, n1⟩ := namesC_at _ R p hp3
              obtain ⟨hsz, hwf⟩ := HT.out.2.2.2.1 R[p] (by rw [HR.out]; exact List.mem_of_getElem? hp3)
              have hgr := (HO4.out.lt gr rfl).2
              have c0 : wr.cell? ⟨gr, p * 2, none⟩ = some (.string R[p].1) := (hB5.cell (p := ⟨gr, p * 2, none⟩) hgr).trans ((HO4.out.cellAt _ (by omega)).trans n0)
              have c1 : wr.cell? ⟨gr, p * 2 + 1, none⟩ = some (.int .i64 R[p].2) := (hB5.cell (p := ⟨gr, p * 2 + 1, none⟩) hgr).trans ((HO4.out.cellAt _ (by omega)).trans n1)
              have HP := Lib.hid (And.intro hsz (And.intro hwf htk))
              clear n0 n1 hp3 hsz hwf htk
              generalize R[p] = r at c0 c1 HP
              obtain ⟨rn, ri⟩ := r
              simp only at c0 c1 HP
              obtain ⟨W5, hW5⟩ : ∃ W5, wr.alloc (.cells #[.string rn, .int .i64 ri] 78) = W5 := ⟨_, rfl⟩
              have hb5 : Below wr.heap.size wr W5 := by subst hW5; exact (Below.refl _ _).alloc (Nat.le_refl _) _
              have k0 : W5.cell? ⟨wr.heap.size, 0, none⟩ = some (.string rn) := by subst hW5; go_simp
              have k1 : W5.cell? ⟨wr.heap.size, 1, none⟩ = some (.int .i64 ri) := by subst hW5; go_simp
              have hb45 := hB5.trans (hb5.mono (by omega))
              have HB45 := Lib.hid hb45
              have hb15 := HB14.out.trans (hb45.mono (by omega))
              have hb05 := H1.out.2.1.trans (hb15.mono (by have := H1.out.2.1.size; omega))
              have hx5 : W5.cell? ⟨w.heap.size, 1, none⟩ = some (.slice uA NU uc) := by
                have h := (hb15.block w.heap.size (by omega)).trans H1.out.2.2
                exact cell_of_row W5 w.heap.size 1 _ _ (0, 0) h
              have HB05 := Lib.hid hb05
              obtain ⟨q0, Hq0⟩ : ∃ Q, Hid (refOK ids uses (rn, ri) = Q) := ⟨_, Lib.hid rfl⟩
              have HNX : Hid (q0 = true → (R.take (p + 1)).all (refOK ids uses) = true) := fun h => by
                rw [HP.out.2.2, List.all_append, HG5.out.2]
                simp [Hq0.out, h]
              have HBD : Hid (q0 = false → RV = 21) := fun h => by
                rw [← HRV.out, if_neg]
                rw [HT.out.2.1, HT.out.2.2.2.2]
                simp only [leadsB, List.all_cons, Bool.and_eq_true, not_and]
                intro h2
                exfalso
                have h3 : (R.take (p + 1)).all (refOK ids uses) = true := by
                  rw [List.all_eq_true] at h2 ⊢
                  exact fun y hy => h2 y (by rw [HR.out]; exact List.mem_of_mem_take hy)
                rw [HP.out.2.2, List.all_append] at h3
                simp [Hq0.out, h] at h3
              have hlk : (Instr.lookup 229 (.map (some (w.heap.size + 1))) (.int .i64 ri) false).run Tryz.prog W5 = .ok (.bool (hasI ids ri)) W5 := by
                rw [← keyI_has]
                exact (H1.out.1.keep (hb15.block _ (by omega))).look intKeyed Tryz.underlying229 (keyI_of HP.out.2.1)
              have hcn := slcContains_any uses rn uA uc W5 (HD0.out.2.2.2.2.2.keep (by have := hb05.size; omega) fun p hp => hb05.cell hp)
              rw [HNU.out] at hcn
              have HCN := Lib.hid hcn
              clear hb5 hb45 hb15 hb05 hcn hB5
              by_cases hn : rn.toList.isEmpty = true
              · have hn' : rn.toList = [] := by simpa using hn
                have HQ : Hid (hasI ids ri = q0) := by show _ = _; rw [← Hq0.out, refOK, if_pos hn]
                rw [HQ.out] at hlk
                cases q0
                · have HRR2 := Lib.hid (HBD.out rfl)
                  go_wp2
                  go_ret
                  exact ⟨by rw [HRR2.out]; rfl, HB05.out⟩
                · go_wp2
                  go_roundg (R.length - (p + 1))
                  case measure => rw [HG5.out.1]; omega
                  case rel => exact ⟨p + 1, rfl, by omega, by go_num, HNX.out (by simp), HB45.out⟩
              · have hn' : rn.toList.isEmpty = false := by simpa using hn
                have hn2 : (!rn.toList.isEmpty) = true := by simp [hn']
                have HQ : Hid (hasS uses rn = q0) := by show _ = _; rw [← Hq0.out, refOK, if_neg hn]
                rw [HQ.out] at HCN
                clear hlk hn
                cases q0
                · have HRR2 := Lib.hid (HBD.out rfl)
                  go_wp2_with fail
                  refine HCN.out.mono ?_
                  rintro e w6 ⟨rfl, rfl⟩
                  go_wp2
                  go_ret
                  exact ⟨by rw [HRR2.out]; rfl, HB05.out⟩
                · go_wp2_with fail
                  refine HCN.out.mono ?_
                  rintro e w6 ⟨rfl, rfl⟩
                  go_wp2
                  go_roundg (R.length - (p + 1))
                  case measure => rw [HG5.out.1]; omega
                  case rel => exact ⟨p + 1, rfl, by omega, by go_num, HNX.out (by simp), HB45.out⟩
            · obtain rfl : p = R.length := by omega
              have hall : R.all (refOK ids uses) = true := by
                have := HG5.out.2
                rwa [List.take_of_length_le (Nat.le_refl _)] at this
              have HALL := Lib.hid hall
              clear hall
              go_wp2
              go_roundg (j - (q + 1))
              case measure => rw [HT.out.1]; omega
              case rel =>
                refine ⟨q + 1, rfl, by omega, by go_num, ?_, HB14.out.trans (hB5.mono (by omega))⟩
                rw [HT.out.2.1, HT.out.2.2.2.2]
                simp [leadsB, HR.out, HALL.out]
        · obtain rfl : q = j := by omega
          have HRR2 := Lib.hid (show RV = 0 by
            rw [← HRV.out, if_pos]
            rw [HL, List.drop_of_length_le (by rw [HN.out]; exact Nat.le_refl _)]
            rfl)
          clear HL
          go_wp2
          go_ret
          exact ⟨by rw [HRR2.out]; rfl, H1.out.2.1.trans (hB2.mono (by have := H1.out.2.1.size; omega))⟩
end Go.Proofs.YtlpipoihinceiaaGreatDoor
