/- bind.Bind in the reference's words: first declaration, first use -/
import Derived.Test.YtacjjkbkhpdhnaaGreatDoorZpe
import Derived.Test.YtacjjkbkhpdhnaaGreatDoorZlp
import Derived.Test.YtacjjkbkhpdhnaaGreatDoorSxg
namespace Go.Proofs.YtacjjkbkhpdhnaaGreatDoor
open Go Go.RowKit Go.Proofs Go.Shelf
def idsF (ds : List Dc) (s : ByteArray) : Option Int := (ds.find? fun x => decide (x.names.length = 1 ∧ nameOf x = s)).map Dc.id
def dotF (uses : List ByteArray) (known : List If) (n m : ByteArray) : Option (ByteArray × Int) :=
  uses.findSome? fun u => if aliasB u = n then (sigO (sigsOf known u) (fun s => s.name.toList == m.toList)).map fun s => (u, s.id) else none
def gBound (ds : List Dc) (uses : List ByteArray) (known : List If) : Repl := fun x sc =>
  if x.k = 3 ∧ hasN sc x.n = false then
    match idsF ds x.n with
    | some i => (0, ⟨5, ⟨#[]⟩, ⟨#[]⟩, i, 0⟩)
    | none => (21, noNx)
  else if x.k = 4 then
    match dotF uses known x.n x.m with
    | none => (21, noNx)
    | some p => (0, ⟨5, p.1, ⟨#[]⟩, p.2, 0⟩)
  else (0, x)
def NmU (ds : List Dc) : Prop := ds.Pairwise fun x y => x.names.length = 1 → y.names.length = 1 → nameOf x ≠ nameOf y
def AlU (uses : List ByteArray) : Prop := uses.Pairwise fun u v => aliasB u ≠ aliasB v
theorem idsO_none : ∀ {ds : List Dc} {s : ByteArray} (a : Option Int), (∀ x ∈ ds, ¬ (x.names.length = 1 ∧ nameOf x = s)) → ds.foldl (fun a x => if x.names.length = 1 ∧ nameOf x = s then some x.id else a) a = a
  | [], _, _, _ => rfl
  | x :: r, s, a, h => by
    rw [List.foldl_cons, if_neg (h x List.mem_cons_self)]
    exact idsO_none a fun y hy => h y (List.mem_cons_of_mem _ hy)
theorem ids_eq : ∀ {ds : List Dc} {s : ByteArray}, NmU ds → ds.foldl (fun a x => if x.names.length = 1 ∧ nameOf x = s then some x.id else a) none = idsF ds s
  | [], _, _ => rfl
  | x :: r, s, h => by
    obtain ⟨h1, h2⟩ := List.pairwise_cons.1 h
    rw [List.foldl_cons]
    unfold idsF
    by_cases hx : x.names.length = 1 ∧ nameOf x = s
    · rw [if_pos hx, idsO_none (some x.id) fun y hy hys => h1 y hy hx.1 hys.1 (hx.2.trans hys.2.symm), List.find?_cons_of_pos (by simpa using hx)]
      rfl
    · rw [if_neg hx, List.find?_cons_of_neg (by simpa using hx)]
      exact ids_eq h2
theorem labO_none : ∀ {uses : List ByteArray} {s : ByteArray} (a : Option ByteArray), (∀ u ∈ uses, aliasB u ≠ s) → uses.foldl (fun a u => if aliasB u = s then some u else a) a = a
  | [], _, _, _ => rfl
  | x :: r, s, a, h => by
    rw [List.foldl_cons, if_neg (h x List.mem_cons_self)]
    exact labO_none a fun y hy => h y (List.mem_cons_of_mem _ hy)
theorem dotF_none {uses : List ByteArray} {known : List If} {n m : ByteArray} (h : ∀ u ∈ uses, aliasB u ≠ n) : dotF uses known n m = none := by
  unfold dotF
  rw [List.findSome?_eq_none_iff]
  intro u hu
  rw [if_neg (h u hu)]
theorem dot_eq : ∀ {uses : List ByteArray} {known : List If} {n m : ByteArray}, AlU uses → dotF uses known n m = (uses.foldl (fun a u => if aliasB u = n then some u else a) none).bind fun u => (sigO (sigsOf known u) (fun s => s.name.toList == m.toList)).map fun s => (u, s.id)
  | [], _, _, _, _ => rfl
  | x :: r, known, n, m, h => by
    obtain ⟨h1, h2⟩ := List.pairwise_cons.1 h
    rw [List.foldl_cons]
    by_cases hx : aliasB x = n
    · rw [if_pos hx, labO_none (some x) fun u hu e => h1 u hu (hx.trans e.symm)]
      unfold dotF
      rw [List.findSome?_cons, if_pos hx]
      cases hs : sigO (sigsOf known x) (fun s => s.name.toList == m.toList) with
      | some s => simp [hs]
      | none =>
        simp only [Option.map_none, Option.bind_some, hs]
        exact dotF_none fun u hu e => h1 u hu (hx.trans e.symm)
    · rw [if_neg hx]
      unfold dotF
      rw [List.findSome?_cons, if_neg hx]
      exact dot_eq h2
theorem gBound_eq {ds : List Dc} {uses : List ByteArray} {known : List If} (hn : NmU ds) (ha : AlU uses) : gBound ds uses known = bindG uses ds known := by
  funext x sc
  unfold gBound bindG gBind
  have h1 : idsO ds x.n = idsF ds x.n := ids_eq hn
  have h2 := dot_eq (known := known) (n := x.n) (m := x.m) ha
  have h3 : labO uses x.n = uses.foldl (fun a u => if aliasB u = x.n then some u else a) none := rfl
  rw [h1, h2, ← h3]
  by_cases hk : x.k = 3 ∧ hasN sc x.n = false
  · rw [if_pos hk, if_pos hk]
    cases idsF ds x.n <;> rfl
  · rw [if_neg hk, if_neg hk]
    by_cases h4 : x.k = 4
    · rw [if_pos h4, if_pos h4]
      cases labO uses x.n with
      | none => rfl
      | some l =>
        simp only [Option.bind_some]
        cases sigO (sigsOf known l) (fun s => s.name.toList == x.m.toList) <;> rfl
    · rw [if_neg h4, if_neg h4]
theorem hasN_iff {met : List ByteArray} {s : ByteArray} : hasN met s = true ↔ s ∈ met := by
  unfold hasN
  rw [List.any_eq_true]
  refine ⟨fun ⟨t, ht, e⟩ => ?_, fun h => ⟨s, h, by simp⟩⟩
  have : t = s := ByteArray.ext (Array.ext' (eq_of_beq e))
  exact this ▸ ht
theorem nmU_of : ∀ {p : Option Int} {met : List ByteArray} {ds : List Dc}, sdsE p met ds = 0 → NmU ds ∧ ∀ x ∈ ds, x.names.length = 1 → nameOf x ∉ met
  | _, _, [], _ => ⟨List.Pairwise.nil, fun x hx => by cases hx⟩
  | p, met, x :: r, h => by
    unfold sdsE at h
    by_cases h1 : sdE x = 0
    · rw [if_neg (by simpa using h1)] at h
      by_cases h2 : ordBad p x.id = true
      · rw [if_pos h2] at h; cases h
      · rw [if_neg h2] at h
        by_cases h3 : x.names.length = 1
        · rw [if_pos h3] at h
          by_cases h4 : hasN met (nameOf x) = true
          · rw [if_pos h4] at h; cases h
          · rw [if_neg h4] at h
            obtain ⟨i1, i2⟩ := nmU_of h
            refine ⟨List.pairwise_cons.2 ⟨fun y hy hx1 hy1 e => i2 y hy hy1 (by rw [← e]; simp), i1⟩, fun y hy hy1 => ?_⟩
            rcases List.mem_cons.1 hy with rfl | hy
            · exact fun hm => h4 (hasN_iff.2 hm)
            · exact fun hm => i2 y hy hy1 (List.mem_append_left _ hm)
        · rw [if_neg h3] at h
          obtain ⟨i1, i2⟩ := nmU_of h
          refine ⟨List.pairwise_cons.2 ⟨fun y hy hx1 => absurd hx1 h3, i1⟩, fun y hy hy1 => ?_⟩
          rcases List.mem_cons.1 hy with rfl | hy
          · exact absurd hy1 h3
          · exact i2 y hy hy1
    · rw [if_pos h1] at h
      exact absurd h h1
theorem cbUses_zero {label : ByteArray} {known : List If} {l : List ByteArray} : ∀ {f j : Nat}, cbUses label known l f j = 0 → ∀ q, j ≤ q → q < j + f → useE label l q = 0 ∧ (faceO known (l.getD q ⟨#[]⟩)).isNone = false
  | 0, j, _, q, h1, h2 => by omega
  | f + 1, j, h, q, h1, h2 => by
    unfold cbUses at h
    by_cases a1 : useE label l j = 0
    · rw [if_neg (by simpa using a1)] at h
      by_cases a2 : (faceO known (l.getD j ⟨#[]⟩)).isNone = true
      · rw [if_pos a2] at h; cases h
      · rw [if_neg a2] at h
        by_cases hq : q = j
        · subst hq
          exact ⟨a1, Bool.eq_false_iff.2 a2⟩
        · exact cbUses_zero h q (by omega) (by omega)
    · rw [if_pos a1] at h
      exact absurd h a1
theorem alU_of {label : ByteArray} {l : List ByteArray} (h : ∀ q, q < l.length → useE label l q = 0) : AlU l := by
  unfold AlU
  rw [List.pairwise_iff_getElem]
  intro i j hi hj hij e
  have h1 := h j hj
  unfold useE at h1
  by_cases a1 : nameB (aliasB (l.getD j ⟨#[]⟩)) = false
  · rw [if_pos a1] at h1; cases h1
  · rw [if_neg a1] at h1
    by_cases a2 : ((l.take j).any fun v => (aliasB v).toList == (aliasB (l.getD j ⟨#[]⟩)).toList) = true
    · rw [if_pos a2] at h1; cases h1
    · apply a2
      rw [List.any_eq_true]
      refine ⟨l[i], List.mem_take_iff_getElem.2 ⟨i, by omega, rfl⟩, ?_⟩
      have hd : l.getD j ⟨#[]⟩ = l[j] := by rw [List.getD_eq_getElem?_getD, List.getElem?_eq_getElem hj]; rfl
      rw [hd, e]
      simp
end Go.Proofs.YtacjjkbkhpdhnaaGreatDoor
/- bind.twice -/
namespace Go.Proofs.YtacjjkbkhpdhnaaGreatDoor
open Go.RowKit Go.Proofs Go.Shelf
def twB : List ByteArray → List Dc → Bool
  | _, [] => false
  | met, x :: r => if x.names.length = 1 then (if hasN met (nameOf x) = true then true else twB (met ++ [nameOf x]) r) else twB met r
set_option maxRecDepth 100000 in
set_option maxHeartbeats 2000000 in
theorem twice_any (decls : List Dc) (dA : Option Addr) (dc : Nat) (w : World) (hd : SlD w w.heap.size dA dc decls) (hst : StrD decls) (hdl : decls.length ≤ 100) :
    Calls Tryz.prog 74 #[.slice dA decls.length dc] w fun e w' => e = .returned (.bool (twB [] decls)) ∧ Below w.heap.size w w' := by
  obtain ⟨E, HE⟩ : ∃ E, Hid (twB [] decls = E) := ⟨_, Lib.hid rfl⟩
  rw [HE.out]
  have hmm := @run_makeMap Tryz.prog
  obtain ⟨W0, hW0⟩ : ∃ W0, w.alloc (.map #[] 0) = W0 := ⟨_, rfl⟩
  have hzw : w.heap.size < W0.heap.size := by subst hW0; simp
  have hB0 : Below w.heap.size w W0 := by subst hW0; exact (Below.refl _ _).alloc (Nat.le_refl _) _
  have hm0 : SetK W0 9 w.heap.size [] := by
    have := SetK.made w 9
    rwa [hW0] at this
  have HD0 := Lib.hid (And.intro hd (And.intro hst (And.intro hB0 hm0)))
  obtain ⟨N, HN⟩ : ∃ Q, Hid (decls.length = Q) := ⟨_, Lib.hid rfl⟩
  rw [HN.out] at hdl ⊢
  clear hd hst hB0 hm0
  go_enter Tryz.func74, Tryz.ntmps74
  go_wp2
  go_loopg [9] N (fun g ct wr => ∃ (j : Nat) (met : List ByteArray), g = N - j ∧ j ≤ N ∧ ct = .int .i64 j ∧ E = twB met (decls.drop j) ∧ met.length ≤ j ∧ SetK wr 9 w.heap.size (met.map keyS) ∧ Below w.heap.size w wr ∧ w.heap.size < wr.heap.size)
  case atStart => exact ⟨0, [], rfl, by omega, rfl, by rw [← HE.out]; rfl, by simp, HD0.out.2.2.2, HD0.out.2.2.1, hzw⟩
  case round =>
    obtain ⟨j, met, HG, hj, rfl, HA, hml, hset, hBr, hzr⟩ := hrel
    by_cases hlt : j < N
    · have hlt' : j < decls.length := by rw [HN.out]; exact hlt
      have hj3 : decls[j]? = some decls[j] := List.getElem?_eq_getElem hlt'
      obtain ⟨b, o, rfl, hb, hall⟩ := HD0.out.1.2.2 (by intro e; rw [e] at hlt'; simp at hlt')
      obtain ⟨hcs0, hok0⟩ := hall j _ hj3
      have hstr := HD0.out.2.1 decls[j] (List.mem_of_getElem? hj3)
      have HDR := Lib.hid (show decls.drop j = decls[j] :: decls.drop (j + 1) from List.drop_eq_getElem_cons hlt')
      clear hall hj3
      generalize decls[j] = x at hcs0 hok0 HDR hstr
      have hcs : ∀ q v, x.cells[q]? = some v → wr.cell? ⟨b, o + j * 11 + q, none⟩ = some v := fun q v hq => (hBr.cell (p := ⟨b, o + j * 11 + q, none⟩) hb).trans (hcs0 q v hq)
      have hnm := hok0.1
      have hsl := hok0.2
      obtain ⟨xid, xkind, xpub, xnA, xnc, xnames, xdoubt, xk, xn, xm, xi, xd, xA, xc, xs⟩ := x
      simp only at hnm hsl hstr
      have d0 : wr.cell? ⟨b, o + j * 11, none⟩ = some (.int .i64 xid) := hcs 0 _ rfl
      have d1 : wr.cell? ⟨b, o + j * 11 + 1, none⟩ = some (.int .i64 xkind) := hcs 1 _ rfl
      have d2 : wr.cell? ⟨b, o + j * 11 + 2, none⟩ = some (.bool xpub) := hcs 2 _ rfl
      have d3 : wr.cell? ⟨b, o + j * 11 + 3, none⟩ = some (.slice xnA xnames.length xnc) := hcs 3 _ rfl
      have d4 : wr.cell? ⟨b, o + j * 11 + 4, none⟩ = some (.bool xdoubt) := hcs 4 _ rfl
      have d5 : wr.cell? ⟨b, o + j * 11 + 5, none⟩ = some (.int .i64 xk) := hcs 5 _ rfl
      have d6 : wr.cell? ⟨b, o + j * 11 + 6, none⟩ = some (.string xn) := hcs 6 _ rfl
      have d7 : wr.cell? ⟨b, o + j * 11 + 7, none⟩ = some (.string xm) := hcs 7 _ rfl
      have d8 : wr.cell? ⟨b, o + j * 11 + 8, none⟩ = some (.int .i64 xi) := hcs 8 _ rfl
      have d9 : wr.cell? ⟨b, o + j * 11 + 9, none⟩ = some (.int .i64 xd) := hcs 9 _ rfl
      have d10 : wr.cell? ⟨b, o + j * 11 + 10, none⟩ = some (.slice xA xs.len xc) := hcs 10 _ rfl
      obtain ⟨W3, hW3⟩ : ∃ W3, wr.alloc (.cells #[.int .i64 xid, .int .i64 xkind, .bool xpub, .slice xnA xnames.length xnc, .bool xdoubt, .int .i64 xk, .string xn, .string xm, .int .i64 xi, .int .i64 xd, .slice xA xs.len xc] 63) = W3 := ⟨_, rfl⟩
      have hb3 : Below wr.heap.size wr W3 := by subst hW3; exact (Below.refl _ _).alloc (Nat.le_refl _) _
      have hz3 : wr.heap.size < W3.heap.size := by subst hW3; simp
      have hx3 : W3.heap[wr.heap.size]? = some (.cells #[.int .i64 xid, .int .i64 xkind, .bool xpub, .slice xnA xnames.length xnc, .bool xdoubt, .int .i64 xk, .string xn, .string xm, .int .i64 xi, .int .i64 xd, .slice xA xs.len xc] 63 (0, 0)) := by rw [← hW3]; exact heap_alloc_new wr _
      have HF : Hid (∀ W, Below W3.heap.size W3 W → W.cell? ⟨wr.heap.size, 3, none⟩ = some (.slice xnA xnames.length xnc) ∧ W.cell? ⟨wr.heap.size, 4, none⟩ = some (.bool xdoubt) ∧ W.cell? ⟨wr.heap.size, 5, none⟩ = some (.int .i64 xk) ∧ W.cell? ⟨wr.heap.size, 6, none⟩ = some (.string xn) ∧ W.cell? ⟨wr.heap.size, 7, none⟩ = some (.string xm) ∧ W.cell? ⟨wr.heap.size, 8, none⟩ = some (.int .i64 xi) ∧ W.cell? ⟨wr.heap.size, 9, none⟩ = some (.int .i64 xd) ∧ W.cell? ⟨wr.heap.size, 10, none⟩ = some (.slice xA xs.len xc)) := by
        intro W hW
        have h := (hW.block wr.heap.size hz3).trans hx3
        exact ⟨cell_of_row W _ 3 _ _ (0, 0) h, cell_of_row W _ 4 _ _ (0, 0) h, cell_of_row W _ 5 _ _ (0, 0) h, cell_of_row W _ 6 _ _ (0, 0) h, cell_of_row W _ 7 _ _ (0, 0) h, cell_of_row W _ 8 _ _ (0, 0) h, cell_of_row W _ 9 _ _ (0, 0) h, cell_of_row W _ 10 _ _ (0, 0) h⟩
      obtain ⟨f3, f4, f5, f6, f7, f8, f9, f10⟩ := HF.out W3 (Below.refl _ _)
      have hs3 : SetK W3 9 (w.heap.size) (met.map keyS) := hset.keep (hb3.block _ hset.lt)
      have hB3 := Lib.hid (hBr.trans (hb3.mono (by omega)))
      have hnm3 : SlS W3 w.heap.size xnA xnc xnames := hnm.keep (Nat.le_refl _) fun p hp => (hB3.out.cell hp)
      have HS := Lib.hid (And.intro hs3 (And.intro hnm3 hstr))
      have hmet := Lib.hid (And.intro HG (And.intro HA hml))
      clear hcs hcs0 hok0 hnm hsl hset hBr hb3 hx3 HG HA hnm3 hs3 hstr
      by_cases hn1 : xnames.length = 1
      rotate_left
      · have hn1' : ((xnames.length : Int) == 1) = false := by simp; omega
        have HCE : Hid (E = twB met (decls.drop (j + 1))) := by
          show _ = _
          rw [hmet.out.2.1, HDR.out, twB, if_neg hn1]
        have hml' : met.length ≤ j + 1 := by omega
        have HML := Lib.hid hml'
        clear hml hn1 hml'
        go_wp2
        go_roundg (N - (j + 1))
        case measure => rw [hmet.out.1]; omega
        case rel => exact ⟨j + 1, met, rfl, by omega, by go_num, HCE.out, HML.out, HS.out.1, hB3.out, by omega⟩
      obtain ⟨nm, rfl⟩ : ∃ nm, xnames = [nm] := List.length_eq_one_iff.1 hn1
      obtain ⟨nb, no, rfl, hnb, hncell⟩ := HS.out.2.1.at_ (j := 0) (by simp)
      have hnc2 := HS.out.2.1.1
      have hnc3 := HS.out.2.1.2.1
      unfold maxLen at hnc3
      simp only [List.length_singleton, List.getElem_cons_zero, Nat.add_zero] at hncell hnc2 d3 f3 hW3 HF
      have hns : nm.size ≤ maxLen := HS.out.2.2 nm (by simp)
      have HNS := Lib.hid hns
      have HCE : Hid (E = if hasN met nm = true then true else twB (met ++ [nm]) (decls.drop (j + 1))) := by
        show _ = _
        rw [hmet.out.2.1, HDR.out, twB]
        simp [nameOf]
      clear hns hn1
      have HLK : Hid ((met.map keyS).any (fun x => x.sameKey (keyS nm)) = hasN met nm) := keyS_has met nm
      obtain ⟨hb', Hhb⟩ : ∃ Q, Hid (hasN met nm = Q) := ⟨_, Lib.hid rfl⟩
      rw [Hhb.out] at HLK HCE
      have hlk : (Instr.lookup 89 (.map (some w.heap.size)) (.string nm) false).run Tryz.prog W3 = .ok (.bool hb') W3 := by
        rw [← HLK.out]
        exact HS.out.1.look strKeyed Tryz.underlying89 (keyS_of HNS.out)
      cases hb'
      · have HML := Lib.hid (show (met ++ [nm]).length ≤ j + 1 by rw [List.length_append, List.length_singleton]; omega)
        have HMM := Lib.hid (show (met.map keyS).length < 1000000 by rw [List.length_map]; omega)
        clear hml
        go_wp2_with (at_mapUpdate; refine wpList_setAdd _ rfl _ _ _ 89 rfl 9 strKeyed Tryz.underlying89 w.heap.size (met.map keyS) rfl HS.out.1 HMM.out _ (keyS nm) rfl rfl (keyS_of HNS.out) ?_; intro w5 hset5 hg5)
        go_roundg (N - (j + 1))
        case measure => rw [hmet.out.1]; omega
        case rel =>
          have hz5 := hg5.size
          exact ⟨j + 1, met ++ [nm], rfl, by omega, by go_num, by rw [HCE.out]; simp, HML.out, by simpa using hset5, hB3.out.grown hg5 (by omega) (fun q hq => by cases hq; omega), by omega⟩
      · have HR := Lib.hid (show E = true by rw [HCE.out]; simp)
        clear hml
        go_wp2
        go_ret
        exact ⟨by rw [HR.out]; rfl, hB3.out⟩
    · have hjN : N = j := by omega
      have HR := Lib.hid (show E = false by rw [HA, List.drop_of_length_le (by rw [HN.out]; omega)]; rfl)
      have i2 : decide ((j : Int) < (N : Int)) = false := decide_eq_false (by omega)
      have i3 : decide (j < N) = false := decide_eq_false (by omega)
      clear HA hml hset hjN
      go_wp2
      go_ret
      exact ⟨by rw [HR.out]; rfl, hBr⟩
end Go.Proofs.YtacjjkbkhpdhnaaGreatDoor
/- bind.Unbind in plain words -/
namespace Go.Proofs.YtacjjkbkhpdhnaaGreatDoor
open Go Go.RowKit Go.Proofs Go.Shelf
def lastD (ds : List Dc) (i : Int) : Option Dc := ds.foldl (fun a x => if x.id = i then some x else a) none
theorem lastD_step (ds : List Dc) (x : Dc) (i : Int) : lastD (ds ++ [x]) i = if x.id = i then some x else lastD ds i := by
  unfold lastD
  rw [List.foldl_append]
  rfl
def dotG (uses : List ByteArray) (known : List If) (x : Nx) : Int × Nx :=
  if (faceO known x.n).isSome = true ∧ hasS uses x.n = true then
    match sigO (sigsOf known x.n) (fun s => s.id == x.i) with
    | some s => (0, ⟨4, aliasB x.n, s.name, 0, 0⟩)
    | none => (21, noNx)
  else (21, noNx)
def gUnb (uses : List ByteArray) (ds : List Dc) (known : List If) : Repl := fun x sc =>
  if x.k = 5 then
    if x.n.toList.isEmpty = false then dotG uses known x
    else
      match lastD ds x.i with
      | none => (21, noNx)
      | some y => if y.names.length = 0 then (21, noNx) else if 1 < y.names.length then (17, noNx) else if hasN sc (nameOf y) = true then (6, noNx) else (0, ⟨3, nameOf y, ⟨#[]⟩, 0, 0⟩)
  else (0, x)
def unbE (label : ByteArray) (uses : List ByteArray) (ds : List Dc) (known : List If) : Int :=
  if checkE label uses ds ≠ 0 then checkE label uses ds else
  if twB [] ds = true then 17 else rbAllE (gUnb uses ds known) ds
end Go.Proofs.YtacjjkbkhpdhnaaGreatDoor
/- bind.interfaceOf, signature -/
namespace Go.Proofs.YtacjjkbkhpdhnaaGreatDoor
open Go.RowKit Go.Proofs Go.Shelf
theorem str_beq (a b : ByteArray) : (a.toList == b.toList) = decide (a = b) := by
  rw [Bool.eq_iff_iff, beq_iff_eq, decide_eq_true_iff]
  refine ⟨fun h => ?_, fun h => by rw [h]⟩
  rw [ByteArray.toList_eq, ByteArray.toList_eq] at h
  exact ByteArray.ext (Array.ext' h)
theorem pair_set {W : World} {b : Nat} {t : TypeId} {c0 c1 : Value} (h : W.heap[b]? = some (.cells #[c0, c1] t (0, 0))) (u0 u1 : Value) :
    ((W.setCell ⟨b, 0, none⟩ u0).setCell ⟨b, 1, none⟩ u1).heap[b]? = some (.cells #[u0, u1] t (0, 0)) := by
  simp [World.setCell, Array.getElem?_modify, h]
theorem six_set {W : World} {b : Nat} {t : TypeId} {c0 c1 c2 c3 c4 c5 : Value} (h : W.heap[b]? = some (.cells #[c0, c1, c2, c3, c4, c5] t (0, 0))) (u0 u1 u2 u3 u4 u5 : Value) :
    ((((((W.setCell ⟨b, 0, none⟩ u0).setCell ⟨b, 1, none⟩ u1).setCell ⟨b, 2, none⟩ u2).setCell ⟨b, 3, none⟩ u3).setCell ⟨b, 4, none⟩ u4).setCell ⟨b, 5, none⟩ u5).heap[b]? = some (.cells #[u0, u1, u2, u3, u4, u5] t (0, 0)) := by
  simp [World.setCell, Array.getElem?_modify, h]
set_option maxRecDepth 100000 in
set_option maxHeartbeats 2000000 in
theorem interfaceOf_any (known : List If) (label : ByteArray) (A : Option Addr) (c : Nat) (w : World) (hk : SlI w w.heap.size A c known) :
    Calls Tryz.prog 65 #[.slice A known.length c, .string label] w fun e w' => e = .returned (.tuple #[.agg ((faceO known label).getD noIf).cells, .bool (faceO known label).isSome]) ∧ Below w.heap.size w w' := by
  obtain ⟨W0, hW0⟩ : ∃ W0, w.alloc (.cells #[.string ⟨#[]⟩, .slice none 0 0] 55) = W0 := ⟨_, rfl⟩
  have hb0 : Below w.heap.size w W0 := by rw [← hW0]; exact (Below.refl _ _).alloc (Nat.le_refl _) _
  have hr0 : W0.heap[w.heap.size]? = some (.cells #[.string ⟨#[]⟩, .slice none 0 0] 55 (0, 0)) := by rw [← hW0]; exact heap_alloc_new _ _
  have hc2 := hk.2.1
  have hc1 := hk.1
  unfold maxLen at hc2
  obtain ⟨N, HN⟩ : ∃ Q, Hid (known.length = Q) := ⟨_, Lib.hid rfl⟩
  have H0 := Lib.hid (And.intro hk (And.intro hb0 hr0))
  rw [HN.out] at hc1 ⊢
  clear hk hb0 hr0
  go_enter Tryz.func65, Tryz.ntmps65
  go_wp2
  go_loopg [7, 10] N (fun gg _ ct wr => ∃ j : Nat, gg = N - j ∧ j ≤ N ∧ ct = .int .i64 j ∧ Hid (faceO known label = faceO (known.drop j) label) ∧ Below w.heap.size w wr ∧ wr.heap[w.heap.size]? = some (.cells #[.string ⟨#[]⟩, .slice none 0 0] 55 (0, 0)))
  case atStart => exact ⟨0, rfl, by omega, rfl, Lib.hid rfl, H0.out.2.1, H0.out.2.2⟩
  case round =>
    obtain ⟨j, HG, hj, rfl, HA, hB, hr⟩ := hrel
    have hrl : w.heap.size < wr.heap.size := (Array.getElem?_eq_some_iff.1 hr).1
    by_cases hlt : j < N
    · have hlt' : j < known.length := by rw [HN.out]; exact hlt
      obtain ⟨x, hx⟩ : ∃ x, known[j]? = some x := ⟨_, List.getElem?_eq_getElem hlt'⟩
      have hSl : SlI wr wr.heap.size A c known := H0.out.1.below hB
      obtain ⟨b, o, rfl, hb, d0, d1, hsg⟩ := hSl.at_ hx
      obtain ⟨NS, HNS⟩ : ∃ Q, Hid (x.sigs.length = Q) := ⟨_, Lib.hid rfl⟩
      rw [HNS.out] at d1
      have hstep := faceO_drop (label := label) hx
      obtain ⟨W3, hW3⟩ : ∃ W3, wr.alloc (.cells #[.string x.label, .slice x.sA NS x.sc] 55) = W3 := ⟨_, rfl⟩
      have hb3 : Below wr.heap.size wr W3 := by rw [← hW3]; exact (Below.refl _ _).alloc (Nat.le_refl _) _
      have hx3 : W3.heap[wr.heap.size]? = some (.cells #[.string x.label, .slice x.sA NS x.sc] 55 (0, 0)) := by rw [← hW3]; exact heap_alloc_new _ _
      have hr3 := (hb3.block _ hrl).trans hr
      have e0 : W3.cell? ⟨wr.heap.size, 0, none⟩ = some (.string x.label) := cell_of_row W3 _ 0 _ _ (0, 0) hx3
      have e1 : W3.cell? ⟨wr.heap.size, 1, none⟩ = some (.slice x.sA NS x.sc) := cell_of_row W3 _ 1 _ _ (0, 0) hx3
      have hst := str_beq x.label label
      by_cases hL : x.label = label
      · rw [decide_eq_true hL] at hst
        have r0 : W3.cell? ⟨w.heap.size, 0, none⟩ = some (.string ⟨#[]⟩) := cell_of_row W3 _ 0 _ _ (0, 0) hr3
        have r1 : W3.cell? ⟨w.heap.size, 1, none⟩ = some (.slice none 0 0) := cell_of_row W3 _ 1 _ _ (0, 0) hr3
        have f0 : W3.frozen? ⟨w.heap.size, 0, none⟩ = false := frozen_of_row W3 _ 0 _ _ hr3
        have f1 : W3.frozen? ⟨w.heap.size, 1, none⟩ = false := frozen_of_row W3 _ 1 _ _ hr3
        have HR := Lib.hid (show faceO known label = some x by rw [HA.out, hstep, if_pos hL])
        have HS := Lib.hid (pair_set hr3 (.string x.label) (.slice x.sA NS x.sc))
        have HB3 := Lib.hid (hB.trans (hb3.mono (by omega)))
        clear hSl hx hstep hL hb3 hx3 hr3 HA hB hr hsg
        go_wp2
        obtain ⟨W9, hW9, s0, s1, hBf, hsz, hbk⟩ := out2 HS.out HB3.out (by omega)
        rw [hW9]
        refine bodyPost_ret (v := .tuple #[.agg #[.string x.label, .slice x.sA NS x.sc], .bool true]) (by simp [results, Tryz.results65, go_sem, s0, s1]) rfl ⟨?_, hBf⟩
        rw [HR.out, Option.getD_some, Option.isSome_some, If.cells, HNS.out]
      · rw [decide_eq_false hL] at hst
        have HR := Lib.hid (show faceO known label = faceO (known.drop (j + 1)) label by rw [HA.out, hstep, if_neg hL])
        have HT := Lib.hid (And.intro HG (And.intro (hB.trans (hb3.mono (by omega))) hr3))
        clear hSl hx hstep hL hb3 hx3 hr3 HA hB hr hsg HG
        go_wp2
        go_roundg (N - (j + 1))
        case measure => rw [HT.out.1]; omega
        case rel => exact ⟨j + 1, rfl, by omega, by go_num, HR, HT.out.2.1, HT.out.2.2⟩
    · have hjN : N = j := by omega
      have HR := Lib.hid (show faceO known label = none by rw [HA.out, List.drop_of_length_le (by rw [HN.out]; omega)]; rfl)
      have i2 : decide ((j : Int) < (N : Int)) = false := decide_eq_false (by omega)
      have i3 : decide (j < N) = false := decide_eq_false (by omega)
      have r0 : wr.cell? ⟨w.heap.size, 0, none⟩ = some (.string ⟨#[]⟩) := cell_of_row wr _ 0 _ _ (0, 0) hr
      have r1 : wr.cell? ⟨w.heap.size, 1, none⟩ = some (.slice none 0 0) := cell_of_row wr _ 1 _ _ (0, 0) hr
      have f0 : wr.frozen? ⟨w.heap.size, 0, none⟩ = false := frozen_of_row wr _ 0 _ _ hr
      have f1 : wr.frozen? ⟨w.heap.size, 1, none⟩ = false := frozen_of_row wr _ 1 _ _ hr
      have HS := Lib.hid (pair_set hr (.string ⟨#[]⟩) (.slice none 0 0))
      have HB3 := Lib.hid hB
      clear HA hjN hB hr
      go_wp2
      obtain ⟨W9, hW9, s0, s1, hBf, hsz, hbk⟩ := out2 HS.out HB3.out (by omega)
      rw [hW9]
      refine bodyPost_ret (v := .tuple #[.agg #[.string ⟨#[]⟩, .slice none 0 0], .bool false]) (by simp [results, Tryz.results65, go_sem, s0, s1]) rfl ⟨?_, hBf⟩
      rw [HR.out]
      rfl
def FitsOk (w00 : World) (fid : Nat) (lb : Array Value) (p : Sg → Bool) : Prop :=
  (∀ (args : Array Value) (W : World), (callFunc fid args).run Tryz.prog W = .ok (.enter fid args) W) ∧
  ∀ (x : Sg) (X : World), Below w00.heap.size w00 X → Calls Tryz.prog fid (#[.agg x.cells] ++ lb) X fun e Y => e = .returned (.bool (p x)) ∧ Below X.heap.size X Y
def noSg : Sg := ⟨0, ⟨#[]⟩, 0, 0, 0, none, 0, 0⟩
set_option maxRecDepth 100000 in
set_option maxHeartbeats 4000000 in
theorem signature_any (w00 : World) (fid : Nat) (lb : Array Value) (p : Sg → Bool) (hF : FitsOk w00 fid lb p) (x : If) (w : World) (hk : SlG w w.heap.size x.sA x.sc x.sigs) (hw : Below w00.heap.size w00 w) :
    Calls Tryz.prog 66 #[.agg x.cells, .func (.func fid) #[] lb] w fun e w' => e = .returned (.tuple #[.agg ((sigO x.sigs p).getD noSg).cells, .bool (sigO x.sigs p).isSome]) ∧ Below w.heap.size w w' := by
  obtain ⟨label, A, c, sigs⟩ := x
  simp only [If.cells] at hk ⊢
  obtain ⟨hfn, hF2⟩ := hF
  obtain ⟨W0, hW0⟩ : ∃ W0, (w.alloc (.cells #[.string label, .slice A sigs.length c] 55)).alloc (.cells #[.int .i64 0, .string ⟨#[]⟩, .int .i64 0, .int .i64 0, .int .i64 0, .slice none 0 0] 100) = W0 := ⟨_, rfl⟩
  have hb0 : Below w.heap.size w W0 := by rw [← hW0]; exact ((Below.refl _ _).alloc (Nat.le_refl _) _).alloc (by simp) _
  have hr0 : W0.heap[w.heap.size + 1]? = some (.cells #[.int .i64 0, .string ⟨#[]⟩, .int .i64 0, .int .i64 0, .int .i64 0, .slice none 0 0] 100 (0, 0)) := by
    have h := heap_alloc_new (w.alloc (.cells #[.string label, .slice A sigs.length c] 55)) (.cells #[.int .i64 0, .string ⟨#[]⟩, .int .i64 0, .int .i64 0, .int .i64 0, .slice none 0 0] 100)
    rw [hW0] at h
    simpa using h
  have h1 : W0.cell? ⟨w.heap.size, 1, none⟩ = some (.slice A sigs.length c) := by subst hW0; go_simp
  have hc2 := hk.2.1
  have hc1 := hk.1
  unfold maxLen at hc2
  obtain ⟨N, HN⟩ : ∃ Q, Hid (sigs.length = Q) := ⟨_, Lib.hid rfl⟩
  have H0 := Lib.hid (And.intro hk (And.intro hb0 (And.intro hr0 (And.intro hw hF2))))
  rw [HN.out] at hc1 h1 hW0 ⊢
  clear hk hb0 hr0 hw hF2
  go_enter Tryz.func66, Tryz.ntmps66
  go_wp2
  go_loopg [7, 11] N (fun gg _ ct wr => ∃ j : Nat, gg = N - j ∧ j ≤ N ∧ ct = .int .i64 j ∧ Hid (sigO sigs p = sigO (sigs.drop j) p) ∧ Below w.heap.size w wr ∧ wr.heap[w.heap.size + 1]? = some (.cells #[.int .i64 0, .string ⟨#[]⟩, .int .i64 0, .int .i64 0, .int .i64 0, .slice none 0 0] 100 (0, 0)))
  case atStart => exact ⟨0, rfl, by omega, rfl, Lib.hid rfl, H0.out.2.1, H0.out.2.2.1⟩
  case round =>
    obtain ⟨j, HG, hj, rfl, HA, hB, hr⟩ := hrel
    have hrl : w.heap.size + 1 < wr.heap.size := (Array.getElem?_eq_some_iff.1 hr).1
    by_cases hlt : j < N
    · have hlt' : j < sigs.length := by rw [HN.out]; exact hlt
      obtain ⟨x, hx⟩ : ∃ x, sigs[j]? = some x := ⟨_, List.getElem?_eq_getElem hlt'⟩
      have hSl : SlG wr wr.heap.size A c sigs := H0.out.1.keep hB.size fun p hp => hB.cell hp
      obtain ⟨b, o, rfl, hb, d0, d1, d2, d3, d4, d5⟩ := hSl.at_ hx
      have hstep := sigO_drop (p := p) hx
      obtain ⟨W3, hW3⟩ : ∃ W3, wr.alloc (.cells #[.int .i64 x.id, .string x.name, .int .i64 x.vars, .int .i64 x.kind, .int .i64 x.var, .slice x.tA x.tn x.tc] 100) = W3 := ⟨_, rfl⟩
      have hb3 : Below wr.heap.size wr W3 := by rw [← hW3]; exact (Below.refl _ _).alloc (Nat.le_refl _) _
      have hz3 : wr.heap.size < W3.heap.size := by rw [← hW3]; simp
      have hx3 : W3.heap[wr.heap.size]? = some (.cells #[.int .i64 x.id, .string x.name, .int .i64 x.vars, .int .i64 x.kind, .int .i64 x.var, .slice x.tA x.tn x.tc] 100 (0, 0)) := by rw [← hW3]; exact heap_alloc_new _ _
      have hr3 := (hb3.block _ hrl).trans hr
      have hB3 := hB.trans (hb3.mono (by omega))
      have HE := Lib.hid (show ∀ X : World, Below W3.heap.size W3 X → X.cell? ⟨wr.heap.size, 0, none⟩ = some (.int .i64 x.id) ∧ X.cell? ⟨wr.heap.size, 1, none⟩ = some (.string x.name) ∧ X.cell? ⟨wr.heap.size, 2, none⟩ = some (.int .i64 x.vars) ∧ X.cell? ⟨wr.heap.size, 3, none⟩ = some (.int .i64 x.kind) ∧ X.cell? ⟨wr.heap.size, 4, none⟩ = some (.int .i64 x.var) ∧ X.cell? ⟨wr.heap.size, 5, none⟩ = some (.slice x.tA x.tn x.tc) ∧ X.heap[w.heap.size + 1]? = some (.cells #[.int .i64 0, .string ⟨#[]⟩, .int .i64 0, .int .i64 0, .int .i64 0, .slice none 0 0] 100 (0, 0)) from fun X hX => by
        have h1 := (hX.block _ hz3).trans hx3
        exact ⟨cell_of_row X _ 0 _ _ (0, 0) h1, cell_of_row X _ 1 _ _ (0, 0) h1, cell_of_row X _ 2 _ _ (0, 0) h1, cell_of_row X _ 3 _ _ (0, 0) h1, cell_of_row X _ 4 _ _ (0, 0) h1, cell_of_row X _ 5 _ _ (0, 0) h1, (hX.block _ (by omega)).trans hr3⟩)
      obtain ⟨e0, e1, _, _, _, _, _⟩ := HE.out W3 (Below.refl _ _)
      have HT := Lib.hid (And.intro HG (And.intro hB3 (And.intro HA hstep)))
      have HNoR := Lib.hid (show (sgB x && p x) = false → sigO sigs p = sigO (sigs.drop (j + 1)) p from fun h => by rw [HA.out, hstep, h, if_neg (by simp)])
      clear hSl hx hstep hb3 hx3 hr3 HA hB hr HG hB3
      by_cases c1 : 1 ≤ x.id
      rotate_left
      · have k1 : decide (1 ≤ x.id) = false := decide_eq_false c1
        have HR := Lib.hid (HNoR.out (by unfold sgB; rw [k1]; rfl))
        clear c1
        go_wp2
        go_roundg (N - (j + 1))
        case measure => rw [HT.out.1]; omega
        case rel => exact ⟨j + 1, rfl, by omega, by go_num, HR, HT.out.2.1, (HE.out W3 (Below.refl _ _)).2.2.2.2.2.2⟩
      have k1 : decide (1 ≤ x.id) = true := decide_eq_true c1
      by_cases c2 : x.id ≤ 999999
      rotate_left
      · have k2 : decide (x.id ≤ 999999) = false := decide_eq_false c2
        have HR := Lib.hid (HNoR.out (by unfold sgB; rw [k2]; simp))
        clear c1 c2
        go_wp2
        go_roundg (N - (j + 1))
        case measure => rw [HT.out.1]; omega
        case rel => exact ⟨j + 1, rfl, by omega, by go_num, HR, HT.out.2.1, (HE.out W3 (Below.refl _ _)).2.2.2.2.2.2⟩
      have k2 : decide (x.id ≤ 999999) = true := decide_eq_true c2
      clear c1 c2
      have HNm := Lib.hid (isName_any x.name W3)
      obtain ⟨bn, Hbn⟩ : ∃ Q, Hid (nameB x.name = Q) := ⟨_, Lib.hid rfl⟩
      rw [Hbn.out] at HNm
      go_wp2_with fail
      refine HNm.out.mono ?_
      rintro e w4 ⟨rfl, hb4⟩
      obtain ⟨g0, g1, g2, g3, g4, g5, hrr⟩ := HE.out w4 hb4
      have HB4 := Lib.hid (And.intro hb4 (And.intro hrr (HT.out.2.1.trans (hb4.mono HT.out.2.1.size))))
      have HC := Lib.hid (H0.out.2.2.2.2 x w4 (H0.out.2.2.2.1.trans (HB4.out.2.2.mono H0.out.2.2.2.1.size)))
      clear hb4 hrr e0 e1 HNm
      cases bn with
      | false =>
        have HR := Lib.hid (HNoR.out (by unfold sgB; rw [Hbn.out]; simp))
        go_wp2
        go_roundg (N - (j + 1))
        case measure => rw [HT.out.1]; omega
        case rel => exact ⟨j + 1, rfl, by omega, by go_num, HR, HB4.out.2.2, HB4.out.2.1⟩
      | true =>
        obtain ⟨bp, Hbp⟩ : ∃ Q, Hid (p x = Q) := ⟨_, Lib.hid rfl⟩
        have hCx := HC.out
        rw [Hbp.out] at hCx
        simp only [Sg.cells] at hCx
        have HCx := Lib.hid hCx
        have HSg := Lib.hid (show sgB x = true by unfold sgB; rw [k1, k2, Hbn.out]; rfl)
        clear hCx HC
        go_wp2_with fail
        refine HCx.out.mono ?_
        rintro e w5 ⟨rfl, hb5⟩
        have hb35 := HB4.out.1.trans (hb5.mono HB4.out.1.size)
        obtain ⟨q0, q1, q2, q3, q4, q5, hr5⟩ := HE.out w5 hb35
        have HB5 := Lib.hid (HT.out.2.1.trans (hb35.mono HT.out.2.1.size))
        clear hb5 hb35 g0 g1 g2 g3 g4 g5 HCx
        cases bp with
        | false =>
          have HR := Lib.hid (HNoR.out (by rw [Hbp.out]; simp))
          have HR5 := Lib.hid hr5
          clear hr5
          go_wp2
          go_roundg (N - (j + 1))
          case measure => rw [HT.out.1]; omega
          case rel => exact ⟨j + 1, rfl, by omega, by go_num, HR, HB5.out, HR5.out⟩
        | true =>
          have HR := Lib.hid (show sigO sigs p = some x by rw [HT.out.2.2.1.out, HT.out.2.2.2, HSg.out, Hbp.out]; rfl)
          obtain ⟨y0, y1, y2, y3, y4, y5, z0, z1, z2, z3, z4, z5⟩ := row6 hr5
          have HS := Lib.hid (six_set hr5 (.int .i64 x.id) (.string x.name) (.int .i64 x.vars) (.int .i64 x.kind) (.int .i64 x.var) (.slice x.tA x.tn x.tc))
          clear hr5
          go_wp2
          obtain ⟨W9, hW9, s0, s1, s2, s3, s4, s5, hBf, hsz, hbk⟩ := out6 HS.out HB5.out (by omega)
          rw [hW9]
          refine bodyPost_ret (v := .tuple #[.agg #[.int .i64 x.id, .string x.name, .int .i64 x.vars, .int .i64 x.kind, .int .i64 x.var, .slice x.tA x.tn x.tc], .bool true]) (by simp [results, Tryz.results66, go_sem, s0, s1, s2, s3, s4, s5]) rfl ⟨?_, hBf⟩
          rw [HR.out]
          rfl
    · have hjN : N = j := by omega
      have HR := Lib.hid (show sigO sigs p = none by rw [HA.out, List.drop_of_length_le (by rw [HN.out]; omega)]; rfl)
      have i2 : decide ((j : Int) < (N : Int)) = false := decide_eq_false (by omega)
      have i3 : decide (j < N) = false := decide_eq_false (by omega)
      obtain ⟨y0, y1, y2, y3, y4, y5, z0, z1, z2, z3, z4, z5⟩ := row6 hr
      have HS := Lib.hid (six_set hr (.int .i64 0) (.string ⟨#[]⟩) (.int .i64 0) (.int .i64 0) (.int .i64 0) (.slice none 0 0))
      have HB5 := Lib.hid hB
      clear hr HA hjN hB
      go_wp2
      obtain ⟨W9, hW9, s0, s1, s2, s3, s4, s5, hBf, hsz, hbk⟩ := out6 HS.out HB5.out (by omega)
      rw [hW9]
      refine bodyPost_ret (v := .tuple #[.agg #[.int .i64 0, .string ⟨#[]⟩, .int .i64 0, .int .i64 0, .int .i64 0, .slice none 0 0], .bool false]) (by simp [results, Tryz.results66, go_sem, s0, s1, s2, s3, s4, s5]) rfl ⟨?_, hBf⟩
      rw [HR.out]
      rfl
end Go.Proofs.YtacjjkbkhpdhnaaGreatDoor
