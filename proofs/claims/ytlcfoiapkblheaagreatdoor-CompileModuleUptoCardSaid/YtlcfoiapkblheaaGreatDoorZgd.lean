/- ref28.Leads -/
import Derived.Test.YtlcfoiapkblheaaGreatDoorZgb
import Derived.Test.YtlcfoiapkblheaaGreatDoorZga
import Derived.Test.YtlcfoiapkblheaaGreatDoorGkx
import Derived.Deep.RegionHeld3
import Derived.Deep.QuietTactic
import Derived.BigQuiet
import Derived.Test.YtlcfoiapkblheaaGreatDoorZgc
import Derived.Test.YtlcfoiapkblheaaGreatDoorGkl
import Derived.Test.YtlcfoiapkblheaaGreatDoorGkz
import Derived.Test.YtlcfoiapkblheaaGreatDoorGky
namespace Go.Proofs.YtlcfoiapkblheaaGreatDoor
open Go.RowKit Go.Proofs Go.Shelf

theorem eqN_iff {x y : ByteArray × Int} : eqN x y = true ↔ x = y := by
  obtain ⟨a, i⟩ := x
  obtain ⟨b, j⟩ := y
  simp only [eqN, Bool.and_eq_true, beq_iff_eq, Prod.mk.injEq]
  refine and_congr_left fun _ => ⟨fun h => ?_, fun h => by rw [h]⟩
  rw [ByteArray.toList_eq, ByteArray.toList_eq] at h
  exact ByteArray.ext (Array.ext' h)
theorem mem_withN (l : List (ByteArray × Int)) (x y : ByteArray × Int) : y ∈ withN l x ↔ y ∈ l ∨ y = x := by
  have h := List.takeWhile_append_dropWhile (p := fun y => lessN y x) (l := l)
  unfold withN
  split
  · rename_i hd
    rw [hd, List.append_nil] at h
    rw [h]
    simp
  · rename_i z t hd
    split
    · rename_i he
      have := eqN_iff.1 he
      subst this
      constructor
      · exact .inl
      · rintro (h' | rfl)
        · exact h'
        · rw [← h, hd]; simp
    · rw [List.mem_append]
      conv => rhs; rw [← h, hd]
      simp only [List.mem_append, List.mem_cons]
      constructor
      · rintro (h' | h' | h' | h')
        · exact .inl (.inl h')
        · exact .inr h'
        · exact .inl (.inr (.inl h'))
        · exact .inl (.inr (.inr h'))
      · rintro ((h' | h' | h') | h')
        · exact .inl h'
        · exact .inr (.inr (.inl h'))
        · exact .inr (.inr (.inr h'))
        · exact .inr (.inl h')
theorem Fo.mem_wr : ∀ (s : Fo) (l : List (ByteArray × Int)) (y : ByteArray × Int), y ∈ s.wr l ↔ y ∈ l ∨ y ∈ refL s.vis
  | .nil, l, y => by simp [Fo.wr, Fo.vis, refL]
  | .cons k n m i d A c s r, l, y => by
    simp only [Fo.wr]
    rw [Fo.mem_wr r, Fo.mem_wr s]
    have h1 : y ∈ (if k = 5 then withN l (n, i) else l) ↔ y ∈ l ∨ (k = 5 ∧ y = (n, i)) := by
      split
      · rename_i h; rw [mem_withN]; simp [h]
      · rename_i h; simp [h]
    have h2 : y ∈ refL (Fo.cons k n m i d A c s r).vis ↔ y ∈ refL r.vis ∨ (k = 5 ∧ y = (n, i)) ∨ y ∈ refL s.vis := by
      unfold refL
      simp only [Fo.vis, List.filterMap_append, List.mem_append, List.filterMap_cons]
      by_cases hk : k = 5
      · simp [hk]
      · simp [hk]
    rw [h1, h2]
    constructor
    · rintro (((h | h) | h) | h)
      · exact .inl h
      · exact .inr (.inr (.inl h))
      · exact .inr (.inr (.inr h))
      · exact .inr (.inl h)
    · rintro (h | h | h | h)
      · exact .inl (.inl (.inl h))
      · exact .inr h
      · exact .inl (.inl (.inr h))
      · exact .inl (.inr h)
theorem mem_dd : ∀ (l : List (ByteArray × Int)) (p y : ByteArray × Int), y ∈ l → y = p ∨ y ∈ dd p l
  | [], _, _, h => by simp at h
  | x :: r, p, y, h => by
    by_cases he : eqN x p = true
    · rw [dd_eq he]
      have hx := eqN_iff.1 he
      subst hx
      rcases List.mem_cons.1 h with rfl | h
      · exact .inl rfl
      · exact mem_dd r x y h
    · rw [dd_ne (by simpa using he)]
      rcases List.mem_cons.1 h with rfl | h
      · exact .inr (List.mem_cons_self ..)
      · rcases mem_dd r x y h with rfl | h
        · exact .inr (List.mem_cons_self ..)
        · exact .inr (List.mem_cons_of_mem _ h)
theorem mem_compactL (l : List (ByteArray × Int)) (y : ByteArray × Int) : y ∈ compactL l ↔ y ∈ l := by
  refine ⟨compactL_sub l y, fun h => ?_⟩
  cases l with
  | nil => simp at h
  | cons x r =>
    simp only [compactL]
    rcases List.mem_cons.1 h with rfl | h
    · exact List.mem_cons_self ..
    · rcases mem_dd r x y h with rfl | h
      · exact List.mem_cons_self ..
      · exact List.mem_cons_of_mem _ h
theorem mem_refsOf (l : List Nd) (y : ByteArray × Int) : y ∈ refsOf l ↔ y ∈ refL l := by
  unfold refsOf
  rw [mem_compactL]
  unfold sortNames
  exact List.mem_mergeSort
theorem all_iff_mem {l m : List (ByteArray × Int)} (p : ByteArray × Int → Bool) (h : ∀ y, y ∈ l ↔ y ∈ m) : l.all p = m.all p := by
  rw [Bool.eq_iff_iff, List.all_eq_true, List.all_eq_true]
  exact ⟨fun h1 y hy => h1 y ((h y).2 hy), fun h1 y hy => h1 y ((h y).1 hy)⟩
/-- The references of a declaration, as the reference finds them. -/
def Dc.rrefs (x : Dc) : List (ByteArray × Int) := nodeRef x.k x.n x.i x.s []
theorem Dc.rrefs_all (x : Dc) (p : ByteArray × Int → Bool) : x.rrefs.all p = x.refs.all p := by
  refine all_iff_mem p fun y => ?_
  unfold Dc.rrefs Dc.refs
  rw [mem_refsOf]
  have h := Fo.mem_wr x.body [] y
  simp only [List.not_mem_nil, false_or] at h
  exact h
theorem leads_ref (ids : List Int) (uses : List ByteArray) (l : List Dc) : (l.all fun x => x.rrefs.all (refOK ids uses)) = leadsB ids uses l := by
  unfold leadsB
  congr 1
  funext x
  exact x.rrefs_all _
end Go.Proofs.YtlcfoiapkblheaaGreatDoor
/- ref28.Leads: the walk -/
namespace Go.Proofs.YtlcfoiapkblheaaGreatDoor
open Go.RowKit Go.Proofs Go.Shelf

set_option maxRecDepth 100000 in
set_option maxHeartbeats 8000000 in
theorem leads28_any (label : ByteArray) (uses : List ByteArray) (uA : Option Addr) (uc : Nat) (decls : List Dc) (dA : Option Addr) (dc : Nat) (w : World) (hu : SlS w w.heap.size uA uc uses) (hd : SlD w w.heap.size dA dc decls) (hcn : ∀ x ∈ decls, x.s.count ≤ 100000) :
    Calls Tryz.prog 58 #[.agg #[.string label, .slice uA uses.length uc, .slice dA decls.length dc]] w fun e w' => e = .returned (.bool (leadsB (decls.map Dc.id) uses decls)) ∧ Below w.heap.size w w' := by
  obtain ⟨N, HN⟩ : ∃ Q, Hid (decls.length = Q) := ⟨_, Lib.hid rfl⟩
  obtain ⟨NU, HNU⟩ : ∃ Q, Hid (uses.length = Q) := ⟨_, Lib.hid rfl⟩
  obtain ⟨ids, Hids⟩ : ∃ Q, Hid (decls.map Dc.id = Q) := ⟨_, Lib.hid rfl⟩
  obtain ⟨E, HE⟩ : ∃ Q, Hid (leadsB (decls.map Dc.id) uses decls = Q) := ⟨_, Lib.hid rfl⟩
  have HE2 := Lib.hid (show (decls.all fun x => x.rrefs.all (refOK ids uses)) = E by rw [← HE.out, ← Hids.out, leads_ref])
  have hdl := hd.1
  have hdl2 := hd.2.1
  unfold maxLen at hdl2
  rw [HE.out]
  rw [HN.out] at hdl ⊢
  rw [HNU.out]
  obtain ⟨W0, hW0⟩ : ∃ W0, w.alloc (.cells #[.string label, .slice uA NU uc, .slice dA N dc] 25) = W0 := ⟨_, rfl⟩
  have hzw : w.heap.size < W0.heap.size := by subst hW0; simp
  have hB0 : Below w.heap.size w W0 := by subst hW0; exact (Below.refl _ _).alloc (Nat.le_refl _) _
  have hx0 : W0.heap[w.heap.size]? = some (.cells #[.string label, .slice uA NU uc, .slice dA N dc] 25 (0, 0)) := by rw [← hW0]; exact heap_alloc_new w _
  have HC : Hid (∀ X, Below W0.heap.size W0 X → Below w.heap.size w X ∧ SlS X X.heap.size uA uc uses ∧ SlD X X.heap.size dA dc decls ∧ X.cell? ⟨w.heap.size, 0, none⟩ = some (.string label) ∧ X.cell? ⟨w.heap.size, 1, none⟩ = some (.slice uA NU uc) ∧ X.cell? ⟨w.heap.size, 2, none⟩ = some (.slice dA N dc)) := fun X hX => by
    have h0 := (hX.block w.heap.size hzw).trans hx0
    have hb := hB0.trans (hX.mono (Nat.le_of_lt hzw))
    exact ⟨hb, hu.keep hb.size (fun p hp => hb.cell hp), hd.keep hb.size (fun p hp => hb.cell hp), cell_of_row X _ 0 _ _ (0, 0) h0, cell_of_row X _ 1 _ _ (0, 0) h0, cell_of_row X _ 2 _ _ (0, 0) h0⟩
  obtain ⟨_, _, _, x0, x1, x2⟩ := HC.out W0 (Below.refl _ _)
  have HCN := Lib.hid hcn
  clear hu hd hB0 hx0 HE hcn
  go_enter Tryz.func58, Tryz.ntmps58
  go_wp2_with fail
  clear hW0 x0 x1 x2
  go_loopg [3, 4, 5] N (fun g ct _ _ wr => ∃ j : Nat, g = N - j ∧ j ≤ N ∧ ct = .int .i64 j ∧ (decls.take j).all (fun x => x.rrefs.all (refOK ids uses)) = true ∧ Below W0.heap.size W0 wr)
  case atStart => exact ⟨0, rfl, by omega, rfl, by simp, Below.refl _ _⟩
  case round =>
    obtain ⟨j, HG, hj, rfl, HA, HB⟩ := hrel
    have HG' := Lib.hid (And.intro HG (And.intro HA HB))
    clear HG HA HB
    obtain ⟨hBw, _, hsd, _, _, y2⟩ := HC.out wr HG'.out.2.2
    have HBw := Lib.hid hBw
    clear hBw
    by_cases hlt : j < N
    · have hjl : j < decls.length := by rw [HN.out]; exact hlt
      have hj3 : decls[j]? = some decls[j] := List.getElem?_eq_getElem hjl
      have HT := Lib.hid (show (decls.take (j + 1)).all (fun x => x.rrefs.all (refOK ids uses)) = decls[j].rrefs.all (refOK ids uses) by
        rw [List.take_succ_eq_append_getElem hjl, List.all_append, HG'.out.2.1]
        simp)
      have HY := Lib.hid (show decls[j].rrefs.all (refOK ids uses) = false → E = false from fun h => by
        rw [← HE2.out, List.all_eq_false]
        exact ⟨decls[j], List.getElem_mem hjl, by rw [h]; simp⟩)
      obtain ⟨b, o, rfl, hb, q0, q1, q2, q3, q4, q5, q6, q7, q8, q9, q10, xok⟩ := hsd.cells_at (wr := wr) (fun p hp => rfl) hj3
      have hxc := HCN.out _ (List.getElem_mem hjl)
      clear hj3 hsd q0 q1 q2 q3 q4
      generalize decls[j] = x at q5 q6 q7 q8 q9 q10 xok HT HY hxc
      clear hjl
      obtain ⟨xid, xkind, xpub, xnA, xnc, xnames, xdoubt, xk, xn, xm, xi, xd, xA, xc, xs⟩ := x
      simp only [Dc.rrefs] at q5 q6 q7 q8 q9 q10 HT HY hxc
      have hrl := nodeRef_len xk xn xi xs []
      simp only [List.length_nil, Nat.zero_add] at hrl
      have HRF := Lib.hid (refs24_top xk xn xm xi xd xA xc xs wr xok.2 hxc)
      obtain ⟨L, HL⟩ : ∃ q, Hid (nodeRef xk xn xi xs [] = q) := ⟨_, Lib.hid rfl⟩
      rw [HL.out] at HT HY hrl HRF
      obtain ⟨NL, HNL⟩ : ∃ q, Hid (L.length = q) := ⟨_, Lib.hid rfl⟩
      rw [HNL.out] at hrl
      clear xok HL
      go_wp2_with fail
      refine HRF.out.mono ?_
      rintro e w2 ⟨lA, lc, rfl, hol, hb2⟩
      rw [HNL.out]
      have HB2 := Lib.hid (And.intro (HG'.out.2.2.trans (hb2.mono HG'.out.2.2.size)) hol)
      clear hb2 hol q5 q6 q7 q8 q9 q10 y2 HRF
      have hz2 := HB2.out.1.size
      go_wp2_with fail
      go_loopg [5] NL (fun g ct wq => ∃ i : Nat, g = NL - i ∧ i ≤ NL ∧ ct = .int .i64 i ∧ (L.take i).all (refOK ids uses) = true ∧ Below w2.heap.size w2 wq)
      case atStart => exact ⟨0, rfl, by omega, rfl, by simp, Below.refl _ _⟩
      case round =>
        obtain ⟨i, HGi, hij, rfl, HAi, HBi⟩ := hrel
        have HGi' := Lib.hid (And.intro HGi (And.intro HAi (And.intro HBi (HB2.out.1.trans (HBi.mono hz2)))))
        clear HGi HAi HBi
        by_cases hilt : i < NL
        · have hil : i < L.length := by rw [HNL.out]; exact hilt
          have hi3 : L[i]? = some L[i] := List.getElem?_eq_getElem hil
          have HTi := Lib.hid (show (L.take (i + 1)).all (refOK ids uses) = refOK ids uses L[i] by
            rw [List.take_succ_eq_append_getElem hil, List.all_append, HGi'.out.2.1]
            simp)
          have HYi := Lib.hid (show refOK ids uses L[i] = false → L.all (refOK ids uses) = false from fun h => by
            rw [List.all_eq_false]
            exact ⟨L[i], List.getElem_mem hil, by rw [h]; simp⟩)
          obtain ⟨g, hgA, hcell⟩ : ∃ g, lA = some ⟨g, 0, none⟩ ∧ ∀ X, Below wr.heap.size wr X → X.cell? ⟨g, i * 2, none⟩ = some (.string L[i].1) ∧ X.cell? ⟨g, i * 2 + 1, none⟩ = some (.int .i64 L[i].2) ∧ NL ≤ lc ∧ lc ≤ 9223372036854775807 := by
            rcases HB2.out.2.cells with ⟨h1, _⟩ | ⟨g, h1, hgl, hc1, hc2, hc⟩
            · subst h1; simp at hil
            · obtain ⟨n1, n2⟩ := namesC_at _ L i hi3
              have hzz := HGi'.out.2.2.1.size
              have e1 := (HGi'.out.2.2.1.cell (p := ⟨g, i * 2, none⟩) hgl).trans (hc _ _ n1)
              have e2 := (HGi'.out.2.2.1.cell (p := ⟨g, i * 2 + 1, none⟩) hgl).trans (hc _ _ n2)
              rw [HNL.out] at hc1
              exact ⟨g, h1, fun X hX => ⟨(hX.cell (p := ⟨g, i * 2, none⟩) (by simp; omega)).trans e1, (hX.cell (p := ⟨g, i * 2 + 1, none⟩) (by simp; omega)).trans e2, hc1, hc2⟩⟩
          subst hgA
          have HCell := Lib.hid hcell
          clear hcell hi3
          generalize L[i] = y at HCell HTi HYi
          clear hil
          obtain ⟨ya, yi⟩ := y
          simp only at HCell
          obtain ⟨_, _, hlc1, hlc2⟩ := HCell.out wr (Below.refl _ _)
          have HSX : Hid (∀ X, Below wr.heap.size wr X → X.cell? ⟨g, i * 2, none⟩ = some (.string ya) ∧ X.cell? ⟨g, i * 2 + 1, none⟩ = some (.int .i64 yi) ∧ X.cell? ⟨w.heap.size, 0, none⟩ = some (.string label) ∧ X.cell? ⟨w.heap.size, 1, none⟩ = some (.slice uA NU uc) ∧ X.cell? ⟨w.heap.size, 2, none⟩ = some (.slice (some ⟨b, o, none⟩) N dc)) := fun X hX => by
            obtain ⟨h1, h2, _⟩ := HCell.out X hX
            obtain ⟨_, _, _, h3, h4, h5⟩ := HC.out X (HGi'.out.2.2.2.trans (hX.mono HGi'.out.2.2.2.size))
            exact ⟨h1, h2, h3, h4, h5⟩
          have HH28 := Lib.hid (fun X (hX : Below wr.heap.size wr X) => has28_any label uA NU uc decls (some ⟨b, o, none⟩) dc yi X (HC.out X (HGi'.out.2.2.2.trans (hX.mono HGi'.out.2.2.2.size))).2.2.1)
          have HH21 := Lib.hid (fun X (hX : Below wr.heap.size wr X) => has21_any uses ya uA uc X (HC.out X (HGi'.out.2.2.2.trans (hX.mono HGi'.out.2.2.2.size))).2.1)
          rw [HN.out, Hids.out] at HH28
          rw [HNU.out] at HH21
          have i0' : (0 : Int) ≤ (i : Int) := by omega
          have i1' : (i : Int) < (NL : Int) := by omega
          have hbd : Below wr.heap.size wr wr.drew := below_drew' (Below.refl _ _)
          have HBD := Lib.hid hbd
          clear hbd
          cases hem : ya.toList.isEmpty with
          | true =>
            have he2 : ya.toList = [] := by simpa using hem
            obtain ⟨hb28, Hb28⟩ : ∃ q, Hid (hasI ids yi = q) := ⟨_, Lib.hid rfl⟩
            have HOK := Lib.hid (show refOK ids uses (ya, yi) = hb28 by rw [← Hb28.out]; simp [refOK, hem])
            rw [Hb28.out] at HH28
            clear HH21
            cases hb28 with
            | true =>
              go_wp2_with fail
              refine wp_region_held_drew (S := fun X => X.cell? ⟨g, i * 2, none⟩ = some (.string ya) ∧ X.cell? ⟨g, i * 2 + 1, none⟩ = some (.int .i64 yi) ∧ X.cell? ⟨w.heap.size, 0, none⟩ = some (.string label) ∧ X.cell? ⟨w.heap.size, 1, none⟩ = some (.slice uA NU uc) ∧ X.cell? ⟨w.heap.size, 2, none⟩ = some (.slice (some ⟨b, o, none⟩) N dc)) (by kernel_rfl) (HSX.out _ HBD.out) (fun hHeld => ?_)
              refine wpAnyH_take (i := 0) (oi := { dst := some 26, op := Op.move (Operand.tmp 4), type := 45, pos := "ref.go:138", after := #[], guard := none }) (v := ?v1) rfl (by kernel_rfl) (by kernel_rfl) (by kernel_rfl) (fun _ _ _ h => h) (Or.inl ⟨by rfl, ?hy1⟩) (by assumption) ?_
              case hy1 => (intro w hSw; (try dsimp only at hSw); first | (go_simp; done) | (go_simp; with_reducible rfl))
              try simp only [Act.put, List.setIfInBounds_toArray, List.set_cons_zero, List.set_cons_succ]
              refine wpAnyH_take (i := 1) (oi := { dst := some 27, op := Op.move (Operand.tmp 5), type := 3, pos := "ref.go:138", after := #[], guard := none }) (v := ?v2) rfl (by kernel_rfl) (by kernel_rfl) (by kernel_rfl) (fun _ _ _ h => h) (Or.inl ⟨by rfl, ?hy2⟩) (by assumption) ?_
              case hy2 => (intro w hSw; (try dsimp only at hSw); first | (go_simp; done) | (go_simp; with_reducible rfl))
              try simp only [Act.put, List.setIfInBounds_toArray, List.set_cons_zero, List.set_cons_succ]
              refine wpAnyH_take (i := 2) (oi := { dst := some 28, op := Op.indexAddr 45 (Operand.tmp 26) (Operand.tmp 27), type := 0, pos := "ref.go:138", after := #[{ on := 0, ground := Ground.data }, { on := 1, ground := Ground.data }], guard := none }) (v := ?v3) rfl (by kernel_rfl) (by kernel_rfl) (by kernel_rfl) (fun _ _ _ h => h) (Or.inl ⟨by rfl, ?hy3⟩) (by assumption) ?_
              case hy3 => (intro w hSw; (try dsimp only at hSw); first | (go_simp; done) | (go_simp; with_reducible rfl))
              try simp only [Act.put, List.setIfInBounds_toArray, List.set_cons_zero, List.set_cons_succ]
              refine wpAnyH_take (i := 3) (oi := { dst := some 29, op := Op.fieldAddr 48 (Operand.tmp 28) 0, type := 0, pos := "ref.go:138", after := #[{ on := 2, ground := Ground.data }], guard := none }) (v := ?v4) rfl (by kernel_rfl) (by kernel_rfl) (by kernel_rfl) (fun _ _ _ h => h) (Or.inl ⟨by rfl, ?hy4⟩) (by assumption) ?_
              case hy4 => (intro w hSw; (try dsimp only at hSw); first | (go_simp; done) | (go_simp; with_reducible rfl))
              try simp only [Act.put, List.setIfInBounds_toArray, List.set_cons_zero, List.set_cons_succ]
              refine wpAnyH_take (i := 4) (oi := { dst := some 30, op := Op.load 9 (Operand.tmp 29), type := 9, pos := "ref.go:138", after := #[{ on := 3, ground := Ground.data }], guard := none }) (v := ?v5) rfl (by kernel_rfl) (by kernel_rfl) (by kernel_rfl) (fun _ _ _ h => h) (Or.inl ⟨by rfl, ?hy5⟩) (by assumption) ?_
              case hy5 => (intro w hSw; (try dsimp only at hSw); first | (go_simp; done) | (go_simp; with_reducible rfl))
              try simp only [Act.put, List.setIfInBounds_toArray, List.set_cons_zero, List.set_cons_succ]
              refine wpAnyH_take (i := 5) (oi := { dst := some 31, op := Op.binOp BinOp.eql 9 (Operand.tmp 30) (Operand.const (Value.string { data := #[] })) 9, type := 4, pos := "ref.go:138", after := #[{ on := 4, ground := Ground.data }], guard := none }) (v := ?v6) rfl (by kernel_rfl) (by kernel_rfl) (by kernel_rfl) (fun _ _ _ h => h) (Or.inl ⟨by rfl, ?hy6⟩) (by assumption) ?_
              case hy6 => (intro w hSw; (try dsimp only at hSw); first | (go_simp; done) | (go_simp; with_reducible rfl))
              try simp only [Act.put, List.setIfInBounds_toArray, List.set_cons_zero, List.set_cons_succ]
              refine wpAnyH_take (i := 6) (oi := { dst := some 32, op := Op.move (Operand.tmp 31), type := 4, pos := "ref.go:138", after := #[{ on := 5, ground := Ground.data }], guard := none }) (v := ?v7) rfl (by kernel_rfl) (by kernel_rfl) (by kernel_rfl) (fun _ _ _ h => h) (Or.inl ⟨by rfl, ?hy7⟩) (by assumption) ?_
              case hy7 => (intro w hSw; (try dsimp only at hSw); first | (go_simp; done) | (go_simp; with_reducible rfl))
              try simp only [Act.put, List.setIfInBounds_toArray, List.set_cons_zero, List.set_cons_succ]
              refine wpAnyH_take (i := 7) (oi := { dst := some 33, op := Op.load 25 (Operand.tmp 1), type := 25, pos := "ref.go:138", after := #[{ on := 6, ground := Ground.guard }], guard := some (6, true) }) (v := ?v8) rfl (by kernel_rfl) (by kernel_rfl) (by kernel_rfl) (fun _ _ _ h => h) (Or.inl ⟨by rfl, ?hy8⟩) (by assumption) ?_
              case hy8 => (intro w hSw; (try dsimp only at hSw); first | (go_simp; done) | (go_simp; with_reducible rfl))
              try simp only [Act.put, List.setIfInBounds_toArray, List.set_cons_zero, List.set_cons_succ]
              refine wpAnyH_take (i := 8) (oi := { dst := some 34, op := Op.move (Operand.tmp 4), type := 45, pos := "ref.go:138", after := #[{ on := 6, ground := Ground.guard }], guard := some (6, true) }) (v := ?v9) rfl (by kernel_rfl) (by kernel_rfl) (by kernel_rfl) (fun _ _ _ h => h) (Or.inl ⟨by rfl, ?hy9⟩) (by assumption) ?_
              case hy9 => (intro w hSw; (try dsimp only at hSw); first | (go_simp; done) | (go_simp; with_reducible rfl))
              try simp only [Act.put, List.setIfInBounds_toArray, List.set_cons_zero, List.set_cons_succ]
              refine wpAnyH_take (i := 9) (oi := { dst := some 35, op := Op.move (Operand.tmp 5), type := 3, pos := "ref.go:138", after := #[{ on := 6, ground := Ground.guard }], guard := some (6, true) }) (v := ?v10) rfl (by kernel_rfl) (by kernel_rfl) (by kernel_rfl) (fun _ _ _ h => h) (Or.inl ⟨by rfl, ?hy10⟩) (by assumption) ?_
              case hy10 => (intro w hSw; (try dsimp only at hSw); first | (go_simp; done) | (go_simp; with_reducible rfl))
              try simp only [Act.put, List.setIfInBounds_toArray, List.set_cons_zero, List.set_cons_succ]
              refine wpAnyH_take (i := 10) (oi := { dst := some 36, op := Op.indexAddr 45 (Operand.tmp 34) (Operand.tmp 35), type := 0, pos := "ref.go:138", after := #[{ on := 8, ground := Ground.data }, { on := 9, ground := Ground.data }, { on := 6, ground := Ground.guard }], guard := some (6, true) }) (v := ?v11) rfl (by kernel_rfl) (by kernel_rfl) (by kernel_rfl) (fun _ _ _ h => h) (Or.inl ⟨by rfl, ?hy11⟩) (by assumption) ?_
              case hy11 => (intro w hSw; (try dsimp only at hSw); first | (go_simp; done) | (go_simp; with_reducible rfl))
              try simp only [Act.put, List.setIfInBounds_toArray, List.set_cons_zero, List.set_cons_succ]
              refine wpAnyH_take (i := 11) (oi := { dst := some 37, op := Op.fieldAddr 48 (Operand.tmp 36) 1, type := 0, pos := "ref.go:138", after := #[{ on := 10, ground := Ground.data }, { on := 6, ground := Ground.guard }], guard := some (6, true) }) (v := ?v12) rfl (by kernel_rfl) (by kernel_rfl) (by kernel_rfl) (fun _ _ _ h => h) (Or.inl ⟨by rfl, ?hy12⟩) (by assumption) ?_
              case hy12 => (intro w hSw; (try dsimp only at hSw); first | (go_simp; done) | (go_simp; with_reducible rfl))
              try simp only [Act.put, List.setIfInBounds_toArray, List.set_cons_zero, List.set_cons_succ]
              refine wpAnyH_take (i := 12) (oi := { dst := some 38, op := Op.load 3 (Operand.tmp 37), type := 3, pos := "ref.go:138", after := #[{ on := 11, ground := Ground.data }, { on := 6, ground := Ground.guard }], guard := some (6, true) }) (v := ?v13) rfl (by kernel_rfl) (by kernel_rfl) (by kernel_rfl) (fun _ _ _ h => h) (Or.inl ⟨by rfl, ?hy13⟩) (by assumption) ?_
              case hy13 => (intro w hSw; (try dsimp only at hSw); first | (go_simp; done) | (go_simp; with_reducible rfl))
              try simp only [Act.put, List.setIfInBounds_toArray, List.set_cons_zero, List.set_cons_succ]
              refine wpAnyH_ready (rs := [13]) (by kernel_rfl) (by simp) ?_
              refine AllReadyH.cons rfl (fun K hK => ?_) AllReadyH.nil
              go_simp
              refine (HH28.out _ HBD.out).mono ?_
              rintro e w3 ⟨rfl, hb3⟩
              have hbb : Below wr.heap.size wr w3 := HBD.out.trans (hb3.mono (Nat.le_refl _))
              go_wp2_with fail
              refine hK.out _ _ (HSX.out _ hbb) (fun hHeld3 => ?_)
              clear hK K hHeld
              try simp only [Act.put, List.setIfInBounds_toArray, List.set_cons_zero, List.set_cons_succ]
              refine wpAnyH_take (i := 14) (oi := { dst := some 40, op := Op.unOp UnOp.not 4 (Operand.tmp 39), type := 4, pos := "ref.go:138", after := #[{ on := 13, ground := Ground.data }, { on := 6, ground := Ground.guard }], guard := some (6, true) }) (v := ?v14) rfl (by kernel_rfl) (by kernel_rfl) (by kernel_rfl) (fun _ _ _ h => h) (Or.inl ⟨by rfl, ?hy14⟩) (by assumption) ?_
              case hy14 => (intro w hSw; (try dsimp only at hSw); first | (go_simp; done) | (go_simp; with_reducible rfl))
              try simp only [Act.put, List.setIfInBounds_toArray, List.set_cons_zero, List.set_cons_succ]
              refine wpAnyH_take (i := 15) (oi := { dst := some 41, op := Op.pick (Operand.tmp 32) (Operand.tmp 40) (Operand.const (Value.bool false)), type := 4, pos := "ref.go:138", after := #[{ on := 6, ground := Ground.data }, { on := 14, ground := Ground.data }], guard := none }) (v := ?v15) rfl (by kernel_rfl) (by kernel_rfl) (by kernel_rfl) (fun _ _ _ h => h) (Or.inl ⟨by rfl, ?hy15⟩) (by assumption) ?_
              case hy15 => (intro w hSw; (try dsimp only at hSw); first | (go_simp; done) | (go_simp; with_reducible rfl))
              try simp only [Act.put, List.setIfInBounds_toArray, List.set_cons_zero, List.set_cons_succ]
              refine wpAnyH_take (i := 16) (oi := { dst := some 42, op := Op.move (Operand.tmp 41), type := 4, pos := "ref.go:138", after := #[{ on := 15, ground := Ground.data }, { on := 13, ground := Ground.chain }], guard := none }) (v := ?v16) rfl (by kernel_rfl) (by kernel_rfl) (by kernel_rfl) (fun _ _ _ h => h) (Or.inl ⟨by rfl, ?hy16⟩) (by assumption) ?_
              case hy16 => (intro w hSw; (try dsimp only at hSw); first | (go_simp; done) | (go_simp; with_reducible rfl))
              try simp only [Act.put, List.setIfInBounds_toArray, List.set_cons_zero, List.set_cons_succ]
              refine wpAnyH_take (i := 17) (oi := { dst := some 43, op := Op.move (Operand.tmp 4), type := 45, pos := "ref.go:138", after := #[{ on := 16, ground := Ground.guard }], guard := some (16, false) }) (v := ?v17) rfl (by kernel_rfl) (by kernel_rfl) (by kernel_rfl) (fun _ _ _ h => h) (Or.inl ⟨by rfl, ?hy17⟩) (by assumption) ?_
              case hy17 => (intro w hSw; (try dsimp only at hSw); first | (go_simp; done) | (go_simp; with_reducible rfl))
              try simp only [Act.put, List.setIfInBounds_toArray, List.set_cons_zero, List.set_cons_succ]
              refine wpAnyH_take (i := 18) (oi := { dst := some 44, op := Op.move (Operand.tmp 5), type := 3, pos := "ref.go:138", after := #[{ on := 16, ground := Ground.guard }], guard := some (16, false) }) (v := ?v18) rfl (by kernel_rfl) (by kernel_rfl) (by kernel_rfl) (fun _ _ _ h => h) (Or.inl ⟨by rfl, ?hy18⟩) (by assumption) ?_
              case hy18 => (intro w hSw; (try dsimp only at hSw); first | (go_simp; done) | (go_simp; with_reducible rfl))
              try simp only [Act.put, List.setIfInBounds_toArray, List.set_cons_zero, List.set_cons_succ]
              refine wpAnyH_take (i := 19) (oi := { dst := some 45, op := Op.indexAddr 45 (Operand.tmp 43) (Operand.tmp 44), type := 0, pos := "ref.go:138", after := #[{ on := 17, ground := Ground.data }, { on := 18, ground := Ground.data }, { on := 16, ground := Ground.guard }], guard := some (16, false) }) (v := ?v19) rfl (by kernel_rfl) (by kernel_rfl) (by kernel_rfl) (fun _ _ _ h => h) (Or.inl ⟨by rfl, ?hy19⟩) (by assumption) ?_
              case hy19 => (intro w hSw; (try dsimp only at hSw); first | (go_simp; done) | (go_simp; with_reducible rfl))
              try simp only [Act.put, List.setIfInBounds_toArray, List.set_cons_zero, List.set_cons_succ]
              refine wpAnyH_take (i := 20) (oi := { dst := some 46, op := Op.fieldAddr 48 (Operand.tmp 45) 0, type := 0, pos := "ref.go:138", after := #[{ on := 19, ground := Ground.data }, { on := 16, ground := Ground.guard }], guard := some (16, false) }) (v := ?v20) rfl (by kernel_rfl) (by kernel_rfl) (by kernel_rfl) (fun _ _ _ h => h) (Or.inl ⟨by rfl, ?hy20⟩) (by assumption) ?_
              case hy20 => (intro w hSw; (try dsimp only at hSw); first | (go_simp; done) | (go_simp; with_reducible rfl))
              try simp only [Act.put, List.setIfInBounds_toArray, List.set_cons_zero, List.set_cons_succ]
              refine wpAnyH_take (i := 21) (oi := { dst := some 47, op := Op.load 9 (Operand.tmp 46), type := 9, pos := "ref.go:138", after := #[{ on := 20, ground := Ground.data }, { on := 16, ground := Ground.guard }], guard := some (16, false) }) (v := ?v21) rfl (by kernel_rfl) (by kernel_rfl) (by kernel_rfl) (fun _ _ _ h => h) (Or.inl ⟨by rfl, ?hy21⟩) (by assumption) ?_
              case hy21 => (intro w hSw; (try dsimp only at hSw); first | (go_simp; done) | (go_simp; with_reducible rfl))
              try simp only [Act.put, List.setIfInBounds_toArray, List.set_cons_zero, List.set_cons_succ]
              refine wpAnyH_take (i := 22) (oi := { dst := some 48, op := Op.binOp BinOp.neq 9 (Operand.tmp 47) (Operand.const (Value.string { data := #[] })) 9, type := 4, pos := "ref.go:138", after := #[{ on := 21, ground := Ground.data }, { on := 16, ground := Ground.guard }], guard := some (16, false) }) (v := ?v22) rfl (by kernel_rfl) (by kernel_rfl) (by kernel_rfl) (fun _ _ _ h => h) (Or.inl ⟨by rfl, ?hy22⟩) (by assumption) ?_
              case hy22 => (intro w hSw; (try dsimp only at hSw); first | (go_simp; done) | (go_simp; with_reducible rfl))
              try simp only [Act.put, List.setIfInBounds_toArray, List.set_cons_zero, List.set_cons_succ]
              refine wpAnyH_take (i := 23) (oi := { dst := some 49, op := Op.move (Operand.tmp 48), type := 4, pos := "ref.go:138", after := #[{ on := 22, ground := Ground.data }, { on := 16, ground := Ground.chain }, { on := 16, ground := Ground.guard }], guard := some (16, false) }) (v := ?v23) rfl (by kernel_rfl) (by kernel_rfl) (by kernel_rfl) (fun _ _ _ h => h) (Or.inl ⟨by rfl, ?hy23⟩) (by assumption) ?_
              case hy23 => (intro w hSw; (try dsimp only at hSw); first | (go_simp; done) | (go_simp; with_reducible rfl))
              try simp only [Act.put, List.setIfInBounds_toArray, List.set_cons_zero, List.set_cons_succ]
              refine wpAnyH_take (i := 24) (oi := { dst := some 50, op := Op.fieldAddr 25 (Operand.tmp 1) 1, type := 0, pos := "ref.go:138", after := #[{ on := 23, ground := Ground.guard }], guard := some (23, true) }) (v := undef) rfl (by kernel_rfl) (by kernel_rfl) (by kernel_rfl) (fun _ _ _ h => h) (Or.inr ⟨by rfl, rfl⟩) (by assumption) ?_
              try simp only [Act.put, List.setIfInBounds_toArray, List.set_cons_zero, List.set_cons_succ]
              refine wpAnyH_take (i := 25) (oi := { dst := some 51, op := Op.load 22 (Operand.tmp 50), type := 22, pos := "ref.go:138", after := #[{ on := 24, ground := Ground.data }, { on := 23, ground := Ground.guard }], guard := some (23, true) }) (v := undef) rfl (by kernel_rfl) (by kernel_rfl) (by kernel_rfl) (fun _ _ _ h => h) (Or.inr ⟨by rfl, rfl⟩) (by assumption) ?_
              try simp only [Act.put, List.setIfInBounds_toArray, List.set_cons_zero, List.set_cons_succ]
              refine wpAnyH_take (i := 26) (oi := { dst := some 52, op := Op.move (Operand.tmp 4), type := 45, pos := "ref.go:138", after := #[{ on := 23, ground := Ground.guard }], guard := some (23, true) }) (v := undef) rfl (by kernel_rfl) (by kernel_rfl) (by kernel_rfl) (fun _ _ _ h => h) (Or.inr ⟨by rfl, rfl⟩) (by assumption) ?_
              try simp only [Act.put, List.setIfInBounds_toArray, List.set_cons_zero, List.set_cons_succ]
              refine wpAnyH_take (i := 27) (oi := { dst := some 53, op := Op.move (Operand.tmp 5), type := 3, pos := "ref.go:138", after := #[{ on := 23, ground := Ground.guard }], guard := some (23, true) }) (v := undef) rfl (by kernel_rfl) (by kernel_rfl) (by kernel_rfl) (fun _ _ _ h => h) (Or.inr ⟨by rfl, rfl⟩) (by assumption) ?_
              try simp only [Act.put, List.setIfInBounds_toArray, List.set_cons_zero, List.set_cons_succ]
              refine wpAnyH_take (i := 28) (oi := { dst := some 54, op := Op.indexAddr 45 (Operand.tmp 52) (Operand.tmp 53), type := 0, pos := "ref.go:138", after := #[{ on := 26, ground := Ground.data }, { on := 27, ground := Ground.data }, { on := 23, ground := Ground.guard }], guard := some (23, true) }) (v := undef) rfl (by kernel_rfl) (by kernel_rfl) (by kernel_rfl) (fun _ _ _ h => h) (Or.inr ⟨by rfl, rfl⟩) (by assumption) ?_
              try simp only [Act.put, List.setIfInBounds_toArray, List.set_cons_zero, List.set_cons_succ]
              refine wpAnyH_take (i := 29) (oi := { dst := some 55, op := Op.fieldAddr 48 (Operand.tmp 54) 0, type := 0, pos := "ref.go:138", after := #[{ on := 28, ground := Ground.data }, { on := 23, ground := Ground.guard }], guard := some (23, true) }) (v := undef) rfl (by kernel_rfl) (by kernel_rfl) (by kernel_rfl) (fun _ _ _ h => h) (Or.inr ⟨by rfl, rfl⟩) (by assumption) ?_
              try simp only [Act.put, List.setIfInBounds_toArray, List.set_cons_zero, List.set_cons_succ]
              refine wpAnyH_take (i := 30) (oi := { dst := some 56, op := Op.load 9 (Operand.tmp 55), type := 9, pos := "ref.go:138", after := #[{ on := 29, ground := Ground.data }, { on := 23, ground := Ground.guard }], guard := some (23, true) }) (v := undef) rfl (by kernel_rfl) (by kernel_rfl) (by kernel_rfl) (fun _ _ _ h => h) (Or.inr ⟨by rfl, rfl⟩) (by assumption) ?_
              try simp only [Act.put, List.setIfInBounds_toArray, List.set_cons_zero, List.set_cons_succ]
              refine wpAnyH_take (i := 31) (oi := { dst := some 57, op := Op.call { callee := Callee.value (Operand.func 135), args := #[Operand.tmp 51, Operand.tmp 56], argTypes := #[22, 9] }, type := 4, pos := "ref.go:138", after := #[{ on := 25, ground := Ground.data }, { on := 30, ground := Ground.data }, { on := 23, ground := Ground.chain }, { on := 23, ground := Ground.guard }], guard := some (23, true) }) (v := undef) rfl (by kernel_rfl) (by kernel_rfl) (by kernel_rfl) (fun _ _ _ h => h) (Or.inr ⟨by rfl, rfl⟩) (by assumption) ?_
              try simp only [Act.put, List.setIfInBounds_toArray, List.set_cons_zero, List.set_cons_succ]
              refine wpAnyH_take (i := 32) (oi := { dst := some 58, op := Op.unOp UnOp.not 4 (Operand.tmp 57), type := 4, pos := "ref.go:138", after := #[{ on := 31, ground := Ground.data }, { on := 23, ground := Ground.guard }], guard := some (23, true) }) (v := undef) rfl (by kernel_rfl) (by kernel_rfl) (by kernel_rfl) (fun _ _ _ h => h) (Or.inr ⟨by rfl, rfl⟩) (by assumption) ?_
              try simp only [Act.put, List.setIfInBounds_toArray, List.set_cons_zero, List.set_cons_succ]
              refine wpAnyH_take (i := 33) (oi := { dst := some 59, op := Op.pick (Operand.tmp 49) (Operand.tmp 58) (Operand.const (Value.bool false)), type := 4, pos := "ref.go:138", after := #[{ on := 23, ground := Ground.data }, { on := 32, ground := Ground.data }, { on := 16, ground := Ground.guard }], guard := some (16, false) }) (v := ?v24) rfl (by kernel_rfl) (by kernel_rfl) (by kernel_rfl) (fun _ _ _ h => h) (Or.inl ⟨by rfl, ?hy24⟩) (by assumption) ?_
              case hy24 => (intro w hSw; (try dsimp only at hSw); first | (go_simp; done) | (go_simp; with_reducible rfl))
              try simp only [Act.put, List.setIfInBounds_toArray, List.set_cons_zero, List.set_cons_succ]
              refine wpAnyH_take (i := 34) (oi := { dst := some 60, op := Op.pick (Operand.tmp 42) (Operand.const (Value.bool true)) (Operand.tmp 59), type := 4, pos := "ref.go:138", after := #[{ on := 16, ground := Ground.data }, { on := 33, ground := Ground.data }], guard := none }) (v := ?v25) rfl (by kernel_rfl) (by kernel_rfl) (by kernel_rfl) (fun _ _ _ h => h) (Or.inl ⟨by rfl, ?hy25⟩) (by assumption) ?_
              case hy25 => (intro w hSw; (try dsimp only at hSw); first | (go_simp; done) | (go_simp; with_reducible rfl))
              try simp only [Act.put, List.setIfInBounds_toArray, List.set_cons_zero, List.set_cons_succ]
              refine wpAnyH_done (by kernel_rfl) ?_ _
              have HB3 := Lib.hid (And.intro (HGi'.out.2.2.1.trans (hbb.mono HGi'.out.2.2.1.size)) (HC.out _ (HGi'.out.2.2.2.trans (hbb.mono HGi'.out.2.2.2.size))).1)
              clear hb3 hbb hHeld3
              go_wp2
              go_roundg (NL - (i + 1))
              case measure => rw [HGi'.out.1]; omega
              case rel => exact ⟨i + 1, rfl, by omega, by go_num, by rw [HTi.out, HOK.out], HB3.out.1⟩
            | false =>
              go_wp2_with fail
              refine wp_region_held_drew (S := fun X => X.cell? ⟨g, i * 2, none⟩ = some (.string ya) ∧ X.cell? ⟨g, i * 2 + 1, none⟩ = some (.int .i64 yi) ∧ X.cell? ⟨w.heap.size, 0, none⟩ = some (.string label) ∧ X.cell? ⟨w.heap.size, 1, none⟩ = some (.slice uA NU uc) ∧ X.cell? ⟨w.heap.size, 2, none⟩ = some (.slice (some ⟨b, o, none⟩) N dc)) (by kernel_rfl) (HSX.out _ HBD.out) (fun hHeld => ?_)
              refine wpAnyH_take (i := 0) (oi := { dst := some 26, op := Op.move (Operand.tmp 4), type := 45, pos := "ref.go:138", after := #[], guard := none }) (v := ?v26) rfl (by kernel_rfl) (by kernel_rfl) (by kernel_rfl) (fun _ _ _ h => h) (Or.inl ⟨by rfl, ?hy26⟩) (by assumption) ?_
              case hy26 => (intro w hSw; (try dsimp only at hSw); first | (go_simp; done) | (go_simp; with_reducible rfl))
              try simp only [Act.put, List.setIfInBounds_toArray, List.set_cons_zero, List.set_cons_succ]
              refine wpAnyH_take (i := 1) (oi := { dst := some 27, op := Op.move (Operand.tmp 5), type := 3, pos := "ref.go:138", after := #[], guard := none }) (v := ?v27) rfl (by kernel_rfl) (by kernel_rfl) (by kernel_rfl) (fun _ _ _ h => h) (Or.inl ⟨by rfl, ?hy27⟩) (by assumption) ?_
              case hy27 => (intro w hSw; (try dsimp only at hSw); first | (go_simp; done) | (go_simp; with_reducible rfl))
              try simp only [Act.put, List.setIfInBounds_toArray, List.set_cons_zero, List.set_cons_succ]
              refine wpAnyH_take (i := 2) (oi := { dst := some 28, op := Op.indexAddr 45 (Operand.tmp 26) (Operand.tmp 27), type := 0, pos := "ref.go:138", after := #[{ on := 0, ground := Ground.data }, { on := 1, ground := Ground.data }], guard := none }) (v := ?v28) rfl (by kernel_rfl) (by kernel_rfl) (by kernel_rfl) (fun _ _ _ h => h) (Or.inl ⟨by rfl, ?hy28⟩) (by assumption) ?_
              case hy28 => (intro w hSw; (try dsimp only at hSw); first | (go_simp; done) | (go_simp; with_reducible rfl))
              try simp only [Act.put, List.setIfInBounds_toArray, List.set_cons_zero, List.set_cons_succ]
              refine wpAnyH_take (i := 3) (oi := { dst := some 29, op := Op.fieldAddr 48 (Operand.tmp 28) 0, type := 0, pos := "ref.go:138", after := #[{ on := 2, ground := Ground.data }], guard := none }) (v := ?v29) rfl (by kernel_rfl) (by kernel_rfl) (by kernel_rfl) (fun _ _ _ h => h) (Or.inl ⟨by rfl, ?hy29⟩) (by assumption) ?_
              case hy29 => (intro w hSw; (try dsimp only at hSw); first | (go_simp; done) | (go_simp; with_reducible rfl))
              try simp only [Act.put, List.setIfInBounds_toArray, List.set_cons_zero, List.set_cons_succ]
              refine wpAnyH_take (i := 4) (oi := { dst := some 30, op := Op.load 9 (Operand.tmp 29), type := 9, pos := "ref.go:138", after := #[{ on := 3, ground := Ground.data }], guard := none }) (v := ?v30) rfl (by kernel_rfl) (by kernel_rfl) (by kernel_rfl) (fun _ _ _ h => h) (Or.inl ⟨by rfl, ?hy30⟩) (by assumption) ?_
              case hy30 => (intro w hSw; (try dsimp only at hSw); first | (go_simp; done) | (go_simp; with_reducible rfl))
              try simp only [Act.put, List.setIfInBounds_toArray, List.set_cons_zero, List.set_cons_succ]
              refine wpAnyH_take (i := 5) (oi := { dst := some 31, op := Op.binOp BinOp.eql 9 (Operand.tmp 30) (Operand.const (Value.string { data := #[] })) 9, type := 4, pos := "ref.go:138", after := #[{ on := 4, ground := Ground.data }], guard := none }) (v := ?v31) rfl (by kernel_rfl) (by kernel_rfl) (by kernel_rfl) (fun _ _ _ h => h) (Or.inl ⟨by rfl, ?hy31⟩) (by assumption) ?_
              case hy31 => (intro w hSw; (try dsimp only at hSw); first | (go_simp; done) | (go_simp; with_reducible rfl))
              try simp only [Act.put, List.setIfInBounds_toArray, List.set_cons_zero, List.set_cons_succ]
              refine wpAnyH_take (i := 6) (oi := { dst := some 32, op := Op.move (Operand.tmp 31), type := 4, pos := "ref.go:138", after := #[{ on := 5, ground := Ground.data }], guard := none }) (v := ?v32) rfl (by kernel_rfl) (by kernel_rfl) (by kernel_rfl) (fun _ _ _ h => h) (Or.inl ⟨by rfl, ?hy32⟩) (by assumption) ?_
              case hy32 => (intro w hSw; (try dsimp only at hSw); first | (go_simp; done) | (go_simp; with_reducible rfl))
              try simp only [Act.put, List.setIfInBounds_toArray, List.set_cons_zero, List.set_cons_succ]
              refine wpAnyH_take (i := 7) (oi := { dst := some 33, op := Op.load 25 (Operand.tmp 1), type := 25, pos := "ref.go:138", after := #[{ on := 6, ground := Ground.guard }], guard := some (6, true) }) (v := ?v33) rfl (by kernel_rfl) (by kernel_rfl) (by kernel_rfl) (fun _ _ _ h => h) (Or.inl ⟨by rfl, ?hy33⟩) (by assumption) ?_
              case hy33 => (intro w hSw; (try dsimp only at hSw); first | (go_simp; done) | (go_simp; with_reducible rfl))
              try simp only [Act.put, List.setIfInBounds_toArray, List.set_cons_zero, List.set_cons_succ]
              refine wpAnyH_take (i := 8) (oi := { dst := some 34, op := Op.move (Operand.tmp 4), type := 45, pos := "ref.go:138", after := #[{ on := 6, ground := Ground.guard }], guard := some (6, true) }) (v := ?v34) rfl (by kernel_rfl) (by kernel_rfl) (by kernel_rfl) (fun _ _ _ h => h) (Or.inl ⟨by rfl, ?hy34⟩) (by assumption) ?_
              case hy34 => (intro w hSw; (try dsimp only at hSw); first | (go_simp; done) | (go_simp; with_reducible rfl))
              try simp only [Act.put, List.setIfInBounds_toArray, List.set_cons_zero, List.set_cons_succ]
              refine wpAnyH_take (i := 9) (oi := { dst := some 35, op := Op.move (Operand.tmp 5), type := 3, pos := "ref.go:138", after := #[{ on := 6, ground := Ground.guard }], guard := some (6, true) }) (v := ?v35) rfl (by kernel_rfl) (by kernel_rfl) (by kernel_rfl) (fun _ _ _ h => h) (Or.inl ⟨by rfl, ?hy35⟩) (by assumption) ?_
              case hy35 => (intro w hSw; (try dsimp only at hSw); first | (go_simp; done) | (go_simp; with_reducible rfl))
              try simp only [Act.put, List.setIfInBounds_toArray, List.set_cons_zero, List.set_cons_succ]
              refine wpAnyH_take (i := 10) (oi := { dst := some 36, op := Op.indexAddr 45 (Operand.tmp 34) (Operand.tmp 35), type := 0, pos := "ref.go:138", after := #[{ on := 8, ground := Ground.data }, { on := 9, ground := Ground.data }, { on := 6, ground := Ground.guard }], guard := some (6, true) }) (v := ?v36) rfl (by kernel_rfl) (by kernel_rfl) (by kernel_rfl) (fun _ _ _ h => h) (Or.inl ⟨by rfl, ?hy36⟩) (by assumption) ?_
              case hy36 => (intro w hSw; (try dsimp only at hSw); first | (go_simp; done) | (go_simp; with_reducible rfl))
              try simp only [Act.put, List.setIfInBounds_toArray, List.set_cons_zero, List.set_cons_succ]
              refine wpAnyH_take (i := 11) (oi := { dst := some 37, op := Op.fieldAddr 48 (Operand.tmp 36) 1, type := 0, pos := "ref.go:138", after := #[{ on := 10, ground := Ground.data }, { on := 6, ground := Ground.guard }], guard := some (6, true) }) (v := ?v37) rfl (by kernel_rfl) (by kernel_rfl) (by kernel_rfl) (fun _ _ _ h => h) (Or.inl ⟨by rfl, ?hy37⟩) (by assumption) ?_
              case hy37 => (intro w hSw; (try dsimp only at hSw); first | (go_simp; done) | (go_simp; with_reducible rfl))
              try simp only [Act.put, List.setIfInBounds_toArray, List.set_cons_zero, List.set_cons_succ]
              refine wpAnyH_take (i := 12) (oi := { dst := some 38, op := Op.load 3 (Operand.tmp 37), type := 3, pos := "ref.go:138", after := #[{ on := 11, ground := Ground.data }, { on := 6, ground := Ground.guard }], guard := some (6, true) }) (v := ?v38) rfl (by kernel_rfl) (by kernel_rfl) (by kernel_rfl) (fun _ _ _ h => h) (Or.inl ⟨by rfl, ?hy38⟩) (by assumption) ?_
              case hy38 => (intro w hSw; (try dsimp only at hSw); first | (go_simp; done) | (go_simp; with_reducible rfl))
              try simp only [Act.put, List.setIfInBounds_toArray, List.set_cons_zero, List.set_cons_succ]
              refine wpAnyH_ready (rs := [13]) (by kernel_rfl) (by simp) ?_
              refine AllReadyH.cons rfl (fun K hK => ?_) AllReadyH.nil
              go_simp
              refine (HH28.out _ HBD.out).mono ?_
              rintro e w3 ⟨rfl, hb3⟩
              have hbb : Below wr.heap.size wr w3 := HBD.out.trans (hb3.mono (Nat.le_refl _))
              go_wp2_with fail
              refine hK.out _ _ (HSX.out _ hbb) (fun hHeld3 => ?_)
              clear hK K hHeld
              try simp only [Act.put, List.setIfInBounds_toArray, List.set_cons_zero, List.set_cons_succ]
              refine wpAnyH_take (i := 14) (oi := { dst := some 40, op := Op.unOp UnOp.not 4 (Operand.tmp 39), type := 4, pos := "ref.go:138", after := #[{ on := 13, ground := Ground.data }, { on := 6, ground := Ground.guard }], guard := some (6, true) }) (v := ?v39) rfl (by kernel_rfl) (by kernel_rfl) (by kernel_rfl) (fun _ _ _ h => h) (Or.inl ⟨by rfl, ?hy39⟩) (by assumption) ?_
              case hy39 => (intro w hSw; (try dsimp only at hSw); first | (go_simp; done) | (go_simp; with_reducible rfl))
              try simp only [Act.put, List.setIfInBounds_toArray, List.set_cons_zero, List.set_cons_succ]
              refine wpAnyH_take (i := 15) (oi := { dst := some 41, op := Op.pick (Operand.tmp 32) (Operand.tmp 40) (Operand.const (Value.bool false)), type := 4, pos := "ref.go:138", after := #[{ on := 6, ground := Ground.data }, { on := 14, ground := Ground.data }], guard := none }) (v := ?v40) rfl (by kernel_rfl) (by kernel_rfl) (by kernel_rfl) (fun _ _ _ h => h) (Or.inl ⟨by rfl, ?hy40⟩) (by assumption) ?_
              case hy40 => (intro w hSw; (try dsimp only at hSw); first | (go_simp; done) | (go_simp; with_reducible rfl))
              try simp only [Act.put, List.setIfInBounds_toArray, List.set_cons_zero, List.set_cons_succ]
              refine wpAnyH_take (i := 16) (oi := { dst := some 42, op := Op.move (Operand.tmp 41), type := 4, pos := "ref.go:138", after := #[{ on := 15, ground := Ground.data }, { on := 13, ground := Ground.chain }], guard := none }) (v := ?v41) rfl (by kernel_rfl) (by kernel_rfl) (by kernel_rfl) (fun _ _ _ h => h) (Or.inl ⟨by rfl, ?hy41⟩) (by assumption) ?_
              case hy41 => (intro w hSw; (try dsimp only at hSw); first | (go_simp; done) | (go_simp; with_reducible rfl))
              try simp only [Act.put, List.setIfInBounds_toArray, List.set_cons_zero, List.set_cons_succ]
              refine wpAnyH_take (i := 17) (oi := { dst := some 43, op := Op.move (Operand.tmp 4), type := 45, pos := "ref.go:138", after := #[{ on := 16, ground := Ground.guard }], guard := some (16, false) }) (v := undef) rfl (by kernel_rfl) (by kernel_rfl) (by kernel_rfl) (fun _ _ _ h => h) (Or.inr ⟨by rfl, rfl⟩) (by assumption) ?_
              try simp only [Act.put, List.setIfInBounds_toArray, List.set_cons_zero, List.set_cons_succ]
              refine wpAnyH_take (i := 18) (oi := { dst := some 44, op := Op.move (Operand.tmp 5), type := 3, pos := "ref.go:138", after := #[{ on := 16, ground := Ground.guard }], guard := some (16, false) }) (v := undef) rfl (by kernel_rfl) (by kernel_rfl) (by kernel_rfl) (fun _ _ _ h => h) (Or.inr ⟨by rfl, rfl⟩) (by assumption) ?_
              try simp only [Act.put, List.setIfInBounds_toArray, List.set_cons_zero, List.set_cons_succ]
              refine wpAnyH_take (i := 19) (oi := { dst := some 45, op := Op.indexAddr 45 (Operand.tmp 43) (Operand.tmp 44), type := 0, pos := "ref.go:138", after := #[{ on := 17, ground := Ground.data }, { on := 18, ground := Ground.data }, { on := 16, ground := Ground.guard }], guard := some (16, false) }) (v := undef) rfl (by kernel_rfl) (by kernel_rfl) (by kernel_rfl) (fun _ _ _ h => h) (Or.inr ⟨by rfl, rfl⟩) (by assumption) ?_
              try simp only [Act.put, List.setIfInBounds_toArray, List.set_cons_zero, List.set_cons_succ]
              refine wpAnyH_take (i := 20) (oi := { dst := some 46, op := Op.fieldAddr 48 (Operand.tmp 45) 0, type := 0, pos := "ref.go:138", after := #[{ on := 19, ground := Ground.data }, { on := 16, ground := Ground.guard }], guard := some (16, false) }) (v := undef) rfl (by kernel_rfl) (by kernel_rfl) (by kernel_rfl) (fun _ _ _ h => h) (Or.inr ⟨by rfl, rfl⟩) (by assumption) ?_
              try simp only [Act.put, List.setIfInBounds_toArray, List.set_cons_zero, List.set_cons_succ]
              refine wpAnyH_take (i := 21) (oi := { dst := some 47, op := Op.load 9 (Operand.tmp 46), type := 9, pos := "ref.go:138", after := #[{ on := 20, ground := Ground.data }, { on := 16, ground := Ground.guard }], guard := some (16, false) }) (v := undef) rfl (by kernel_rfl) (by kernel_rfl) (by kernel_rfl) (fun _ _ _ h => h) (Or.inr ⟨by rfl, rfl⟩) (by assumption) ?_
              try simp only [Act.put, List.setIfInBounds_toArray, List.set_cons_zero, List.set_cons_succ]
              refine wpAnyH_take (i := 22) (oi := { dst := some 48, op := Op.binOp BinOp.neq 9 (Operand.tmp 47) (Operand.const (Value.string { data := #[] })) 9, type := 4, pos := "ref.go:138", after := #[{ on := 21, ground := Ground.data }, { on := 16, ground := Ground.guard }], guard := some (16, false) }) (v := undef) rfl (by kernel_rfl) (by kernel_rfl) (by kernel_rfl) (fun _ _ _ h => h) (Or.inr ⟨by rfl, rfl⟩) (by assumption) ?_
              try simp only [Act.put, List.setIfInBounds_toArray, List.set_cons_zero, List.set_cons_succ]
              refine wpAnyH_take (i := 23) (oi := { dst := some 49, op := Op.move (Operand.tmp 48), type := 4, pos := "ref.go:138", after := #[{ on := 22, ground := Ground.data }, { on := 16, ground := Ground.chain }, { on := 16, ground := Ground.guard }], guard := some (16, false) }) (v := undef) rfl (by kernel_rfl) (by kernel_rfl) (by kernel_rfl) (fun _ _ _ h => h) (Or.inr ⟨by rfl, rfl⟩) (by assumption) ?_
              try simp only [Act.put, List.setIfInBounds_toArray, List.set_cons_zero, List.set_cons_succ]
              refine wpAnyH_take (i := 24) (oi := { dst := some 50, op := Op.fieldAddr 25 (Operand.tmp 1) 1, type := 0, pos := "ref.go:138", after := #[{ on := 23, ground := Ground.guard }], guard := some (23, true) }) (v := undef) rfl (by kernel_rfl) (by kernel_rfl) (by kernel_rfl) (fun _ _ _ h => h) (Or.inr ⟨by rfl, rfl⟩) (by assumption) ?_
              try simp only [Act.put, List.setIfInBounds_toArray, List.set_cons_zero, List.set_cons_succ]
              refine wpAnyH_take (i := 25) (oi := { dst := some 51, op := Op.load 22 (Operand.tmp 50), type := 22, pos := "ref.go:138", after := #[{ on := 24, ground := Ground.data }, { on := 23, ground := Ground.guard }], guard := some (23, true) }) (v := undef) rfl (by kernel_rfl) (by kernel_rfl) (by kernel_rfl) (fun _ _ _ h => h) (Or.inr ⟨by rfl, rfl⟩) (by assumption) ?_
              try simp only [Act.put, List.setIfInBounds_toArray, List.set_cons_zero, List.set_cons_succ]
              refine wpAnyH_take (i := 26) (oi := { dst := some 52, op := Op.move (Operand.tmp 4), type := 45, pos := "ref.go:138", after := #[{ on := 23, ground := Ground.guard }], guard := some (23, true) }) (v := undef) rfl (by kernel_rfl) (by kernel_rfl) (by kernel_rfl) (fun _ _ _ h => h) (Or.inr ⟨by rfl, rfl⟩) (by assumption) ?_
              try simp only [Act.put, List.setIfInBounds_toArray, List.set_cons_zero, List.set_cons_succ]
              refine wpAnyH_take (i := 27) (oi := { dst := some 53, op := Op.move (Operand.tmp 5), type := 3, pos := "ref.go:138", after := #[{ on := 23, ground := Ground.guard }], guard := some (23, true) }) (v := undef) rfl (by kernel_rfl) (by kernel_rfl) (by kernel_rfl) (fun _ _ _ h => h) (Or.inr ⟨by rfl, rfl⟩) (by assumption) ?_
              try simp only [Act.put, List.setIfInBounds_toArray, List.set_cons_zero, List.set_cons_succ]
              refine wpAnyH_take (i := 28) (oi := { dst := some 54, op := Op.indexAddr 45 (Operand.tmp 52) (Operand.tmp 53), type := 0, pos := "ref.go:138", after := #[{ on := 26, ground := Ground.data }, { on := 27, ground := Ground.data }, { on := 23, ground := Ground.guard }], guard := some (23, true) }) (v := undef) rfl (by kernel_rfl) (by kernel_rfl) (by kernel_rfl) (fun _ _ _ h => h) (Or.inr ⟨by rfl, rfl⟩) (by assumption) ?_
              try simp only [Act.put, List.setIfInBounds_toArray, List.set_cons_zero, List.set_cons_succ]
              refine wpAnyH_take (i := 29) (oi := { dst := some 55, op := Op.fieldAddr 48 (Operand.tmp 54) 0, type := 0, pos := "ref.go:138", after := #[{ on := 28, ground := Ground.data }, { on := 23, ground := Ground.guard }], guard := some (23, true) }) (v := undef) rfl (by kernel_rfl) (by kernel_rfl) (by kernel_rfl) (fun _ _ _ h => h) (Or.inr ⟨by rfl, rfl⟩) (by assumption) ?_
              try simp only [Act.put, List.setIfInBounds_toArray, List.set_cons_zero, List.set_cons_succ]
              refine wpAnyH_take (i := 30) (oi := { dst := some 56, op := Op.load 9 (Operand.tmp 55), type := 9, pos := "ref.go:138", after := #[{ on := 29, ground := Ground.data }, { on := 23, ground := Ground.guard }], guard := some (23, true) }) (v := undef) rfl (by kernel_rfl) (by kernel_rfl) (by kernel_rfl) (fun _ _ _ h => h) (Or.inr ⟨by rfl, rfl⟩) (by assumption) ?_
              try simp only [Act.put, List.setIfInBounds_toArray, List.set_cons_zero, List.set_cons_succ]
              refine wpAnyH_take (i := 31) (oi := { dst := some 57, op := Op.call { callee := Callee.value (Operand.func 135), args := #[Operand.tmp 51, Operand.tmp 56], argTypes := #[22, 9] }, type := 4, pos := "ref.go:138", after := #[{ on := 25, ground := Ground.data }, { on := 30, ground := Ground.data }, { on := 23, ground := Ground.chain }, { on := 23, ground := Ground.guard }], guard := some (23, true) }) (v := undef) rfl (by kernel_rfl) (by kernel_rfl) (by kernel_rfl) (fun _ _ _ h => h) (Or.inr ⟨by rfl, rfl⟩) (by assumption) ?_
              try simp only [Act.put, List.setIfInBounds_toArray, List.set_cons_zero, List.set_cons_succ]
              refine wpAnyH_take (i := 32) (oi := { dst := some 58, op := Op.unOp UnOp.not 4 (Operand.tmp 57), type := 4, pos := "ref.go:138", after := #[{ on := 31, ground := Ground.data }, { on := 23, ground := Ground.guard }], guard := some (23, true) }) (v := undef) rfl (by kernel_rfl) (by kernel_rfl) (by kernel_rfl) (fun _ _ _ h => h) (Or.inr ⟨by rfl, rfl⟩) (by assumption) ?_
              try simp only [Act.put, List.setIfInBounds_toArray, List.set_cons_zero, List.set_cons_succ]
              refine wpAnyH_take (i := 33) (oi := { dst := some 59, op := Op.pick (Operand.tmp 49) (Operand.tmp 58) (Operand.const (Value.bool false)), type := 4, pos := "ref.go:138", after := #[{ on := 23, ground := Ground.data }, { on := 32, ground := Ground.data }, { on := 16, ground := Ground.guard }], guard := some (16, false) }) (v := undef) rfl (by kernel_rfl) (by kernel_rfl) (by kernel_rfl) (fun _ _ _ h => h) (Or.inr ⟨by rfl, rfl⟩) (by assumption) ?_
              try simp only [Act.put, List.setIfInBounds_toArray, List.set_cons_zero, List.set_cons_succ]
              refine wpAnyH_take (i := 34) (oi := { dst := some 60, op := Op.pick (Operand.tmp 42) (Operand.const (Value.bool true)) (Operand.tmp 59), type := 4, pos := "ref.go:138", after := #[{ on := 16, ground := Ground.data }, { on := 33, ground := Ground.data }], guard := none }) (v := ?v42) rfl (by kernel_rfl) (by kernel_rfl) (by kernel_rfl) (fun _ _ _ h => h) (Or.inl ⟨by rfl, ?hy42⟩) (by assumption) ?_
              case hy42 => (intro w hSw; (try dsimp only at hSw); first | (go_simp; done) | (go_simp; with_reducible rfl))
              try simp only [Act.put, List.setIfInBounds_toArray, List.set_cons_zero, List.set_cons_succ]
              refine wpAnyH_done (by kernel_rfl) ?_ _
              have HB3 := Lib.hid (And.intro (HGi'.out.2.2.1.trans (hbb.mono HGi'.out.2.2.1.size)) (HC.out _ (HGi'.out.2.2.2.trans (hbb.mono HGi'.out.2.2.2.size))).1)
              clear hb3 hbb hHeld3
              go_wp2
              have hEf := HY.out (HYi.out HOK.out)
              go_ret
              exact ⟨by rw [hEf]; rfl, HB3.out.2⟩
          | false =>
            have he2 : (ya.toList == []) = false := by simpa using hem
            obtain ⟨hb21, Hb21⟩ : ∃ q, Hid (hasS uses ya = q) := ⟨_, Lib.hid rfl⟩
            have HOK := Lib.hid (show refOK ids uses (ya, yi) = hb21 by rw [← Hb21.out]; simp [refOK, hem])
            rw [Hb21.out] at HH21
            clear HH28
            have HH21q : Hid (∀ q, Calls Tryz.prog 135 #[.slice uA NU uc, .string ya] (wr.drewN q) fun e w' => e = .returned (.bool hb21) ∧ w' = wr.drewN q) := fun q => (HH21.out _ (below_drewN' (Below.refl _ _) q)).mono fun _ _ ⟨h1, h2⟩ => ⟨h1, h2.symm⟩
            obtain ⟨a0, a1, a2, a3, a4⟩ := HSX.out wr (Below.refl _ _)
            clear HH21
            cases hb21
            all_goals (
              go_wp2_with fail
              go_quiet ((go_at_call 135; exact Calls.quiet_of_same (HH21q.out _)))
              have HB3 := Lib.hid (And.intro (below_drewN' HGi'.out.2.2.1 nq) (below_drewN' (HC.out _ HGi'.out.2.2.2).1 nq))
              go_wp2
              first
                | (go_roundg (NL - (i + 1))
                   case measure => rw [HGi'.out.1]; omega
                   case rel => exact ⟨i + 1, rfl, by omega, by go_num, by rw [HTi.out, HOK.out], HB3.out.1⟩)
                | (have hEf := HY.out (HYi.out HOK.out)
                   go_ret
                   exact ⟨by rw [hEf]; rfl, HB3.out.2⟩))
        · obtain rfl : i = NL := by omega
          have HR := Lib.hid (show L.all (refOK ids uses) = true by
            have h := HGi'.out.2.1
            rwa [List.take_of_length_le (by rw [HNL.out]; omega)] at h)
          go_wp2
          go_roundg (N - (j + 1))
          case measure => rw [HG'.out.1]; omega
          case rel => exact ⟨j + 1, rfl, by omega, by go_num, HT.out.trans HR.out, HGi'.out.2.2.2⟩
    · have HR := Lib.hid (show E = true by
        have h := HG'.out.2.1
        rw [List.take_of_length_le (by rw [HN.out]; omega)] at h
        rw [← HE2.out, h])
      have hjn : N ≤ j := by omega
      clear hsd
      go_wp2
      go_ret
      exact ⟨by rw [HR.out]; rfl, HBw.out⟩
end Go.Proofs.YtlcfoiapkblheaaGreatDoor
/- ref28.Module: words -/
namespace Go.Proofs.YtlcfoiapkblheaaGreatDoor
open Go.RowKit Go.Proofs Go.Shelf

theorem knC_of {k : Int} {n m : ByteArray} {i d : Int} {len : Nat} (h : nodeE k n m i d len = 0) (h15 : (k == 15) = false) (h4 : (k == 4) = false) : knC k len := by
  have hl := err_len h
  by_cases hk : knownZ k
  · unfold knownZ at hk
    rcases hk with rfl | rfl | rfl | rfl | rfl | rfl | rfl | rfl | rfl | rfl | rfl | rfl | rfl | rfl | rfl
    all_goals first
      | (simp at h4; done)
      | (simp at h15; done)
      | (simp [shapeZ] at hl; unfold knC; omega)
  · exfalso
    unfold nodeE at h
    rw [shapeZ_no hk] at h
    simp at h
theorem Fo.kn_of : ∀ f : Fo, (∀ y ∈ f.vis, y.err = 0) → f.sum = false → f.vis.any (fun y => y.k == 4) = false → f.Kn
  | .nil, _, _, _ => trivial
  | .cons k n m i d A c s r, h, hs, h4 => by
    simp only [Fo.vis, List.mem_append, List.mem_cons] at h
    simp only [Fo.sum, Bool.or_eq_false_iff] at hs
    simp only [Fo.vis, List.any_append, List.any_cons, Bool.or_eq_false_iff] at h4
    exact ⟨knC_of (h ⟨0, k, n, m, i, d, A, s.len, c⟩ (.inr (.inl rfl))) hs.1.1 h4.2.1, s.kn_of (fun y hy => h y (.inr (.inr hy))) hs.1.2 h4.2.2, r.kn_of (fun y hy => h y (.inl hy)) hs.2 h4.1⟩
theorem dc_kn {label : ByteArray} {x : Dc} (hv : DcV label x) (hs : (x.k == 15 || x.s.sum) = false) : knC x.k x.s.len ∧ x.s.Kn := by
  have h : x.body.Kn := Fo.kn_of _ hv.err (by simpa [Dc.body, Fo.sum] using hs) hv.nodot
  exact ⟨h.1, h.2.1⟩
/-- A declaration's blocks as the reference makes them. -/
theorem dc_rblk {label : ByteArray} {x : Dc} (hv : DcV label x) (hs : (x.k == 15 || x.s.sum) = false) (ix : Nat) : blkOf (x.comp label) [] 0 false ix = rBlk (x.rcomp label) [] 0 false ix := by
  obtain ⟨h1, h2⟩ := dc_gd hv hs
  have hc := hv.cnt
  exact (nodeC_rel label x.k x.n x.m x.i x.d x.A x.c x.s h1 (by omega) (Fo.comp_rel label x.s h2 (by omega))).blk (by omega) [] hv.nofree 0 false ix
theorem short_of : ∀ s : Fo, s.longB = false → s.Short
  | .nil, _ => trivial
  | .cons _ n m _ _ _ _ s r, h => by
    simp only [Fo.longB, Bool.or_eq_false_iff, decide_eq_false_iff_not] at h
    exact ⟨⟨by omega, by omega⟩, short_of s h.1.2, short_of r h.2⟩
/-- What a module is like that is not great. -/
theorem small_mod {label : ByteArray} {uses : List ByteArray} {decls : List Dc} (hg : greatM label uses decls = false) (hc : ∀ x ∈ decls, x.s.count ≤ 2000000) : ModS label uses decls ∧ ∀ x ∈ decls, x.s.count ≤ 39 := by
  simp only [greatM, greatU, greatD, Bool.or_eq_false_iff, decide_eq_false_iff_not, List.any_eq_false] at hg
  obtain ⟨⟨h1, _, h2⟩, _, h3⟩ := hg
  have hx : ∀ x ∈ decls, x.Sht ∧ x.s.count ≤ 39 := fun x hx => by
    have h := h3 x hx
    simp only [greatD1, greatE, greatN, Bool.or_eq_true, not_or, decide_eq_true_eq, List.any_eq_true, not_exists, not_and, Bool.not_eq_true] at h
    obtain ⟨⟨_, hn, hl⟩, hnm⟩ := h
    have hcx := hc x hx
    have hw : wrap64 (1 + (x.s.count : Int)) = 1 + x.s.count := wrap64_small (by omega) (by omega)
    rw [hw] at hn
    obtain ⟨⟨hl1, hl2⟩, hl3⟩ := hl
    refine ⟨⟨⟨by omega, by omega⟩, short_of x.s hl3, by omega, fun s hs => ?_⟩, by omega⟩
    have := hnm s hs
    omega
  refine ⟨⟨by omega, fun s hs => ?_, fun x h => (hx x h).1⟩, fun x h => (hx x h).2⟩
  have := h2 s hs
  simp only [decide_eq_true_eq] at this
  omega

/-- The code under way. -/
def MdS (n₀ cb : Nat) (label : ByteArray) (bl : List Blk) (ds : List (Int × Int × Nat)) (bv dv : Value) (X : World) : Prop :=
  X.heap[cb]? = some (.cells #[.string label, bv, dv] 31 (0, 0)) ∧ BkAt n₀ X bv bl ∧ X.ownsRow n₀ 80 3 dv ds.length (cdC ds)
theorem MdS.below {n₀ cb : Nat} {label : ByteArray} {bl : List Blk} {ds : List (Int × Int × Nat)} {bv dv : Value} {X Y : World} (h : MdS n₀ cb label bl ds bv dv X) (hb : Below X.heap.size X Y) : MdS n₀ cb label bl ds bv dv Y :=
  ⟨(hb.block _ (lt_of_block h.1)).trans h.1, h.2.1.below hb, own_keep h.2.2 fun k _ _ hk => hb.block k (lt_of_block hk)⟩
theorem BkAt.keep {n₀ : Nat} {X Y : World} {bv : Value} {bl : List Blk} (h : BkAt n₀ X bv bl) (hk : ∀ (k : Nat) (cur : Array Value) (t : TypeId) (fz : Nat × Nat), X.heap[k]? = some (.cells cur t fz) → (t = 52 ∨ t = 90) → Y.heap[k]? = X.heap[k]?) : BkAt n₀ Y bv bl := by
  obtain ⟨BS, h1, h2⟩ := h
  exact ⟨BS, own_keep h1 fun k cur fz hc => hk k cur _ fz hc (.inl rfl), h2.keep fun k cur fz _ hc => hk k cur _ fz hc (.inr rfl)⟩
/-- The new blocks are written into the code. -/
theorem ms_blocks {n₀ cb : Nat} {label : ByteArray} {bl' : List Blk} {ds : List (Int × Int × Nat)} {bv dv bv' : Value} {X : World} (h1 : X.heap[cb]? = some (.cells #[.string label, bv, dv] 31 (0, 0))) (h2 : BkAt n₀ X bv' bl') (h3 : X.ownsRow n₀ 80 3 dv ds.length (cdC ds)) :
    MdS n₀ cb label bl' ds bv' dv (X.setCell ⟨cb, 1, none⟩ bv') := by
  have hset : ∀ (k : Nat) (cur : Array Value) (t : TypeId) (fz : Nat × Nat), X.heap[k]? = some (.cells cur t fz) → t ≠ 31 → (X.setCell ⟨cb, 1, none⟩ bv').heap[k]? = X.heap[k]? := fun k cur t fz hc ht => Below.heap_setCell _ _ _ _ (tag_ne hc h1 ht)
  refine ⟨?_, h2.keep fun k cur t fz hc ht => hset k cur t fz hc (by rcases ht with rfl | rfl <;> decide), own_keep h3 fun k cur fz hc => hset k cur _ fz hc (by decide)⟩
  rw [heap_setCell_same X cb 1 _ 31 bv' h1]
  rfl
/-- The new declaration is written into the code. -/
theorem ms_decl {n₀ cb N : Nat} {label : ByteArray} {bl : List Blk} {ds : List (Int × Int × Nat)} {bv dv v : Value} {X Z : World} (h : MdS n₀ cb label bl ds bv dv X) (hg : X.grownBy Z dv.ownBlock) {x : Int × Int × Nat} (hN : ds.length + 1 = N)
    (hw : Z.ownsRow n₀ 80 3 v N (cdC ds ++ [.int .i64 x.1, .int .i64 x.2.1, .int .i64 x.2.2])) : MdS n₀ cb label bl (ds ++ [x]) bv v (Z.setCell ⟨cb, 2, none⟩ v) := by
  obtain ⟨h3, h1, h4⟩ := h
  have hne : ∀ (k : Nat) (cur : Array Value) (t : TypeId) (fz : Nat × Nat), X.heap[k]? = some (.cells cur t fz) → 80 ≠ t → Z.heap[k]? = X.heap[k]? := fun k cur t fz hk ht => hg.block k (lt_of_block hk) fun e => own_ne h4 hk ht e.symm
  have h5 := (hne cb _ _ _ h3 (by decide)).trans h3
  have hset : ∀ k, k ≠ cb → (Z.setCell ⟨cb, 2, none⟩ v).heap[k]? = Z.heap[k]? := fun k hk => Below.heap_setCell _ _ _ _ hk
  refine ⟨?_, h1.keep fun k cur t fz hc ht => ?_, ?_⟩
  · rw [heap_setCell_same Z cb 2 _ 31 v h5]
    rfl
  · refine (hset k (tag_ne hc h3 ?_)).trans (hne k _ _ _ hc ?_)
    · rcases ht with rfl | rfl <;> decide
    · rcases ht with rfl | rfl <;> decide
  · rw [List.length_append, cdC_append, show ds.length + [x].length = N from hN]
    exact own_keep hw fun k cur fz hc => hset k (tag_ne hc h5 (by decide))
theorem ms_cb {n₀ cb : Nat} {label : ByteArray} {bl : List Blk} {ds : List (Int × Int × Nat)} {bv dv : Value} {X Z : World} (h : MdS n₀ cb label bl ds bv dv X) (hg : X.grownBy Z dv.ownBlock) : Z.heap[cb]? = some (.cells #[.string label, bv, dv] 31 (0, 0)) :=
  (hg.block cb (lt_of_block h.1) fun e => own_ne h.2.2 h.1 (by decide) e.symm).trans h.1
theorem ms_end {n₀ cb rb : Nat} {label : ByteArray} {bl : List Blk} {ds : List (Int × Int × Nat)} {dv bv a b c : Value} {cur : Array Value} {fz : Nat × Nat} {X : World} (h : MdS n₀ cb label bl ds bv dv X) (hr : X.heap[rb]? = some (.cells cur 31 fz)) :
    BlocksAt (((X.setCell ⟨rb, 0, none⟩ a).setCell ⟨rb, 1, none⟩ b).setCell ⟨rb, 2, none⟩ c) bv bl ∧ CdAt (((X.setCell ⟨rb, 0, none⟩ a).setCell ⟨rb, 1, none⟩ b).setCell ⟨rb, 2, none⟩ c) dv ds := by
  have hk : ∀ (k : Nat) (cu : Array Value) (t : TypeId) (f : Nat × Nat), X.heap[k]? = some (.cells cu t f) → t ≠ 31 → (((X.setCell ⟨rb, 0, none⟩ a).setCell ⟨rb, 1, none⟩ b).setCell ⟨rb, 2, none⟩ c).heap[k]? = X.heap[k]? := fun k cu t f hc ht => by
    have h2 := tag_ne hc hr ht
    rw [Below.heap_setCell _ _ _ _ h2, Below.heap_setCell _ _ _ _ h2, Below.heap_setCell _ _ _ _ h2]
  exact ⟨(h.2.1.keep fun k cu t f hc ht => hk k cu t f hc (by rcases ht with rfl | rfl <;> decide)).blocks, n₀, own_keep h.2.2 fun k cu f hc => hk k cu _ f hc (by decide)⟩
/-- What Module hands back. -/
def ModQ (label : ByteArray) (uses : List ByteArray) (decls : List Dc) (w : World) (e : Ending) (w' : World) : Prop :=
  ∃ lb bv dv, e = .returned (.tuple #[.agg #[.string lb, bv, dv], .int .i64 (modE label uses decls)]) ∧ Below w.heap.size w w' ∧
    ((modE label uses decls = 0 ∧ lb = label ∧ BlocksAt w' bv (modGo label 0 decls).1 ∧ CdAt w' dv (modGo label 0 decls).2) ∨ (modE label uses decls ≠ 0 ∧ lb = ⟨#[]⟩ ∧ bv = .slice none 0 0 ∧ dv = .slice none 0 0))
/-- The round over one declaration: what it needs and leaves. -/
def MrR (n₀ cb : Nat) (label : ByteArray) (decls : List Dc) (w : World) (N g : Nat) (ct : Value) (wr : World) : Prop :=
  ∃ (j : Nat) (bl : List Blk) (ds : List (Int × Int × Nat)) (bv dv : Value), g = N - j ∧ j ≤ N ∧ ct = .int .i64 j ∧ ds.length = j ∧
    modGo label 0 decls = (bl ++ (modGo label bl.length (decls.drop j)).1, ds ++ (modGo label bl.length (decls.drop j)).2) ∧ MdS n₀ cb label bl ds bv dv wr ∧ Below n₀ w wr
end Go.Proofs.YtlcfoiapkblheaaGreatDoor
