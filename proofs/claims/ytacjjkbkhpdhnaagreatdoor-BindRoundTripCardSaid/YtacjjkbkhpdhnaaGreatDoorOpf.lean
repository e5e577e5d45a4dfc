/- A source and interfaces that came in (printed by gen_opf.py) -/
import Derived.Test.YtacjjkbkhpdhnaaGreatDoorZln
import Derived.Test.YtacjjkbkhpdhnaaGreatDoorZpl
import Derived.Test.YtacjjkbkhpdhnaaGreatDoorZpe
namespace Go.Proofs.YtacjjkbkhpdhnaaGreatDoor
open Go.RowKit Go.Proofs Go.ChangeShapes Go.WideShapes Go.Joins

theorem Tryz.cellsSig : Tryz.prog.cellsOf 100 = 6 := by kernel_rfl
theorem Tryz.cellsScheme : Tryz.prog.cellsOf 98 = 4 := by kernel_rfl
theorem Tryz.cellsType : Tryz.prog.cellsOf 96 = 3 := by kernel_rfl
theorem Tryz.cellsTypes : Tryz.prog.cellsOf 94 = 1 := by kernel_rfl
theorem Tryz.cellsSigs : Tryz.prog.cellsOf 53 = 1 := by kernel_rfl
theorem Tryz.cellsInterface : Tryz.prog.cellsOf 55 = 2 := by kernel_rfl
theorem Tryz.cellsSource : Tryz.prog.cellsOf 40 = 2 := by kernel_rfl
section
variable {H : Type} {enc : TypeId × Value → H} {W : World}
/-- The cells of a signature that came in. -/
theorem trod_sig {fuel : Nat} {cs : List Value} {x : DataW H × List MemPlace} (h : DataW.trod enc Tryz.prog W 0 (fun _ => true) true fuel 100 cs = some x) (hcs : cs.length = 6) :
    ∃ d : Sg, cs = d.cells.toList := by
  match cs, hcs with
  | [c0, c1, c2, c3, c4, c5], _ =>
    obtain ⟨_, _, _, h0⟩ := trod_fields Tryz.underlying100 h 0 _ rfl 3 0 1 rfl rfl Tryz.cellsInt
    obtain ⟨_, _, _, h1⟩ := trod_fields Tryz.underlying100 h 1 _ rfl 9 1 1 rfl rfl Tryz.cellsString
    obtain ⟨_, _, _, h2⟩ := trod_fields Tryz.underlying100 h 2 _ rfl 98 2 4 rfl rfl Tryz.cellsScheme
    simp only [List.drop_succ_cons, List.drop_zero, List.take_succ_cons, List.take_zero] at h0 h1 h2
    obtain ⟨_, _, _, g0⟩ := trod_fields Tryz.underlying98 h2 0 _ rfl 3 0 1 rfl rfl Tryz.cellsInt
    obtain ⟨_, _, _, g1⟩ := trod_fields Tryz.underlying98 h2 1 _ rfl 96 1 3 rfl rfl Tryz.cellsType
    simp only [List.drop_succ_cons, List.drop_zero, List.take_succ_cons, List.take_zero] at g0 g1
    obtain ⟨_, _, _, k0⟩ := trod_fields Tryz.underlying96 g1 0 _ rfl 3 0 1 rfl rfl Tryz.cellsInt
    obtain ⟨_, _, _, k1⟩ := trod_fields Tryz.underlying96 g1 1 _ rfl 3 1 1 rfl rfl Tryz.cellsInt
    obtain ⟨_, _, _, k2⟩ := trod_fields Tryz.underlying96 g1 2 _ rfl 94 2 1 rfl rfl Tryz.cellsTypes
    simp only [List.drop_succ_cons, List.drop_zero, List.take_succ_cons, List.take_zero] at k0 k1 k2
    obtain ⟨id, e0, _⟩ := DataW.trod_int Tryz.underlying3 h0
    obtain ⟨nm, e1, _⟩ := DataW.trod_string Tryz.underlying9 h1
    obtain ⟨vars, e2, _⟩ := DataW.trod_int Tryz.underlying3 g0
    obtain ⟨kind, e3, _⟩ := DataW.trod_int Tryz.underlying3 k0
    obtain ⟨var, e4, _⟩ := DataW.trod_int Tryz.underlying3 k1
    obtain ⟨tA, tn, tc, e5⟩ : ∃ A n c, c5 = .slice A n c := by
      rcases DataW.trod_slice Tryz.underlying94 k2 with ⟨e, _⟩ | ⟨a, len, cap, _, _, _, _, e, _⟩
      · simp only [List.cons.injEq, and_true] at e
        exact ⟨_, _, _, e⟩
      · simp only [List.cons.injEq, and_true] at e
        exact ⟨_, _, _, e⟩
    simp only [List.cons.injEq, and_true] at e0 e1 e2 e3 e4
    subst e0 e1 e2 e3 e4 e5
    exact ⟨⟨id, nm, vars, kind, var, tA, tn, tc⟩, rfl⟩
/-- A slice of signatures that came in. -/
theorem trod_sigs {fuel : Nat} {v : Value} {x : DataW H × List MemPlace} (h : DataW.trod enc Tryz.prog W 0 (fun _ => true) true fuel 53 [v] = some x) :
    ∃ A l c, v = .slice A (List.length l) c ∧ SlG W W.heap.size A c l := by
  rcases DataW.trod_slice Tryz.underlying53 h with ⟨h0, _⟩ | ⟨a, len, cap, elems, rest, n, rfl, h0, _, _, hl, hm, hlen, hel, _, _⟩
  · simp only [List.cons.injEq, and_true] at h0
    exact ⟨none, [], 0, h0, ⟨by simp, by simp [maxLen], fun h => absurd rfl h⟩⟩
  · simp only [List.cons.injEq, and_true] at h0
    subst h0
    rw [Tryz.cellsSig] at hel
    have hall : ∀ i, i < len → ∃ d : Sg, (∀ q v, d.cells[q]? = some v → W.cell? ⟨a.block, a.off + i * 6 + q, none⟩ = some v) := by
      intro i hi
      have h1 := (hel i hi).trans (List.getElem?_eq_getElem (by omega))
      obtain ⟨cs, hc, h2⟩ := Option.bind_eq_some_iff.1 h1
      obtain ⟨_, hcl, hcell⟩ := World.cells?_some hc
      obtain ⟨d, hd⟩ := trod_sig h2 hcl
      refine ⟨d, fun q v hq => ?_⟩
      have hq' : q < 6 := (Array.getElem?_eq_some_iff.1 hq).1
      have h3 := hcell q hq'
      rw [hd, Array.getElem?_toList, hq, add_add'] at h3
      rw [add_none h3] at h3
      rw [Nat.add_assoc]
      exact h3
    obtain ⟨l, hll, hP⟩ := list_of len hall
    refine ⟨some a, l, cap, by rw [hll], ⟨by omega, hm, fun hne => ?_⟩⟩
    have hpos : 0 < len := by
      rcases Nat.eq_zero_or_pos len with h | h
      · rw [h] at hll; exact absurd (List.length_eq_zero_iff.1 hll) hne
      · exact h
    obtain ⟨d0, h0⟩ := hall 0 hpos
    have h00 := h0 0 _ rfl
    have h1 := (hel 0 hpos).trans (List.getElem?_eq_getElem (by omega))
    obtain ⟨cs, hc, h2⟩ := Option.bind_eq_some_iff.1 h1
    obtain ⟨_, hcl, hcell⟩ := World.cells?_some hc
    have h3 := hcell 0 (by omega)
    rw [add_add', List.getElem?_eq_getElem (by omega)] at h3
    have h4 := add_none h3
    simp [Addr.add] at h4
    exact ⟨a.block, a.off, by rw [← h4], World.block_lt_of_cell? W ⟨a.block, a.off + 0 * 6 + 0, none⟩ h00, fun j x hj => (hP j x hj)⟩
/-- The cells of an interface that came in. -/
theorem trod_iface {fuel : Nat} {cs : List Value} {x : DataW H × List MemPlace} (h : DataW.trod enc Tryz.prog W 0 (fun _ => true) true fuel 55 cs = some x) (hcs : cs.length = 2) :
    ∃ d : If, cs = d.cells.toList ∧ SlG W W.heap.size d.sA d.sc d.sigs := by
  match cs, hcs with
  | [c0, c1], _ =>
    obtain ⟨_, _, _, h0⟩ := trod_fields Tryz.underlying55 h 0 _ rfl 9 0 1 rfl rfl Tryz.cellsString
    obtain ⟨_, _, _, h1⟩ := trod_fields Tryz.underlying55 h 1 _ rfl 53 1 1 rfl rfl Tryz.cellsSigs
    simp only [List.drop_succ_cons, List.drop_zero, List.take_succ_cons, List.take_zero] at h0 h1
    obtain ⟨lb, e0, _⟩ := DataW.trod_string Tryz.underlying9 h0
    obtain ⟨A, l, c, e1, hl⟩ := trod_sigs h1
    simp only [List.cons.injEq, and_true] at e0
    subst e0 e1
    exact ⟨⟨lb, A, c, l⟩, rfl, hl⟩
/-- A slice of interfaces that came in. -/
theorem trod_ifaces {fuel : Nat} {v : Value} {x : DataW H × List MemPlace} (h : DataW.trod enc Tryz.prog W 0 (fun _ => true) true fuel 41 [v] = some x) :
    ∃ A l c, v = .slice A (List.length l) c ∧ SlI W W.heap.size A c l := by
  rcases DataW.trod_slice Tryz.underlying41 h with ⟨h0, _⟩ | ⟨a, len, cap, elems, rest, n, rfl, h0, _, _, hl, hm, hlen, hel, _, _⟩
  · simp only [List.cons.injEq, and_true] at h0
    exact ⟨none, [], 0, h0, ⟨by simp, by simp [maxLen], fun h => absurd rfl h⟩⟩
  · simp only [List.cons.injEq, and_true] at h0
    subst h0
    rw [Tryz.cellsInterface] at hel
    have hall : ∀ i, i < len → ∃ d : If, (∀ q v, d.cells[q]? = some v → W.cell? ⟨a.block, a.off + i * 2 + q, none⟩ = some v) ∧ SlG W W.heap.size d.sA d.sc d.sigs := by
      intro i hi
      have h1 := (hel i hi).trans (List.getElem?_eq_getElem (by omega))
      obtain ⟨cs, hc, h2⟩ := Option.bind_eq_some_iff.1 h1
      obtain ⟨_, hcl, hcell⟩ := World.cells?_some hc
      obtain ⟨d, hd, hok⟩ := trod_iface h2 hcl
      refine ⟨d, fun q v hq => ?_, hok⟩
      have hq' : q < 2 := (Array.getElem?_eq_some_iff.1 hq).1
      have h3 := hcell q hq'
      rw [hd, Array.getElem?_toList, hq, add_add'] at h3
      rw [add_none h3] at h3
      rw [Nat.add_assoc]
      exact h3
    obtain ⟨l, hll, hP⟩ := list_of len hall
    refine ⟨some a, l, cap, by rw [hll], ⟨by omega, hm, fun hne => ?_⟩⟩
    have hpos : 0 < len := by
      rcases Nat.eq_zero_or_pos len with h | h
      · rw [h] at hll; exact absurd (List.length_eq_zero_iff.1 hll) hne
      · exact h
    obtain ⟨d0, h0, _⟩ := hall 0 hpos
    have h00 := h0 0 _ rfl
    have h1 := (hel 0 hpos).trans (List.getElem?_eq_getElem (by omega))
    obtain ⟨cs, hc, h2⟩ := Option.bind_eq_some_iff.1 h1
    obtain ⟨_, hcl, hcell⟩ := World.cells?_some hc
    have h3 := hcell 0 (by omega)
    rw [add_add', List.getElem?_eq_getElem (by omega)] at h3
    have h4 := add_none h3
    simp [Addr.add] at h4
    exact ⟨a.block, a.off, by rw [← h4], World.block_lt_of_cell? W ⟨a.block, a.off + 0 * 2 + 0, none⟩ h00, fun j x hj => (hP j x hj)⟩
set_option maxRecDepth 100000 in
theorem open_ifaces {b0 : Nat} {v : Value} {d : DataW H} {p : List MemPlace} (_hv : Value.okWide Tryz.prog W .any b0 41 v) (h : DataW.Trod enc Tryz.prog W 0 (fun _ => true) true 41 v d p) :
    ∃ A l c, v = .slice A (List.length l) c ∧ SlI W W.heap.size A c l := by
  obtain ⟨fuel, h⟩ := h
  obtain ⟨A, n, c, rfl⟩ : ∃ A n c, v = .slice A n c := by
    obtain ⟨A, n, c, e⟩ := okWide_slice Tryz.underlying41 _hv
    exact ⟨A, n, c, e⟩
  simp only [Value.cells] at h
  exact trod_ifaces h
set_option maxRecDepth 100000 in
/-- A source that came in. -/
theorem open_source {b0 : Nat} {v : Value} {d : DataW H} {p : List MemPlace} (hv : Value.okWide Tryz.prog W .any b0 40 v) (h : DataW.Trod enc Tryz.prog W 0 (fun _ => true) true 40 v d p) :
    ∃ uA uses uc dA decls dc, v = .agg #[.slice uA (List.length uses) uc, .slice dA (List.length decls) dc] ∧ SlS W W.heap.size uA uc uses ∧ SlD W W.heap.size dA dc decls ∧ (∀ s ∈ uses, s.size ≤ maxLen) ∧ ∀ d ∈ decls, Dc.Str d := by
  obtain ⟨c0, c1, y0, y1, n, rfl, _, _, h0, h1⟩ := open_agg2 Tryz.underlying40 (by kernel_rfl) Tryz.cellsSource hv h
  obtain ⟨uA, uses, uc, e1, hu, hus⟩ := open_strs h0
  obtain ⟨dA, decls, dc, e2, hd, hds⟩ := open_decls h1
  subst e1 e2
  exact ⟨uA, uses, uc, dA, decls, dc, rfl, hu, hd, hus, hds⟩
set_option maxRecDepth 100000 in
theorem bulk_source {B : Nat} {uA dA : Option Addr} {un uc dc : Nat} {decls : List Dc} {d : DataW H} {p : List MemPlace} (hs : SlD W B dA dc decls) (h : DataW.Trod enc Tryz.prog W 0 (fun _ => true) true 40 (.agg #[.slice uA un uc, .slice dA decls.length dc]) d p) :
    ∀ x ∈ decls, x.s.count ≤ Rows.uptoBulk d := by
  obtain ⟨fuel, h⟩ := h
  obtain ⟨n, y, _, h1, h2⟩ := trod_fieldX Tryz.underlying40 h 1 _ rfl 23 1 1 rfl rfl Tryz.cellsDecls
  intro x hx
  have := bulk_decls hs h1 x hx
  simp only at h2
  omega
end
end Go.Proofs.YtacjjkbkhpdhnaaGreatDoor
