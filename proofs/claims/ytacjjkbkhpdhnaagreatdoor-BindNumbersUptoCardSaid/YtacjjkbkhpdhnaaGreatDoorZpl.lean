/- What came in bounds the number of nodes of the expressions in it -/
import Derived.Test.YtacjjkbkhpdhnaaGreatDoorZln
import Derived.Test.YtacjjkbkhpdhnaaGreatDoorRows
import Derived.Test.YtacjjkbkhpdhnaaGreatDoorZpe
namespace Go.Proofs.YtacjjkbkhpdhnaaGreatDoor
open Go.RowKit Go.Proofs Go.ChangeShapes Go.WideShapes Go.Joins
section
variable {H : Type} {enc : TypeId × Value → H} {W : World}
theorem bulk_part {d : DataW H} : ∀ {l : List (DataW H)}, d ∈ l → Rows.uptoBulk d ≤ Rows.uptoBulkAll l
  | [], h => by cases h
  | x :: r, h => by
    simp only [Rows.uptoBulkAll]
    rcases List.mem_cons.1 h with rfl | h
    · omega
    · have := bulk_part h; omega
theorem trod_fieldX {t : TypeId} {fs : Array Field} {fuel : Nat} {cs : List Value} {x : DataW H × List MemPlace} (ht : Tryz.prog.underlying t = some (.struct fs)) (h : DataW.trod enc Tryz.prog W 0 (fun _ => true) true fuel t cs = some x)
    (j : Nat) (f : Field) (hj : fs[j]? = some f) (ft : TypeId) (o c : Nat) (hft : f.type = ft) (ho : f.offset = o) (hc : Tryz.prog.cellsOf ft = c) : ∃ n y, n < fuel ∧ DataW.trod enc Tryz.prog W 0 (fun _ => true) true n ft ((cs.drop o).take c) = some y ∧ Rows.uptoBulk y.1 + 1 ≤ Rows.uptoBulk x.1 := by
  subst hft ho hc
  obtain ⟨xs, n, rfl, rfl, _, hl, hf⟩ := DataW.trod_struct ht h
  have := hf j f hj
  have hjl : j < fs.size := (Array.getElem?_eq_some_iff.1 hj).1
  refine ⟨n, _, by omega, this.trans (List.getElem?_eq_getElem (by omega)), ?_⟩
  have hm : (xs[j]'(by omega)).1 ∈ xs.map (·.1) := List.mem_map.2 ⟨_, List.getElem_mem _, rfl⟩
  have := bulk_part hm
  simp only [Rows.uptoBulk]
  omega
theorem trod_exprX {fuel : Nat} {cs : List Value} {x : DataW H × List MemPlace} (h : DataW.trod enc Tryz.prog W 0 (fun _ => true) true fuel 28 cs = some x) (hcs : cs.length = 6) {v : Value} (hv : cs[5]? = some v) :
    ∃ n' y, n' < fuel ∧ DataW.trod enc Tryz.prog W 0 (fun _ => true) true n' 26 [v] = some y ∧ Rows.uptoBulk y.1 + 1 ≤ Rows.uptoBulk x.1 := by
  match cs, hcs with
  | [c0, c1, c2, c3, c4, c5], _ =>
    simp at hv
    subst hv
    obtain ⟨n', y, hn', h5, hb⟩ := trod_fieldX Tryz.underlying28 h 5 _ rfl 26 5 1 rfl rfl Tryz.cellsExprs
    exact ⟨n', y, hn', h5, hb⟩
theorem bulk_exprs : ∀ (fuel : Nat) (s : Fo) (A : Option Addr) (c B : Nat) (x : DataW H × List MemPlace), Fo.Sl W B A c s → DataW.trod enc Tryz.prog W 0 (fun _ => true) true fuel 26 [.slice A s.len c] = some x → s.count ≤ Rows.uptoBulk x.1 := by
  intro fuel
  induction fuel using Nat.strongRecOn with
  | _ fuel ih =>
    intro s A c B x hs h
    rcases DataW.trod_slice Tryz.underlying26 h with ⟨h0, _⟩ | ⟨a, len, cap, elems, rest, n, hfu, h0, hx, _, hl, hm, hlen, hel, _, _⟩
    · simp only [List.cons.injEq, and_true, Value.slice.injEq] at h0
      obtain ⟨_, h1, _⟩ := h0
      cases s with
      | nil => simp [Fo.count]
      | cons => simp [Fo.len] at h1
    · simp only [List.cons.injEq, and_true, Value.slice.injEq] at h0
      obtain ⟨h1, h2, _⟩ := h0
      subst hfu hx
      rw [Tryz.cellsExpr] at hel
      by_cases hne : s = .nil
      · subst hne; simp [Fo.count]
      obtain ⟨b, o, hA, _, hat⟩ := hs.2.2 hne
      rw [hA] at h1
      simp only [Option.some.injEq] at h1
      subst h1
      have key : ∀ (r : Fo) (i : Nat), r.At W B b (o + i * 6) → i + r.len = len → r.count ≤ Rows.uptoBulkAll ((elems.drop i).map (·.1)) := by
        intro r
        induction r with
        | nil => intro i _ _; simp [Fo.count]
        | cons k n0 m0 ii d A' c' s' r' _ ihr =>
          intro i hat hi
          simp only [Fo.len] at hi
          obtain ⟨g0, g1, g2, g3, g4, ⟨g5, hsl⟩, hr⟩ := hat
          have hie : i < elems.length := by omega
          have e1 := (hel i (by omega)).trans (List.getElem?_eq_getElem hie)
          obtain ⟨cs, hc, e2⟩ := Option.bind_eq_some_iff.1 e1
          obtain ⟨_, hcl, hcell⟩ := World.cells?_some hc
          have e3 := hcell 5 (by omega)
          have ea : ((⟨b, o, none⟩ : Addr).add (i * 6)).add 5 = ⟨b, o + i * 6 + 5, none⟩ := by
            rw [add_add']
            unfold Addr.add
            rw [if_neg (by omega)]
            simp
            omega
          rw [ea, g5] at e3
          obtain ⟨n', y, hn', hy, hb⟩ := trod_exprX e2 hcl e3.symm
          have h6 := ih n' (by omega) s' A' c' B y hsl hy
          have h7 := ihr (i + 1) (by rw [show o + (i + 1) * 6 = o + i * 6 + 6 by omega]; exact hr) (by omega)
          rw [List.drop_eq_getElem_cons hie, List.map_cons]
          simp only [Rows.uptoBulkAll, Fo.count]
          omega
      have := key s 0 (by rw [Nat.zero_mul, Nat.add_zero]; exact hat) (by omega)
      simp only [List.drop_zero] at this
      simp only [Rows.uptoBulk]
      omega
theorem bulk_decl {fuel B : Nat} {d : Dc} {x : DataW H × List MemPlace} (h : DataW.trod enc Tryz.prog W 0 (fun _ => true) true fuel 63 d.cells.toList = some x) (hd : d.s.Sl W B d.A d.c) : d.s.count ≤ Rows.uptoBulk x.1 := by
  obtain ⟨n, y, _, h1, h2⟩ := trod_fieldX Tryz.underlying63 h 5 _ rfl 28 5 6 rfl rfl Tryz.cellsExpr
  obtain ⟨n', z, _, h3, h4⟩ := trod_exprX h1 rfl (v := .slice d.A d.s.len d.c) rfl
  have := bulk_exprs n' d.s d.A d.c B z hd h3
  omega
theorem bulk_decls {fuel B : Nat} {A : Option Addr} {c : Nat} {l : List Dc} {x : DataW H × List MemPlace} (hs : SlD W B A c l) (h : DataW.trod enc Tryz.prog W 0 (fun _ => true) true fuel 23 [.slice A l.length c] = some x) :
    ∀ d ∈ l, d.s.count ≤ Rows.uptoBulk x.1 := by
  intro d hd
  obtain ⟨i, hi⟩ := List.mem_iff_getElem?.1 hd
  have hil := (List.getElem?_eq_some_iff.1 hi).1
  rcases DataW.trod_slice Tryz.underlying23 h with ⟨h0, _⟩ | ⟨a, len, cap, elems, rest, n, hfu, h0, hx, _, hl, hm, hlen, hel, _, _⟩
  · simp only [List.cons.injEq, and_true, Value.slice.injEq] at h0
    omega
  · simp only [List.cons.injEq, and_true, Value.slice.injEq] at h0
    obtain ⟨h1, h2, _⟩ := h0
    subst hfu hx
    rw [Tryz.cellsDecl] at hel
    obtain ⟨b, o, hA, _, hat⟩ := hs.2.2 (by intro e; subst e; simp at hil)
    rw [hA] at h1
    simp only [Option.some.injEq] at h1
    subst h1
    obtain ⟨hcells, hok⟩ := hat i d hi
    have hie : i < elems.length := by omega
    have e1 := (hel i (by omega)).trans (List.getElem?_eq_getElem hie)
    obtain ⟨cs, hc, e2⟩ := Option.bind_eq_some_iff.1 e1
    obtain ⟨_, hcl, hcell⟩ := World.cells?_some hc
    have ecs : cs = d.cells.toList := by
      refine List.ext_getElem? fun q => ?_
      by_cases hq : q < 11
      · have e3 := hcell q hq
        have ea : ((⟨b, o, none⟩ : Addr).add (i * 11)).add q = ⟨b, o + i * 11 + q, none⟩ := by
          rw [add_add']
          unfold Addr.add
          split
          · rename_i h0
            rw [show o + i * 11 + q = o by omega]
          · simp
            omega
        rw [ea] at e3
        have hqd : q < d.cells.size := hq
        have e4 := hcells q _ (Array.getElem?_eq_getElem hqd)
        rw [← e3, e4, Array.getElem?_toList, Array.getElem?_eq_getElem hqd]
      · rw [List.getElem?_eq_none (by omega), List.getElem?_eq_none (by show 11 ≤ q; omega)]
    rw [ecs] at e2
    have := bulk_decl e2 hok.2
    have hm : (elems[i]'hie).1 ∈ elems.map (·.1) := List.mem_map.2 ⟨_, List.getElem_mem _, rfl⟩
    have := bulk_part hm
    simp only [Rows.uptoBulk]
    omega
end
end Go.Proofs.YtacjjkbkhpdhnaaGreatDoor
/- A source and interfaces that came in (printed by gen_opf.py) -/
namespace Go.Proofs.YtacjjkbkhpdhnaaGreatDoor
open Go.RowKit Go.Proofs Go.ChangeShapes Go.WideShapes Go.Joins
theorem Tryz.cellsSource : Tryz.prog.cellsOf 40 = 2 := by kernel_rfl
section
variable {H : Type} {enc : TypeId × Value → H} {W : World}
set_option maxRecDepth 100000 in
theorem open_source {b0 : Nat} {v : Value} {d : DataW H} {p : List MemPlace} (hv : Value.okWide Tryz.prog W .any b0 40 v) (h : DataW.Trod enc Tryz.prog W 0 (fun _ => true) true 40 v d p) :
    ∃ uA uses uc dA decls dc, v = .agg #[.slice uA (List.length uses) uc, .slice dA (List.length decls) dc] ∧ SlS W W.heap.size uA uc uses ∧ SlD W W.heap.size dA dc decls ∧ (∀ s ∈ uses, s.size ≤ maxLen) ∧ ∀ d ∈ decls, Dc.Str d := by
  obtain ⟨c0, c1, y0, y1, n, rfl, _, _, h0, h1⟩ := open_agg2 Tryz.underlying40 (by kernel_rfl) Tryz.cellsSource hv h
  obtain ⟨uA, uses, uc, e1, hu, hus⟩ := open_strs h0
  obtain ⟨dA, decls, dc, e2, hd, hds⟩ := open_decls h1
  subst e1 e2
  exact ⟨uA, uses, uc, dA, decls, dc, rfl, hu, hd, hus, hds⟩
set_option maxRecDepth 100000 in
theorem bulk_source {B : Nat} {uA dA : Option Addr} {un uc dc : Nat} {decls : List Dc} {d : DataW H} {p : List MemPlace} (hs : SlD W B dA dc decls) (h : DataW.Trod enc Tryz.prog W 0 (fun _ => true) true 40 (.agg #[.slice uA un uc, .slice dA decls.length dc]) d p) :
    ∀ x ∈ decls, x.s.count ≤ Rows.uptoBulk d := by
  obtain ⟨fuel, h⟩ := h
  obtain ⟨n, y, _, h1, h2⟩ := trod_fieldX Tryz.underlying40 h 1 _ rfl 23 1 1 rfl rfl Tryz.cellsDecls
  intro x hx
  have := bulk_decls hs h1 x hx
  simp only at h2
  omega
end
end Go.Proofs.YtacjjkbkhpdhnaaGreatDoor
