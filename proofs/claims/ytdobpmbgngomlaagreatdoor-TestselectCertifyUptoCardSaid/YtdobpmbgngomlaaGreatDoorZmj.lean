/- What came in bounds the number of nodes of the expressions in it -/
import Derived.Test.YtdobpmbgngomlaaGreatDoorZln
import Derived.Test.YtdobpmbgngomlaaGreatDoorRows
import Derived.Test.YtdobpmbgngomlaaGreatDoorZlu
import Derived.Test.YtdobpmbgngomlaaGreatDoorZmh
namespace Go.Proofs.YtdobpmbgngomlaaGreatDoor
open Go.RowKit Go.Proofs Go.ChangeShapes Go.WideShapes Go.Joins

section
variable {H : Type} {enc : TypeId × Value → H} {W : World}

theorem bulk_part {d : DataW H} : ∀ {l : List (DataW H)}, d ∈ l → Rows.uptoBulk d ≤ Rows.uptoBulkAll l
  | [], h => by cases h
  | x :: r, h => by
    simp only [Rows.uptoBulkAll]
    rcases List.mem_cons.1 h with rfl | h
    · omega
    · have := bulk_part h; omega
/-- A field of a struct, read: its bulk is less than the struct's. -/
theorem trod_fieldX {t : TypeId} {fs : Array Field} {fuel : Nat} {cs : List Value} {x : DataW H × List MemPlace} (ht : Tryz.prog.underlying t = some (.struct fs)) (h : DataW.trod enc Tryz.prog W 0 (fun _ => true) true fuel t cs = some x)
    (j : Nat) (f : Field) (hj : fs[j]? = some f) (ft : TypeId) (o c : Nat) (hft : f.type = ft) (ho : f.offset = o) (hc : Tryz.prog.cellsOf ft = c) : ∃ n y, n < fuel ∧ DataW.trod enc Tryz.prog W 0 (fun _ => true) true n ft ((cs.drop o).take c) = some y ∧ Rows.uptoBulk y.1 + 1 ≤ Rows.uptoBulk x.1 := by
  subst hft ho hc
  obtain ⟨xs, n, rfl, rfl, _, hl, hf⟩ := DataW.trod_struct ht h
  have := hf j f hj
  have hjl : j < fs.size := (Array.getElem?_eq_some_iff.1 hj).1
  refine ⟨n, _, by omega, this.trans (List.getElem?_eq_getElem (by omega)), ?_⟩
  have hm : (xs[j]'(by omega)).1 ∈ xs.map (·.1) := List.mem_map.2 ⟨_, List.getElem_mem _, rfl⟩
  have := bulk_part hm
  simp only [Rows.uptoBulk]
  omega
theorem trod_exprX {fuel : Nat} {cs : List Value} {x : DataW H × List MemPlace} (h : DataW.trod enc Tryz.prog W 0 (fun _ => true) true fuel 27 cs = some x) (hcs : cs.length = 6) {v : Value} (hv : cs[5]? = some v) :
    ∃ n' y, n' < fuel ∧ DataW.trod enc Tryz.prog W 0 (fun _ => true) true n' 25 [v] = some y ∧ Rows.uptoBulk y.1 + 1 ≤ Rows.uptoBulk x.1 := by
  match cs, hcs with
  | [c0, c1, c2, c3, c4, c5], _ =>
    simp at hv
    subst hv
    obtain ⟨n', y, hn', h5, hb⟩ := trod_fieldX Tryz.underlying27 h 5 _ rfl 25 5 1 rfl rfl Tryz.cellsExprs
    exact ⟨n', y, hn', h5, hb⟩

theorem bulk_exprs : ∀ (fuel : Nat) (s : Fo) (A : Option Addr) (c B : Nat) (x : DataW H × List MemPlace), Fo.Sl W B A c s → DataW.trod enc Tryz.prog W 0 (fun _ => true) true fuel 25 [.slice A s.len c] = some x → s.count ≤ Rows.uptoBulk x.1 := by
  intro fuel
  induction fuel using Nat.strongRecOn with
  | _ fuel ih =>
    intro s A c B x hs h
    rcases DataW.trod_slice Tryz.underlying25 h with ⟨h0, _⟩ | ⟨a, len, cap, elems, rest, n, hfu, h0, hx, _, hl, hm, hlen, hel, _, _⟩
    · simp only [List.cons.injEq, and_true, Value.slice.injEq] at h0
      obtain ⟨_, h1, _⟩ := h0
      cases s with
      | nil => simp [Fo.count]
      | cons => simp [Fo.len] at h1
    · simp only [List.cons.injEq, and_true, Value.slice.injEq] at h0
      obtain ⟨h1, h2, _⟩ := h0
      subst hfu hx
      rw [Tryz.cellsExpr] at hel
      by_cases hne : s = .nil
      · subst hne; simp [Fo.count]
      obtain ⟨b, o, hA, _, hat⟩ := hs.2.2 hne
      rw [hA] at h1
      simp only [Option.some.injEq] at h1
      subst h1
      have key : ∀ (r : Fo) (i : Nat), r.At W B b (o + i * 6) → i + r.len = len → r.count ≤ Rows.uptoBulkAll ((elems.drop i).map (·.1)) := by
        intro r
        induction r with
        | nil => intro i _ _; simp [Fo.count]
        | cons k n0 m0 ii d A' c' s' r' _ ihr =>
          intro i hat hi
          simp only [Fo.len] at hi
          obtain ⟨g0, g1, g2, g3, g4, ⟨g5, hsl⟩, hr⟩ := hat
          have hie : i < elems.length := by omega
          have e1 := (hel i (by omega)).trans (List.getElem?_eq_getElem hie)
          obtain ⟨cs, hc, e2⟩ := Option.bind_eq_some_iff.1 e1
          obtain ⟨_, hcl, hcell⟩ := World.cells?_some hc
          have e3 := hcell 5 (by omega)
          have ea : ((⟨b, o, none⟩ : Addr).add (i * 6)).add 5 = ⟨b, o + i * 6 + 5, none⟩ := by
            rw [add_add']
            unfold Addr.add
            rw [if_neg (by omega)]
            simp
            omega
          rw [ea, g5] at e3
          obtain ⟨n', y, hn', hy, hb⟩ := trod_exprX e2 hcl e3.symm
          have h6 := ih n' (by omega) s' A' c' B y hsl hy
          have h7 := ihr (i + 1) (by rw [show o + (i + 1) * 6 = o + i * 6 + 6 by omega]; exact hr) (by omega)
          rw [List.drop_eq_getElem_cons hie, List.map_cons]
          simp only [Rows.uptoBulkAll, Fo.count]
          omega
      have := key s 0 (by rw [Nat.zero_mul, Nat.add_zero]; exact hat) (by omega)
      simp only [List.drop_zero] at this
      simp only [Rows.uptoBulk]
      omega

theorem bulk_decl {fuel B : Nat} {d : Dc} {x : DataW H × List MemPlace} (h : DataW.trod enc Tryz.prog W 0 (fun _ => true) true fuel 44 d.cells.toList = some x) (hd : d.s.Sl W B d.A d.c) : d.s.count ≤ Rows.uptoBulk x.1 := by
  obtain ⟨n, y, _, h1, h2⟩ := trod_fieldX Tryz.underlying44 h 5 _ rfl 27 5 6 rfl rfl Tryz.cellsExpr
  obtain ⟨n', z, _, h3, h4⟩ := trod_exprX h1 rfl (v := .slice d.A d.s.len d.c) rfl
  have := bulk_exprs n' d.s d.A d.c B z hd h3
  omega
theorem bulk_decls {fuel B : Nat} {A : Option Addr} {c : Nat} {l : List Dc} {x : DataW H × List MemPlace} (hs : SlD W B A c l) (h : DataW.trod enc Tryz.prog W 0 (fun _ => true) true fuel 39 [.slice A l.length c] = some x) :
    ∀ d ∈ l, d.s.count ≤ Rows.uptoBulk x.1 := by
  intro d hd
  obtain ⟨i, hi⟩ := List.mem_iff_getElem?.1 hd
  have hil := (List.getElem?_eq_some_iff.1 hi).1
  rcases DataW.trod_slice Tryz.underlying39 h with ⟨h0, _⟩ | ⟨a, len, cap, elems, rest, n, hfu, h0, hx, _, hl, hm, hlen, hel, _, _⟩
  · simp only [List.cons.injEq, and_true, Value.slice.injEq] at h0
    omega
  · simp only [List.cons.injEq, and_true, Value.slice.injEq] at h0
    obtain ⟨h1, h2, _⟩ := h0
    subst hfu hx
    rw [Tryz.cellsDecl] at hel
    obtain ⟨b, o, hA, _, hat⟩ := hs.2.2 (by intro e; subst e; simp at hil)
    rw [hA] at h1
    simp only [Option.some.injEq] at h1
    subst h1
    obtain ⟨hcells, hok⟩ := hat i d hi
    have hie : i < elems.length := by omega
    have e1 := (hel i (by omega)).trans (List.getElem?_eq_getElem hie)
    obtain ⟨cs, hc, e2⟩ := Option.bind_eq_some_iff.1 e1
    obtain ⟨_, hcl, hcell⟩ := World.cells?_some hc
    have ecs : cs = d.cells.toList := by
      refine List.ext_getElem? fun q => ?_
      by_cases hq : q < 11
      · have e3 := hcell q hq
        have ea : ((⟨b, o, none⟩ : Addr).add (i * 11)).add q = ⟨b, o + i * 11 + q, none⟩ := by
          rw [add_add']
          unfold Addr.add
          split
          · rename_i h0
            rw [show o + i * 11 + q = o by omega]
          · simp
            omega
        rw [ea] at e3
        have hqd : q < d.cells.size := hq
        have e4 := hcells q _ (Array.getElem?_eq_getElem hqd)
        rw [← e3, e4, Array.getElem?_toList, Array.getElem?_eq_getElem hqd]
      · rw [List.getElem?_eq_none (by omega), List.getElem?_eq_none (by show 11 ≤ q; omega)]
    rw [ecs] at e2
    have := bulk_decl e2 hok.2
    have hm : (elems[i]'hie).1 ∈ elems.map (·.1) := List.mem_map.2 ⟨_, List.getElem_mem _, rfl⟩
    have := bulk_part hm
    simp only [Rows.uptoBulk]
    omega
set_option maxRecDepth 100000 in
theorem bulk_module {B : Nat} {label : ByteArray} {uA dA : Option Addr} {un uc dc : Nat} {decls : List Dc} {d : DataW H} {p : List MemPlace} (hs : SlD W B dA dc decls) (h : DataW.Trod enc Tryz.prog W 0 (fun _ => true) true 41 (.agg #[.string label, .slice uA un uc, .slice dA decls.length dc]) d p) :
    ∀ x ∈ decls, x.s.count ≤ Rows.uptoBulk d := by
  obtain ⟨fuel, h⟩ := h
  obtain ⟨n, y, _, h1, h2⟩ := trod_fieldX Tryz.underlying41 h 2 _ rfl 39 2 1 rfl rfl Tryz.cellsDecls
  intro x hx
  have := bulk_decls hs h1 x hx
  simp only at h2
  omega
end
end Go.Proofs.YtdobpmbgngomlaaGreatDoor
/- What came in bounds the number of nodes of the expressions in a list of modules -/
namespace Go.Proofs.YtdobpmbgngomlaaGreatDoor
open Go.RowKit Go.Proofs Go.ChangeShapes Go.WideShapes Go.Joins

section
variable {H : Type} {enc : TypeId × Value → H} {W : World}
theorem bulk_modc {fuel B : Nat} {m : Mo} {x : DataW H × List MemPlace} (h : DataW.trod enc Tryz.prog W 0 (fun _ => true) true fuel 41 m.cells.toList = some x) (hd : SlD W B m.dA m.dc m.ds) : ∀ d ∈ m.ds, d.s.count ≤ Rows.uptoBulk x.1 := by
  obtain ⟨n, y, _, h1, h2⟩ := trod_fieldX Tryz.underlying41 h 2 _ rfl 39 2 1 rfl rfl Tryz.cellsDecls
  intro d hd'
  have := bulk_decls hd h1 d hd'
  omega
theorem bulk_mods {fuel B : Nat} {A : Option Addr} {c : Nat} {l : List Mo} {x : DataW H × List MemPlace} (hs : SlM W B A c l) (h : DataW.trod enc Tryz.prog W 0 (fun _ => true) true fuel 22 [.slice A l.length c] = some x) :
    ∀ m ∈ l, ∀ d ∈ m.ds, d.s.count ≤ Rows.uptoBulk x.1 := by
  intro m hm
  obtain ⟨i, hi⟩ := List.mem_iff_getElem?.1 hm
  have hil := (List.getElem?_eq_some_iff.1 hi).1
  rcases DataW.trod_slice Tryz.underlying22 h with ⟨h0, _⟩ | ⟨a, len, cap, elems, rest, n, hfu, h0, hx, _, hl, hmm, hlen, hel, _, _⟩
  · simp only [List.cons.injEq, and_true, Value.slice.injEq] at h0
    omega
  · simp only [List.cons.injEq, and_true, Value.slice.injEq] at h0
    obtain ⟨h1, h2, _⟩ := h0
    subst hfu hx
    rw [Tryz.cellsModule] at hel
    obtain ⟨b, o, hA, _, hat⟩ := hs.2.2 (by intro e; subst e; simp at hil)
    rw [hA] at h1
    simp only [Option.some.injEq] at h1
    subst h1
    obtain ⟨hcells, hok⟩ := hat i m hi
    have hie : i < elems.length := by omega
    have e1 := (hel i (by omega)).trans (List.getElem?_eq_getElem hie)
    obtain ⟨cs, hc, e2⟩ := Option.bind_eq_some_iff.1 e1
    obtain ⟨_, hcl, hcell⟩ := World.cells?_some hc
    have ecs : cs = m.cells.toList := by
      refine List.ext_getElem? fun q => ?_
      by_cases hq : q < 3
      · have e3 := hcell q hq
        have ea : ((⟨b, o, none⟩ : Addr).add (i * 3)).add q = ⟨b, o + i * 3 + q, none⟩ := by
          rw [add_add']
          unfold Addr.add
          split
          · rename_i h0
            rw [show o + i * 3 + q = o by omega]
          · simp
            omega
        rw [ea] at e3
        have hqd : q < m.cells.size := hq
        have e4 := hcells q _ (Array.getElem?_eq_getElem hqd)
        rw [← e3, e4, Array.getElem?_toList, Array.getElem?_eq_getElem hqd]
      · rw [List.getElem?_eq_none (by omega), List.getElem?_eq_none (by show 3 ≤ q; omega)]
    rw [ecs] at e2
    intro d hd
    have := bulk_modc e2 hok.2 d hd
    have hm2 : (elems[i]'hie).1 ∈ elems.map (·.1) := List.mem_map.2 ⟨_, List.getElem_mem _, rfl⟩
    have := bulk_part hm2
    simp only [Rows.uptoBulk]
    omega
theorem cnt_of {A : Option Addr} {c : Nat} {l : List Mo} {d : DataW H} {p : List MemPlace} (hs : SlM W W.heap.size A c l) (h : DataW.Trod enc Tryz.prog W 0 (fun _ => true) true 22 (.slice A l.length c) d p) (hd : Rows.uptoBulk d ≤ 1048576) : CntL l := by
  obtain ⟨fuel, h⟩ := h
  intro m hm x hx
  have := bulk_mods hs h m hm x hx
  simp only at this
  omega
end
end Go.Proofs.YtdobpmbgngomlaaGreatDoor
