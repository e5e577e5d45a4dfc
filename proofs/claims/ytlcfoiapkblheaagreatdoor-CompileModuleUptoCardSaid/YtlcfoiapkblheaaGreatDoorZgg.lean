/- What came in bounds the number of nodes of the expressions in it -/
import Derived.Test.YtlcfoiapkblheaaGreatDoorOpm
import Derived.Test.YtlcfoiapkblheaaGreatDoorRows
import Derived.Test.YtlcfoiapkblheaaGreatDoorShl
import Derived.Test.YtlcfoiapkblheaaGreatDoorZgf
import Derived.Test.YtlcfoiapkblheaaGreatDoorZge
namespace Go.Proofs.YtlcfoiapkblheaaGreatDoor
open Go.RowKit Go.Proofs Go.ChangeShapes Go.WideShapes Go.Joins

section
variable {H : Type} {enc : TypeId × Value → H} {W : World}

theorem bulk_part {d : DataW H} : ∀ {l : List (DataW H)}, d ∈ l → Rows.uptoBulk d ≤ Rows.uptoBulkAll l
  | [], h => by cases h
  | x :: r, h => by
    simp only [Rows.uptoBulkAll]
    rcases List.mem_cons.1 h with rfl | h
    · omega
    · have := bulk_part h; omega
/-- A field of a struct, read: its bulk is less than the struct's. -/
theorem trod_fieldX {t : TypeId} {fs : Array Field} {fuel : Nat} {cs : List Value} {x : DataW H × List MemPlace} (ht : Tryz.prog.underlying t = some (.struct fs)) (h : DataW.trod enc Tryz.prog W 0 (fun _ => true) true fuel t cs = some x)
    (j : Nat) (f : Field) (hj : fs[j]? = some f) (ft : TypeId) (o c : Nat) (hft : f.type = ft) (ho : f.offset = o) (hc : Tryz.prog.cellsOf ft = c) : ∃ n y, n < fuel ∧ DataW.trod enc Tryz.prog W 0 (fun _ => true) true n ft ((cs.drop o).take c) = some y ∧ Rows.uptoBulk y.1 + 1 ≤ Rows.uptoBulk x.1 := by
  subst hft ho hc
  obtain ⟨xs, n, rfl, rfl, _, hl, hf⟩ := DataW.trod_struct ht h
  have := hf j f hj
  have hjl : j < fs.size := (Array.getElem?_eq_some_iff.1 hj).1
  refine ⟨n, _, by omega, this.trans (List.getElem?_eq_getElem (by omega)), ?_⟩
  have hm : (xs[j]'(by omega)).1 ∈ xs.map (·.1) := List.mem_map.2 ⟨_, List.getElem_mem _, rfl⟩
  have := bulk_part hm
  simp only [Rows.uptoBulk]
  omega
theorem trod_exprX {fuel : Nat} {cs : List Value} {x : DataW H × List MemPlace} (h : DataW.trod enc Tryz.prog W 0 (fun _ => true) true fuel 41 cs = some x) (hcs : cs.length = 6) {v : Value} (hv : cs[5]? = some v) :
    ∃ n' y, n' < fuel ∧ DataW.trod enc Tryz.prog W 0 (fun _ => true) true n' 39 [v] = some y ∧ Rows.uptoBulk y.1 + 1 ≤ Rows.uptoBulk x.1 := by
  match cs, hcs with
  | [c0, c1, c2, c3, c4, c5], _ =>
    simp at hv
    subst hv
    obtain ⟨n', y, hn', h5, hb⟩ := trod_fieldX Tryz.underlying41 h 5 _ rfl 39 5 1 rfl rfl Tryz.cellsExprs
    exact ⟨n', y, hn', h5, hb⟩

theorem bulk_exprs : ∀ (fuel : Nat) (s : Fo) (A : Option Addr) (c B : Nat) (x : DataW H × List MemPlace), Fo.Sl W B A c s → DataW.trod enc Tryz.prog W 0 (fun _ => true) true fuel 39 [.slice A s.len c] = some x → s.count ≤ Rows.uptoBulk x.1 := by
  intro fuel
  induction fuel using Nat.strongRecOn with
  | _ fuel ih =>
    intro s A c B x hs h
    rcases DataW.trod_slice Tryz.underlying39 h with ⟨h0, _⟩ | ⟨a, len, cap, elems, rest, n, hfu, h0, hx, _, hl, hm, hlen, hel, _, _⟩
    · simp only [List.cons.injEq, and_true, Value.slice.injEq] at h0
      obtain ⟨_, h1, _⟩ := h0
      cases s with
      | nil => simp [Fo.count]
      | cons => simp [Fo.len] at h1
    · simp only [List.cons.injEq, and_true, Value.slice.injEq] at h0
      obtain ⟨h1, h2, _⟩ := h0
      subst hfu hx
      rw [Tryz.cellsExpr] at hel
      by_cases hne : s = .nil
      · subst hne; simp [Fo.count]
      obtain ⟨b, o, hA, _, hat⟩ := hs.2.2 hne
      rw [hA] at h1
      simp only [Option.some.injEq] at h1
      subst h1
      have key : ∀ (r : Fo) (i : Nat), r.At W B b (o + i * 6) → i + r.len = len → r.count ≤ Rows.uptoBulkAll ((elems.drop i).map (·.1)) := by
        intro r
        induction r with
        | nil => intro i _ _; simp [Fo.count]
        | cons k n0 m0 ii d A' c' s' r' _ ihr =>
          intro i hat hi
          simp only [Fo.len] at hi
          obtain ⟨g0, g1, g2, g3, g4, ⟨g5, hsl⟩, hr⟩ := hat
          have hie : i < elems.length := by omega
          have e1 := (hel i (by omega)).trans (List.getElem?_eq_getElem hie)
          obtain ⟨cs, hc, e2⟩ := Option.bind_eq_some_iff.1 e1
          obtain ⟨_, hcl, hcell⟩ := World.cells?_some hc
          have e3 := hcell 5 (by omega)
          have ea : ((⟨b, o, none⟩ : Addr).add (i * 6)).add 5 = ⟨b, o + i * 6 + 5, none⟩ := by
            rw [add_add']
            unfold Addr.add
            rw [if_neg (by omega)]
            simp
            omega
          rw [ea, g5] at e3
          obtain ⟨n', y, hn', hy, hb⟩ := trod_exprX e2 hcl e3.symm
          have h6 := ih n' (by omega) s' A' c' B y hsl hy
          have h7 := ihr (i + 1) (by rw [show o + (i + 1) * 6 = o + i * 6 + 6 by omega]; exact hr) (by omega)
          rw [List.drop_eq_getElem_cons hie, List.map_cons]
          simp only [Rows.uptoBulkAll, Fo.count]
          omega
      have := key s 0 (by rw [Nat.zero_mul, Nat.add_zero]; exact hat) (by omega)
      simp only [List.drop_zero] at this
      simp only [Rows.uptoBulk]
      omega

theorem bulk_decl {fuel B : Nat} {d : Dc} {x : DataW H × List MemPlace} (h : DataW.trod enc Tryz.prog W 0 (fun _ => true) true fuel 43 d.cells.toList = some x) (hd : d.s.Sl W B d.A d.c) : d.s.count ≤ Rows.uptoBulk x.1 := by
  obtain ⟨n, y, _, h1, h2⟩ := trod_fieldX Tryz.underlying43 h 5 _ rfl 41 5 6 rfl rfl Tryz.cellsExpr
  obtain ⟨n', z, _, h3, h4⟩ := trod_exprX h1 rfl (v := .slice d.A d.s.len d.c) rfl
  have := bulk_exprs n' d.s d.A d.c B z hd h3
  omega
theorem bulk_decls {fuel B : Nat} {A : Option Addr} {c : Nat} {l : List Dc} {x : DataW H × List MemPlace} (hs : SlD W B A c l) (h : DataW.trod enc Tryz.prog W 0 (fun _ => true) true fuel 23 [.slice A l.length c] = some x) :
    ∀ d ∈ l, d.s.count ≤ Rows.uptoBulk x.1 := by
  intro d hd
  obtain ⟨i, hi⟩ := List.mem_iff_getElem?.1 hd
  have hil := (List.getElem?_eq_some_iff.1 hi).1
  rcases DataW.trod_slice Tryz.underlying23 h with ⟨h0, _⟩ | ⟨a, len, cap, elems, rest, n, hfu, h0, hx, _, hl, hm, hlen, hel, _, _⟩
  · simp only [List.cons.injEq, and_true, Value.slice.injEq] at h0
    omega
  · simp only [List.cons.injEq, and_true, Value.slice.injEq] at h0
    obtain ⟨h1, h2, _⟩ := h0
    subst hfu hx
    rw [Tryz.cellsDecl] at hel
    obtain ⟨b, o, hA, _, hat⟩ := hs.2.2 (by intro e; subst e; simp at hil)
    rw [hA] at h1
    simp only [Option.some.injEq] at h1
    subst h1
    obtain ⟨hcells, hok⟩ := hat i d hi
    have hie : i < elems.length := by omega
    have e1 := (hel i (by omega)).trans (List.getElem?_eq_getElem hie)
    obtain ⟨cs, hc, e2⟩ := Option.bind_eq_some_iff.1 e1
    obtain ⟨_, hcl, hcell⟩ := World.cells?_some hc
    have ecs : cs = d.cells.toList := by
      refine List.ext_getElem? fun q => ?_
      by_cases hq : q < 11
      · have e3 := hcell q hq
        have ea : ((⟨b, o, none⟩ : Addr).add (i * 11)).add q = ⟨b, o + i * 11 + q, none⟩ := by
          rw [add_add']
          unfold Addr.add
          split
          · rename_i h0
            rw [show o + i * 11 + q = o by omega]
          · simp
            omega
        rw [ea] at e3
        have hqd : q < d.cells.size := hq
        have e4 := hcells q _ (Array.getElem?_eq_getElem hqd)
        rw [← e3, e4, Array.getElem?_toList, Array.getElem?_eq_getElem hqd]
      · rw [List.getElem?_eq_none (by omega), List.getElem?_eq_none (by show 11 ≤ q; omega)]
    rw [ecs] at e2
    have := bulk_decl e2 hok.2
    have hm : (elems[i]'hie).1 ∈ elems.map (·.1) := List.mem_map.2 ⟨_, List.getElem_mem _, rfl⟩
    have := bulk_part hm
    simp only [Rows.uptoBulk]
    omega
set_option maxRecDepth 100000 in
theorem bulk_module {B : Nat} {label : ByteArray} {uA dA : Option Addr} {un uc dc : Nat} {decls : List Dc} {d : DataW H} {p : List MemPlace} (hs : SlD W B dA dc decls) (h : DataW.Trod enc Tryz.prog W 0 (fun _ => true) true 25 (.agg #[.string label, .slice uA un uc, .slice dA decls.length dc]) d p) :
    ∀ x ∈ decls, x.s.count ≤ Rows.uptoBulk d := by
  obtain ⟨fuel, h⟩ := h
  obtain ⟨n, y, _, h1, h2⟩ := trod_fieldX Tryz.underlying25 h 2 _ rfl 23 2 1 rfl rfl Tryz.cellsDecls
  intro x hx
  have := bulk_decls hs h1 x hx
  simp only at h2
  omega
end
end Go.Proofs.YtlcfoiapkblheaaGreatDoor
/- CompileModule, where what comes in is of the bulk of the second form: for every such module the law answers true, and the module reads behind the call as before it. No condition beyond the row's own. -/
namespace Go.Proofs.YtlcfoiapkblheaaGreatDoor.compileModule
open Go.ChangeShapes Go.WideShapes Go.ChangeAt Go.RowKit

set_option maxRecDepth 100000 in
theorem contract {H : Type} {enc : TypeId × Value → H} (W : World) (base : Nat) (args : Array Value) (ds gs : List (DataW H)) (before : List MemPlace)
    (hval : ∀ (j : Nat) t v, Tryz.f3.params[j]? = some t → args[j]? = some v → Value.okWide Tryz.prog W .any base t v)
    (hW : DataW.Whole enc Tryz.prog Tryz.f3.params.toList Rows.compileModuleSpec.vars false W args.toList ds gs before) (hk : Rows.uptoSmall H (ds ++ gs) = true) :
    Calls Tryz.prog 3 args W fun e W' => ∃ v, e = .returned v ∧ Rows.compileModuleSpec.post enc Tryz.prog Tryz.f3 false true false false W args v W' := by
  have hW' := hW
  obtain ⟨p, q, hA, _, _, _, _⟩ := hW
  have hA1 := hA
  rw [Tryz.params3] at hA1 hval
  obtain ⟨v0, vs0, d0, ds0, p0, q0, hargs, rfl, rfl, h0, r0⟩ := trodAll_cons hA1
  obtain ⟨rfl, rfl, rfl⟩ := trodAll_nil r0
  obtain rfl : args = #[v0] := by cases args; simp_all
  obtain ⟨label, uA, uses, uc, dA, decls, dc, rfl, _, hu, hd, _, _⟩ := open_module (hval 0 25 v0 rfl rfl) h0
  have hcn : ∀ x ∈ decls, x.s.count ≤ 2000000 := fun x hx => by
    have h1 := bulk_module hd h0 x hx
    have h2 : Rows.uptoBulkAll ([d0] ++ gs) ≤ 1048576 := of_decide_eq_true hk
    simp only [List.cons_append, Rows.uptoBulkAll] at h2
    omega
  refine (lawModule_any label uses uA uc decls dA dc W hu hd hcn).mono fun e W' ⟨he, hb⟩ => ?_
  subst he
  refine ⟨_, rfl, post_true hW' rfl (by kernel_rfl) rfl ?_ hb⟩
  rw [Tryz.params3]
  intro t ht
  obtain rfl : t = 25 := by simpa using ht
  exact ⟨by kernel_rfl, of_decide_eq_true (by kernel_rfl)⟩

set_option maxRecDepth 100000 in
theorem lifted (os : Os) (started : os.Started) (H : Type) (enc : TypeId × Value → H) (F : Stop.Interp) :
    ReturnsInHanded {} Tryz.checked os 3 .any ((Rows.OpenSpec.upto Rows.compileModuleSpec).preRow enc Tryz.prog Tryz.f3 Rows.compileModuleUptoRow.domain false Rows.compileModuleUptoRow.laid) (((Rows.OpenSpec.upto Rows.compileModuleSpec).at F).post enc Tryz.prog Tryz.f3 false true false false) := by
  have hx : ∃ places, DataW.whole enc Tryz.prog ((laidWorld os).forCall (fun _ _ => 0) ⟨#[], argM, []⟩).memory Tryz.f3.params.toList Rows.compileModuleSpec.vars false argM.toList 8 = some ([.agg [.lit (.string []), .nil, .nil]], [], places) := ⟨[], by kernel_rfl⟩
  obtain ⟨places, hx⟩ := hx
  refine returnsInHanded_of_row (C := Tryz.checked) (s := Rows.OpenSpec.upto Rows.compileModuleSpec) Tryz.own started (by kernel_rfl) Tryz.func3
    (witness_row_at (enc := enc) (C := Tryz.checked) false (laidWorld os) argM rfl (by kernel_rfl) (by kernel_rfl) (by kernel_rfl)
      (OpenSpec.preRow_of_cond 8 hx (by kernel_rfl) (fun k hk => by cases hk; kernel_rfl) (by kernel_rfl) (laid_met os))) ?_
  intro W base args ds gs before hval hW _ hcond _ _ _ _
  exact contract W base args ds gs before hval hW (hcond _ rfl)

set_option maxRecDepth 100000 in
theorem said : Rows.CompileModuleUptoSaid :=
  OpenClaim.holds_of_cond 3 Tryz.f3 rfl rfl rfl rfl rfl rfl rfl ⟨rfl, rfl, rfl, rfl, rfl⟩ rfl rfl rfl rfl rfl (by kernel_rfl) Tryz.func3 compileModuleFacts.closed
    (of_decide_eq_true (by kernel_rfl)) (by unfold Func.isWrapper; first | (rw [if_pos (by decide +kernel)]; kernel_rfl) | (rw [if_neg (by decide +kernel)]; exact ⟨rfl, rfl⟩))
    (fun os started H enc _ F => by rw [OpenClaim.pre_eq_preRow]; exact lifted os started H enc F)

set_option maxRecDepth 100000 in
theorem plain (f : FuncId) (fn : Func) (hf : Tryz.pinned.checked.prog.funcNamed "cordwood/cordwoodlaw28.CompileModule" = some f) (hfn : Tryz.pinned.checked.prog.funcs[f]? = some fn) :
    true = Tryz.pinned.checked.prog.looks [] ∧ ∀ (j : Nat) t, fn.params[j]? = some t → Tryz.pinned.checked.prog.wantsStandIn t = false := by
  obtain rfl : f = 3 := Option.some.inj ((show Tryz.prog.funcNamed "cordwood/cordwoodlaw28.CompileModule" = some 3 by kernel_rfl).symm.trans hf) |>.symm
  obtain rfl : fn = Tryz.f3 := (Option.some.inj (Tryz.func3.symm.trans hfn)).symm
  refine ⟨by kernel_rfl, fun j t ht => ?_⟩
  rw [Tryz.params3] at ht
  obtain rfl : t = 25 := by simpa using Array.mem_of_getElem? ht
  exact (show Tryz.prog.wantsStandIn 25 = false by kernel_rfl)

set_option maxRecDepth 100000 in
theorem card : Rows.CompileModuleUptoCardSaid :=
  Claim7.holds_tied_plain_at .later [] _ _ _ _ said (fun _ h => by cases h) (by kernel_rfl) (fun _ h => by cases h) compileModuleUpto_row_tie rfl ⟨rfl, rfl⟩ (by kernel_rfl) rfl plain (by kernel_rfl)
end Go.Proofs.YtlcfoiapkblheaaGreatDoor.compileModule
