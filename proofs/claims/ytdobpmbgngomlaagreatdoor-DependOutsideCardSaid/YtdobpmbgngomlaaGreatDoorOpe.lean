/- An expression and a byte that came in -/
import Derived.Test.YtdobpmbgngomlaaGreatDoorZlu
namespace Go.Proofs.YtdobpmbgngomlaaGreatDoor
open Go.RowKit Go.Proofs Go.ChangeShapes Go.WideShapes Go.Joins

theorem array6 {α : Type} {cs : Array α} (h : cs.size = 6) : ∃ c0 c1 c2 c3 c4 c5, cs = #[c0, c1, c2, c3, c4, c5] := by
  obtain ⟨l⟩ := cs
  simp only [List.size_toArray] at h
  match l, h with
  | [c0, c1, c2, c3, c4, c5], _ => exact ⟨c0, c1, c2, c3, c4, c5, rfl⟩
section
variable {H : Type} {enc : TypeId × Value → H} {W : World}
set_option maxRecDepth 100000 in
theorem open_expr {b0 : Nat} {v : Value} {d : DataW H} {p : List MemPlace} (hv : Value.okWide Tryz.prog W .any b0 27 v) (h : DataW.Trod enc Tryz.prog W 0 (fun _ => true) true 27 v d p) :
    ∃ e : Dc, v = .agg #[.int .i64 e.k, .string e.n, .string e.m, .int .i64 e.i, .int .i64 e.d, .slice e.A e.s.len e.c] ∧ e.s.Sl W W.heap.size e.A e.c := by
  obtain ⟨cs, rfl, hsz⟩ := okWide_struct Tryz.underlying27 hv
  obtain ⟨c0, c1, c2, c3, c4, c5, rfl⟩ := array6 (hsz.trans Tryz.cellsExpr)
  obtain ⟨fuel, hf⟩ := h
  simp only [Value.cells] at hf
  obtain ⟨k, n, m, i, d', v', n', y, e, _, _, _, hy⟩ := trod_expr hf rfl
  simp only [List.cons.injEq, and_true] at e
  obtain ⟨rfl, rfl, rfl, rfl, rfl, rfl⟩ := e
  obtain ⟨A, s, c, rfl, hs, _⟩ := open_exprs _ _ _ hy
  exact ⟨⟨0, 0, false, none, 0, [], false, k, n, m, i, d', A, c, s⟩, rfl, hs⟩
set_option maxRecDepth 100000 in
theorem open_u8 {b0 : Nat} {v : Value} {d : DataW H} {p : List MemPlace} (hv : Value.okWide Tryz.prog W .any b0 5 v) (h : DataW.Trod enc Tryz.prog W 0 (fun _ => true) true 5 v d p) :
    ∃ a : Int, v = .int .u8 a ∧ 0 ≤ a ∧ a ≤ 255 := by
  obtain ⟨a, rfl⟩ := okWide_int Tryz.underlying5 hv
  obtain ⟨fuel, hf⟩ := h
  simp only [Value.cells] at hf
  obtain ⟨i, e, _, hw⟩ := DataW.trod_int Tryz.underlying5 hf
  simp only [List.cons.injEq, Value.int.injEq, true_and, and_true] at e
  subst e
  refine ⟨a, rfl, ?_⟩
  simp only [Lit.wf, Bool.and_eq_true, decide_eq_true_eq] at hw
  exact ⟨hw.1, hw.2⟩
end
end Go.Proofs.YtdobpmbgngomlaaGreatDoor
