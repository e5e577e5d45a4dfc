/- compile.fields: which fields an instruction has -/
import Derived.Test.YtlpipoihinceiaaGreatDoorGkp
namespace Go.Proofs.YtlpipoihinceiaaGreatDoor
open Go.RowKit Go.Proofs Go.Shelf

theorem results_four {fn : Func} {t u v x : Tmp} (h : fn.results = #[.tmp t, .tmp u, .tmp v, .tmp x]) (tmps : Array Value) (P : Program) (w : World) :
    (results fn tmps).run P w = .ok (.tuple #[tmps.getD t undef, tmps.getD u undef, tmps.getD v undef, tmps.getD x undef]) w := by simp [results, h]
/-- The fields of an instruction: A, B, Name, and whether it is known. -/
def fldA (op : Int) : Bool := op == 1 || op == 2 || op == 3 || op == 5 || op == 8 || op == 9 || op == 13 || op == 15 || op == 4 || op == 16
def fldB (op : Int) : Bool := op == 16
def fldN (op : Int) : Bool := op == 4 || op == 10
theorem fields_any (j : Nat) (h0 : 1 ≤ j) (h1 : j ≤ 16) (w : World) : Calls Tryz.prog 198 #[.int .i64 (j : Int)] w fun e w' => e = .returned (.tuple #[.bool (fldA j), .bool (fldB j), .bool (fldN j), .bool true]) ∧ w = w' := by
  rcases (show j = 1 ∨ j = 2 ∨ j = 3 ∨ j = 4 ∨ j = 5 ∨ j = 6 ∨ j = 7 ∨ j = 8 ∨ j = 9 ∨ j = 10 ∨ j = 11 ∨ j = 12 ∨ j = 13 ∨ j = 14 ∨ j = 15 ∨ j = 16 by omega) with rfl | rfl | rfl | rfl | rfl | rfl | rfl | rfl | rfl | rfl | rfl | rfl | rfl | rfl | rfl | rfl
  all_goals (
    clear h0 h1
    go_enter Tryz.func198, Tryz.ntmps198
    go_wp2
    refine bodyPost_ret (results_four rfl _ _ _) rfl ?_
    exact ⟨rfl, rfl⟩)
end Go.Proofs.YtlpipoihinceiaaGreatDoor
