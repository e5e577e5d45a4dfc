/- CompileCheck: for every code the law answers true, and the code reads behind the call as before it. No condition beyond the row's own. -/
import Derived.Test.YtlpipoihinceiaaGreatDoorShl
import Derived.Test.YtlpipoihinceiaaGreatDoorJff
import Derived.Test.YtlpipoihinceiaaGreatDoorZhc
import Derived.Test.YtlpipoihinceiaaGreatDoorXch
namespace Go.Proofs.YtlpipoihinceiaaGreatDoor.compileCheck
open Go.ChangeShapes Go.WideShapes Go.ChangeAt Go.RowKit

section
variable {H : Type} {enc : TypeId × Value → H}
set_option maxRecDepth 100000 in
/-- The walk of a law over code gives what its row asks. -/
theorem contractC {f : FuncId} {fn : Func} {s : ChangeSpec} {apart fresh handsOn again : Bool} (hp : fn.params = #[62]) (hrt : fn.resultTypes = #[4]) (hv : s.vars = []) (hfn : ∀ d : DataW H, s.fn H [d] = { results := [.lit (.bool true)], args := [d] })
    (law : ∀ (lb : ByteArray) (bl : List Blk) (ds : List (Int × Int × Int)) (A1 : Option Addr) (c1 : Nat) (A2 : Option Addr) (c2 : Nat) (w : World), BlkC w A1 c1 bl → DecC w A2 c2 ds → lb.size ≤ maxLen →
      Calls Tryz.prog f #[.agg #[.string lb, .slice A1 bl.length c1, .slice A2 ds.length c2]] w fun e w' => e = .returned (.bool true) ∧ Below w.heap.size w w')
    (W : World) (base : Nat) (args : Array Value) (ds gs : List (DataW H)) (before : List MemPlace)
    (hval : ∀ (j : Nat) t v, fn.params[j]? = some t → args[j]? = some v → Value.okWide Tryz.prog W .any base t v)
    (hW : DataW.Whole enc Tryz.prog fn.params.toList s.vars apart W args.toList ds gs before) :
    Calls Tryz.prog f args W fun e W' => ∃ v, e = .returned v ∧ s.post enc Tryz.prog fn apart fresh handsOn again W args v W' := by
  have hW' := hW
  obtain ⟨p, q, hA, _, _, _, _⟩ := hW
  have hA1 := hA
  rw [hp] at hA1 hval
  obtain ⟨v0, vs0, d0, ds0, p0, q0, hargs, rfl, rfl, h0, r0⟩ := trodAll_cons hA1
  obtain ⟨rfl, rfl, rfl⟩ := trodAll_nil r0
  obtain rfl : args = #[v0] := by cases args; simp_all
  obtain ⟨lb, A1, bl, c1, A2, dl, c2, rfl, hlb, hb, hd⟩ := open_code (hval 0 62 v0 rfl rfl) h0
  refine (law lb bl dl A1 c1 A2 c2 W hb hd hlb).mono fun e W' ⟨he, hb⟩ => ?_
  subst he
  refine ⟨_, rfl, post_true hW' hv hrt (hfn d0) ?_ hb⟩
  rw [hp]
  intro t ht
  obtain rfl : t = 62 := by simpa using ht
  exact ⟨by kernel_rfl, of_decide_eq_true (by kernel_rfl)⟩
end

set_option maxRecDepth 100000 in
theorem lifted (os : Os) (started : os.Started) (H : Type) (enc : TypeId × Value → H) (F : Stop.Interp) :
    ReturnsInHanded {} Tryz.checked os 8 .any ((OpenSpec.ofChange Rows.compileCheckSpec).preRow enc Tryz.prog Tryz.f8 Rows.compileCheckRow.domain false Rows.compileCheckRow.laid) (((OpenSpec.ofChange Rows.compileCheckSpec).at F).post enc Tryz.prog Tryz.f8 false true false false) := by
  have hx : ∃ places, DataW.whole enc Tryz.prog ((laidWorld os).forCall (fun _ _ => 0) ⟨#[], argM, []⟩).memory Tryz.f8.params.toList Rows.compileCheckSpec.vars false argM.toList 8 = some ([.agg [.lit (.string []), .nil, .nil]], [], places) := ⟨[], by kernel_rfl⟩
  obtain ⟨places, hx⟩ := hx
  refine returnsInHanded_of_row (C := Tryz.checked) (s := OpenSpec.ofChange Rows.compileCheckSpec) Tryz.own started (by kernel_rfl) Tryz.func8
    (witness_row_at (enc := enc) (C := Tryz.checked) false (laidWorld os) argM rfl (by kernel_rfl) (by kernel_rfl) (by kernel_rfl)
      (OpenSpec.preRow_of_cond 8 hx (by kernel_rfl) (fun k hk => by cases hk) (by kernel_rfl) (laid_met os))) ?_
  intro W base args ds gs before hval hW _ _ _ _ _ _
  exact contractC (fn := Tryz.f8) (s := Rows.compileCheckSpec) Tryz.params8 (by kernel_rfl) rfl (fun _ => rfl) (fun lb bl ds A1 c1 A2 c2 w hb hd hl => lawCheck_any lb bl ds A1 c1 A2 c2 w hb hd (by unfold maxLen at hl; exact hl)) W base args ds gs before hval hW

set_option maxRecDepth 100000 in
theorem said : Rows.CompileCheckSaid :=
  OpenClaim.holds_of_cond 8 Tryz.f8 rfl rfl rfl rfl rfl rfl rfl ⟨rfl, rfl, rfl, rfl, rfl⟩ rfl rfl rfl rfl rfl (by kernel_rfl) Tryz.func8 compileCheckFacts.closed
    (of_decide_eq_true (by kernel_rfl)) (by unfold Func.isWrapper; first | (rw [if_pos (by decide +kernel)]; kernel_rfl) | (rw [if_neg (by decide +kernel)]; exact ⟨rfl, rfl⟩))
    (fun os started H enc _ F => by rw [OpenClaim.pre_eq_preRow]; exact lifted os started H enc F)

set_option maxRecDepth 100000 in
theorem plain (f : FuncId) (fn : Func) (hf : Tryz.pinned.checked.prog.funcNamed "cordwood/cordwoodlaw28.CompileCheck" = some f) (hfn : Tryz.pinned.checked.prog.funcs[f]? = some fn) :
    true = Tryz.pinned.checked.prog.looks [] ∧ ∀ (j : Nat) t, fn.params[j]? = some t → Tryz.pinned.checked.prog.wantsStandIn t = false := by
  obtain rfl : f = 8 := Option.some.inj ((show Tryz.prog.funcNamed "cordwood/cordwoodlaw28.CompileCheck" = some 8 by kernel_rfl).symm.trans hf) |>.symm
  obtain rfl : fn = Tryz.f8 := (Option.some.inj (Tryz.func8.symm.trans hfn)).symm
  refine ⟨by kernel_rfl, fun j t ht => ?_⟩
  rw [Tryz.params8] at ht
  obtain rfl : t = 62 := by simpa using Array.mem_of_getElem? ht
  exact (show Tryz.prog.wantsStandIn 62 = false by kernel_rfl)

set_option maxRecDepth 100000 in
theorem card : Rows.CompileCheckCardSaid :=
  Claim7.holds_tied_plain_at .later [] _ _ _ _ said (fun _ h => by cases h) (by kernel_rfl) (fun _ h => by cases h) compileCheck_row_tie rfl ⟨rfl, rfl⟩ (by kernel_rfl) rfl plain (by kernel_rfl)
end Go.Proofs.YtlpipoihinceiaaGreatDoor.compileCheck
