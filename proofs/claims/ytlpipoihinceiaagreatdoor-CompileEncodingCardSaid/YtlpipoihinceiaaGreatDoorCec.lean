/- CompileEncoding: for every code and string the law answers true, and the arguments read behind the call as before it. No condition beyond the row's own. -/
import Derived.Test.YtlpipoihinceiaaGreatDoorShl
import Derived.Test.YtlpipoihinceiaaGreatDoorKff
import Derived.Test.YtlpipoihinceiaaGreatDoorZhg
import Derived.Test.YtlpipoihinceiaaGreatDoorXch
namespace Go.Proofs.YtlpipoihinceiaaGreatDoor.compileEncoding
open Go.ChangeShapes Go.WideShapes Go.ChangeAt Go.RowKit

set_option maxRecDepth 100000 in
theorem contract {H : Type} {enc : TypeId × Value → H} (W : World) (base : Nat) (args : Array Value) (ds gs : List (DataW H)) (before : List MemPlace)
    (hval : ∀ (j : Nat) t v, Tryz.f9.params[j]? = some t → args[j]? = some v → Value.okWide Tryz.prog W .any base t v)
    (hW : DataW.Whole enc Tryz.prog Tryz.f9.params.toList Rows.compileEncodingSpec.vars false W args.toList ds gs before) :
    Calls Tryz.prog 9 args W fun e W' => ∃ v, e = .returned v ∧ Rows.compileEncodingSpec.post enc Tryz.prog Tryz.f9 false true false false W args v W' := by
  have hW' := hW
  obtain ⟨p, q, hA, _, _, _, _⟩ := hW
  have hA1 := hA
  rw [Tryz.params9] at hA1 hval
  obtain ⟨v0, vs0, d0, ds0, p0, q0, hargs, rfl, rfl, h0, r0⟩ := trodAll_cons hA1
  obtain ⟨v1, vs1, d1, ds1, p1, q1, rfl, rfl, rfl, h1, r1⟩ := trodAll_cons r0
  obtain ⟨rfl, rfl, rfl⟩ := trodAll_nil r1
  obtain rfl : args = #[v0, v1] := by cases args; simp_all
  obtain ⟨lb, A1, bl, c1, A2, dl, c2, rfl, _, hbl, hdl⟩ := open_code (hval 0 62 v0 rfl rfl) h0
  obtain ⟨s, rfl, hd2, hp2, _⟩ := Go.ChangeMaps.open_string Tryz.underlying9 (hval 1 9 v1 rfl rfl) h1
  refine (lawEncoding_any lb bl dl A1 c1 A2 c2 s W hbl hdl).mono fun e W' ⟨he, hb⟩ => ?_
  subst he
  refine ⟨_, rfl, post_true hW' rfl (by kernel_rfl) rfl ?_ hb⟩
  rw [Tryz.params9]
  intro t ht
  rcases (show t = 62 ∨ t = 9 by simpa using ht) with rfl | rfl
  · exact ⟨by kernel_rfl, of_decide_eq_true (by kernel_rfl)⟩
  · exact ⟨by kernel_rfl, of_decide_eq_true (by kernel_rfl)⟩

def arg3 : Array Value := #[.agg #[.string ⟨#[]⟩, .slice none 0 0, .slice none 0 0], .string ⟨#[]⟩]
set_option maxRecDepth 100000 in
theorem laid_met3 (os : Os) : laidMet Tryz.prog Rows.compileEncodingRow.laid ((laidWorld os).forCall (fun _ _ => 0) ⟨#[], arg3, []⟩).memory :=
  laidMet_of_run' 8 (by kernel_rfl) (by kernel_rfl)

set_option maxRecDepth 100000 in
theorem lifted (os : Os) (started : os.Started) (H : Type) (enc : TypeId × Value → H) (F : Stop.Interp) :
    ReturnsInHanded {} Tryz.checked os 9 .any ((OpenSpec.ofChange Rows.compileEncodingSpec).preRow enc Tryz.prog Tryz.f9 Rows.compileEncodingRow.domain false Rows.compileEncodingRow.laid) (((OpenSpec.ofChange Rows.compileEncodingSpec).at F).post enc Tryz.prog Tryz.f9 false true false false) := by
  have hx : ∃ places, DataW.whole enc Tryz.prog ((laidWorld os).forCall (fun _ _ => 0) ⟨#[], arg3, []⟩).memory Tryz.f9.params.toList Rows.compileEncodingSpec.vars false arg3.toList 8 = some ([.agg [.lit (.string []), .nil, .nil], .lit (.string [])], [], places) := ⟨[], by kernel_rfl⟩
  obtain ⟨places, hx⟩ := hx
  refine returnsInHanded_of_row (C := Tryz.checked) (s := OpenSpec.ofChange Rows.compileEncodingSpec) Tryz.own started (by kernel_rfl) Tryz.func9
    (witness_row_at (enc := enc) (C := Tryz.checked) false (laidWorld os) arg3 rfl (by kernel_rfl) (by kernel_rfl) (by kernel_rfl)
      (OpenSpec.preRow_of_cond 8 hx (by kernel_rfl) (fun k hk => by cases hk) (by kernel_rfl) (laid_met3 os))) ?_
  intro W base args ds gs before hval hW _ _ _ _ _ _
  exact contract W base args ds gs before hval hW

set_option maxRecDepth 100000 in
theorem said : Rows.CompileEncodingSaid :=
  OpenClaim.holds_of_cond 9 Tryz.f9 rfl rfl rfl rfl rfl rfl rfl ⟨rfl, rfl, rfl, rfl, rfl⟩ rfl rfl rfl rfl rfl (by kernel_rfl) Tryz.func9 compileEncodingFacts.closed
    (of_decide_eq_true (by kernel_rfl)) (by unfold Func.isWrapper; first | (rw [if_pos (by decide +kernel)]; kernel_rfl) | (rw [if_neg (by decide +kernel)]; exact ⟨rfl, rfl⟩))
    (fun os started H enc _ F => by rw [OpenClaim.pre_eq_preRow]; exact lifted os started H enc F)

set_option maxRecDepth 100000 in
theorem plain (f : FuncId) (fn : Func) (hf : Tryz.pinned.checked.prog.funcNamed "cordwood/cordwoodlaw28.CompileEncoding" = some f) (hfn : Tryz.pinned.checked.prog.funcs[f]? = some fn) :
    true = Tryz.pinned.checked.prog.looks [] ∧ ∀ (j : Nat) t, fn.params[j]? = some t → Tryz.pinned.checked.prog.wantsStandIn t = false := by
  obtain rfl : f = 9 := Option.some.inj ((show Tryz.prog.funcNamed "cordwood/cordwoodlaw28.CompileEncoding" = some 9 by kernel_rfl).symm.trans hf) |>.symm
  obtain rfl : fn = Tryz.f9 := (Option.some.inj (Tryz.func9.symm.trans hfn)).symm
  refine ⟨by kernel_rfl, fun j t ht => ?_⟩
  rw [Tryz.params9] at ht
  rcases (show t = 62 ∨ t = 9 by simpa using Array.mem_of_getElem? ht) with rfl | rfl
  · exact (show Tryz.prog.wantsStandIn 62 = false by kernel_rfl)
  · exact (show Tryz.prog.wantsStandIn 9 = false by kernel_rfl)

set_option maxRecDepth 100000 in
theorem card : Rows.CompileEncodingCardSaid :=
  Claim7.holds_tied_plain_at .later [] _ _ _ _ said (fun _ h => by cases h) (by kernel_rfl) (fun _ h => by cases h) compileEncoding_row_tie rfl ⟨rfl, rfl⟩ (by kernel_rfl) rfl plain (by kernel_rfl)
end Go.Proofs.YtlpipoihinceiaaGreatDoor.compileEncoding
