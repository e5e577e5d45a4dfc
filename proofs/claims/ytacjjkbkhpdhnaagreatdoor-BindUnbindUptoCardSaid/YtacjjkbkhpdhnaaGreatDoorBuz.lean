/- BindUnbind, where what comes in is of the bulk of the second form: for all such arguments the law answers true, and they read behind the call as before it. No condition beyond the row's own. -/
import Derived.Test.YtacjjkbkhpdhnaaGreatDoorShl
import Derived.Test.YtacjjkbkhpdhnaaGreatDoorZpl
import Derived.Test.YtacjjkbkhpdhnaaGreatDoorZqf
import Derived.Test.YtacjjkbkhpdhnaaGreatDoorZqd
namespace Go.Proofs.YtacjjkbkhpdhnaaGreatDoor.bindUnbind
open Go.ChangeShapes Go.WideShapes Go.ChangeAt Go.RowKit
set_option maxRecDepth 100000 in
theorem contract {H : Type} {enc : TypeId × Value → H} (W : World) (base : Nat) (args : Array Value) (ds gs : List (DataW H)) (before : List MemPlace)
    (hval : ∀ (j : Nat) t v, Tryz.f5.params[j]? = some t → args[j]? = some v → Value.okWide Tryz.prog W .any base t v)
    (hW : DataW.Whole enc Tryz.prog Tryz.f5.params.toList Rows.bindUnbindSpec.vars false W args.toList ds gs before) (hk : Rows.uptoSmall H (ds ++ gs) = true) :
    Calls Tryz.prog 5 args W fun e W' => ∃ v, e = .returned v ∧ Rows.bindUnbindSpec.post enc Tryz.prog Tryz.f5 false true false false W args v W' := by
  have hW' := hW
  obtain ⟨p, q, hA, _, _, _, _⟩ := hW
  have hA1 := hA
  rw [Tryz.params5] at hA1 hval
  obtain ⟨v0, vs0, d0, ds0, p0, q0, hargs, rfl, rfl, h0, r0⟩ := trodAll_cons hA1
  obtain ⟨v1, vs1, d1, ds1, p1, q1, rfl, rfl, rfl, h1, r1⟩ := trodAll_cons r0
  obtain ⟨v2, vs2, d2, ds2, p2, q2, rfl, rfl, rfl, h2, r2⟩ := trodAll_cons r1
  obtain ⟨v3, vs3, d3, ds3, p3, q3, rfl, rfl, rfl, h3, r3⟩ := trodAll_cons r2
  obtain ⟨rfl, rfl, rfl⟩ := trodAll_nil r3
  obtain rfl : args = #[v0, v1, v2, v3] := by cases args; simp_all
  have h9 : Rows.uptoBulkAll ([d0, d1, d2, d3] ++ gs) ≤ 1048576 := of_decide_eq_true hk
  simp only [List.cons_append, Rows.uptoBulkAll] at h9
  obtain ⟨label0, uA0, uses0, uc0, dA0, decls0, dc0, rfl, hlb0, hu0, hd0, hus0, hds0⟩ := open_module (hval 0 25 v0 rfl rfl) h0
  have hcn0 : ∀ x ∈ decls0, x.s.count ≤ 2000000 := fun x hx => by have h1 := bulk_module hd0 h0 x hx; omega
  obtain ⟨kA1, known1, kc1, rfl, hk1⟩ := open_ifaces (hval 1 41 v1 rfl rfl) h1
  obtain ⟨z2, rfl⟩ := okWide_int Tryz.underlying3 (hval 2 3 v2 rfl rfl)
  obtain ⟨s3, rfl⟩ := okWide_string Tryz.underlying9 (hval 3 9 v3 rfl rfl)
  refine (lawUnbind_any label0 uses0 uA0 uc0 decls0 dA0 dc0 known1 kA1 kc1 z2 s3 W hu0 hd0 hds0 hcn0 hk1).mono fun e W' ⟨he, hb⟩ => ?_
  subst he
  refine ⟨_, rfl, post_true hW' rfl (by kernel_rfl) rfl ?_ hb⟩
  rw [Tryz.params5]
  intro t ht
  rcases (show t = 25 ∨ t = 41 ∨ t = 3 ∨ t = 9 by simpa using ht) with rfl | rfl | rfl | rfl
  · exact ⟨by kernel_rfl, of_decide_eq_true (by kernel_rfl)⟩
  · exact ⟨by kernel_rfl, of_decide_eq_true (by kernel_rfl)⟩
  · exact ⟨by kernel_rfl, of_decide_eq_true (by kernel_rfl)⟩
  · exact ⟨by kernel_rfl, of_decide_eq_true (by kernel_rfl)⟩
def arg3 : Array Value := #[.agg #[.string ⟨#[]⟩, .slice none 0 0, .slice none 0 0], .slice none 0 0, .int .i64 0, .string ⟨#[]⟩]
set_option maxRecDepth 100000 in
theorem laid_met3 (os : Os) : laidMet Tryz.prog Rows.bindUnbindUptoRow.laid ((laidWorld os).forCall (fun _ _ => 0) ⟨#[], arg3, []⟩).memory :=
  laidMet_of_run' 8 (by kernel_rfl) (by kernel_rfl)
set_option maxRecDepth 100000 in
theorem lifted (os : Os) (started : os.Started) (H : Type) (enc : TypeId × Value → H) (F : Stop.Interp) :
    ReturnsInHanded {} Tryz.checked os 5 .any ((Rows.OpenSpec.upto Rows.bindUnbindSpec).preRow enc Tryz.prog Tryz.f5 Rows.bindUnbindUptoRow.domain false Rows.bindUnbindUptoRow.laid) (((Rows.OpenSpec.upto Rows.bindUnbindSpec).at F).post enc Tryz.prog Tryz.f5 false true false false) := by
  have hx : ∃ places, DataW.whole enc Tryz.prog ((laidWorld os).forCall (fun _ _ => 0) ⟨#[], arg3, []⟩).memory Tryz.f5.params.toList Rows.bindUnbindSpec.vars false arg3.toList 8 = some ([.agg [.lit (.string []), .nil, .nil], .nil, .lit (.int .i64 0), .lit (.string [])], [], places) := ⟨[], by kernel_rfl⟩
  obtain ⟨places, hx⟩ := hx
  refine returnsInHanded_of_row (C := Tryz.checked) (s := Rows.OpenSpec.upto Rows.bindUnbindSpec) Tryz.own started (by kernel_rfl) Tryz.func5
    (witness_row_at (enc := enc) (C := Tryz.checked) false (laidWorld os) arg3 rfl (by kernel_rfl) (by kernel_rfl) (by kernel_rfl)
      (OpenSpec.preRow_of_cond 8 hx (by kernel_rfl) (fun k hk => by cases hk; kernel_rfl) (by kernel_rfl) (laid_met3 os))) ?_
  intro W base args ds gs before hval hW _ hcond _ _ _ _
  exact contract W base args ds gs before hval hW (hcond _ rfl)
set_option maxRecDepth 100000 in
theorem said : Rows.BindUnbindUptoSaid :=
  OpenClaim.holds_of_cond 5 Tryz.f5 rfl rfl rfl rfl rfl rfl rfl ⟨rfl, rfl, rfl, rfl, rfl⟩ rfl rfl rfl rfl rfl (by kernel_rfl) Tryz.func5 bindUnbindFacts.closed
    (of_decide_eq_true (by kernel_rfl)) (by unfold Func.isWrapper; first | (rw [if_pos (by decide +kernel)]; kernel_rfl) | (rw [if_neg (by decide +kernel)]; exact ⟨rfl, rfl⟩))
    (fun os started H enc _ F => by rw [OpenClaim.pre_eq_preRow]; exact lifted os started H enc F)
set_option maxRecDepth 100000 in
theorem plain (f : FuncId) (fn : Func) (hf : Tryz.pinned.checked.prog.funcNamed "cordwood/cordwoodlaw24.BindUnbind" = some f) (hfn : Tryz.pinned.checked.prog.funcs[f]? = some fn) :
    true = Tryz.pinned.checked.prog.looks [] ∧ ∀ (j : Nat) t, fn.params[j]? = some t → Tryz.pinned.checked.prog.wantsStandIn t = false := by
  obtain rfl : f = 5 := Option.some.inj ((show Tryz.prog.funcNamed "cordwood/cordwoodlaw24.BindUnbind" = some 5 by kernel_rfl).symm.trans hf) |>.symm
  obtain rfl : fn = Tryz.f5 := (Option.some.inj (Tryz.func5.symm.trans hfn)).symm
  refine ⟨by kernel_rfl, fun j t ht => ?_⟩
  rw [Tryz.params5] at ht
  rcases (show t = 25 ∨ t = 41 ∨ t = 3 ∨ t = 9 by simpa using Array.mem_of_getElem? ht) with rfl | rfl | rfl | rfl
  · exact (show Tryz.prog.wantsStandIn 25 = false by kernel_rfl)
  · exact (show Tryz.prog.wantsStandIn 41 = false by kernel_rfl)
  · exact (show Tryz.prog.wantsStandIn 3 = false by kernel_rfl)
  · exact (show Tryz.prog.wantsStandIn 9 = false by kernel_rfl)
set_option maxRecDepth 100000 in
theorem card : Rows.BindUnbindUptoCardSaid :=
  Claim7.holds_tied_plain_at .later [] _ _ _ _ said (fun _ h => by cases h) (by kernel_rfl) (fun _ h => by cases h) bindUnbindUpto_row_tie rfl ⟨rfl, rfl⟩ (by kernel_rfl) rfl plain (by kernel_rfl)
end Go.Proofs.YtacjjkbkhpdhnaaGreatDoor.bindUnbind
