/- BindNumbers, where what comes in is of the bulk of the second form: for all such arguments the law answers true, and they read behind the call as before it. No condition beyond the row's own. -/
import Derived.Test.YtacjjkbkhpdhnaaGreatDoorShl
import Derived.Test.YtacjjkbkhpdhnaaGreatDoorZpl
import Derived.Test.YtacjjkbkhpdhnaaGreatDoorZqf
import Derived.Test.YtacjjkbkhpdhnaaGreatDoorZnc
namespace Go.Proofs.YtacjjkbkhpdhnaaGreatDoor.bindNumbers
open Go.ChangeShapes Go.WideShapes Go.ChangeAt Go.RowKit
set_option maxRecDepth 100000 in
theorem contract {H : Type} {enc : TypeId × Value → H} (W : World) (base : Nat) (args : Array Value) (ds gs : List (DataW H)) (before : List MemPlace)
    (hval : ∀ (j : Nat) t v, Tryz.f8.params[j]? = some t → args[j]? = some v → Value.okWide Tryz.prog W .any base t v)
    (hW : DataW.Whole enc Tryz.prog Tryz.f8.params.toList Rows.bindNumbersSpec.vars false W args.toList ds gs before) (hk : Rows.uptoSmall H (ds ++ gs) = true) :
    Calls Tryz.prog 8 args W fun e W' => ∃ v, e = .returned v ∧ Rows.bindNumbersSpec.post enc Tryz.prog Tryz.f8 false true false false W args v W' := by
  have hW' := hW
  obtain ⟨p, q, hA, _, _, _, _⟩ := hW
  have hA1 := hA
  rw [Tryz.params8] at hA1 hval
  obtain ⟨v0, vs0, d0, ds0, p0, q0, hargs, rfl, rfl, h0, r0⟩ := trodAll_cons hA1
  obtain ⟨v1, vs1, d1, ds1, p1, q1, rfl, rfl, rfl, h1, r1⟩ := trodAll_cons r0
  obtain ⟨rfl, rfl, rfl⟩ := trodAll_nil r1
  obtain rfl : args = #[v0, v1] := by cases args; simp_all
  have h9 : Rows.uptoBulkAll ([d0, d1] ++ gs) ≤ 1048576 := of_decide_eq_true hk
  simp only [List.cons_append, Rows.uptoBulkAll] at h9
  obtain ⟨uA0, uses0, uc0, dA0, decls0, dc0, rfl, hu0, hd0, hus0, hds0⟩ := open_source (hval 0 40 v0 rfl rfl) h0
  have hcn0 : ∀ x ∈ decls0, x.s.count ≤ 2000000 := fun x hx => by have h1 := bulk_source hd0 h0 x hx; omega
  obtain ⟨uA1, uses1, uc1, dA1, decls1, dc1, rfl, hu1, hd1, hus1, hds1⟩ := open_source (hval 1 40 v1 rfl rfl) h1
  have hcn1 : ∀ x ∈ decls1, x.s.count ≤ 2000000 := fun x hx => by have h1 := bulk_source hd1 h1 x hx; omega
  refine (lawNumbers_any uses0 uA0 uc0 decls0 dA0 dc0 uses1 uA1 uc1 decls1 dA1 dc1 W hu0 hd0 hds0 hcn0 hu1 hd1 hds1 hcn1).mono fun e W' ⟨he, hb⟩ => ?_
  subst he
  refine ⟨_, rfl, post_true hW' rfl (by kernel_rfl) rfl ?_ hb⟩
  rw [Tryz.params8]
  intro t ht
  obtain rfl : t = 40 := by simpa using ht
  · exact ⟨by kernel_rfl, of_decide_eq_true (by kernel_rfl)⟩
def arg3 : Array Value := #[.agg #[.slice none 0 0, .slice none 0 0], .agg #[.slice none 0 0, .slice none 0 0]]
set_option maxRecDepth 100000 in
theorem laid_met3 (os : Os) : laidMet Tryz.prog Rows.bindNumbersUptoRow.laid ((laidWorld os).forCall (fun _ _ => 0) ⟨#[], arg3, []⟩).memory :=
  laidMet_of_run' 8 (by kernel_rfl) (by kernel_rfl)
set_option maxRecDepth 100000 in
theorem lifted (os : Os) (started : os.Started) (H : Type) (enc : TypeId × Value → H) (F : Stop.Interp) :
    ReturnsInHanded {} Tryz.checked os 8 .any ((Rows.OpenSpec.upto Rows.bindNumbersSpec).preRow enc Tryz.prog Tryz.f8 Rows.bindNumbersUptoRow.domain false Rows.bindNumbersUptoRow.laid) (((Rows.OpenSpec.upto Rows.bindNumbersSpec).at F).post enc Tryz.prog Tryz.f8 false true false false) := by
  have hx : ∃ places, DataW.whole enc Tryz.prog ((laidWorld os).forCall (fun _ _ => 0) ⟨#[], arg3, []⟩).memory Tryz.f8.params.toList Rows.bindNumbersSpec.vars false arg3.toList 8 = some ([.agg [.nil, .nil], .agg [.nil, .nil]], [], places) := ⟨[], by kernel_rfl⟩
  obtain ⟨places, hx⟩ := hx
  refine returnsInHanded_of_row (C := Tryz.checked) (s := Rows.OpenSpec.upto Rows.bindNumbersSpec) Tryz.own started (by kernel_rfl) Tryz.func8
    (witness_row_at (enc := enc) (C := Tryz.checked) false (laidWorld os) arg3 rfl (by kernel_rfl) (by kernel_rfl) (by kernel_rfl)
      (OpenSpec.preRow_of_cond 8 hx (by kernel_rfl) (fun k hk => by cases hk; kernel_rfl) (by kernel_rfl) (laid_met3 os))) ?_
  intro W base args ds gs before hval hW _ hcond _ _ _ _
  exact contract W base args ds gs before hval hW (hcond _ rfl)
set_option maxRecDepth 100000 in
theorem said : Rows.BindNumbersUptoSaid :=
  OpenClaim.holds_of_cond 8 Tryz.f8 rfl rfl rfl rfl rfl rfl rfl ⟨rfl, rfl, rfl, rfl, rfl⟩ rfl rfl rfl rfl rfl (by kernel_rfl) Tryz.func8 bindNumbersFacts.closed
    (of_decide_eq_true (by kernel_rfl)) (by unfold Func.isWrapper; first | (rw [if_pos (by decide +kernel)]; kernel_rfl) | (rw [if_neg (by decide +kernel)]; exact ⟨rfl, rfl⟩))
    (fun os started H enc _ F => by rw [OpenClaim.pre_eq_preRow]; exact lifted os started H enc F)
set_option maxRecDepth 100000 in
theorem plain (f : FuncId) (fn : Func) (hf : Tryz.pinned.checked.prog.funcNamed "cordwood/cordwoodlaw24.BindNumbers" = some f) (hfn : Tryz.pinned.checked.prog.funcs[f]? = some fn) :
    true = Tryz.pinned.checked.prog.looks [] ∧ ∀ (j : Nat) t, fn.params[j]? = some t → Tryz.pinned.checked.prog.wantsStandIn t = false := by
  obtain rfl : f = 8 := Option.some.inj ((show Tryz.prog.funcNamed "cordwood/cordwoodlaw24.BindNumbers" = some 8 by kernel_rfl).symm.trans hf) |>.symm
  obtain rfl : fn = Tryz.f8 := (Option.some.inj (Tryz.func8.symm.trans hfn)).symm
  refine ⟨by kernel_rfl, fun j t ht => ?_⟩
  rw [Tryz.params8] at ht
  obtain rfl : t = 40 := by simpa using Array.mem_of_getElem? ht
  · exact (show Tryz.prog.wantsStandIn 40 = false by kernel_rfl)
set_option maxRecDepth 100000 in
theorem card : Rows.BindNumbersUptoCardSaid :=
  Claim7.holds_tied_plain_at .later [] _ _ _ _ said (fun _ h => by cases h) (by kernel_rfl) (fun _ h => by cases h) bindNumbersUpto_row_tie rfl ⟨rfl, rfl⟩ (by kernel_rfl) rfl plain (by kernel_rfl)
end Go.Proofs.YtacjjkbkhpdhnaaGreatDoor.bindNumbers
