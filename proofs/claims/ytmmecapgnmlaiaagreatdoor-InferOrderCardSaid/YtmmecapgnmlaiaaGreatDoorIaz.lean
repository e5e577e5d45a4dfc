/- InferOrder: for every module the law answers true, and the module reads behind the call as before it. No condition beyond the row's own. -/
import Derived.Test.YtmmecapgnmlaiaaGreatDoorZxk
import Derived.Test.YtmmecapgnmlaiaaGreatDoorZxl
import Derived.Test.YtmmecapgnmlaiaaGreatDoorLol
namespace Go.Proofs.YtmmecapgnmlaiaaGreatDoor.inferOrder
open Go.ChangeShapes Go.WideShapes Go.ChangeAt Go.RowKit
set_option maxRecDepth 100000 in
theorem lifted (os : Os) (started : os.Started) (H : Type) (enc : TypeId × Value → H) (F : Stop.Interp) :
  ReturnsInHanded {} Tryz.checked os 5 .any ((OpenSpec.ofChange Rows.inferOrderSpec).preRow enc Tryz.prog Tryz.f5 Rows.inferOrderRow.domain false Rows.inferOrderRow.laid) (((OpenSpec.ofChange Rows.inferOrderSpec).at F).post enc Tryz.prog Tryz.f5 false true false false):=by
 have hx : ∃ places,DataW.whole enc Tryz.prog ((laidWorld os).forCall (fun _ _ => 0) ⟨#[],argM,[]⟩).memory Tryz.f5.params.toList Rows.inferOrderSpec.vars false argM.toList 8 = some ([.agg [.lit (.string []),.nil,.nil]],[],places):=⟨[],by kernel_rfl⟩
 obtain ⟨places,hx⟩:=hx
 refine returnsInHanded_of_row (C:=Tryz.checked) (s:=OpenSpec.ofChange Rows.inferOrderSpec) Tryz.own started (by kernel_rfl) Tryz.func5
  (witness_row_at (enc:=enc) (C:=Tryz.checked) false (laidWorld os) argM rfl (by kernel_rfl) (by kernel_rfl) (by kernel_rfl)
   (OpenSpec.preRow_of_cond 8 hx (by kernel_rfl) (fun k hk => by cases hk) (by kernel_rfl) (laid_met os))) ?_
 intro W base args ds gs before hval hW _ _ _ _ _ _
 exact contract1 (fn:=Tryz.f5) (s:=Rows.inferOrderSpec) Tryz.params5 (by kernel_rfl) rfl (fun _ => rfl) (fun label uses uA uc decls dA dc w hu hd _ _ => lawOrder_any label uses uA uc decls dA dc w hu hd) W base args ds gs before hval hW
set_option maxRecDepth 100000 in
theorem said : Rows.InferOrderSaid:=
 OpenClaim.holds_of_cond 5 Tryz.f5 rfl rfl rfl rfl rfl rfl rfl ⟨rfl,rfl,rfl,rfl,rfl⟩ rfl rfl rfl rfl rfl (by kernel_rfl) Tryz.func5 inferOrderFacts.closed
  (of_decide_eq_true (by kernel_rfl)) (by unfold Func.isWrapper;first | (rw [if_pos (by decide +kernel)];kernel_rfl) | (rw [if_neg (by decide +kernel)];exact ⟨rfl,rfl⟩))
  (fun os started H enc _ F => by rw [OpenClaim.pre_eq_preRow];exact lifted os started H enc F)
set_option maxRecDepth 100000 in
theorem plain (f : FuncId) (fn : Func) (hf : Tryz.pinned.checked.prog.funcNamed "cordwood/cordwoodlaw25.InferOrder" = some f) (hfn : Tryz.pinned.checked.prog.funcs[f]? = some fn) :
  false = Tryz.pinned.checked.prog.looks [] ∧ ∀ (j : Nat) t,fn.params[j]? = some t → Tryz.pinned.checked.prog.wantsStandIn t = false:=by
 obtain rfl : f = 5 := Option.some.inj ((show Tryz.prog.funcNamed "cordwood/cordwoodlaw25.InferOrder" = some 5 by kernel_rfl).symm.trans hf) |>.symm
 obtain rfl : fn = Tryz.f5:=(Option.some.inj (Tryz.func5.symm.trans hfn)).symm
 refine ⟨by kernel_rfl,fun j t ht => ?_⟩
 rw [Tryz.params5] at ht
 obtain rfl : t = 25:=by simpa using Array.mem_of_getElem? ht
 exact (show Tryz.prog.wantsStandIn 25 = false by kernel_rfl)
set_option maxRecDepth 100000 in
theorem card : Rows.InferOrderCardSaid:=
 Claim7.holds_tied_plain_at .later [] _ _ _ _ said (fun _ h => by cases h) (by kernel_rfl) (fun _ h => by cases h) inferOrder_row_tie rfl ⟨rfl,rfl⟩ (by kernel_rfl) rfl plain (by kernel_rfl)
end Go.Proofs.YtmmecapgnmlaiaaGreatDoor.inferOrder
