/- InferGroups, where what comes in is of the bulk of the second form: for every such module the law answers true, and the module reads behind the call as before it. No condition beyond the row's own. -/
import Derived.Test.YtmmecapgnmlaiaaGreatDoorZxj
import Derived.Test.YtmmecapgnmlaiaaGreatDoorZyj
set_option maxRecDepth 100000
set_option maxHeartbeats 16000000
namespace Go.Proofs.YtmmecapgnmlaiaaGreatDoor.inferGroups
open Go.ChangeShapes Go.WideShapes Go.ChangeAt Go.RowKit Go.Proofs.Q
theorem contract {H:Type}{enc:TypeId×Value→H}(W:World)(base:Nat)(args:Array Value)(ds gs:List (DataW H))(before:List MemPlace)
  (hval:∀(j:Nat) t v,Tryz.f3.params[j]?=some t→args[j]?=some v→Value.okWide Tryz.prog W .any base t v)
  (hW:DataW.Whole enc Tryz.prog Tryz.f3.params.toList Rows.inferGroupsSpec.vars false W args.toList ds gs before)(hk:Rows.uptoSmall H (ds++gs)=true) :
  Calls Tryz.prog 3 args W fun e W'=>∃v,e=.returned v∧Rows.inferGroupsSpec.post enc Tryz.prog Tryz.f3 false true false false W args v W':=by
 have hW':=hW
 obtain⟨p,q,hA,_,_,_,_⟩:=hW
 have hA1:=hA
 rw[Tryz.params3]at hA1 hval
 obtain⟨v0,vs0,d0,ds0,p0,q0,hargs,rfl,rfl,h0,r0⟩:=trodAll_cons hA1
 obtain⟨rfl,rfl,rfl⟩:=trodAll_nil r0
 obtain rfl:args=#[v0]:=by cases args;simp_all
 obtain⟨label,uA,uses,uc,dA,decls,dc,rfl,_,hu,hd,_,_⟩:=Ct (hval 0 25 v0 rfl rfl) h0
 have hcn:∀x∈decls,x.s.count≤2000000:=fun x hx=>by
  have h1:=Cu hd h0 x hx
  have h2:Rows.uptoBulkAll ([d0]++gs)≤1048576:=SK hk
  simp only[TU,Rows.uptoBulkAll]at h2
  omega
 refine(yN label uses uA uc decls dA dc W hu hd hcn).mono fun e W' ⟨he,hb⟩=>?_
 subst he
 refine⟨_,rfl,Gz hW' rfl (by kernel_rfl) rfl ?_ hb⟩
 rw[Tryz.params3]
 intro t ht
 obtain rfl:t=25:=by simpa using ht
 exact⟨by kernel_rfl,SK (by kernel_rfl)⟩
theorem lifted (os:Os)(started:os.Started)(H:Type)(enc:TypeId×Value→H)(F:Stop.Interp) :
  ReturnsInHanded {} Tryz.checked os 3 .any ((Rows.OpenSpec.upto Rows.inferGroupsSpec).preRow enc Tryz.prog Tryz.f3 Rows.inferGroupsUptoRow.domain false Rows.inferGroupsUptoRow.laid) (((Rows.OpenSpec.upto Rows.inferGroupsSpec).at F).post enc Tryz.prog Tryz.f3 false true false false):=by
 have hx:∃places,DataW.whole enc Tryz.prog ((qD os).forCall (fun _ _=>0) ⟨#[],Ej,[]⟩).memory Tryz.f3.params.toList Rows.inferGroupsSpec.vars false Ej.toList 8=some ([.agg [.lit (.string []),.nil,.nil]],[],places):=⟨[],by kernel_rfl⟩
 obtain⟨places,hx⟩:=hx
 refine returnsInHanded_of_row (C:=Tryz.checked) (s:=Rows.OpenSpec.upto Rows.inferGroupsSpec) Tryz.own started (by kernel_rfl) Tryz.func3
  (witness_row_at (enc:=enc) (C:=Tryz.checked) false (qD os) Ej rfl (by kernel_rfl) (by kernel_rfl) (by kernel_rfl)
   (OpenSpec.preRow_of_cond 8 hx (by kernel_rfl) (fun k hk=>by cases hk;kernel_rfl) (by kernel_rfl) (I7 os))) ?_
 intro W base args ds gs before hval hW _ hcond _ _ _ _
 exact contract W base args ds gs before hval hW (hcond _ rfl)
theorem said:Rows.InferGroupsUptoSaid:=
 OpenClaim.holds_of_cond 3 Tryz.f3 rfl rfl rfl rfl rfl rfl rfl ⟨rfl,rfl,rfl,rfl,rfl⟩ rfl rfl rfl rfl rfl (by kernel_rfl) Tryz.func3 bM.closed
  (SK (by kernel_rfl)) (by unfold Func.isWrapper;first|(rw[TY (by decide +kernel)];kernel_rfl)|(rw[TW (by decide +kernel)];exact⟨rfl,rfl⟩))
  (fun os started H enc _ F=>by rw[OpenClaim.pre_eq_preRow];exact lifted os started H enc F)
theorem plain (f : FuncId) (fn : Func) (hf : Tryz.pinned.checked.prog.funcNamed "cordwood/cordwoodlaw25.InferGroups" = some f) (hfn : Tryz.pinned.checked.prog.funcs[f]? = some fn) :
  false=Tryz.pinned.checked.prog.looks []∧∀(j:Nat) t,fn.params[j]?=some t→Tryz.pinned.checked.prog.wantsStandIn t=false:=by
 obtain rfl : f = 3 := Option.some.inj ((show Tryz.prog.funcNamed "cordwood/cordwoodlaw25.InferGroups" = some 3 by kernel_rfl).symm.trans hf) |>.symm
 obtain rfl:fn=Tryz.f3:=(TL (Tryz.func3.symm.trans hfn)).symm
 refine⟨by kernel_rfl,fun j t ht=>?_⟩
 rw[Tryz.params3]at ht
 obtain rfl:t=25:=by simpa using Array.mem_of_getElem? ht
 exact(show Tryz.prog.wantsStandIn 25=false by kernel_rfl)
theorem card:Rows.InferGroupsUptoCardSaid:=
 Claim7.holds_tied_plain_at .later [] _ _ _ _ said (fun _ h=>by cases h) (by kernel_rfl) (fun _ h=>by cases h) inferGroupsUpto_row_tie rfl ⟨rfl,rfl⟩ (by kernel_rfl) rfl plain (by kernel_rfl)
end Go.Proofs.YtmmecapgnmlaiaaGreatDoor.inferGroups
