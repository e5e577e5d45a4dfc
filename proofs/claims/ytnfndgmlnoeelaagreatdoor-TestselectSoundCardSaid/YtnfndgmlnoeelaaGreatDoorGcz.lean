/- TestselectSound: for all arguments the law answers true, and the arguments read behind the call as before it. No condition beyond the row's own. -/
import Derived.Test.YtnfndgmlnoeelaaGreatDoorZey
import Derived.Test.YtnfndgmlnoeelaaGreatDoorZlu
import Derived.Test.YtnfndgmlnoeelaaGreatDoorZgc
import Derived.Test.YtnfndgmlnoeelaaGreatDoorZnc
namespace Go.Proofs.YtnfndgmlnoeelaaGreatDoor.testselectSound
open Go.ChangeShapes Go.WideShapes Go.ChangeAt Go.RowKit
set_option maxRecDepth 100000 in
theorem contract {H : Type} {enc : TypeId × Value → H} (W : World) (base : Nat) (args : Array Value) (ds gs : List (DataW H)) (before : List MemPlace)
  (hval : ∀ (j : Nat) t v,Tryz.f5.params[j]? = some t → args[j]? = some v → Value.okWide Tryz.prog W .any base t v)
  (hW : DataW.Whole enc Tryz.prog Tryz.f5.params.toList Rows.testselectSoundSpec.vars false W args.toList ds gs before) :
  Calls Tryz.prog 5 args W fun e W' => ∃ v,e = .returned v ∧ Rows.testselectSoundSpec.post enc Tryz.prog Tryz.f5 false true false false W args v W':=by
 have hW':=hW
 obtain ⟨p,q,hA,_,_,_,_⟩:=hW
 have hA1:=hA
 rw [Tryz.params5] at hA1 hval
 obtain ⟨v0,vs0,d0,ds0,p0,q0,hargs,rfl,rfl,h0,r0⟩:=trodAll_cons hA1
 obtain ⟨v1,vs1,d1,ds1,p1,q1,rfl,rfl,rfl,h1,r1⟩:=trodAll_cons r0
 obtain ⟨v2,vs2,d2,ds2,p2,q2,rfl,rfl,rfl,h2,r2⟩:=trodAll_cons r1
 obtain ⟨rfl,rfl,rfl⟩:=trodAll_nil r2
 obtain rfl : args = #[v0,v1,v2]:=by cases args;simp_all
 obtain ⟨A0,l0,c0,rfl,hl0,hst0⟩:=open_modules (hval 0 22 v0 rfl rfl) h0
 obtain ⟨A1,l1,c1,rfl,hl1,hst1⟩:=open_modules (hval 1 22 v1 rfl rfl) h1
 obtain ⟨a2,z2,rfl,ha2⟩:=open_limit (hval 2 45 v2 rfl rfl) h2
 refine (lawSound_any l0 l1 a2 z2 A0 c0 A1 c1 W hl0 hl1 (mow_of hst0) (mow_of hst1) ha2).mono fun e W' ⟨he,hb⟩ => ?_
 subst he
 refine ⟨_,rfl,post_true hW' rfl (by kernel_rfl) rfl ?_ hb⟩
 rw [Tryz.params5]
 intro t ht
 rcases (show t = 22 ∨ t = 45 by simpa using ht) with rfl | rfl
 ·exact ⟨by kernel_rfl,of_decide_eq_true (by kernel_rfl)⟩
 ·exact ⟨by kernel_rfl,of_decide_eq_true (by kernel_rfl)⟩
def arg3 : Array Value:=#[.slice none 0 0,.slice none 0 0,.agg #[.int .u16 0,.int .u64 0]]
set_option maxRecDepth 100000 in
theorem laid_met3 (os : Os) : laidMet Tryz.prog Rows.testselectSoundRow.laid ((laidWorld os).forCall (fun _ _ => 0) ⟨#[],arg3,[]⟩).memory:=
 laidMet_of_run' 8 (by kernel_rfl) (by kernel_rfl)
set_option maxRecDepth 100000 in
theorem lifted (os : Os) (started : os.Started) (H : Type) (enc : TypeId × Value → H) (F : Stop.Interp) :
  ReturnsInHanded {} Tryz.checked os 5 .any ((OpenSpec.ofChange Rows.testselectSoundSpec).preRow enc Tryz.prog Tryz.f5 Rows.testselectSoundRow.domain false Rows.testselectSoundRow.laid) (((OpenSpec.ofChange Rows.testselectSoundSpec).at F).post enc Tryz.prog Tryz.f5 false true false false):=by
 have hx : ∃ places,DataW.whole enc Tryz.prog ((laidWorld os).forCall (fun _ _ => 0) ⟨#[],arg3,[]⟩).memory Tryz.f5.params.toList Rows.testselectSoundSpec.vars false arg3.toList 8 = some ([.nil,.nil,.agg [.lit (.int .u16 0),.lit (.int .u64 0)]],[],places):=⟨[],by kernel_rfl⟩
 obtain ⟨places,hx⟩:=hx
 refine returnsInHanded_of_row (C:=Tryz.checked) (s:=OpenSpec.ofChange Rows.testselectSoundSpec) Tryz.own started (by kernel_rfl) Tryz.func5
  (witness_row_at (enc:=enc) (C:=Tryz.checked) false (laidWorld os) arg3 rfl (by kernel_rfl) (by kernel_rfl) (by kernel_rfl)
   (OpenSpec.preRow_of_cond 8 hx (by kernel_rfl) (fun k hk => by cases hk) (by kernel_rfl) (laid_met3 os))) ?_
 intro W base args ds gs before hval hW _ _ _ _ _ _
 exact contract W base args ds gs before hval hW
set_option maxRecDepth 100000 in
theorem said : Rows.TestselectSoundSaid:=
 OpenClaim.holds_of_cond 5 Tryz.f5 rfl rfl rfl rfl rfl rfl rfl ⟨rfl,rfl,rfl,rfl,rfl⟩ rfl rfl rfl rfl rfl (by kernel_rfl) Tryz.func5 testselectSoundFacts.closed
  (of_decide_eq_true (by kernel_rfl)) (by unfold Func.isWrapper;first | (rw [if_pos (by decide +kernel)];kernel_rfl) | (rw [if_neg (by decide +kernel)];exact ⟨rfl,rfl⟩))
  (fun os started H enc _ F => by rw [OpenClaim.pre_eq_preRow];exact lifted os started H enc F)
set_option maxRecDepth 100000 in
theorem plain (f : FuncId) (fn : Func) (hf : Tryz.pinned.checked.prog.funcNamed "cordwood/cordwoodlaw50.TestselectSound" = some f) (hfn : Tryz.pinned.checked.prog.funcs[f]? = some fn) :
  true = Tryz.pinned.checked.prog.looks [] ∧ ∀ (j : Nat) t,fn.params[j]? = some t → Tryz.pinned.checked.prog.wantsStandIn t = false:=by
 obtain rfl : f = 5 := Option.some.inj ((show Tryz.prog.funcNamed "cordwood/cordwoodlaw50.TestselectSound" = some 5 by kernel_rfl).symm.trans hf) |>.symm
 obtain rfl : fn = Tryz.f5:=(Option.some.inj (Tryz.func5.symm.trans hfn)).symm
 refine ⟨by kernel_rfl,fun j t ht => ?_⟩
 rw [Tryz.params5] at ht
 rcases (show t = 22 ∨ t = 45 by simpa using Array.mem_of_getElem? ht) with rfl | rfl
 ·exact (show Tryz.prog.wantsStandIn 22 = false by kernel_rfl)
 ·exact (show Tryz.prog.wantsStandIn 45 = false by kernel_rfl)
set_option maxRecDepth 100000 in
theorem card : Rows.TestselectSoundCardSaid:=
 Claim7.holds_tied_plain_at .later [] _ _ _ _ said (fun _ h => by cases h) (by kernel_rfl) (fun _ h => by cases h) testselectSound_row_tie rfl ⟨rfl,rfl⟩ (by kernel_rfl) rfl plain (by kernel_rfl)
end Go.Proofs.YtnfndgmlnoeelaaGreatDoor.testselectSound
