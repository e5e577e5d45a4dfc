/- helper lemmas -/
import Derived.Test.YtmmecapgnmlaiaaGreatDoorTyo
import Derived.Test.YtmmecapgnmlaiaaGreatDoorTys
import Derived.Test.YtmmecapgnmlaiaaGreatDoorZxx
import Derived.Test.YtmmecapgnmlaiaaGreatDoorIms
import Derived.Test.YtmmecapgnmlaiaaGreatDoorZxi
set_option maxRecDepth 100000
set_option maxHeartbeats 16000000
namespace Go.Proofs.Q
open Go Go.RowKit Go.Proofs Go.Proofs.Unify
theorem Me {B:Nat}{C:TyC}{W X:World}{v:Value}{ix:List Nat}{σ:Tst}{nf:Nat}{env:Env}{eA:Option Addr}{ec:Nat}(n m:ByteArray)(i d:Int)(A:Option Addr)(c:Nat)
  (k0:Int)(n0 m0:ByteArray)(i0 d0:Int)(A0:Option Addr)(c0:Nat)(s0:Fo)(k1:Int)(n1 m1:ByteArray)(i1 d1:Int)(A1:Option Addr)(c1:Nat)(s1:Fo)(r:Fo)
  (E0:eH B s0)(E1:eH B s1)
  (ha:TyA B C W X v ix σ nf env eA ec)(hs:(Fo.cons k0 n0 m0 i0 d0 A0 c0 s0 (.cons k1 n1 m1 i1 d1 A1 c1 s1 r)).Sl X B A c)(hx:(Fo.cons k0 n0 m0 i0 d0 A0 c0 s0 (.cons k1 n1 m1 i1 d1 A1 c1 s1 r)).ex.Cok C.sc)(hro:(Fo.cons k0 n0 m0 i0 d0 A0 c0 s0 (.cons k1 n1 m1 i1 d1 A1 c1 s1 r)).Ro (fun k=>k<B) C W)
  (hel:env.length+2*(Fo.cons k0 n0 m0 i0 d0 A0 c0 s0 (.cons k1 n1 m1 i1 d1 A1 c1 s1 r)).count≤900000)(hnl:σ.ns.length+(Fo.cons k0 n0 m0 i0 d0 A0 c0 s0 (.cons k1 n1 m1 i1 d1 A1 c1 s1 r)).count≤900000) :
  Calls Tryz.prog 157 #[.pointer (some ⟨C.tb,0,none⟩),.agg #[.int .i64 10,.string n,.string m,.int .i64 i,.int .i64 d,.slice A (Fo.cons k0 n0 m0 i0 d0 A0 c0 s0 (.cons k1 n1 m1 i1 d1 A1 c1 s1 r)).len c],.slice eA env.length ec] X (TyP (fun k=>k<B) C X v ix nf (opT (fun env σ=>aG (aF C.sc k0 n0 m0 i0 (tyF C.sc s0.ex) env σ)) (fun env σ=>aG (aF C.sc k1 n1 m1 i1 (tyF C.sc s1.ex) env σ)) n env σ) ((Fo.cons k0 n0 m0 i0 d0 A0 c0 s0 (.cons k1 n1 m1 i1 d1 A1 c1 s1 r)).count+1)):=by
 have hxB:B≤X.heap.size:=by
  rcases Nat.lt_or_ge X.heap.size B with h|h
  ·have h1:=ha.ti.dlt _ h;have h2:=ha.ti.tn;omega
  ·exact h
 obtain⟨hsl,hsc,hsm⟩:=hs
 obtain⟨b,o,rfl,hbB,hat⟩:=hsm (by intro e;cases e)
 obtain⟨N,HN⟩:∃N,Hid ((Fo.cons k0 n0 m0 i0 d0 A0 c0 s0 (.cons k1 n1 m1 i1 d1 A1 c1 s1 r)).len=N):=⟨_,Sk rfl⟩
 have hN:2≤N:=by rw[←HN.out];simp[Fo.len]
 have hNm:N≤maxLen:=by rw[←HN.out];omega
 have hN0:0<N:=by omega
 have hN1:(1:Int)<(N:Int):=by omega
 rw[HN.out]
 obtain⟨L0,HL0⟩:∃L,Hid (s0.len=L):=⟨_,Sk rfl⟩
 obtain⟨L1,HL1⟩:∃L,Hid (s1.len=L):=⟨_,Sk rfl⟩
 obtain⟨q0a,q0b,q0c,q0d,q0e,⟨q0f,q0l⟩,hat⟩:=hat
 obtain⟨q1a,q1b,q1c,q1d,q1e,⟨q1f,q1l⟩,hat⟩:=hat
 have hx0:(Fo.cons k0 n0 m0 i0 d0 A0 c0 s0 .nil).ex.Cok C.sc:=⟨hx.1,hx.2.1,hx.2.2.1,trivial⟩
 have hr0:(Fo.cons k0 n0 m0 i0 d0 A0 c0 s0 .nil).Ro (fun k=>k<B) C W:=⟨hro.1,hro.2.1,trivial⟩
 have hs0:s0.Sl X B A0 c0:=q0l
 rw[HL0.out]at q0f
 have hx1:(Fo.cons k1 n1 m1 i1 d1 A1 c1 s1 .nil).ex.Cok C.sc:=⟨hx.2.2.2.1,hx.2.2.2.2.1,hx.2.2.2.2.2.1,trivial⟩
 have hr1:(Fo.cons k1 n1 m1 i1 d1 A1 c1 s1 .nil).Ro (fun k=>k<B) C W:=⟨hro.2.2.1,hro.2.2.2.1,trivial⟩
 have hs1:s1.Sl X B A1 c1:=q1l
 rw[HL1.out]at q1f
 obtain⟨W0,hW0⟩:∃W0,X.alloc (.cells #[.int .i64 10,.string n,.string m,.int .i64 i,.int .i64 d,.slice (some ⟨b,o,none⟩) N c] 44)=W0:=⟨_,rfl⟩
 have hb0:Below X.heap.size X W0:=by subst hW0;exact(TA _ _).alloc (SA _) _
 have hrb:W0.heap[X.heap.size]?=some (.cells #[.int .i64 10,.string n,.string m,.int .i64 i,.int .i64 d,.slice (some ⟨b,o,none⟩) N c] 44 (0,0)):=by subst hW0;exact Sv X _
 have e0:=Sq W0 X.heap.size 0 _ _ (0,0) hrb
 have e1:=Sq W0 X.heap.size 1 _ _ (0,0) hrb
 have e2:=Sq W0 X.heap.size 2 _ _ (0,0) hrb
 have e5:=Sq W0 X.heap.size 5 _ _ (0,0) hrb
 simp at e0 e1 e2 e5
 have hA:=TyB.start (ha.below hb0)
 have hcell:∀q u,X.cell? ⟨b,q,none⟩=some u→W0.cell? ⟨b,q,none⟩=some u:=fun q u h=>(hb0.cell (p:=⟨b,q,none⟩) (by show b<X.heap.size;omega)).trans h
 have HSX:=Sk (show ∀(Y:World) (v':Value),TyK (fun k=>k<B) C W0 v Y v'→Y.cell? ⟨X.heap.size,1,none⟩=some (.string n)∧Y.cell? ⟨X.heap.size,2,none⟩=some (.string m)∧Y.cell? ⟨X.heap.size,5,none⟩=some (.slice (some ⟨b,o,none⟩) N c)∧Y.cell? ⟨b,o,none⟩=some (.int .i64 k0)∧Y.cell? ⟨b,o+1,none⟩=some (.string n0)∧Y.cell? ⟨b,o+2,none⟩=some (.string m0)∧Y.cell? ⟨b,o+3,none⟩=some (.int .i64 i0)∧Y.cell? ⟨b,o+4,none⟩=some (.int .i64 d0)∧Y.cell? ⟨b,o+5,none⟩=some (.slice A0 L0 c0)∧Y.cell? ⟨b,o+6,none⟩=some (.int .i64 k1)∧Y.cell? ⟨b,o+7,none⟩=some (.string n1)∧Y.cell? ⟨b,o+8,none⟩=some (.string m1)∧Y.cell? ⟨b,o+9,none⟩=some (.int .i64 i1)∧Y.cell? ⟨b,o+10,none⟩=some (.int .i64 d1)∧Y.cell? ⟨b,o+11,none⟩=some (.slice A1 L1 c1)from fun Y v' hk=>by
  have hcY:∀q u,X.cell? ⟨b,q,none⟩=some u→Y.cell? ⟨b,q,none⟩=some u:=fun q u h=>(hk.cell hA.a.ti hbB).trans (hcell q u h)
  have hrY:=hk.box hA.a.ti hrb (by decide)
  have y1:=Sq Y X.heap.size 1 _ _ (0,0) hrY
  have y2:=Sq Y X.heap.size 2 _ _ (0,0) hrY
  have y5:=Sq Y X.heap.size 5 _ _ (0,0) hrY
  simp at y1 y2 y5
  exact⟨y1,y2,y5,hcY _ _ q0a,hcY _ _ q0b,hcY _ _ q0c,hcY _ _ q0d,hcY _ _ q0e,hcY _ _ q0f,hcY _ _ q1a,hcY _ _ q1b,hcY _ _ q1c,hcY _ _ q1d,hcY _ _ q1e,hcY _ _ q1f⟩)
 have HB:=Sk hb0
 have HS0:=Sk (show ∀(Y:World) (v':Value),TyK (fun k=>k<B) C W0 v Y v'→s0.Sl Y B A0 c0 from fun Y v' hk=>TyK.sl hA.a.ti hk (hs0.keep (SA _) fun p hp=>hb0.cell (by omega)))
 have HX0:=Sk (Sn hx0 hr0)
 have HE0:=Sk E0
 have HS1:=Sk (show ∀(Y:World) (v':Value),TyK (fun k=>k<B) C W0 v Y v'→s1.Sl Y B A1 c1 from fun Y v' hk=>TyK.sl hA.a.ti hk (hs1.keep (SA _) fun p hp=>hb0.cell (by omega)))
 have HX1:=Sk (Sn hx1 hr1)
 have HE1:=Sk E1
 have HCN:=Sk (Sn hel hnl)
 simp only[Fo.count]at HCN
 obtain⟨R,HR⟩:∃R,Hid (opT (fun env σ=>aG (aF C.sc k0 n0 m0 i0 (tyF C.sc s0.ex) env σ)) (fun env σ=>aG (aF C.sc k1 n1 m1 i1 (tyF C.sc s1.ex) env σ)) n env σ=R):=⟨_,Sk rfl⟩
 rw[HR.out]
 obtain⟨M,HM⟩:∃M,Hid ((Fo.cons k0 n0 m0 i0 d0 A0 c0 s0 (.cons k1 n1 m1 i1 d1 A1 c1 s1 r)).count+1=M):=⟨_,Sk rfl⟩
 rw[HM.out]
 have HA:=Sk hA
 clear ha hx hro hat hs0 hA hcell hrb hb0 hsl hsc hsm hel hnl hx0 hr0 E0 q0a q0b q0c q0d q0e q0f q0l hx1 hr1 E1 q1a q1b q1c q1d q1e q1f q1l
 clear hs1
 go_enter Tryz.func157,Tryz.ntmps157
 have HC0:=Sk (show ∀(w1:World) (v1:Value) (iz:List Nat) (nf1 nn:Nat),TyB B C W W0 v ix nf w1 v1 iz σ nf1 env eA ec nn→TyW C.sc σ (aG (aF C.sc k0 n0 m0 i0 (tyF C.sc s0.ex) env σ)) (s0.count+1)∧Calls Tryz.prog 97 #[.pointer (some ⟨C.tb,0,none⟩),.agg #[.int .i64 k0,.string n0,.string m0,.int .i64 i0,.int .i64 d0,.slice A0 L0 c0],.slice eA env.length ec] w1 (ExB B C W W0 v ix nf iz (aG (aF C.sc k0 n0 m0 i0 (tyF C.sc s0.ex) env σ)) env eA ec (nn+(s0.count+1)))from fun w1 v1 iz nf1 nn h1=>by
  have fJ:σ.ns.length+s0.count≤900000:=by have:=HCN.out.2;skip;omega
  have:=h1.expr HE0.out h1.a.en h1.a.ea k0 n0 m0 i0 d0 A0 c0 (HS0.out _ _ h1.k) HX0.out.1 HX0.out.2 (by have:=HCN.out.1;omega) fJ
  rw[HL0.out]at this
  exact this)
 obtain⟨R0,HR0⟩:∃R,Hid (aG (aF C.sc k0 n0 m0 i0 (tyF C.sc s0.ex) env σ)=R):=⟨_,Sk rfl⟩
 rw[HR0.out]at HC0
 have HW0:=Sk (HC0.out _ _ _ _ _ HA.out).1
 obtain⟨Rt,HRt⟩:∃R,Hid (aJ R0.2 1 []=R):=⟨_,Sk rfl⟩
 have HWt:=Sk (show TyW C.sc R0.2 Rt 0 by rw[←HRt.out];exact aZ HW0.out.wf rfl (by simp))
 obtain⟨Sg1,tY⟩:∃R,Hid (bE Rt.2 R0.1 Rt.1=R):=⟨_,Sk rfl⟩
 have HWs:=Sk (show Wf arP Sg1.S∧Sg1.S.length=Rt.2.S.length∧Sg1.ns=Rt.2.ns by rw[←tY.out];exact dW HWt.out.wf (SB HW0.out.lt HWt.out.le) HWt.out.lt)
 have HC1:=Sk (show ∀(w1:World) (v1:Value) (iz:List Nat) (nf1 nn:Nat),TyB B C W W0 v ix nf w1 v1 iz Sg1 nf1 env eA ec nn→TyW C.sc Sg1 (aG (aF C.sc k1 n1 m1 i1 (tyF C.sc s1.ex) env Sg1)) (s1.count+1)∧Calls Tryz.prog 97 #[.pointer (some ⟨C.tb,0,none⟩),.agg #[.int .i64 k1,.string n1,.string m1,.int .i64 i1,.int .i64 d1,.slice A1 L1 c1],.slice eA env.length ec] w1 (ExB B C W W0 v ix nf iz (aG (aF C.sc k1 n1 m1 i1 (tyF C.sc s1.ex) env Sg1)) env eA ec (nn+(s1.count+1)))from fun w1 v1 iz nf1 nn h1=>by
  have fJ:Sg1.ns.length+s1.count≤900000:=by have:=HCN.out.2;have:=fD HW0.out;have:=fD HWt.out;have:=congrArg List.length HWs.out.2.2;omega
  have:=h1.expr HE1.out h1.a.en h1.a.ea k1 n1 m1 i1 d1 A1 c1 (HS1.out _ _ h1.k) HX1.out.1 HX1.out.2 (by have:=HCN.out.1;omega) fJ
  rw[HL1.out]at this
  exact this)
 obtain⟨R1,HR1⟩:∃R,Hid (aG (aF C.sc k1 n1 m1 i1 (tyF C.sc s1.ex) env Sg1)=R):=⟨_,Sk rfl⟩
 rw[HR1.out]at HC1
 obtain⟨z1,z2,z5,z6,z7,z8,z9,z10,z11,t6,t7,t8,t9,t10,t11⟩:=HSX.out _ _ HA.out.k
 go_wp2_with fail
 try rw[hW0]
 clear e0 e1 e2 e5
 refine(HC0.out _ _ _ _ _ HA.out).2.mono ?_
 rintro e w1 ⟨v1,y1,p1,nf1,rfl,hp1,hB1⟩
 clear z1 z2 z5 z6 z7 z8 z9 z10 z11 t6 t7 t8 t9 t10 t11
 have HB1:=Sk (Sn hp1 hB1)
 have HM1:=Sk (show Calls _ _ _ _ _ from (hB1.uQ 1 rfl).2)
 rw[HRt.out]at HM1
 clear hp1 hB1
 go_wp2_with fail
 refine HM1.out.mono ?_
 rintro e w2 ⟨b2,rfl,hb2,hB2⟩
 have HS2:=Sk (hB2.same (a:=R0.1) (b:=Rt.1) (p:=p1) (SB HW0.out.lt HWt.out.le) HWt.out.lt (dx HB1.out.1 (by rw[HB1.out.2.lt];exact HW0.out.lt)) hb2).2
 rw[tY.out]at HS2
 clear hb2 hB2 HM1
 go_wp2_with fail
 refine HS2.out.mono ?_
 rintro e w3 ⟨rfl,hB3⟩
 have HB3:=Sk hB3
 obtain⟨z1,z2,z5,z6,z7,z8,z9,z10,z11,t6,t7,t8,t9,t10,t11⟩:=HSX.out _ _ hB3.k
 clear hB3 HS2
 go_wp2_with fail
 refine(HC1.out _ _ _ _ _ HB3.out).2.mono ?_
 rintro e w4 ⟨v4,y4,p4,nf4,rfl,hp4,hB4⟩
 have HW1:=Sk (HC1.out _ _ _ _ _ HB3.out).1
 obtain⟨Ru,HRu⟩:∃R,Hid (aJ R1.2 1 []=R):=⟨_,Sk rfl⟩
 have HWu:=Sk (show TyW C.sc R1.2 Ru 0 by rw[←HRu.out];exact aZ HW1.out.wf rfl (by simp))
 have HM4:=Sk (show Calls _ _ _ _ _ from (hB4.uQ 1 rfl).2)
 rw[HRu.out]at HM4
 have HB4:=Sk (Sn hp4 hB4)
 clear hp4 hB4 z1 z2 z5 z6 z7 z8 z9 z10 z11 t6 t7 t8 t9 t10 t11
 go_wp2_with fail
 refine HM4.out.mono ?_
 rintro e w5 ⟨b5,rfl,hb5,hB5⟩
 have HS5:=Sk (hB5.same (a:=R1.1) (b:=Ru.1) (p:=p4) (SB HW1.out.lt HWu.out.le) HWu.out.lt (dx HB4.out.1 (by rw[HB4.out.2.lt];exact HW1.out.lt)) hb5).2
 obtain⟨Sg2,Oc⟩:∃R,Hid (bE Ru.2 R1.1 Ru.1=R):=⟨_,Sk rfl⟩
 rw[Oc.out]at HS5
 clear hb5 hB5 HM4
 go_wp2_with fail
 refine HS5.out.mono ?_
 rintro e w6 ⟨rfl,hB6⟩
 have HB6:=Sk hB6
 obtain⟨z1,z2,z5,z6,z7,z8,z9,z10,z11,t6,t7,t8,t9,t10,t11⟩:=HSX.out _ _ hB6.k
 clear hB6 HS5 z2 z5 z6 z7 z8 z9 z10 z11 t6 t7 t8 t9 t10 t11
 have HRR:=Sk (show R=aJ Sg2 (if n=⟨#[61]⟩∨n=⟨#[60]⟩then 2 else 1) [] by rw[←HR.out,←Oc.out,←HRu.out,←HR1.out,←tY.out,←HRt.out,←HR0.out];rfl)
 have key:∀q:Int,arP q=0→(if n=(⟨#[61]⟩:ByteArray)∨n=⟨#[60]⟩then 2 else 1)=q→Hid (R=aJ Sg2 q []∧Calls Tryz.prog 98 #[.int .i64 q,.slice none 0 0] w6 (AdB B C W W0 v ix nf _ _ (aJ Sg2 q []) _ env eA ec _)):=fun q hq e=>Sk ⟨by rw[HRR.out,e],(HB6.out.uQ q hq).2⟩
 have b61:(⟨#[61]⟩:ByteArray).toList=[61]:=by rw[ByteArray.toList_eq]
 have b60:(⟨#[60]⟩:ByteArray).toList=[60]:=by rw[ByteArray.toList_eq]
 cases t61:(n.toList==[61])with
 | true =>
  have HQ:=key 2 rfl (TY (.inl (wY (by rw[b61];exact t61))))
  clear key b61 b60
  go_wp2_with fail
  refine HQ.out.2.mono ?_
  rintro e w7 ⟨b7,rfl,hb7,hB7⟩
  have HRR:=Sk HQ.out.1
  have HBz:=Sk hB7
  have HP:=Sk hb7
  clear hB7 hb7
  go_wp2
  go_ret
  rw[HRR.out]
  refine⟨_,_,_,?_,HBz.out.p,HBz.out.a.ti,?_,(TyK.below HB.out).trans HBz.out.k⟩
  ·rw[nP,HP.out]
   rfl
  ·have:=HBz.out.n
   have:=HM.out
   simp only[Fo.count]at this
   omega
 | false =>
  have h61:n≠⟨#[61]⟩:=fun e=>by rw[e,b61]at t61;cases t61
  cases t60:(n.toList==[60])with
  | true =>
   have HQ:=key 2 rfl (TY (.inr (wY (by rw[b60];exact t60))))
   clear key b61 b60 h61
   go_wp2_with fail
   refine HQ.out.2.mono ?_
   rintro e w7 ⟨b7,rfl,hb7,hB7⟩
   have HRR:=Sk HQ.out.1
   have HBz:=Sk hB7
   have HP:=Sk hb7
   clear hB7 hb7
   go_wp2
   go_ret
   rw[HRR.out]
   refine⟨_,_,_,?_,HBz.out.p,HBz.out.a.ti,?_,(TyK.below HB.out).trans HBz.out.k⟩
   ·rw[nP,HP.out]
    rfl
   ·have:=HBz.out.n
    have:=HM.out
    simp only[Fo.count]at this
    omega
  | false =>
   have h60:n≠⟨#[60]⟩:=fun e=>by rw[e,b60]at t60;cases t60
   have HQ:=key 1 rfl (TW (fun h=>h.elim h61 h60))
   clear key b61 b60 h61 h60
   go_wp2_with fail
   refine HQ.out.2.mono ?_
   rintro e w7 ⟨b7,rfl,hb7,hB7⟩
   have HRR:=Sk HQ.out.1
   have HBz:=Sk hB7
   have HP:=Sk hb7
   clear hB7 hb7
   go_wp2
   go_ret
   rw[HRR.out]
   refine⟨_,_,_,?_,HBz.out.p,HBz.out.a.ti,?_,(TyK.below HB.out).trans HBz.out.k⟩
   ·rw[nP,HP.out]
    rfl
   ·have:=HBz.out.n
    have:=HM.out
    simp only[Fo.count]at this
    omega
theorem Od {B:Nat}{C:TyC}{W X:World}{v:Value}{ix:List Nat}{σ:Tst}{nf:Nat}{env:Env}{eA:Option Addr}{ec:Nat}(n m:ByteArray)(i d:Int)(A:Option Addr)(c:Nat)
  (k0:Int)(n0 m0:ByteArray)(i0 d0:Int)(A0:Option Addr)(c0:Nat)(s0:Fo)(k1:Int)(n1 m1:ByteArray)(i1 d1:Int)(A1:Option Addr)(c1:Nat)(s1:Fo)(r:Fo)
  (E0:eH B s0)(E1:eH B s1)
  (ha:TyA B C W X v ix σ nf env eA ec)(hs:(Fo.cons k0 n0 m0 i0 d0 A0 c0 s0 (.cons k1 n1 m1 i1 d1 A1 c1 s1 r)).Sl X B A c)(hx:(Fo.cons k0 n0 m0 i0 d0 A0 c0 s0 (.cons k1 n1 m1 i1 d1 A1 c1 s1 r)).ex.Cok C.sc)(hro:(Fo.cons k0 n0 m0 i0 d0 A0 c0 s0 (.cons k1 n1 m1 i1 d1 A1 c1 s1 r)).Ro (fun k=>k<B) C W)
  (hel:env.length+2*(Fo.cons k0 n0 m0 i0 d0 A0 c0 s0 (.cons k1 n1 m1 i1 d1 A1 c1 s1 r)).count≤900000)(hnl:σ.ns.length+(Fo.cons k0 n0 m0 i0 d0 A0 c0 s0 (.cons k1 n1 m1 i1 d1 A1 c1 s1 r)).count≤900000) :
  Calls Tryz.prog 157 #[.pointer (some ⟨C.tb,0,none⟩),.agg #[.int .i64 8,.string n,.string m,.int .i64 i,.int .i64 d,.slice A (Fo.cons k0 n0 m0 i0 d0 A0 c0 s0 (.cons k1 n1 m1 i1 d1 A1 c1 s1 r)).len c],.slice eA env.length ec] X (TyP (fun k=>k<B) C X v ix nf (FC (fun env σ=>aG (aF C.sc k0 n0 m0 i0 (tyF C.sc s0.ex) env σ)) (fun env σ=>aG (aF C.sc k1 n1 m1 i1 (tyF C.sc s1.ex) env σ)) n env σ) ((Fo.cons k0 n0 m0 i0 d0 A0 c0 s0 (.cons k1 n1 m1 i1 d1 A1 c1 s1 r)).count+1)):=by
 have hxB:B≤X.heap.size:=by
  rcases Nat.lt_or_ge X.heap.size B with h|h
  ·have h1:=ha.ti.dlt _ h;have h2:=ha.ti.tn;omega
  ·exact h
 obtain⟨hsl,hsc,hsm⟩:=hs
 obtain⟨b,o,rfl,hbB,hat⟩:=hsm (by intro e;cases e)
 obtain⟨N,HN⟩:∃N,Hid ((Fo.cons k0 n0 m0 i0 d0 A0 c0 s0 (.cons k1 n1 m1 i1 d1 A1 c1 s1 r)).len=N):=⟨_,Sk rfl⟩
 have hN:2≤N:=by rw[←HN.out];simp[Fo.len]
 have hNm:N≤maxLen:=by rw[←HN.out];omega
 have hN0:0<N:=by omega
 have hN1:(1:Int)<(N:Int):=by omega
 rw[HN.out]
 obtain⟨L0,HL0⟩:∃L,Hid (s0.len=L):=⟨_,Sk rfl⟩
 obtain⟨L1,HL1⟩:∃L,Hid (s1.len=L):=⟨_,Sk rfl⟩
 obtain⟨q0a,q0b,q0c,q0d,q0e,⟨q0f,q0l⟩,hat⟩:=hat
 obtain⟨q1a,q1b,q1c,q1d,q1e,⟨q1f,q1l⟩,hat⟩:=hat
 have hx0:(Fo.cons k0 n0 m0 i0 d0 A0 c0 s0 .nil).ex.Cok C.sc:=⟨hx.1,hx.2.1,hx.2.2.1,trivial⟩
 have hr0:(Fo.cons k0 n0 m0 i0 d0 A0 c0 s0 .nil).Ro (fun k=>k<B) C W:=⟨hro.1,hro.2.1,trivial⟩
 have hs0:s0.Sl X B A0 c0:=q0l
 rw[HL0.out]at q0f
 have hx1:(Fo.cons k1 n1 m1 i1 d1 A1 c1 s1 .nil).ex.Cok C.sc:=⟨hx.2.2.2.1,hx.2.2.2.2.1,hx.2.2.2.2.2.1,trivial⟩
 have hr1:(Fo.cons k1 n1 m1 i1 d1 A1 c1 s1 .nil).Ro (fun k=>k<B) C W:=⟨hro.2.2.1,hro.2.2.2.1,trivial⟩
 have hs1:s1.Sl X B A1 c1:=q1l
 rw[HL1.out]at q1f
 obtain⟨W0,hW0⟩:∃W0,X.alloc (.cells #[.int .i64 8,.string n,.string m,.int .i64 i,.int .i64 d,.slice (some ⟨b,o,none⟩) N c] 44)=W0:=⟨_,rfl⟩
 have hb0:Below X.heap.size X W0:=by subst hW0;exact(TA _ _).alloc (SA _) _
 have hrb:W0.heap[X.heap.size]?=some (.cells #[.int .i64 8,.string n,.string m,.int .i64 i,.int .i64 d,.slice (some ⟨b,o,none⟩) N c] 44 (0,0)):=by subst hW0;exact Sv X _
 have e0:=Sq W0 X.heap.size 0 _ _ (0,0) hrb
 have e1:=Sq W0 X.heap.size 1 _ _ (0,0) hrb
 have e2:=Sq W0 X.heap.size 2 _ _ (0,0) hrb
 have e5:=Sq W0 X.heap.size 5 _ _ (0,0) hrb
 simp at e0 e1 e2 e5
 have hA:=TyB.start (ha.below hb0)
 have hcell:∀q u,X.cell? ⟨b,q,none⟩=some u→W0.cell? ⟨b,q,none⟩=some u:=fun q u h=>(hb0.cell (p:=⟨b,q,none⟩) (by show b<X.heap.size;omega)).trans h
 have HSX:=Sk (show ∀(Y:World) (v':Value),TyK (fun k=>k<B) C W0 v Y v'→Y.cell? ⟨X.heap.size,1,none⟩=some (.string n)∧Y.cell? ⟨X.heap.size,2,none⟩=some (.string m)∧Y.cell? ⟨X.heap.size,5,none⟩=some (.slice (some ⟨b,o,none⟩) N c)∧Y.cell? ⟨b,o,none⟩=some (.int .i64 k0)∧Y.cell? ⟨b,o+1,none⟩=some (.string n0)∧Y.cell? ⟨b,o+2,none⟩=some (.string m0)∧Y.cell? ⟨b,o+3,none⟩=some (.int .i64 i0)∧Y.cell? ⟨b,o+4,none⟩=some (.int .i64 d0)∧Y.cell? ⟨b,o+5,none⟩=some (.slice A0 L0 c0)∧Y.cell? ⟨b,o+6,none⟩=some (.int .i64 k1)∧Y.cell? ⟨b,o+7,none⟩=some (.string n1)∧Y.cell? ⟨b,o+8,none⟩=some (.string m1)∧Y.cell? ⟨b,o+9,none⟩=some (.int .i64 i1)∧Y.cell? ⟨b,o+10,none⟩=some (.int .i64 d1)∧Y.cell? ⟨b,o+11,none⟩=some (.slice A1 L1 c1)from fun Y v' hk=>by
  have hcY:∀q u,X.cell? ⟨b,q,none⟩=some u→Y.cell? ⟨b,q,none⟩=some u:=fun q u h=>(hk.cell hA.a.ti hbB).trans (hcell q u h)
  have hrY:=hk.box hA.a.ti hrb (by decide)
  have y1:=Sq Y X.heap.size 1 _ _ (0,0) hrY
  have y2:=Sq Y X.heap.size 2 _ _ (0,0) hrY
  have y5:=Sq Y X.heap.size 5 _ _ (0,0) hrY
  simp at y1 y2 y5
  exact⟨y1,y2,y5,hcY _ _ q0a,hcY _ _ q0b,hcY _ _ q0c,hcY _ _ q0d,hcY _ _ q0e,hcY _ _ q0f,hcY _ _ q1a,hcY _ _ q1b,hcY _ _ q1c,hcY _ _ q1d,hcY _ _ q1e,hcY _ _ q1f⟩)
 have HB:=Sk hb0
 have HS0:=Sk (show ∀(Y:World) (v':Value),TyK (fun k=>k<B) C W0 v Y v'→s0.Sl Y B A0 c0 from fun Y v' hk=>TyK.sl hA.a.ti hk (hs0.keep (SA _) fun p hp=>hb0.cell (by omega)))
 have HX0:=Sk (Sn hx0 hr0)
 have HE0:=Sk E0
 have HS1:=Sk (show ∀(Y:World) (v':Value),TyK (fun k=>k<B) C W0 v Y v'→s1.Sl Y B A1 c1 from fun Y v' hk=>TyK.sl hA.a.ti hk (hs1.keep (SA _) fun p hp=>hb0.cell (by omega)))
 have HX1:=Sk (Sn hx1 hr1)
 have HE1:=Sk E1
 have HCN:=Sk (Sn hel hnl)
 simp only[Fo.count]at HCN
 obtain⟨R,HR⟩:∃R,Hid (FC (fun env σ=>aG (aF C.sc k0 n0 m0 i0 (tyF C.sc s0.ex) env σ)) (fun env σ=>aG (aF C.sc k1 n1 m1 i1 (tyF C.sc s1.ex) env σ)) n env σ=R):=⟨_,Sk rfl⟩
 rw[HR.out]
 obtain⟨M,HM⟩:∃M,Hid ((Fo.cons k0 n0 m0 i0 d0 A0 c0 s0 (.cons k1 n1 m1 i1 d1 A1 c1 s1 r)).count+1=M):=⟨_,Sk rfl⟩
 rw[HM.out]
 have HA:=Sk hA
 clear ha hx hro hat hs0 hA hcell hrb hb0 hsl hsc hsm hel hnl hx0 hr0 E0 q0a q0b q0c q0d q0e q0f q0l hx1 hr1 E1 q1a q1b q1c q1d q1e q1f q1l
 clear hs1
 go_enter Tryz.func157,Tryz.ntmps157
 have HC0:=Sk (show ∀(w1:World) (v1:Value) (iz:List Nat) (nf1 nn:Nat),TyB B C W W0 v ix nf w1 v1 iz σ nf1 env eA ec nn→TyW C.sc σ (aG (aF C.sc k0 n0 m0 i0 (tyF C.sc s0.ex) env σ)) (s0.count+1)∧Calls Tryz.prog 97 #[.pointer (some ⟨C.tb,0,none⟩),.agg #[.int .i64 k0,.string n0,.string m0,.int .i64 i0,.int .i64 d0,.slice A0 L0 c0],.slice eA env.length ec] w1 (ExB B C W W0 v ix nf iz (aG (aF C.sc k0 n0 m0 i0 (tyF C.sc s0.ex) env σ)) env eA ec (nn+(s0.count+1)))from fun w1 v1 iz nf1 nn h1=>by
  have fJ:σ.ns.length+s0.count≤900000:=by have:=HCN.out.2;skip;omega
  have:=h1.expr HE0.out h1.a.en h1.a.ea k0 n0 m0 i0 d0 A0 c0 (HS0.out _ _ h1.k) HX0.out.1 HX0.out.2 (by have:=HCN.out.1;omega) fJ
  rw[HL0.out]at this
  exact this)
 obtain⟨R0,HR0⟩:∃R,Hid (aG (aF C.sc k0 n0 m0 i0 (tyF C.sc s0.ex) env σ)=R):=⟨_,Sk rfl⟩
 rw[HR0.out]at HC0
 have HW0:=Sk (HC0.out _ _ _ _ _ HA.out).1
 obtain⟨NE,HNE⟩:∃N,Hid ((env++[(n,R0.1)]).length=N):=⟨_,Sk rfl⟩
 have HC1:=Sk (show ∀(w1:World) (v1:Value) (iz:List Nat) (nf1 nn:Nat) (eA1:Option Addr) (ec1:Nat),TyB B C W W0 v ix nf w1 v1 iz R0.2 nf1 env eA ec nn→iy (env++[(n,R0.1)]) R0.2→eO (TyE C v1) w1 iz eA1 ec1 (env++[(n,R0.1)])→TyW C.sc R0.2 (aG (aF C.sc k1 n1 m1 i1 (tyF C.sc s1.ex) (env++[(n,R0.1)]) R0.2)) (s1.count+1)∧Calls Tryz.prog 97 #[.pointer (some ⟨C.tb,0,none⟩),.agg #[.int .i64 k1,.string n1,.string m1,.int .i64 i1,.int .i64 d1,.slice A1 L1 c1],.slice eA1 NE ec1] w1 (ExB B C W W0 v ix nf iz (aG (aF C.sc k1 n1 m1 i1 (tyF C.sc s1.ex) (env++[(n,R0.1)]) R0.2)) env eA ec (nn+(s1.count+1)))from fun w1 v1 iz nf1 nn eA1 ec1 h1 hen hea=>by
  have fJ:R0.2.ns.length+s1.count≤900000:=by have:=HCN.out.2;have:=fD HW0.out;omega
  have:=h1.expr HE1.out hen hea k1 n1 m1 i1 d1 A1 c1 (HS1.out _ _ h1.k) HX1.out.1 HX1.out.2 (by have:=HCN.out.1;simp only[SX,TS,List.length_nil];omega) fJ
  rw[HL1.out,HNE.out]at this
  exact this)
 obtain⟨R1,HR1⟩:∃R,Hid (aG (aF C.sc k1 n1 m1 i1 (tyF C.sc s1.ex) (env++[(n,R0.1)]) R0.2)=R):=⟨_,Sk rfl⟩
 rw[HR1.out]at HC1
 obtain⟨z1,z2,z5,z6,z7,z8,z9,z10,z11,t6,t7,t8,t9,t10,t11⟩:=HSX.out _ _ HA.out.k
 go_wp2_with fail
 try rw[hW0]
 clear e0 e1 e2 e5
 refine(HC0.out _ _ _ _ _ HA.out).2.mono ?_
 rintro e w1 ⟨v1,y1,p1,nf1,rfl,hp1,hB1⟩
 clear z1 z2 z5 z6 z7 z8 z9 z10 z11 t6 t7 t8 t9 t10 t11
 have HWI:=Sk (show ∀(Z:World) (g:Nat),Below w1.heap.size w1 Z→Z.cell? ⟨g,0,none⟩=some (.string n)→Z.cell? ⟨g,1,none⟩=some (.pointer (some ⟨p1,0,none⟩))→_ from fun Z g hZ h0 h1=>hB1.Lc hZ (a:=R0.1) hp1 (by have:=HCN.out.1;omega) h0 h1 HNE.out)
 have HEN:=Sk (show iy (env++[(n,R0.1)]) R0.2 from hB1.a.en.snoc HW0.out.lt)
 have HF:=Sk (show ∀(Y:World),(Y.cell? ⟨X.heap.size,1,none⟩=some (.string n)∧Y.cell? ⟨X.heap.size,2,none⟩=some (.string m)∧Y.cell? ⟨X.heap.size,5,none⟩=some (.slice (some ⟨b,o,none⟩) N c)∧Y.cell? ⟨b,o,none⟩=some (.int .i64 k0)∧Y.cell? ⟨b,o+1,none⟩=some (.string n0)∧Y.cell? ⟨b,o+2,none⟩=some (.string m0)∧Y.cell? ⟨b,o+3,none⟩=some (.int .i64 i0)∧Y.cell? ⟨b,o+4,none⟩=some (.int .i64 d0)∧Y.cell? ⟨b,o+5,none⟩=some (.slice A0 L0 c0)∧Y.cell? ⟨b,o+6,none⟩=some (.int .i64 k1)∧Y.cell? ⟨b,o+7,none⟩=some (.string n1)∧Y.cell? ⟨b,o+8,none⟩=some (.string m1)∧Y.cell? ⟨b,o+9,none⟩=some (.int .i64 i1)∧Y.cell? ⟨b,o+10,none⟩=some (.int .i64 d1)∧Y.cell? ⟨b,o+11,none⟩=some (.slice A1 L1 c1))→(Y.cell? ⟨X.heap.size,1,none⟩=some (.string n)∧Y.cell? ⟨X.heap.size,5,none⟩=some (.slice (some ⟨b,o,none⟩) N c)∧Y.cell? ⟨b,o+6,none⟩=some (.int .i64 k1)∧Y.cell? ⟨b,o+7,none⟩=some (.string n1)∧Y.cell? ⟨b,o+8,none⟩=some (.string m1)∧Y.cell? ⟨b,o+9,none⟩=some (.int .i64 i1)∧Y.cell? ⟨b,o+10,none⟩=some (.int .i64 d1)∧Y.cell? ⟨b,o+11,none⟩=some (.slice A1 L1 c1))from fun Y h=>⟨h.1,h.2.2.1,h.2.2.2.2.2.2.2.2.2.1,h.2.2.2.2.2.2.2.2.2.2.1,h.2.2.2.2.2.2.2.2.2.2.2.1,h.2.2.2.2.2.2.2.2.2.2.2.2.1,h.2.2.2.2.2.2.2.2.2.2.2.2.2.1,h.2.2.2.2.2.2.2.2.2.2.2.2.2.2⟩)
 go_upto_region 22 with fail
 go_region_held3 (fun Y=>Y.cell? ⟨X.heap.size,1,none⟩=some (.string n)∧Y.cell? ⟨X.heap.size,5,none⟩=some (.slice (some ⟨b,o,none⟩) N c)∧Y.cell? ⟨b,o+6,none⟩=some (.int .i64 k1)∧Y.cell? ⟨b,o+7,none⟩=some (.string n1)∧Y.cell? ⟨b,o+8,none⟩=some (.string m1)∧Y.cell? ⟨b,o+9,none⟩=some (.int .i64 i1)∧Y.cell? ⟨b,o+10,none⟩=some (.int .i64 d1)∧Y.cell? ⟨b,o+11,none⟩=some (.slice A1 L1 c1))
  (first|exact HF.out _ (HSX.out _ _ hB2.k)|exact HF.out _ (HSX.out _ _ (hB1.below hbv).k)|exact HF.out _ (HSX.out _ _ (hB1.below (by repeat (first|with_reducible exact TA _ _|with_reducible refine aO ?_ _|with_reducible refine fP ?_))).k))
  (first
   | (go_at_call 215;(refine TJ (HWI.out _ w1.heap.size ?_ ?_ ?_) ?_);(focus (repeat (first|with_reducible exact TA _ _|with_reducible refine aO ?_ _|with_reducible refine fP ?_)));(focus go_simp);(focus go_simp);rintro e wv ⟨vAX,vcX,rfl,hsv,hbv⟩)
   | (go_at_call 97;refine(HC1.out _ _ _ _ _ _ _ (hB1.below hbv) HEN.out hsv).2.mono ?_;rintro e w2 ⟨v2,y2,p2,nf2,rfl,hp2,hB2⟩))
 all_goals (
  have HBz:=Sk hB2
  have HP:=Sk hp2
  have HRR:=Sk (show R=R1 by rw[←HR.out,←HR1.out,←HR0.out];rfl)
  clear hB1 hB2 hp1 hp2 hsv hbv
  go_wp2
  go_ret
  rw[HRR.out]
  refine⟨v2,_,nf2,?_,HBz.out.p,HBz.out.a.ti,?_,(TyK.below HB.out).trans HBz.out.k⟩
  ·rw[nP,HP.out]
   rfl
  ·have:=HBz.out.n
   have:=HM.out
   simp only[Fo.count]at this
   omega)
theorem TyP.mono {D:Nat→Prop}{C:TyC}{X Y:World}{v:Value}{ix:List Nat}{nf:Nat}{R:Nat×Tst}{n n':Nat}{e:Ending}(h:TyP D C X v ix nf R n e Y)(hn:n≤n'):TyP D C X v ix nf R n' e Y:=by
 obtain⟨v',ix',nf',h1,h2,h3,h4,h5⟩:=h
 exact⟨v',ix',nf',h1,h2,h3,by omega,h5⟩
theorem Ka {B:Nat}{s:Fo}(hE:s.All (eH B)):Io B s:=by
 intro C W X v ix σ nf env eA ec k n m i d A c ha hs hok hr hx hro hrf hel hnl
 have one:1≤s.len→∃k0 n0 m0 i0 d0 A0 c0 s0 r,s=.cons k0 n0 m0 i0 d0 A0 c0 s0 r:=fun h=>by
  cases s with
  | nil=>simp[Fo.len]at h
  | cons k0 n0 m0 i0 d0 A0 c0 s0 r=>exact⟨_,_,_,_,_,_,_,_,_,rfl⟩
 have two:2≤s.len→∃k0 n0 m0 i0 d0 A0 c0 s0 k1 n1 m1 i1 d1 A1 c1 s1 r,s=.cons k0 n0 m0 i0 d0 A0 c0 s0 (.cons k1 n1 m1 i1 d1 A1 c1 s1 r):=fun h=>by
  cases s with
  | nil=>simp[Fo.len]at h
  | cons k0 n0 m0 i0 d0 A0 c0 s0 r =>
   cases r with
   | nil=>simp[Fo.len]at h
   | cons k1 n1 m1 i1 d1 A1 c1 s1 r=>exact⟨_,_,_,_,_,_,_,_,_,_,_,_,_,_,_,_,_,rfl⟩
 have three:3≤s.len→∃k0 n0 m0 i0 d0 A0 c0 s0 k1 n1 m1 i1 d1 A1 c1 s1 k2 n2 m2 i2 d2 A2 c2 s2 r,s=.cons k0 n0 m0 i0 d0 A0 c0 s0 (.cons k1 n1 m1 i1 d1 A1 c1 s1 (.cons k2 n2 m2 i2 d2 A2 c2 s2 r)):=fun h=>by
  cases s with
  | nil=>simp[Fo.len]at h
  | cons k0 n0 m0 i0 d0 A0 c0 s0 r =>
   cases r with
   | nil=>simp[Fo.len]at h
   | cons k1 n1 m1 i1 d1 A1 c1 s1 r =>
    cases r with
    | nil=>simp[Fo.len]at h
    | cons k2 n2 m2 i2 d2 A2 c2 s2 r=>exact⟨_,_,_,_,_,_,_,_,_,_,_,_,_,_,_,_,_,_,_,_,_,_,_,_,_,rfl⟩
 by_cases e1:k=1
 ·subst e1
  exact(NZ n m i d A s.len c ha).mono fun _ _ h=>h.mono (by omega)
 by_cases e2:k=2
 ·subst e2
  exact(N7 n m i d A s.len c ha).mono fun _ _ h=>h.mono (by omega)
 by_cases e14:k=14
 ·subst e14
  exact(L9 n m i d A s.len c ha).mono fun _ _ h=>h.mono (by omega)
 by_cases e11:k=11
 ·subst e11
  exact(Mc n m i d A s.len c ha).mono fun _ _ h=>h.mono (by omega)
 by_cases e3:k=3
 ·subst e3
  exact(N8 n m i d A s.len c ha (by omega)).mono fun _ _ h=>h.mono (by omega)
 by_cases e5:k=5
 ·subst e5
  exact(N9 n m i d A s.len c ha (hr rfl)).mono fun _ _ h=>h.mono (by omega)
 by_cases e6:k=6
 ·subst e6
  obtain⟨k0,n0,m0,i0,d0,A0,c0,s0,r,rfl⟩:=one (hok.1 rfl)
  exact Ob n m i d A c k0 n0 m0 i0 d0 A0 c0 s0 r hE.1 ha hs hx hro hel hnl
 by_cases e7:k=7
 ·subst e7
  obtain⟨k0,n0,m0,i0,d0,A0,c0,s0,k1,n1,m1,i1,d1,A1,c1,s1,r,rfl⟩:=two (hok.2.1 (.inl rfl))
  exact Oa n m i d A c k0 n0 m0 i0 d0 A0 c0 s0 k1 n1 m1 i1 d1 A1 c1 s1 r hE.1 hE.2.1 ha hs hx hro hel hnl
 by_cases e8:k=8
 ·subst e8
  obtain⟨k0,n0,m0,i0,d0,A0,c0,s0,k1,n1,m1,i1,d1,A1,c1,s1,r,rfl⟩:=two (hok.2.1 (.inr (.inr (.inr rfl))))
  exact Od n m i d A c k0 n0 m0 i0 d0 A0 c0 s0 k1 n1 m1 i1 d1 A1 c1 s1 r hE.1 hE.2.1 ha hs hx hro hel hnl
 by_cases e9:k=9
 ·subst e9
  obtain⟨k0,n0,m0,i0,d0,A0,c0,s0,k1,n1,m1,i1,d1,A1,c1,s1,k2,n2,m2,i2,d2,A2,c2,s2,r,rfl⟩:=three (hok.2.2 (.inl rfl))
  exact Ni n m i d A c k0 n0 m0 i0 d0 A0 c0 s0 k1 n1 m1 i1 d1 A1 c1 s1 k2 n2 m2 i2 d2 A2 c2 s2 r hE.1 hE.2.1 hE.2.2.1 ha hs hx hro hel hnl
 by_cases e10:k=10
 ·subst e10
  obtain⟨k0,n0,m0,i0,d0,A0,c0,s0,k1,n1,m1,i1,d1,A1,c1,s1,r,rfl⟩:=two (hok.2.1 (.inr (.inl rfl)))
  exact Me n m i d A c k0 n0 m0 i0 d0 A0 c0 s0 k1 n1 m1 i1 d1 A1 c1 s1 r hE.1 hE.2.1 ha hs hx hro hel hnl
 by_cases e12:k=12
 ·subst e12
  obtain⟨k0,n0,m0,i0,d0,A0,c0,s0,k1,n1,m1,i1,d1,A1,c1,s1,r,rfl⟩:=two (hok.2.1 (.inr (.inr (.inl rfl))))
  exact Md n m i d A c k0 n0 m0 i0 d0 A0 c0 s0 k1 n1 m1 i1 d1 A1 c1 s1 r hE.1 hE.2.1 ha hs hx hro hel hnl
 by_cases e13:k=13
 ·subst e13
  obtain⟨k0,n0,m0,i0,d0,A0,c0,s0,k1,n1,m1,i1,d1,A1,c1,s1,k2,n2,m2,i2,d2,A2,c2,s2,r,rfl⟩:=three (hok.2.2 (.inr rfl))
  exact LC n m i d A c k0 n0 m0 i0 d0 A0 c0 s0 k1 n1 m1 i1 d1 A1 c1 s1 k2 n2 m2 i2 d2 A2 c2 s2 r hE.1 hE.2.1 hE.2.2.1 ha hs hx hro hel hnl
 have hT:aF C.sc k n m i (tyF C.sc s.ex) env σ=aJ σ 5 []:=by
  unfold aF
  rw[TW e1,TW (fun h=>h.elim e2 e14),TW e11,TW e3,TW e5,TW e6,TW e7,TW e8,TW e9,TW e10,TW e12,TW e13]
 rw[hT]
 exact(Ma k n m i d A s.len c ha ⟨e1,e2,e14,e11,e3,e5,e6,e7,e8,e9,e10,e12,e13⟩).mono fun _ _ h=>h.mono (by omega)
theorem Kc (B:Nat)(s:Fo):eH B s:=Fo.eT (fun _ h=>Ip (Ka h)) s
def dF (w:World)(B:Nat)(A:Option Addr)(c:Nat)(l:List Int):Prop:=
 l.length≤c∧c≤maxLen∧(l≠[]→∃g o,A=some ⟨g,o,none⟩∧g<B∧∀j i,l[j]?=some i→w.cell? ⟨g,o+j,none⟩=some (.int .i64 i))
structure TyR (B:Nat)(C:TyC)(W X:World)(nf:Nat):Prop where
 box:∃gv nv f,X.heap[C.tb]?=some (.cells #[C.c0,C.c1,C.c2,C.c3,.map (some C.sb),gv,nv,.map (some C.fb),.bool f] 95 (0,0))
 sm:∃N g,aQ aH X C.sb N g∧∀a,aH.ok a→∃q A c,(g a).getD l8=.agg #[.int .i64 q,.int .i64 (C.sc.sch a).1,.int .i64 (C.sc.sch a).2.1,.slice A (C.sc.sch a).2.2.len c]∧(C.sc.sch a).2.2.Sl X (PT (fun k=>k<B) X) A c
 fm:∃g,aQ r9 X C.fb nf g∧∀a,r9.ok a→g a=none∨∃q A c,g a=some (.agg #[.int .i64 q,.int .i64 (C.sc.frn a).1,.int .i64 (C.sc.frn a).2.1,.slice A (C.sc.frn a).2.2.len c])∧(C.sc.frn a).2.2.Sl X (PT (fun k=>k<B) X) A c
 old:∀k,k<B→X.heap[k]?=W.heap[k]?
 bs:B≤X.heap.size
 dt:B≤C.tb
 df:B≤C.fb
def TyC.at_ (C:TyC)(gb n0:Nat)(group:List Int)(j:Nat):TyC:={ C with gb:=gb,n0:=n0,sc:=⟨grp (group.take j) 0,C.sc.sch,C.sc.frn⟩ }
def lK (C:TyC)(k:Nat):Prop:=k=C.tb∨k=C.fb
section
variable {B:Nat} {C:TyC} {W X Y:World} {nf:Nat}
def stW (C:TyC)(X:World):World:=(((X.alloc (.map #[] 0)).setCell ⟨C.tb,5,none⟩ (.map (some X.heap.size))).setCell ⟨C.tb,6,none⟩ (.slice none 0 0)).setCell ⟨C.tb,8,none⟩ (.bool false)
theorem TyR.start (h:TyR B C W X nf)(group:List Int):TyI (fun k=>k<B) (C.at_ X.heap.size X.heap.size group 0) (stW C X) (.slice none 0 0) [] ⟨[],[],false⟩ nf∧aQ aH (stW C X) X.heap.size 0 (fun _=>none)∧Kx (fun k=>k<B) (lK C) X (stW C X)∧(∀k,k≠C.tb→k<X.heap.size→(stW C X).heap[k]?=X.heap[k]?):=by
 obtain⟨gv,nv,f,hbx⟩:=h.box
 obtain⟨Ns,gs,hs1,hs2⟩:=h.sm
 obtain⟨gf,hf1,hf2⟩:=h.fm
 have hbl:=lt_of_block hbx
 have hb1:(X.alloc (.map #[] 0)).heap[C.tb]?=some (.cells #[C.c0,C.c1,C.c2,C.c3,.map (some C.sb),gv,nv,.map (some C.fb),.bool f] 95 (0,0)):=(Tt _ _ _ hbl).trans hbx
 have hb2:(stW C X).heap[C.tb]?=some (.cells #[C.c0,C.c1,C.c2,C.c3,.map (some C.sb),.map (some X.heap.size),.slice none 0 0,.map (some C.fb),.bool false] 95 (0,0)):=heap_set (heap_set (heap_set hb1 _) _) _
 have Bn:∀k,k≠C.tb→(stW C X).heap[k]?=(X.alloc (.map #[] 0)).heap[k]?:=fun k hk=>(Tx _ _ _ _ hk).trans ((Tx _ _ _ _ hk).trans (Tx _ _ _ _ hk))
 have hsame:∀k,k≠C.tb→k<X.heap.size→(stW C X).heap[k]?=X.heap[k]?:=fun k hk hl=>(Bn k hk).trans (Tt _ _ _ hl)
 have hsz:(stW C X).heap.size=X.heap.size+1:=by simp[stW,World.setCell]
 have hmn:(stW C X).heap[X.heap.size]?=some (.map #[] 0):=(Bn _ (by omega)).trans (Sv X _)
 have hgm:aQ aH (stW C X) X.heap.size 0 (fun _=>none):=(aQ.made aH X).keep (Bn _ (by omega))
 have hne:∀{α:Type} {K:fq α} {b N:Nat} {g:α→Option Value},aQ K X b N g→b≠C.tb:=fun hm e=>by
  obtain⟨n,Dd,⟨es,cl,h1,_⟩,_⟩:=hm
  rw[e,hbx]at h1
  cases h1
 have km:∀{α:Type} {K:fq α} {b N:Nat} {g:α→Option Value},aQ K X b N g→aQ K (stW C X) b N g:=fun hm=>hm.keep (hsame _ (hne hm) hm.lt)
 have htT:¬TgT X C.tb:=fun ⟨cur,fz,h2⟩=>by rw[hbx]at h2;simp at h2
 have pt:∀k,PT (fun k=>k<B) X k→(stW C X).heap[k]?=X.heap[k]?∧PT (fun k=>k<B) (stW C X) k:=fun k hp=>by
  have hk:k≠C.tb:=fun e=>by
   subst e
   exact hp.elim (fun h'=>by have:=h.dt;omega) htT
  have hl:k<X.heap.size:=hp.elim (fun h'=>by have:=h.bs;omega) (fun ht=>ht.lt)
  have e:=hsame k hk hl
  exact⟨e,hp.imp id fun ht=>(TgT.congr e).2 ht⟩
 refine⟨⟨hb2,TD _ _ _ _,⟨[],Hv.refl _,rfl,List.nodup_nil,by simp,fun k hk=>?_,fun k hk=>?_,fun i x hx=>by simp at hx,fun i x hx=>by simp at hx⟩,⟨0,aQ.eG hgm fun a _=>rfl⟩,⟨Ns,gs,km hs1,fun a ha=>?_⟩,⟨gf,km hf1,fun a ha=>?_⟩,by simp,by simp[TyC.at_,grp],fun k hk=>by have:=h.bs;show k<X.heap.size;omega,by show X.heap.size≤_;omega,fun hk=>by have:=h.dt;simp only[TyC.at_]at hk;omega,fun hk=>by have:=h.df;simp only[TyC.at_]at hk;omega⟩,hgm,?_,hsame⟩
 ·rcases hk with hk|hk|hk
  ·subst hk;exact lt_of_block hb2
  ·subst hk;exact(km hf1).lt
  ·cases hk
 ·rcases hk with hk|hk|hk
  ·subst hk;exact TgN.not hb2 (by decide)
  ·subst hk;exact(km hf1).not.1
  ·cases hk
 ·obtain⟨q,A,c,e,hsl⟩:=hs2 a ha
  exact⟨q,A,c,e,hsl.keep (fun k hp=>(pt k hp).1) fun k hp=>(pt k hp).2⟩
 ·rcases hf2 a ha with e|⟨q,A,c,e,hsl⟩
  ·exact .inl e
  ·exact .inr ⟨q,A,c,e,hsl.keep (fun k hp=>(pt k hp).1) fun k hp=>(pt k hp).2⟩
 ·exact Kx.turn (b:=C.tb) rfl rfl rfl (by omega) (fun k hk e=>hsame k e hk) (fun _=>.inl rfl) (fun _=>TgN.not hbx (by decide))
theorem TyI.fill {gb n0:Nat}{group:List Int}(h:TyI (fun k=>k<B) (C.at_ gb n0 group 0) X (.slice none 0 0) [] ⟨[],[],false⟩ nf)(Ke:gb≠C.tb∧gb≠C.fb∧gb≠C.sb)(hgX:¬TgT X gb)(hgB:B≤gb)(hsz:X.heap.size≤Y.heap.size)(hs:∀k,k<X.heap.size→k≠gb→Y.heap[k]?=X.heap[k]?)
  {ix:List Nat} {S:St} (hst:StH (fun k=>k<B) (fun k=>lK C k∨k=gb) Y ix S (fun _=>0)) {N:Nat} (hgm:aQ aH Y gb N (vsF ix (grp group 0))) (hS:group.length=S.length) :
  TyI (fun k=>k<B) (C.at_ gb n0 group group.length) Y (.slice none 0 0) ix ⟨S,[],false⟩ nf:=by
 obtain⟨Ns,gs,hs1,hs2⟩:=h.sm
 obtain⟨gf,hf1,hf2⟩:=h.fm
 have ht:group.take group.length=group:=List.take_length
 have pt:∀k,PT (fun k=>k<B) X k→Y.heap[k]?=X.heap[k]?∧PT (fun k=>k<B) Y k:=fun k hp=>by
  have hk:k≠gb:=fun e=>by
   subst e
   exact hp.elim (fun h'=>by omega) hgX
  have hl:k<X.heap.size:=hp.elim (fun h'=>by have:=h.dlt k h';have:=h.tn;omega) (fun ht=>ht.lt)
  have e:=hs k hl hk
  exact⟨e,hp.imp id fun ht=>(TgT.congr e).2 ht⟩
 refine⟨(hs _ (lt_of_block h.box) (Ne.symm Ke.1)).trans h.box,TD _ _ _ _,hst.shift (SA _) (fun _ _ _=>rfl) (fun k hk=>.inl ?_) (fun k hk=>?_),⟨N,?_⟩,⟨Ns,gs,hs1.keep (hs _ hs1.lt (Ne.symm Ke.2.2)),fun a ha=>?_⟩,⟨gf,hf1.keep (hs _ hf1.lt (Ne.symm Ke.2.1)),fun a ha=>?_⟩,by simp,fun x hx=>?_,h.dlt,SE h.tn hsz,h.dt,h.df⟩
 ·rcases hk with hk|hk|hk
  ·exact .inl (.inl hk)
  ·exact .inl (.inr hk)
  ·cases hk
 ·refine hst.not k ?_
  rcases hk with hk|hk|hk
  ·exact .inl (.inl hk)
  ·exact .inl (.inr hk)
  ·cases hk
 ·show aQ aH Y gb N (vsF ix (grp (group.take group.length) 0))
  rw[ht]
  exact hgm
 ·obtain⟨q,A,c,e,hsl⟩:=hs2 a ha
  exact⟨q,A,c,e,hsl.keep (fun k hp=>(pt k hp).1) fun k hp=>(pt k hp).2⟩
 ·rcases hf2 a ha with e|⟨q,A,c,e,hsl⟩
  ·exact .inl e
  ·exact .inr ⟨q,A,c,e,hsl.keep (fun k hp=>(pt k hp).1) fun k hp=>(pt k hp).2⟩
 ·change x∈grp (group.take group.length) 0 at hx
  rw[ht]at hx
  have:=(jo hx).2.2
  show x.2<S.length
  omega
end
theorem Bo (a:Int):∀(l:List Int)(j:Nat),grp (l++[a]) j=grp l j++[(a,j+l.length)]
 | [],j=>by simp[grp]
 | b::l,j=>by
  simp only[TU,grp,Bo a l (j+1),TS]
  rw[show j+1+l.length=j+(l.length+1) by omega]
theorem Bp {a:Int}:∀{l:List Int}{j:Nat},a∉l→(grp l j).lookup a=none
 | [],_,_=>rfl
 | b::l,j,h=>by
  unfold grp
  rw[List.lookup_cons]
  have:(a==b)=false:=by
   rw[beq_eq_false_iff_ne]
   intro e
   exact h (e▸Ta)
  rw[this]
  exact Bp fun hm=>h (Tc _ hm)
end Go.Proofs.Q
namespace Go.Proofs.Q
open Go Go.RowKit Go.Proofs Go.Proofs.Unify
def Dc.de (x:Dc):De:=⟨x.id,x.kind,x.k,x.n,x.m,x.i,x.s.ex⟩
def nd0:Unify.Nd:=⟨none,5,[],0⟩
structure iT (B:Nat)(C:TyC)(W1:World)(gb:Nat)(group:List Int)(j:Nat)(ix:List Nat)(w:World):Prop where
 st:StH (fun k=>k<B) (fun k=>lK C k∨k=gb) w ix (List.replicate j nd0) (fun _=>0)
 gm:aQ aH w gb j (vsF ix (grp (group.take j) 0))
 size:W1.heap.size≤w.heap.size
 os:w.os=W1.os
 tape:w.tape=W1.tape
 output:w.output=W1.output
 same:∀k,k<W1.heap.size→k≠gb→w.heap[k]?=W1.heap[k]?
section
variable {B:Nat} {C:TyC} {W X Y W1 w:World} {nf gb j:Nat} {group:List Int} {ix:List Nat}
theorem TyR.ne (h:TyR B C W X nf):C.tb<X.heap.size∧C.fb<X.heap.size∧C.sb<X.heap.size:=by
 obtain⟨gv,nv,f,hbx⟩:=h.box
 obtain⟨N,g,hs,_⟩:=h.sm
 obtain⟨g',hf,_⟩:=h.fm
 exact⟨lt_of_block hbx,hf.lt,hs.lt⟩
theorem iT.start (h:TyR B C W X nf)(group:List Int):iT B C (stW C X) X.heap.size group 0 [] (stW C X):=by
 obtain⟨hI,hm,hk,_⟩:=h.start group
 refine⟨?_,aQ.eG hm (fun a _=>rfl),SA _,rfl,rfl,rfl,fun _ _ _=>rfl⟩
 refine⟨[],Hv.refl _,rfl,List.nodup_nil,by simp,fun k hk=>?_,fun k hk=>?_,fun i x hx=>by simp at hx,fun i x hx=>by simp at hx⟩
 ·rcases hk with (rfl|rfl)|rfl
  ·exact lt_of_block hI.box
  ·obtain⟨g,hf,_⟩:=hI.fm;exact hf.lt
  ·exact hm.lt
 ·rcases hk with (rfl|rfl)|rfl
  ·exact TgN.not hI.box (by decide)
  ·obtain⟨g,hf,_⟩:=hI.fm;exact hf.not.1
  ·exact hm.not.1
theorem iT.below (h:iT B C W1 gb group j ix w)(hb:Below w.heap.size w Y):iT B C W1 gb group j ix Y:=
 ⟨h.st.keep hb,h.gm.keep (hb.block gb h.gm.lt),SE h.size hb.size,hb.os.trans h.os,hb.tape.trans h.tape,hb.output.trans h.output,fun k hk hg=>(hb.block k (SB hk h.size)).trans (h.same k hk hg)⟩
theorem iT.step (h:iT B C W1 gb group j ix w){a:Int}(ha:group[j]?=some a)(hn:group.Nodup)(hok:aH.ok a)(hj:j<maxLen)(_hd:∀k,k<B→k<w.heap.size){e:Ending}(hu:AJ (fun k=>k<B) (fun k=>lK C k∨k=gb) w ix (List.replicate j nd0) 5 [] e Y) :
  ∃b,e=.returned (.pointer (some ⟨b,0,none⟩))∧Below w.heap.size w Y∧∃Z,(Instr.mapUpdate 91 (.map (some gb)) (.int .i64 a) (.pointer (some ⟨b,0,none⟩))).run Tryz.prog Y=.ok () Z∧iT B C W1 gb group (j+1) (ix++[b]) Z:=by
 obtain⟨b,rfl,hst,hb⟩:=hu
 refine⟨b,rfl,hb,?_⟩
 obtain⟨Z,hrun,hm,hg⟩:=(h.gm.keep (hb.block gb h.gm.lt)).put (t:=91) Tryz.jH hj hok (nP b)
 have hlen:ix.length=j:=by rw[h.st.len];simp
 have hjl:j<group.length:=(Sy.1 ha).1
 have hz:Y.heap.size≤Z.heap.size:=hg.size
 have hsame:∀k,k<Y.heap.size→k≠gb→Z.heap[k]?=Y.heap[k]?:=fun k hk hne=>hg.block k hk (fun e=>hne (TL e))
 have ht:group.take (j+1)=group.take j++[a]:=by rw[Tn,ha];rfl
 have htl:(group.take j).length=j:=by rw[Um];omega
 have hna:a∉group.take j:=fun hm=>by
  rw[←List.take_append_drop (j+1) group,ht,List.nodup_append]at hn
  have:=(List.nodup_append.1 hn.1).2.2 a hm a (by simp)
  exact this rfl
 refine⟨Z,hrun,?_,aQ.eG hm (fun x hx=>?_),SE h.size (SE hb.size hz),?_,?_,?_,fun k hk hne=>?_⟩
 ·rw[List.replicate_succ']
  refine hst.shift hz (fun k hk hM=>hsame k hk fun e=>hM (.inr e)) (fun k hk=>.inl hk) (fun k hk=>?_)
  have h1:=hst.not k hk
  refine⟨SB h1.1 hz,?_⟩
  by_cases e:k=gb
  ·subst e;exact hm.not.1
  ·exact fun ht=>h1.2 ((TgN.congr (hsame k h1.1 e)).1 ht)
 ·rw[ht,Bo,htl,Nat.zero_add]
  have hl:(grp (group.take j) 0).lookup a=none:=Bp hna
  have e1:=congrFun (DX (ix:=ix++[b]) (i:=j) hl) x
  rw[←e1,sD (y:=[b]) (fun y hy=>by have:=(jo hy).2.2;omega)]
  have:blk (ix++[b]) j=b:=by rw[←hlen,lZ]
  rw[this]
 ·exact hg.os.trans (hb.os.trans h.os)
 ·exact hg.tape.trans (hb.tape.trans h.tape)
 ·exact hg.output.trans (hb.output.trans h.output)
 ·exact(hsame k (SB hk (SE h.size hb.size)) hne).trans ((hb.block k (SB hk h.size)).trans (h.same k hk hne))
theorem iT.done (hR:TyR B C W X nf)(h:iT B C (stW C X) X.heap.size group group.length ix w):TyB B (C.at_ X.heap.size X.heap.size group group.length) W w (.slice none 0 0) ix nf w (.slice none 0 0) ix (bG group.length) nf [] none 0 0∧Kx (fun k=>k<B) (lK C) X w:=by
 obtain⟨hI,hm,hk,hs⟩:=hR.start group
 have hl:=hR.ne
 have hbs:=hR.bs
 have hF:=hI.fill (Y:=w) (group:=group) (S:=List.replicate group.length nd0) ⟨by omega,by omega,by omega⟩ hm.not.2 hbs h.size h.same h.st (by have:=h.gm;rw[List.take_length]at this;exact this) (by simp)
 have hkx:Kx (fun k=>k<B) (lK C) X w:=by
  refine hk.trans (E':=fun k=>k=X.heap.size) ?_ (fun k hk e=>by omega)
  exact Kx.turn (b:=X.heap.size) h.os h.tape h.output h.size h.same (fun _=>rfl) (fun _=>hm.not.1)
 refine⟨TyB.start ⟨hF,?_,fun x hx=>(by cases hx),eO.nil _ _ _,fun k hk=>?_⟩,hkx⟩
 ·exact mW _
 ·have e1:=hkx.block k (by omega) (.inl hk) (fun he=>by rcases he with rfl|rfl;exact absurd hR.dt (by omega);exact absurd hR.df (by omega))
  exact e1.trans (hR.old k hk)
theorem TyI.toR {n0:Nat}{σ:Tst}{v:Value}{nf':Nat}(hR:TyR B C W X nf){gb:Nat}(h:TyI (fun k=>k<B) (C.at_ gb n0 group j) w v ix σ nf')(hk:Kx (fun k=>k<B) (lK C) X w):TyR B C W w nf':=by
 refine⟨⟨_,_,_,h.box⟩,h.sm,h.fm,fun k hb=>?_,SE hR.bs hk.size,hR.dt,hR.df⟩
 have hbs:=hR.bs
 have e1:=hk.block k (by omega) (.inl hb) (fun he=>by rcases he with rfl|rfl;exact absurd hR.dt (by omega);exact absurd hR.df (by omega))
 exact e1.trans (hR.old k hb)
theorem TyR.kn (hR:TyR B C W X nf)(hk:Kn (fun k=>k<B) X Y):TyR B C W Y nf:=by
 obtain⟨gv,nv,f,hbx⟩:=hR.box
 obtain⟨Ns,gs,hs1,hs2⟩:=hR.sm
 obtain⟨gf,hf1,hf2⟩:=hR.fm
 have hbs:=hR.bs
 have pt:∀k,PT (fun k=>k<B) X k→Y.heap[k]?=X.heap[k]?∧PT (fun k=>k<B) Y k:=fun k hp=>by
  have hl:k<X.heap.size:=hp.elim (fun h'=>by omega) (fun ht=>ht.lt)
  have e:=hk.block k hl (hp.imp id fun ht=>ht.not)
  exact⟨e,hp.imp id fun ht=>(TgT.congr e).2 ht⟩
 have kp:∀k,k<X.heap.size→¬TgN X k→Y.heap[k]?=X.heap[k]?:=fun k hl hn=>hk.block k hl (.inr hn)
 refine⟨⟨gv,nv,f,hk.box hbx (by decide)⟩,⟨Ns,gs,hs1.keep (kp _ hs1.lt hs1.not.1),fun a ha=>?_⟩,⟨gf,hf1.keep (kp _ hf1.lt hf1.not.1),fun a ha=>?_⟩,fun k hb=>(hk.block k (by omega) (.inl hb)).trans (hR.old k hb),SE hbs hk.size,hR.dt,hR.df⟩
 ·obtain⟨q,A,c,e,hsl⟩:=hs2 a ha
  exact⟨q,A,c,e,hsl.keep (fun k hp=>(pt k hp).1) fun k hp=>(pt k hp).2⟩
 ·rcases hf2 a ha with e|⟨q,A,c,e,hsl⟩
  ·exact .inl e
  ·exact .inr ⟨q,A,c,e,hsl.keep (fun k hp=>(pt k hp).1) fun k hp=>(pt k hp).2⟩
structure MsI (B:Nat)(C:TyC)(W X:World)(gb:Nat)(group:List Int)(v:Value)(ix:List Nat)(σ:Tst)(nf:Nat)(sz:Nat→Int)(w:World):Prop where
 r:TyR B C W w nf
 box:w.heap[C.tb]?=some (.cells #[C.c0,C.c1,C.c2,C.c3,.map (some C.sb),.map (some gb),v,.map (some C.fb),.bool σ.fl] 95 (0,0))
 row:w.ownsRow X.heap.size 144 1 v σ.ns.length (σ.ns.map fun j=>nP (blk ix j))
 gm:∃N,aQ aH w gb N (vsF ix (grp group 0))
 st:StH (fun k=>k<B) (fun _=>False) w ix σ.S sz
 kx:Kx (fun k=>k<B) (lK C) X w
 wf:Wf arP σ.S
 mem:∀j∈σ.ns,j<σ.S.length
theorem MsI.of {v:Value}{σ:Tst}{nf':Nat}{w2:World}{nfa n:Nat}{ixa:List Nat}(hR:TyR B C W X nf)(hk0:Kx (fun k=>k<B) (lK C) X w2)(h:TyB B (C.at_ X.heap.size X.heap.size group group.length) W w2 (.slice none 0 0) ixa nfa w v ix σ nf' [] none 0 n):MsI B C W X X.heap.size group v ix σ nf' (fun _=>0) w:=by
 have hkx:Kx (fun k=>k<B) (lK C) X w:=hk0.trans h.k.kx fun k hk he=>by
  rcases he with he|he|he
  ·exact .inl he
  ·exact .inr he
  ·cases he
 refine⟨h.a.ti.toR hR hkx,h.a.ti.box,h.a.ti.row,?_,h.a.ti.st.shift (SA _) (fun _ _ _=>rfl) (fun k hk=>hk.elim) (fun k hk=>hk.elim),hkx,h.a.wf,h.a.ti.mem⟩
 obtain⟨N,hN⟩:=h.a.ti.gm
 refine⟨N,?_⟩
 have:(C.at_ X.heap.size X.heap.size group group.length).sc.G=grp group 0:=by show grp (group.take group.length) 0=_;rw[List.take_length]
 rw[this]at hN
 exact hN
theorem MsI.kn {v:Value}{σ:Tst}{sz sz':Nat→Int}(h:MsI B C W X gb group v ix σ nf sz w)(hk:Kn (fun k=>k<B) w Y)(hst:StH (fun k=>k<B) (fun _=>False) Y ix σ.S sz'):MsI B C W X gb group v ix σ nf sz' Y:=by
 refine⟨h.r.kn hk,hk.box h.box (by decide),?_,?_,hst,h.kx.trans (hk.x (fun _=>False)) (fun _ _ h=>h.elim),h.wf,h.mem⟩
 ·refine⟨h.row.1,?_⟩
  rcases h.row.2 with h'|⟨g,cap,cur,e1,e2,e3,e4⟩
  ·exact .inl h'
  ·exact .inr ⟨g,cap,cur,e1,e2,hk.box e3 (by decide),e4⟩
 ·obtain⟨N,hN⟩:=h.gm
  exact⟨N,hN.keep (hk.block _ hN.lt (.inr hN.not.1))⟩
theorem MsI.measure {v:Value}{σ:Tst}{sz:Nat→Int}(h:MsI B C W X gb group v ix σ nf sz w)(hb:Bd sz){i:Nat}(hi:i<σ.S.length) :
  Calls Tryz.prog 99 #[nP (blk ix i)] w fun e Y=>e=.returned (.bool (ms σ.S (σ.S.length+1) i sz).1)∧MsI B C W X gb group v ix σ nf (ms σ.S (σ.S.length+1) i sz).2 Y:=by
 refine(sN arP vL σ.S h.wf ix σ.S.length i sz w hi ?_ hb h.st).mono ?_
 ·unfold nz
  exact SE Uc (by rw[List.length_range];exact SA _)
 ·rintro e Y ⟨rfl,h1,h2⟩
  exact⟨rfl,h.kn h2 h1⟩
theorem MsI.find {v:Value}{σ:Tst}{sz:Nat→Int}(h:MsI B C W X gb group v ix σ nf sz w){i:Nat}(hi:i<σ.S.length) :
  Calls Tryz.prog 100 #[nP (blk ix i)] w fun e Y=>e=.returned (.pointer (some ⟨blk ix (rt σ.S i),0,none⟩))∧MsI B C W X gb group v ix σ nf sz Y∧Y.cell? ⟨blk ix (rt σ.S i),3,none⟩=some (.int .i64 (sz (rt σ.S i))):=by
 refine(kg h.wf hi h.st).mono ?_
 rintro e Y ⟨rfl,h1,h2⟩
 refine⟨rfl,h.kn h2 h1,?_⟩
 obtain⟨x,hx1,_⟩:=iV h.wf hi
 obtain⟨u,A,c,hh,_⟩:=h1.at_ hx1
 exact(jE hh).2.2.2.1
end
theorem TyB.after {B:Nat}{C:TyC}{W W0 X Y:World}{v0 v v':Value}{ix0 ix ix':List Nat}{σ σ':Tst}{nf0 nf nf':Nat}{env:Env}{eA:Option Addr}{ec n m:Nat}(h:TyB B C W W0 v0 ix0 nf0 X v ix σ nf env eA ec n)(g:TyB B C W X v ix nf Y v' ix' σ' nf' env eA ec m):TyB B C W W0 v0 ix0 nf0 Y v' ix' σ' nf' env eA ec (n+m):=by
 obtain⟨y,hy⟩:=h.p
 obtain⟨z,hz⟩:=g.p
 refine⟨g.a,h.k.trans g.k,⟨y++z,by rw[hz,hy,TR]⟩,?_⟩
 have:=h.n
 have:=g.n
 omega
theorem TyB.le {B:Nat}{C:TyC}{W W0 X:World}{v0 v:Value}{ix0 ix:List Nat}{σ:Tst}{nf0 nf:Nat}{env:Env}{eA:Option Addr}{ec n m:Nat}(h:TyB B C W W0 v0 ix0 nf0 X v ix σ nf env eA ec n)(hm:n≤m):TyB B C W W0 v0 ix0 nf0 X v ix σ nf env eA ec m:=
 ⟨h.a,h.k,h.p,by have:=h.n;omega⟩
theorem TyB.drN {B:Nat}{C:TyC}{W W0 X:World}{v0 v:Value}{ix0 ix:List Nat}{σ:Tst}{nf0 nf:Nat}{env:Env}{eA:Option Addr}{ec n:Nat}(h:TyB B C W W0 v0 ix0 nf0 X v ix σ nf env eA ec n)(q:Nat):TyB B C W W0 v0 ix0 nf0 (X.drewN q) v ix σ nf env eA ec n:=h.below (dJ X q)
theorem tC (sc:Sc)(d:De):∀(l:List De)(σ:Tst),bH sc (l++[d]) σ=declT sc d (bH sc l σ)
 | [],_=>rfl
 | x::l,σ=>tC sc d l (declT sc x σ)
theorem uG:∀(l l':List De),gy (l++l')=gy l+gy l'
 | [],l'=>by simp[gy]
 | x::l,l'=>by simp only[TU,gy,uG l l'];omega
theorem Iq (l:List De)(j:Nat)(d:De)(h:l[j]?=some d):gy (l.take (j+1))=gy (l.take j)+(d.s.cnt+1)∧gy (l.take (j+1))≤gy l:=by
 have e:l.take (j+1)=l.take j++[d]:=by rw[Tn,h];rfl
 constructor
 ·rw[e,uG];simp[gy]
 ·have:=uG (l.take (j+1)) (l.drop (j+1))
  rw[List.take_append_drop]at this
  omega
theorem Da (sc:Sc)(l:List De)(j:Nat)(d:De)(h:l[j]?=some d)(σ:Tst):bH sc (l.take (j+1)) σ=declT sc d (bH sc (l.take j) σ):=by
 rw[←tC,Tn,h]
 rfl
theorem oK:∀(l:List Int)(j i:Nat),(grp l j)[i]?=(l[i]?).map fun a=>(a,j+i)
 | [],_,_=>by simp[grp]
 | a::l,j,0=>by simp[grp]
 | a::l,j,i+1=>by simp only[grp,List.getElem?_cons_succ,oK l (j+1) i];rw[show j+1+i=j+(i+1) by omega]
theorem Ir {sc:Sc}{ds:List De}{group:List Int}(hok:∀d∈ds,d.Ok sc)(hG:sc.G=grp group 0):DcW (bG group.length) (bH sc ds (bG group.length)) (gy ds):=by
 have hsl:(bG group.length).S.length=group.length:=List.length_replicate
 exact(kN hok (mW _) (fun x hx=>by rw[hG]at hx;have:=(jo hx).2.2;omega) (fun j hj=>by cases hj)).1
theorem vP {sc:Sc}{ds:List De}{n:Nat}{group:List Int}(hok:∀d∈ds,d.Ok sc)(hG:sc.G=grp group 0)(hn:n=group.length:=by rfl):(bH sc ds (bG n)).ns.length≤gy ds:=by
 subst hn
 obtain⟨l,h1,h2,_⟩:=(Ir hok hG).ns
 rw[h1]
 simpa [bG]using h2
theorem Kg (S:St)(n:Nat)(l:List Nat)(sz:Nat→Int):msA S (n::l) sz=if (ms S (S.length+1) n sz).1=true then msA S l (ms S (S.length+1) n sz).2 else (false,(ms S (S.length+1) n sz).2):=rfl
theorem MsI.vs {B:Nat}{C:TyC}{W X w:World}{gb nf:Nat}{group:List Int}{v:Value}{ix:List Nat}{σ:Tst}{sz:Nat→Int}(h:MsI B C W X gb group v ix σ nf sz w):∃A c,v=.slice A σ.ns.length c∧σ.ns.length≤maxLen∧(σ.ns≠[]→∃g,A=some ⟨g,0,none⟩):=by
 rcases h.row.2 with⟨e,e2⟩|⟨g,cap,cur,e1,e2,e3,e4,e5,_⟩
 ·exact⟨none,0,by rw[e,e2],by omega,fun hne=>absurd (Tq.1 e2) hne⟩
 ·exact⟨_,cap,e1,by omega,fun _=>⟨g,rfl⟩⟩
theorem MsI.at_ {B:Nat}{C:TyC}{W X w:World}{gb nf:Nat}{group:List Int}{g n c:Nat}{ix:List Nat}{σ:Tst}{sz:Nat→Int}(h:MsI B C W X gb group (.slice (some ⟨g,0,none⟩) n c) ix σ nf sz w){j i:Nat}(hj:σ.ns[j]?=some i):w.cell? ⟨g,j,none⟩=some (.pointer (some ⟨blk ix i,0,none⟩)):=by
 have hr:=h.row
 have hn:n=σ.ns.length:=by
  obtain⟨A,c',e,_⟩:=h.vs
  cases e
  rfl
 subst hn
 rw[hr.cellAt j (by have:=(Sy.1 hj).1;omega),Tk,hj]
 rfl
structure FoI (B:Nat)(X:World)(group:List Int)(S:St)(ix:List Nat)(sz:Nat→Int)(w4:World)(mb q:Nat)(w:World):Prop where
 kn:Kn (fun k=>k<B) w4 w
 st:StH (fun k=>k<B) (fun k=>k=mb) w ix S sz
 mp:∃g,aQ aH w mb q g∧∀x∈(grp group 0).take q,∃A c,g x.1=some (.agg #[.int .i64 (og S x).2.1,.int .i64 (og S x).2.2.1,.int .i64 (og S x).2.2.2.1,.slice A (og S x).2.2.2.2.len c])∧(og S x).2.2.2.2.Sl w (fun k=>X.heap.size≤k∧TgT w k) A c
 hm:w4.heap.size≤mb
 hx:X.heap.size≤w4.heap.size
section
variable {B:Nat} {X w4 w Y:World} {group:List Int} {S:St} {ix:List Nat} {sz:Nat→Int} {mb q:Nat}
theorem FoI.start (hst:StH (fun k=>k<B) (fun _=>False) w4 ix S sz)(hx:X.heap.size≤w4.heap.size):FoI B X group S ix sz w4 w4.heap.size 0 (w4.alloc (.map #[] 0)):=by
 have hm:=aQ.made aH w4
 refine⟨Kn.alloc _ _,?_,⟨_,hm,fun x hx=>by simp at hx⟩,SA _,hx⟩
 exact hst.shift (by simp) (fun k hk _=>Tt _ _ _ hk) (fun k hk=>.inr (by omega)) (fun k hk=>by subst hk;exact⟨hm.lt,hm.not.1⟩)
theorem FoI.kn_ (h:FoI B X group S ix sz w4 mb q w)(hk:Kn (fun k=>k<B) w Y)(hst:StH (fun k=>k<B) (fun k=>k=mb) Y ix S sz):FoI B X group S ix sz w4 mb q Y:=by
 obtain⟨g,hg,hx⟩:=h.mp
 refine⟨h.kn.trans hk,hst,⟨g,hg.keep (hk.block _ hg.lt (.inr hg.not.1)),fun x hm=>?_⟩,h.hm,h.hx⟩
 obtain⟨A,c,e,hsl⟩:=hx x hm
 have pt:∀k,TgT w k→Y.heap[k]?=w.heap[k]?:=fun k ht=>hk.block k ht.lt (.inr ht.not)
 exact⟨A,c,e,hsl.keep (fun k hp=>pt k hp.2) fun k hp=>⟨hp.1,(TgT.congr (pt k hp.2)).2 hp.2⟩⟩
theorem FoI.below (h:FoI B X group S ix sz w4 mb q w)(hb:Below w.heap.size w Y):FoI B X group S ix sz w4 mb q Y:=h.kn_ (Kn.below hb) (h.st.keep hb)
theorem FoI.build (h:FoI B X group S ix sz w4 mb q w)(hw:Wf arP S){i:Nat}(hi:i<S.length)(hb:Bl S 201 i){w2:World}(hb2:Below (w.alloc (.map #[] 0)).heap.size (w.alloc (.map #[] 0)) w2) :
  Calls Tryz.prog 101 #[.pointer (some ⟨blk ix i,0,none⟩),.map (some w.heap.size)] w2 (fun e w3=>∃A c,e=.returned (.agg #[.int .i64 (bT S 201 i []).1.1,.int .i64 (bT S 201 i []).1.2.1,.slice A (bT S 201 i []).1.2.2.len c])∧(bT S 201 i []).1.2.2.Sl w3 (fun k=>X.heap.size≤k∧TgT w3 k) A c∧NmM w3 w.heap.size ix (bT S 201 i []).2∧FoI B X group S ix sz w4 mb q w3):=by
 have hb1:Below w.heap.size w w2:=((TA _ _).alloc (SA _) _).trans (hb2.mono (by simp))
 have h2:=h.below hb1
 have hnm:NmM w2 w.heap.size ix []:=(NmM.made w ix).keep (hb2.block _ (by simp))
 have hst:StH (fun k=>k<B) (fun k=>k=mb∨k=w.heap.size) w2 ix S sz:=h.st.shift hb1.size (fun k hk _=>hb1.block k hk) (fun k hk=>hk.elim .inl fun hk=>.inr (by omega)) (fun k hk=>?_)
 ·refine(yt arP vL S hw ix sz w.heap.size 201 _ i [] w2 (.inr rfl) hi hb (by simp) hst hnm).mono ?_
  rintro e w3 ⟨A,c,rfl,hsl,Bh,QB,hk3⟩
  have hk:Kn (fun k=>k<B) w w3:=((Kn.below hb1).x (fun k=>k=w.heap.size)).trans hk3 (fun _ _ e=>e) |>.new (fun k hk=>by omega)
  have hsz:X.heap.size≤w2.heap.size:=by have:=h.hx;have:=h.kn.size;have:=hb1.size;omega
  refine⟨A,c,rfl,hsl.keep (fun _ _=>rfl) (fun k hp=>⟨SE hsz hp.1,hp.2⟩),QB,h.kn_ hk (Bh.shift (SA _) (fun _ _ _=>rfl) (fun k hk=>.inl (.inl hk)) (fun k hk=>Bh.not k (.inl hk)))⟩
 ·rcases hk with rfl|rfl
  ·exact h2.st.not _ rfl
  ·exact⟨hnm.lt,hnm.not⟩
theorem FoI.put (h:FoI B X group S ix sz w4 mb q w){a:Int}(ha:group[q]?=some a)(hn:group.Nodup)(hok:aH.ok a)(hq:q<maxLen){A:Option Addr}{c:Nat}(hsl:(bT S 201 q []).1.2.2.Sl w (fun k=>X.heap.size≤k∧TgT w k) A c) :
  ∃Z,(Instr.mapUpdate 88 (.map (some mb)) (.int .i64 a) (.agg #[.int .i64 ((bT S 201 q []).2.length:Int),.int .i64 (bT S 201 q []).1.1,.int .i64 (bT S 201 q []).1.2.1,.slice A (bT S 201 q []).1.2.2.len c])).run Tryz.prog w=.ok () Z∧FoI B X group S ix sz w4 mb (q+1) Z:=by
 obtain⟨g,hg,hx⟩:=h.mp
 obtain⟨Z,hrun,hm,hgr⟩:=hg.put (t:=88) Tryz.jT hq hok (.agg #[.int .i64 ((bT S 201 q []).2.length:Int),.int .i64 (bT S 201 q []).1.1,.int .i64 (bT S 201 q []).1.2.1,.slice A (bT S 201 q []).1.2.2.len c])
 have hz:w.heap.size≤Z.heap.size:=hgr.size
 have hsame:∀k,k<w.heap.size→k≠mb→Z.heap[k]?=w.heap[k]?:=fun k hk hne=>hgr.block k hk (fun e=>hne (TL e))
 have pt:∀k,TgT w k→Z.heap[k]?=w.heap[k]?:=fun k ht=>hsame k ht.lt fun e=>hg.not.2 (e▸ht)
 have hql:q<group.length:=(Sy.1 ha).1
 have hgq:(grp group 0)[q]?=some (a,q):=by rw[oK,ha];simp
 have kx:Kx (fun k=>k<B) (fun k=>k=mb) w Z:=Kx.turn (b:=mb) hgr.os hgr.tape hgr.output hz (fun k hk hne=>hsame k hk hne) (fun _=>rfl) (fun _=>hg.not.1)
 refine⟨Z,hrun,(h.kn.x (fun k=>k=mb)).trans kx (fun _ _ e=>e) |>.new (fun k hk=>by have:=h.hm;omega),h.st.shift hz (fun k hk hne=>hsame k hk hne) (fun k hk=>.inl hk) (fun k hk=>by subst hk;exact⟨hm.lt,hm.not.1⟩),⟨_,hm,fun x hxm=>?_⟩,h.hm,h.hx⟩
 have ht:(grp group 0).take (q+1)=(grp group 0).take q++[(a,q)]:=by rw[Tn,hgq];rfl
 rw[ht]at hxm
 rcases Td.1 hxm with h'|h'
 ·obtain⟨A',c',e,mF⟩:=hx x h'
  have hne:x.1≠a:=fun e=>by
   have h1:=kI (j:=0) hn x (List.mem_of_mem_take h')
   have h2:=kI (j:=0) hn (a,q) (SV hgq)
   rw[e]at h1
   rw[h1]at h2
   obtain⟨i,hi,e3⟩:=List.getElem_of_mem h'
   have hi':i<q:=by rw[Um]at hi;omega
   have h3:(grp group 0)[i]?=some x:=by rw[←List.getElem?_take_of_lt hi',Sw hi,e3]
   rw[oK]at h3
   cases h4:group[i]? with
   | none=>rw[h4]at h3;cases h3
   | some y=>rw[h4]at h3;cases h3;simp at h2;omega
  refine⟨A',c',by simp only[TW hne];exact e,mF.keep (fun k hp=>pt k hp.2) fun k hp=>⟨hp.1,(TgT.congr (pt k hp.2)).2 hp.2⟩⟩
 ·obtain rfl:=Te.1 h'
  exact⟨A,c,by simp only[TY];rfl,hsl.keep (fun k hp=>pt k hp.2) fun k hp=>⟨hp.1,(TgT.congr (pt k hp.2)).2 hp.2⟩⟩
end
end Go.Proofs.Q
namespace Go.Proofs.Q
open Go Go.RowKit Go.Proofs Go.Proofs.Unify
theorem Pj {W:World}{b:Nat}{t:TypeId}{c0 c1 c2 c3 c4 c5 c6 c7 c8:Value}(h:W.heap[b]?=some (.cells #[c0,c1,c2,c3,c4,c5,c6,c7,c8] t (0,0))) :
  W.cell? ⟨b,5,none⟩=some c5∧W.cell? ⟨b,6,none⟩=some c6∧W.cell? ⟨b,8,none⟩=some c8∧W.frozen? ⟨b,5,none⟩=false∧W.frozen? ⟨b,6,none⟩=false∧W.frozen? ⟨b,8,none⟩=false:=
 ⟨Sq W b 5 _ _ (0,0) h,Sq W b 6 _ _ (0,0) h,Sq W b 8 _ _ (0,0) h,Sr W b 5 _ _ h,Sr W b 6 _ _ h,Sr W b 8 _ _ h⟩
def Lh (B:Nat)(C:TyC)(W X:World)(nf n:Nat)(R:zx)(e:Ending)(Y:World):Prop:=
 (∃nf',nf'≤nf+n∧TyR B C W Y nf')∧Kx (fun k=>k<B) (lK C) X Y ∧
 match R with
 | .err z=>e=.returned (.tuple #[.map none,.int .i64 z])
 | .ok l=>∃mb N g,e=.returned (.tuple #[.map (some mb),.int .i64 0])∧X.heap.size≤mb∧N≤l.length∧aQ aH Y mb N g ∧
   ∀x∈l,∃A c,g x.1=some (.agg #[.int .i64 x.2.1,.int .i64 x.2.2.1,.int .i64 x.2.2.2.1,.slice A x.2.2.2.2.len c])∧x.2.2.2.2.Sl Y (fun k=>X.heap.size≤k∧TgT Y k) A c
theorem Kh {B:Nat}{C:TyC}{W X:World}{nf:Nat}(h:TyR B C W X nf){group:List Int}{A:Option Addr}{c:Nat}(hg:dF X B A c group)(hgn:group.Nodup)(hgl:group.length≤1000)(hgi:∀a∈group,aH.ok a)
  {ds:List Dc} {dA:Option Addr} {dc:Nat} (hd:SlD W B dA dc ds) (hc2:C.c2=.slice dA ds.length dc) (iN:∀a∈group,∃d∈ds,d.id=a) (hdi:∀d∈ds,aH.ok d.id)
  (hok:∀d∈ds,d.de.Ok ⟨grp group 0,C.sc.sch,C.sc.frn⟩)(hro:∀d∈ds,∀gb n0,(d.k=5→kM (fun k=>k<B) (C.at_ gb n0 group group.length) W d.n d.i)∧d.s.Ro (fun k=>k<B) (C.at_ gb n0 group group.length) W)
  (hcnt:gy (ds.map Dc.de)≤400000)(hdl:ds.length≤1000000) :
  Calls Tryz.prog 51 #[.pointer (some ⟨C.tb,0,none⟩),.slice A group.length c] X (Lh B C W X nf (gy (ds.map Dc.de)) (iR C.sc (ds.map Dc.de) group)):=by
 obtain⟨R,HR⟩:∃R,Hid (iR C.sc (ds.map Dc.de) group=R):=⟨_,Sk rfl⟩
 rw[HR.out]
 obtain⟨hI0,Oe,Og,Iu⟩:=h.start group
 have hF0:=iT.start h group
 obtain⟨gv,nv,f,hbx⟩:=h.box
 have hbl:=lt_of_block hbx
 have hb1:(X.alloc (.map #[] 0)).heap[C.tb]?=some (.cells #[C.c0,C.c1,C.c2,C.c3,.map (some C.sb),gv,nv,.map (some C.fb),.bool f] 95 (0,0)):=(Tt _ _ _ hbl).trans hbx
 obtain⟨x5,x6,x8,f5,f6,f8⟩:=Pj hb1
 obtain⟨N,HN⟩:∃N,Hid (group.length=N):=⟨_,Sk rfl⟩
 have HG:=Sk (Sn hg (Sn hgn (Sn hgl hgi)))
 have HD:=Sk (Sn hd (Sn hc2 (Sn iN (Sn hdi (Sn hok (Sn hro (Sn hcnt hdl)))))))
 have HH:=Sk h
 have H0:=Sk (Sn hI0 (Sn Oe (Sn Og Iu)))
 have HL:=Sk (Sn h.ne (Sn h.bs (Sn h.dt h.df)))
 have Rn:N≤1000:=by rw[←HN.out];exact hgl
 have hmm:=@run_makeMap Tryz.prog
 rw[HN.out]
 clear h hg hgn hgl hgi hd hc2 iN hdi hok hro hcnt hdl hI0 Oe Og Iu hbx hb1 hbl
 go_enter Tryz.func51,Tryz.ntmps51
 go_upto_region 4 with fail
 obtain⟨W1,hW1⟩:∃W1,stW C X=W1:=⟨_,rfl⟩
 have H1:=Sk (Sn H0.out hF0)
 rw[hW1]at H1
 have HW1:=Sk hW1
 unfold stW at hW1
 try rw[hW1]
 obtain⟨x0,x1,x2,x3,x4,x5,x6,x7,x8,f6,f8⟩:=lJ H1.out.1.1.box
 simp only[TyC.at_]at x5
 clear x0 x1 x2 x3 x4 x6 x7 x8 f6 f8 hF0 hW1
 go_wp2
 go_loopg [7,32] N (fun g _ ct wr=>∃(j:Nat) (ixj:List Nat),g=N-j∧j≤N∧ct=.int .i64 j∧iT B C W1 X.heap.size group j ixj wr)
 case atStart=>exact⟨0,[],rfl,SC _,rfl,H1.out.2⟩
 case round =>
  obtain⟨j,ixj,hg,hj,rfl,hF⟩:=hrel
  have HF:=Sk (Sn hg hF)
  have y5:wr.cell? ⟨C.tb,5,none⟩=some (.map (some X.heap.size)):=(SN (hF.same C.tb (by have:=H1.out.1.1.box;exact lt_of_block this) (by have:=HL.out.1.1;omega))).trans x5
  have HZ:=Sk (show W1.heap.size=X.heap.size+1 by rw[←HW1.out];simp[stW,World.setCell])
  by_cases hlt:j<N
  ·obtain⟨a,ha⟩:∃a,group[j]?=some a:=⟨_,Sw (by rw[HN.out];exact hlt)⟩
   obtain⟨g,o,rfl,hgB,hgc⟩:=HG.out.1.2.2 (by intro e;rw[e]at ha;simp at ha)
   have eg:wr.cell? ⟨g,o+j,none⟩=some (.int .i64 a):=(SN ((hF.same g (by have:=HL.out.2.1;have:=HZ.out;omega) (by have:=HL.out.2.1;omega)).trans (H1.out.1.2.2.2 g (by have:=HL.out.2.2.1;omega) (by have:=HL.out.2.1;omega)))).trans (hgc j a ha)
   have hwf:Wf arP (List.replicate j nd0):=mW j
   have hdd:∀k,k<B→k<wr.heap.size:=fun k hk=>by have:=HL.out.2.1;have:=HZ.out;have:=hF.size;omega
   have HC:=Sk (show Calls Tryz.prog 95 #[] wr.drew _ from kL hwf (hF.below (TA _ _).drew).st hdd)
   have HA:=Sk (show ∀e Y,_→_ from fun e Y hu=>iT.step (hF.below (TA _ _).drew) ha HG.out.2.1 (HG.out.2.2.2 a (SV ha)) (by unfold maxLen;omega) hdd (e:=e) (Y:=Y) hu)
   have HY:=Sk (show ∀Y,Below wr.drew.heap.size wr.drew Y→Y.cell? ⟨C.tb,5,none⟩=some (.map (some X.heap.size))from fun Y hb=>(hb.cell (p:=⟨C.tb,5,none⟩) (SS wr ⟨C.tb,5,none⟩ y5)).trans y5)
   clear hF hgc hwf ha hg hdd
   go_upto_region 7 with fail
   go_region_law (first
    | (go_simp;go_at_call 95;(with_reducible refine TJ HC.out ?_);intro e w2 hu;obtain⟨b,he,hb2,w3,K8,hF3⟩:=HA.out e w2 hu;clear hu;subst he;have u5:=HY.out _ hb2;have HM3:=Sk hF3;clear hb2 hF3)
    | fail)
   all_goals (
    go_wp2
    go_roundg (N-(j+1))
    case measure=>have:=HF.out.1;omega
    case rel=>exact⟨j+1,_,rfl,by omega,rfl,HM3.out⟩)
  ·obtain rfl:j=N:=by omega
   have i1:decide ((j:Int)<(j:Int))=false:=SH (by omega)
   have i2:decide (j<j)=false:=SH (by omega)
   obtain⟨hT0,hK0⟩:=iT.done HH.out (ix:=ixj) (w:=wr) (by rw[HW1.out,HN.out];exact hF)
   obtain⟨C1,HC1⟩:∃C1,Hid (C.at_ X.heap.size X.heap.size group group.length=C1):=⟨_,Sk rfl⟩
   rw[HC1.out]at hT0
   have htb:C1.tb=C.tb:=by rw[←HC1.out];rfl
   have hgb:C1.gb=X.heap.size:=by rw[←HC1.out];rfl
   have HF0:=Sk (Sn hT0 hK0)
   obtain⟨M,HM⟩:∃M,Hid (ds.length=M):=⟨_,Sk rfl⟩
   have hc2':C.c2=.slice dA M dc:=by rw[←HM.out];exact HD.out.2.1
   have x2:wr.cell? ⟨C.tb,2,none⟩=some (.slice dA M dc):=by
    have:=(lJ hT0.a.ti.box).2.2.1
    rw[htb]at this
    rw[this,←HC1.out,←hc2']
    rfl
   have Rq:M≤1000000:=by rw[←HM.out];exact HD.out.2.2.2.2.2.2.2
   have HTB:=Sk (Sn htb hgb)
   clear hg hF hj hlt hT0 hK0 htb hgb hc2' y5
   obtain⟨W2,rfl⟩:∃W2,W2=wr:=⟨_,rfl⟩
   go_wp2
   go_loopg [9,10,49] M (fun g _ _ ct w=>∃(j:Nat) (v:Value) (ix:List Nat) (nf':Nat),g=M-j∧j≤M∧ct=.int .i64 j∧TyB B C1 W W2 (.slice none 0 0) ixj nf w v ix (bH C1.sc ((ds.map Dc.de).take j) (bG group.length)) nf' [] none 0 (gy ((ds.map Dc.de).take j)))
   case atStart=>exact⟨0,_,_,_,rfl,SC _,rfl,HF0.out.1⟩
   case round =>
    obtain⟨q,v,ix,nf',hq,hqM,rfl,hT⟩:=hrel
    obtain⟨htb,hgb⟩:=HTB.out
    by_cases hlt:q<M
    ·have hlt':q<ds.length:=by rw[HM.out];exact hlt
     obtain⟨x,hx⟩:∃x,ds[q]?=some x:=⟨_,Sw hlt'⟩
     obtain⟨b,o,rfl,hbB,hall⟩:=HD.out.1.2.2 (by intro e;rw[e]at hlt';simp at hlt')
     obtain⟨hcs,hxo⟩:=hall q x hx
     have hx2:=hx
     have hxm:(ds.map Dc.de)[q]?=some x.de:=by rw[Tk,hx];rfl
     obtain⟨xid,bD,bS,xnA,xnc,aK,aY,xk,xn,xm,xi,xd,xA,xc,xs⟩:=x
     have hcw:∀a,wr.cell? ⟨b,a,none⟩=W.cell? ⟨b,a,none⟩:=fun a=>SN (hT.a.old b hbB)
     have d0:wr.cell? ⟨b,o+q*11,none⟩=some (.int .i64 xid):=(hcw _).trans (hcs 0 _ rfl)
     have d1:wr.cell? ⟨b,o+q*11+1,none⟩=some (.int .i64 bD):=(hcw _).trans (hcs 1 _ rfl)
     have d2:wr.cell? ⟨b,o+q*11+2,none⟩=some (.bool bS):=(hcw _).trans (hcs 2 _ rfl)
     have d3:wr.cell? ⟨b,o+q*11+3,none⟩=some (.slice xnA aK.length xnc):=(hcw _).trans (hcs 3 _ rfl)
     have d4:wr.cell? ⟨b,o+q*11+4,none⟩=some (.bool aY):=(hcw _).trans (hcs 4 _ rfl)
     have d5:wr.cell? ⟨b,o+q*11+5,none⟩=some (.int .i64 xk):=(hcw _).trans (hcs 5 _ rfl)
     have d6:wr.cell? ⟨b,o+q*11+6,none⟩=some (.string xn):=(hcw _).trans (hcs 6 _ rfl)
     have d7:wr.cell? ⟨b,o+q*11+7,none⟩=some (.string xm):=(hcw _).trans (hcs 7 _ rfl)
     have d8:wr.cell? ⟨b,o+q*11+8,none⟩=some (.int .i64 xi):=(hcw _).trans (hcs 8 _ rfl)
     have d9:wr.cell? ⟨b,o+q*11+9,none⟩=some (.int .i64 xd):=(hcw _).trans (hcs 9 _ rfl)
     have d10:wr.cell? ⟨b,o+q*11+10,none⟩=some (.slice xA xs.len xc):=(hcw _).trans (hcs 10 _ rfl)
     have hmem:=SV hx
     obtain⟨cnt1,cnt2⟩:=Iq _ _ _ hxm
     have hstep:=Da C1.sc _ _ _ hxm (bG group.length)
     obtain⟨σ,Hσ⟩:∃σ,Hid (bH C1.sc ((ds.map Dc.de).take q) (bG group.length)=σ):=⟨_,Sk rfl⟩
     obtain⟨cn,Hcn⟩:∃cn,Hid (gy ((ds.map Dc.de).take q)=cn):=⟨_,Sk rfl⟩
     rw[Hσ.out]at hstep hT
     rw[Hcn.out]at cnt1 hT
     obtain⟨W3,hW3⟩:∃W3,wr.alloc (.cells #[.int .i64 xid,.int .i64 bD,.bool bS,.slice xnA aK.length xnc,.bool aY,.int .i64 xk,.string xn,.string xm,.int .i64 xi,.int .i64 xd,.slice xA xs.len xc] 46)=W3:=⟨_,rfl⟩
     have hb3:Below wr.heap.size wr W3:=by subst hW3;exact(TA _ _).alloc (SA _) _
     have hr3:W3.heap[wr.heap.size]?=some (.cells #[.int .i64 xid,.int .i64 bD,.bool bS,.slice xnA aK.length xnc,.bool aY,.int .i64 xk,.string xn,.string xm,.int .i64 xi,.int .i64 xd,.slice xA xs.len xc] 46 (0,0)):=by subst hW3;exact Sv wr _
     have hT3:=hT.below hb3
     have e0:=Sq W3 wr.heap.size 0 _ _ (0,0) hr3
     simp at e0
     have y5:=(lJ hT3.a.ti.box).2.2.2.2.2.1
     rw[htb,hgb]at y5
     obtain⟨Ng,hg⟩:=hT3.a.ti.gm
     rw[hgb]at hg
     have hlk:=fun q=>(hg.keep (w':=W3.drewN q) rfl).look false (t:=91) Tryz.jH (kV _) (a:=xid) (HD.out.2.2.2.1 _ hmem)
     simp only[TN,if_false,aH]at hlk
     have hd0:W3.drewN 0=W3:=rfl
     have HT3:=Sk (Sn hT3 (Sn hb3 hr3))
     have HQ:=Sk (Sn hq (Sn hmem (Sn cnt1 (Sn cnt2 (Sn hstep hxo)))))
     cases hG:C1.sc.G.lookup xid with
     | none =>
      have hF:vsF ix C1.sc.G xid=none:=by unfold vsF;rw[hG];rfl
      rw[hF]at hlk
      simp only[Option.getD_none]at hlk
      have HS:=Sk (show declT C1.sc (Dc.de ⟨xid,bD,bS,xnA,xnc,aK,aY,xk,xn,xm,xi,xd,xA,xc,xs⟩) σ=σ by unfold declT Dc.de;simp only[hG])
      clear hT hT3 hall hcs hxo hx hx2 hxm hcw hg hF hstep cnt1 cnt2 hq hb3 hr3
      go_upto_region 12 with fail
      try rw[hW3]
      go_quiet (fail)
      go_wp2
      go_roundg (M-(q+1))
      case measure=>have:=HQ.out.1;omega
      case rel =>
       refine⟨q+1,v,ix,nf',rfl,by omega,by go_num,?_⟩
       rw[HQ.out.2.2.2.2.1,HS.out]
       exact(HT3.out.1.drN _).le (by have:=HQ.out.2.2.1;omega)
     | some k =>
      have hF:vsF ix C1.sc.G xid=some (nP (blk ix k)):=by unfold vsF;rw[hG];rfl
      rw[hF]at hlk
      simp only[Option.getD_some,nP]at hlk
      have hkl:k<σ.S.length:=hT3.a.ti.lC _ (gG hG)
      obtain⟨p,Hp⟩:∃p,Hid (blk ix k=p):=⟨_,Sk rfl⟩
      rw[Hp.out]at hlk
      have HK:=Sk (Sn hkl hG)
      clear hT hT3 hall hcs hxo hx hx2 hxm hcw hg hF hstep cnt1 cnt2 hq hb3 hr3 hkl hG
      go_upto_region 12 with fail
      try rw[hW3]
      go_quiet (fail)
      go_upto_region 14 with fail
      generalize hW4:World.drewN W3 _=W4
      obtain⟨hT4,hb4⟩:TyB B C1 W W2 (.slice none 0 0) ixj nf W4 v ix σ nf' [] none 0 cn∧Below W3.heap.size W3 W4:=by rw[←hW4];exact⟨HT3.out.1.drN _,dJ _ _⟩
      have hr4:=(hb4.block wr.heap.size (lt_of_block HT3.out.2.2)).trans HT3.out.2.2
      have e5:=Sq W4 wr.heap.size 5 _ _ (0,0) hr4
      have e6:=Sq W4 wr.heap.size 6 _ _ (0,0) hr4
      have e7:=Sq W4 wr.heap.size 7 _ _ (0,0) hr4
      have e8:=Sq W4 wr.heap.size 8 _ _ (0,0) hr4
      have e9:=Sq W4 wr.heap.size 9 _ _ (0,0) hr4
      have e10:=Sq W4 wr.heap.size 10 _ _ (0,0) hr4
      simp at e5 e6 e7 e8 e9 e10
      have hS:=TyB.start hT4.a
      obtain⟨sn,Hsn⟩:∃sn,Hid (xs.count=sn):=⟨_,Sk rfl⟩
      obtain⟨R1,HR1⟩:∃R1,Hid (aG (aF C1.sc xk xn xm xi (tyF C1.sc xs.ex) [] σ)=R1):=⟨_,Sk rfl⟩
      obtain⟨LN,HLN⟩:∃LN,Hid (xs.len=LN):=⟨_,Sk rfl⟩
      have Ki:TyW C1.sc σ R1 (sn+1)∧∀w1,Below W4.heap.size W4 w1→Calls Tryz.prog 97 #[.pointer (some ⟨C.tb,0,none⟩),.agg #[.int .i64 xk,.string xn,.string xm,.int .i64 xi,.int .i64 xd,.slice xA LN xc],.slice none 0 0] w1 (ExB B C1 W W4 v ix nf' ix R1 [] none 0 (sn+1)):=by
       have hds:(Dc.de ⟨xid,bD,bS,xnA,xnc,aK,aY,xk,xn,xm,xi,xd,xA,xc,xs⟩).Ok C1.sc:=by
        have:=HD.out.2.2.2.2.1 _ HQ.out.2.1
        rw[←HC1.out]
        show De.Ok ⟨grp (group.take group.length) 0,_,_⟩ _
        rw[List.take_length]
        exact this
       have hro:=HD.out.2.2.2.2.2.1 _ HQ.out.2.1 X.heap.size X.heap.size
       rw[HC1.out]at hro
       have hxs:xs.Sl W4 B xA xc:=HQ.out.2.2.2.2.2.2.keep (SA _) fun pp hpp=>SN (hT4.a.old pp.block hpp)
       have hns:σ.ns.length≤cn:=by
        have:=vP (sc:=C1.sc) (ds:=(ds.map Dc.de).take q) (n:=group.length) (fun z hz=>by
         obtain⟨y,hy,rfl⟩:=TH.1 (List.mem_of_mem_take hz)
         have:=HD.out.2.2.2.2.1 _ hy
         rw[←HC1.out]
         show De.Ok ⟨grp (group.take group.length) 0,_,_⟩ _
         rw[List.take_length]
         exact this) (by rw[←HC1.out];show grp (group.take group.length) 0=grp group 0;rw[List.take_length])
        rw[Hσ.out,Hcn.out]at this
        exact this
       have hcb:=HQ.out.2.2.2.1
       have hc0:=HD.out.2.2.2.2.2.2.1
       have Bq:=HQ.out.2.2.1
       simp only[Dc.de,Fo.iH,Hsn.out]at Bq
       have h1:∀w1,Below W4.heap.size W4 w1→_:=fun w1 hb1=>(hS.below hb1).expr (Kc B xs) (env':=[]) (fun x hx=>by cases hx) (eO.nil _ _ _) xk xn xm xi xd xA xc (hxs.keep (SA _) fun pp hpp=>SN (hb1.block pp.block (by have:=hT4.a.ti.dlt pp.block hpp;have:=hT4.a.ti.tn;omega))) ⟨hds.1,hds.2.1,hds.2.2,trivial⟩ ⟨hro.1,hro.2,trivial⟩ (by rw[Hsn.out];simp;omega) (by rw[Hsn.out];omega)
       rw[HR1.out,Hsn.out,HLN.out,htb]at h1
       exact⟨(h1 W4 (TA _ _)).1,fun w1 hb1=>by have:=(h1 w1 hb1).2;rw[Nat.zero_add]at this;exact this⟩
      have HE:=Sk Ki.2
      have HW:=Sk Ki.1
      have HSm:=Sk (show ∀(w2:World) (v2:Value) (y:List Nat) (b2 nf2 nn:Nat),blk (ix++y) R1.1=b2→TyB B C1 W W4 v ix nf' w2 v2 (ix++y) R1.2 nf2 [] none 0 nn→Calls Tryz.prog 96 #[.pointer (some ⟨C.tb,0,none⟩),.pointer (some ⟨p,0,none⟩),.pointer (some ⟨b2,0,none⟩)] w2 (fun e Y=>e=.returned (.tuple #[])∧TyB B C1 W W4 v ix nf' Y v2 (ix++y) (bE R1.2 k R1.1) nf2 [] none 0 nn)from fun w2 v2 y b2 nf2 nn hb2 h2=>by
       have:=(h2.same (a:=k) (b:=R1.1) (p:=p) (q:=b2) (SB HK.out.1 HW.out.le) HW.out.lt (dx Hp.out (by rw[hT4.lt];exact HK.out.1)) hb2).2
       rw[htb]at this
       exact this)
      have HT4:=Sk (Sn hT4 hr4)
      clear hT4 hr4 hS Ki e0 hlk
      rw[HLN.out]at e10
      go_wp2_with fail
      with_reducible refine TJ (HE.out _ (TA _ _)) ?_
      rintro e w1 ⟨v1,y1,p1,nf1,rfl,hp1,hB1⟩
      have HS1:=Sk (HSm.out _ _ _ _ _ _ hp1 hB1)
      have HP1:=Sk (Sn hp1 hB1)
      clear hp1 hB1
      go_wp2_with fail
      with_reducible refine TJ HS1.out ?_
      rintro e w2 ⟨rfl,hB2⟩
      have HB2:=Sk hB2
      have e1:=Sq w2 wr.heap.size 1 _ _ (0,0) (hB2.k.box HT4.out.1.a.ti HT4.out.2 (by decide))
      simp at e1
      clear hB2
      have HV:=Sk (show declT C1.sc (Dc.de ⟨xid,bD,bS,xnA,xnc,aK,aY,xk,xn,xm,xi,xd,xA,xc,xs⟩) σ=if bD≠1 then bE (aJ (bE R1.2 k R1.1) 2 []).2 k (aJ (bE R1.2 k R1.1) 2 []).1 else bE R1.2 k R1.1 by
       unfold declT
       simp only[Dc.de,HK.out.2,De.ty,HR1.out])
      by_cases hkd:bD=1
      ·subst hkd
       rw[TW (by simp)]at HV
       go_wp2
       go_roundg (M-(q+1))
       case measure=>have:=HQ.out.1;omega
       case rel =>
        refine⟨q+1,v1,ix++y1,nf1,rfl,by omega,by go_num,?_⟩
        rw[HQ.out.2.2.2.2.1,HV.out]
        have Bq:=HQ.out.2.2.1
        simp only[Dc.de,Fo.iH,Hsn.out]at Bq
        exact(HT4.out.1.after HB2.out).le (by omega)
      ·have RU:(bD != 1)=true:=by simpa using hkd
       rw[TY hkd]at HV
       have hss:=dW HW.out.wf (SB HK.out.1 HW.out.le) HW.out.lt
       obtain⟨hmw,hmc⟩:=HB2.out.uQ 2 rfl
       obtain⟨Q,HQQ⟩:∃Q,Hid (aJ (bE R1.2 k R1.1) 2 []=Q):=⟨_,Sk rfl⟩
       rw[HQQ.out]at hmw hmc HV
       have HMC:=Sk hmc
       have QC:=Sk (show ∀(w3:World) (b3 nn:Nat),blk (ix++y1++[b3]) Q.1=b3→TyB B C1 W W4 v ix nf' w3 v1 (ix++y1++[b3]) Q.2 nf1 [] none 0 nn→Calls Tryz.prog 96 #[.pointer (some ⟨C.tb,0,none⟩),.pointer (some ⟨p,0,none⟩),.pointer (some ⟨b3,0,none⟩)] w3 (fun e Y=>e=.returned (.tuple #[])∧TyB B C1 W W4 v ix nf' Y v1 (ix++y1++[b3]) (bE Q.2 k Q.1) nf1 [] none 0 nn)from fun w3 b3 nn hb3 h3=>by
        have:=(h3.same (a:=k) (b:=Q.1) (p:=p) (q:=b3) (SB (SB HK.out.1 HW.out.le) (SE (by rw[hss.2.1];exact SA _) hmw.le)) hmw.lt (dx (dx Hp.out (by rw[HT4.out.1.lt];exact HK.out.1)) (by rw[HB2.out.lt,hss.2.1];exact SB HK.out.1 HW.out.le)) hb3).2
        rw[htb]at this
        exact this)
       clear hmc
       go_wp2_with fail
       with_reducible refine TJ HMC.out ?_
       rintro e w3 ⟨b3,rfl,hb3,hB3⟩
       have HS3:=Sk (QC.out _ _ _ hb3 hB3)
       clear hb3 hB3
       go_wp2_with fail
       with_reducible refine TJ HS3.out ?_
       rintro e w4 ⟨rfl,hB4⟩
       have HB4:=Sk hB4
       clear hB4
       go_wp2
       go_roundg (M-(q+1))
       case measure=>have:=HQ.out.1;omega
       case rel =>
        refine⟨q+1,v1,ix++y1++[b3],nf1,rfl,by omega,by go_num,?_⟩
        rw[HQ.out.2.2.2.2.1,HV.out]
        have Bq:=HQ.out.2.2.1
        simp only[Dc.de,Fo.iH,Hsn.out]at Bq
        exact(HT4.out.1.after HB4.out).le (by omega)
    ·obtain rfl:q=M:=by omega
     have i1:decide ((q:Int)<(q:Int))=false:=SH (by omega)
     have i2:decide (q<q)=false:=SH (by omega)
     have htk:(ds.map Dc.de).take q=ds.map Dc.de:=Tm (by rw[S9,HM.out];exact SA _)
     rw[htk]at hT
     obtain⟨σ,Hσ⟩:∃σ,Hid (bH C1.sc (ds.map Dc.de) (bG group.length)=σ):=⟨_,Sk rfl⟩
     rw[Hσ.out]at hT
     have hMs:=MsI.of HH.out HF0.out.2 (by rw[HC1.out];exact hT)
     have HSC:=Sk (show C1.sc=⟨grp group 0,C.sc.sch,C.sc.frn⟩ by rw[←HC1.out];show (⟨grp (group.take group.length) 0,_,_⟩:Sc)=_;rw[List.take_length])
     have hfind:R=if σ.fl=true then .err 22 else if (msA σ.S σ.ns fun _=>0).1=false then .err 22 else if great σ.S σ.ns (msA σ.S σ.ns fun _=>0).2=true then .err 4 else .ok ((grp group 0).map (og σ.S)):=by
      rw[←HR.out,←Hσ.out,HSC.out];rfl
     have hnf:nf'≤nf+gy (ds.map Dc.de):=hT.n
     obtain⟨vA,vc,rfl,hvl,hvA⟩:=hMs.vs
     obtain⟨NL,HNL⟩:∃NL,Hid (σ.ns.length=NL):=⟨_,Sk rfl⟩
     rw[HNL.out]at hMs hvl
     have Pk:NL≤400000:=by
      have:=vP (sc:=C1.sc) (ds:=ds.map Dc.de) (n:=group.length) (group:=group) (fun z hz=>by
       obtain⟨y,hy,rfl⟩:=TH.1 hz
       rw[HSC.out]
       exact HD.out.2.2.2.2.1 _ hy) (by rw[HSC.out])
      rw[Hσ.out,HNL.out]at this
      exact SE this HD.out.2.2.2.2.2.2.1
     have z8:=(lJ hMs.box).2.2.2.2.2.2.2.2.1
     have HMs:=Sk (Sn hMs (Sn hfind (Sn hnf hvA)))
     have z6:=(lJ hMs.box).2.2.2.2.2.2.1
     clear hT hq hqM hlt htk hMs hfind hnf hvA
     cases hfl:σ.fl with
     | true =>
      rw[hfl]at z8
      have HV:=Sk (show R=.err 22 by rw[HMs.out.2.1,TY hfl])
      go_wp2
      go_ret2
      rw[HV.out]
      exact⟨⟨nf',HMs.out.2.2.1,HMs.out.1.r⟩,HMs.out.1.kx,rfl⟩
     | false =>
      rw[hfl]at z8
      have HV:=Sk (show R=if (msA σ.S σ.ns fun _=>0).1=false then .err 22 else if great σ.S σ.ns (msA σ.S σ.ns fun _=>0).2=true then .err 4 else .ok ((grp group 0).map (og σ.S)) by rw[HMs.out.2.1,TW (by rw[hfl];simp)])
      have HFL:=Sk hfl
      clear hfl
      go_wp2
      go_loopg [12,86] NL (fun g _ ct w=>∃(j:Nat) (sz:Nat→Int),g=NL-j∧j≤NL∧ct=.int .i64 j∧MsI B C W X X.heap.size group (.slice vA NL vc) ix σ nf' sz w∧Bd sz∧(msA σ.S σ.ns fun _=>0)=msA σ.S (σ.ns.drop j) sz)
      case atStart=>exact⟨0,_,rfl,SC _,rfl,HMs.out.1,bd0,rfl⟩
      case round =>
       obtain⟨j3,sz,hg3,hj3,rfl,hM3,hbd,hms⟩:=hrel
       by_cases hlt:j3<NL
       ·obtain⟨i,hi⟩:∃i,σ.ns[j3]?=some i:=⟨_,Sw (by rw[HNL.out];exact hlt)⟩
        obtain⟨g,rfl⟩:=HMs.out.2.2.2 (by intro e;rw[e]at hi;simp at hi)
        have ec:=hM3.at_ hi
        have him:=hM3.mem i (SV hi)
        obtain⟨pi,Hpi⟩:∃p,Hid (blk ix i=p):=⟨_,Sk rfl⟩
        rw[Hpi.out]at ec
        have HC:=Sk (hM3.measure hbd him)
        have hdr:σ.ns.drop j3=i::σ.ns.drop (j3+1):=by
         have h1:=(Sy.1 hi)
         rw[TQ h1.1,h1.2]
        rw[hdr,Kg]at hms
        have HB:=Sk (rW (S:=σ.S) (σ.S.length+1) i sz hbd).1
        unfold nP at HC
        rw[Hpi.out]at HC
        generalize ms σ.S (σ.S.length+1) i sz=q3 at HC hms HB
        obtain⟨ok3,sz3⟩:=q3
        have HJ:=Sk (Sn hg3 hms)
        clear hM3 hi him hdr hbd hms hg3
        go_wp2_with fail
        with_reducible refine TJ HC.out ?_
        rintro e w3 ⟨rfl,hM4⟩
        have HM4:=Sk hM4
        clear hM4
        cases ok3 with
        | true =>
         go_wp2
         go_roundg (NL-(j3+1))
         case measure=>have:=HJ.out.1;omega
         case rel=>exact⟨j3+1,sz3,rfl,by omega,by have:=Pk;go_num,HM4.out,HB.out,by rw[HJ.out.2];rfl⟩
        | false =>
         have HV2:=Sk (show R=.err 22 by rw[HV.out,HJ.out.2];rfl)
         go_wp2
         go_ret2
         rw[HV2.out]
         exact⟨⟨nf',HMs.out.2.2.1,HM4.out.r⟩,HM4.out.kx,rfl⟩
       ·obtain rfl:j3=NL:=by omega
        have i1:decide ((j3:Int)<(j3:Int))=false:=SH (by omega)
        have i2:decide (j3<j3)=false:=SH (by omega)
        rw[List.drop_of_length_le (by rw[HNL.out];exact SA _)]at hms
        have HV2:=Sk (show R=if great σ.S σ.ns sz=true then .err 4 else .ok ((grp group 0).map (og σ.S)) by rw[HV.out,hms];rfl)
        have HM5:=Sk hM3
        have z6:=(lJ hM3.box).2.2.2.2.2.2.1
        have HMS:=Sk hms
        clear hM3 hms hbd hg3 hlt hj3
        go_wp2
        go_loopg [14,99] j3 (fun g _ ct w=>∃(j:Nat),g=j3-j∧j≤j3∧ct=.int .i64 j∧MsI B C W X X.heap.size group (.slice vA j3 vc) ix σ nf' sz w∧great σ.S σ.ns sz=great σ.S (σ.ns.drop j) sz)
        case atStart=>exact⟨0,rfl,SC _,rfl,HM5.out,rfl⟩
        case round =>
         obtain⟨j4,hg4,hj4,rfl,hM6,hgr⟩:=hrel
         by_cases hlt:j4<j3
         ·obtain⟨i,hi⟩:∃i,σ.ns[j4]?=some i:=⟨_,Sw (by rw[HNL.out];exact hlt)⟩
          obtain⟨g,rfl⟩:=HMs.out.2.2.2 (by intro e;rw[e]at hi;simp at hi)
          have ec:=hM6.at_ hi
          have him:=hM6.mem i (SV hi)
          obtain⟨pi,Hpi⟩:∃p,Hid (blk ix i=p):=⟨_,Sk rfl⟩
          rw[Hpi.out]at ec
          have hdr:σ.ns.drop j4=i::σ.ns.drop (j4+1):=by
           have h1:=(Sy.1 hi)
           rw[TQ h1.1,h1.2]
          have Kj:great σ.S σ.ns sz=(decide (200<sz (rt σ.S i))||great σ.S (σ.ns.drop (j4+1)) sz):=by rw[hgr,hdr];rfl
          obtain⟨zi,Hzi⟩:∃z,Hid (sz (rt σ.S i)=z):=⟨_,Sk rfl⟩
          obtain⟨ri,Hri⟩:∃z,Hid (blk ix (rt σ.S i)=z):=⟨_,Sk rfl⟩
          have hf:=hM6.find him
          rw[Hzi.out]at Kj
          unfold nP at hf
          rw[Hpi.out,Hri.out,Hzi.out]at hf
          have HC:=Sk hf
          have HJ:=Sk (Sn hg4 Kj)
          clear hM6 hi him hdr hgr Kj hg4 hf
          go_wp2_with fail
          with_reducible refine TJ HC.out ?_
          rintro e w3 ⟨rfl,hM7,ez⟩
          have HM7:=Sk hM7
          clear hM7
          by_cases hz:200<zi
          ·have hz':decide (zi>200)=true:=SI hz
           have HV3:=Sk (show R=.err 4 by rw[HV2.out,HJ.out.2,SI hz];rfl)
           go_wp2
           go_ret2
           rw[HV3.out]
           exact⟨⟨nf',HMs.out.2.2.1,HM7.out.r⟩,HM7.out.kx,rfl⟩
          ·have hz':decide (zi>200)=false:=SH hz
           go_wp2
           go_roundg (j3-(j4+1))
           case measure=>have:=HJ.out.1;omega
           case rel=>exact⟨j4+1,rfl,by omega,by go_num,HM7.out,by rw[HJ.out.2,SH (by omega:¬200<zi)];rfl⟩
         ·obtain rfl:j4=j3:=by omega
          have i1:decide ((j4:Int)<(j4:Int))=false:=SH (by omega)
          have i2:decide (j4<j4)=false:=SH (by omega)
          rw[List.drop_of_length_le (by rw[HNL.out];exact SA _)]at hgr
          have HV3:=Sk (show R=.ok ((grp group 0).map (og σ.S)) by rw[HV2.out,hgr];rfl)
          have HM8:=Sk hM6
          have hbl:=Mf (sc:=C1.sc) (ds:=ds.map Dc.de) (group:=group) (by rw[HSC.out]) HG.out.2.1 (fun d hd=>by
           obtain⟨y,hy,rfl⟩:=TH.1 hd
           have:=HD.out.2.2.2.2.1 _ hy
           rw[HSC.out]
           exact this) (fun a ha=>by
           obtain⟨d,hd,e⟩:=HD.out.2.2.1 a ha
           exact⟨d.de,TH.2 ⟨d,hd,rfl⟩,e⟩) (by rw[Hσ.out];exact HFL.out) (by rw[Hσ.out,HMS.out];rfl) (by rw[Hσ.out,HMS.out];exact hgr)
          rw[Hσ.out]at hbl
          have HBL:=Sk hbl
          have HFo:=Sk (FoI.start (X:=X) (group:=group) (S:=σ.S) (sz:=sz) (hM6.st) hM6.kx.size)
          clear hM6 hgr hg4 hlt hj4 hbl
          obtain⟨W4,rfl⟩:∃W4,W4=wr:=⟨_,rfl⟩
          go_wp2
          go_loopg [17,18,19,113] j (fun g _ _ _ ct w=>∃(i:Nat),g=j-i∧i≤j∧ct=.int .i64 i∧FoI B X group σ.S ix sz W4 W4.heap.size i w)
          case atStart=>exact⟨0,rfl,SC _,rfl,HFo.out⟩
          case round =>
           obtain⟨j5,hg5,hj5,rfl,hF5⟩:=hrel
           by_cases hlt:j5<j
           ·obtain⟨a,ha⟩:∃a,group[j5]?=some a:=⟨_,Sw (by rw[HN.out];exact hlt)⟩
            obtain⟨g,o,rfl,hgB,hgc⟩:=HG.out.1.2.2 (by intro e;rw[e]at ha;simp at ha)
            have hR5:=HM8.out.r.kn hF5.kn
            have eg:wr.cell? ⟨g,o+j5,none⟩=some (.int .i64 a):=(SN ((hR5.old g hgB).trans (HH.out.old g hgB).symm)).trans (hgc j5 a ha)
            have y5:=(lJ (hF5.kn.box HM8.out.box (by decide))).2.2.2.2.2.1
            have hbl:=HBL.out (a,j5) (SV (i:=j5) (by rw[oK,ha];simp))
            obtain⟨W5,hW5⟩:∃W5,wr.alloc (.map #[] 0)=W5:=⟨_,rfl⟩
            have hb5:Below wr.heap.size wr W5:=by rw[←hW5];exact(TA _ _).alloc (SA _) _
            obtain⟨pj,Hpj⟩:∃b,Hid (blk ix j5=b):=⟨_,Sk rfl⟩
            have hC:=hF5.build HM8.out.wf hbl.1 hbl.2 (w2:=W5) (by rw[hW5];exact TA _ _)
            obtain⟨bt,Hbt⟩:∃b,Hid (bT σ.S 201 j5 []=b):=⟨_,Sk rfl⟩
            have hok:=HG.out.2.2.2 a (SV ha)
            have Kk:=hF5.below hb5
            obtain⟨Ng,hgm⟩:=(HM8.out.kn Kk.kn (Kk.st.shift (SA _) (fun _ _ _=>rfl) (fun k hk=>hk.elim) (fun k hk=>hk.elim))).gm
            have hlk:=hgm.look false (t:=91) Tryz.jH (kV _) hok
            have hvF:vsF ix (grp group 0) a=some (nP (blk ix j5)):=by
             unfold vsF
             rw[kI HG.out.2.1 (a,j5) (SV (i:=j5) (by rw[oK,ha];simp))]
             rfl
            rw[hvF]at hlk
            simp only[TN,if_false,aH,Option.getD_some,nP]at hlk
            rw[Hpj.out]at hlk hC
            rw[Hbt.out]at hC
            have z5:W5.cell? ⟨C.tb,5,none⟩=some (.map (some X.heap.size)):=(hb5.cell (p:=⟨C.tb,5,none⟩) (SS wr ⟨C.tb,5,none⟩ y5)).trans y5
            have HC5:=Sk hC
            have HP5:=Sk (Sn ha (Sn hok hg5))
            clear hF5 hgc ha hg5 hR5 hbl hb5 hC hok Kk hgm hvF
            go_upto_region 36 with fail
            try rw[hW5]
            go_wp2_with fail
            with_reducible refine TJ HC5.out ?_
            rintro e w3 ⟨A5,c5,rfl,hsl,hnm,hF6⟩
            obtain⟨LT,HLT⟩:∃L,Hid (bt.1.2.2.len=L):=⟨_,Sk rfl⟩
            rw[HLT.out]
            obtain⟨W6,hW6⟩:∃W6,w3.alloc (.cells #[.int .i64 bt.1.1,.int .i64 bt.1.2.1,.slice A5 LT c5] 53)=W6:=⟨_,rfl⟩
            have hb6:Below w3.heap.size w3 W6:=by rw[←hW6];exact(TA _ _).alloc (SA _) _
            have hr6:W6.heap[w3.heap.size]?=some (.cells #[.int .i64 bt.1.1,.int .i64 bt.1.2.1,.slice A5 LT c5] 53 (0,0)):=by rw[←hW6];exact Sv w3 _
            have q0:=Sq W6 w3.heap.size 0 _ _ (0,0) hr6
            have q1:=Sq W6 w3.heap.size 1 _ _ (0,0) hr6
            have q2:=Sq W6 w3.heap.size 2 _ _ (0,0) hr6
            simp at q0 q1 q2
            have RV:=(hnm.keep (hb6.block _ hnm.lt)).len 3
            have hpt:∀k,TgT w3 k→W6.heap[k]?=w3.heap[k]?:=fun k ht=>hb6.block k ht.lt
            rw[←Hbt.out]at hsl
            obtain⟨Z,Pm,hFZ⟩:=(hF6.below hb6).put HP5.out.1 HG.out.2.1 HP5.out.2.1 (by unfold maxLen;omega) (hsl.keep (fun k hp=>hpt k hp.2) fun k hp=>⟨hp.1,(TgT.congr (hpt k hp.2)).2 hp.2⟩)
            rw[Hbt.out,HLT.out]at Pm
            have HFZ:=Sk hFZ
            clear hsl hnm hF6 hFZ hb6 hr6 hpt
            go_upto_region 38 with fail
            try rw[hW6]
            go_wp2
            go_roundg (j-(j5+1))
            case measure=>have:=HP5.out.2.2;omega
            case rel=>exact⟨j5+1,rfl,by omega,rfl,HFZ.out⟩
           ·obtain rfl:j5=j:=by omega
            have i1:decide ((j5:Int)<(j5:Int))=false:=SH (by omega)
            have i2:decide (j5<j5)=false:=SH (by omega)
            have HF7:=Sk hF5
            clear hF5
            go_wp2
            go_ret2
            rw[HV3.out]
            refine⟨⟨nf',HMs.out.2.2.1,HM8.out.r.kn HF7.out.kn⟩,HM8.out.kx.trans (HF7.out.kn.x (fun _=>False)) (fun _ _ h=>h.elim),?_⟩
            obtain⟨g,hg,hx⟩:=HF7.out.mp
            refine⟨W4.heap.size,j5,g,rfl,HF7.out.hx,by rw[S9,xg,HN.out];exact SA _,hg,fun x hxm=>?_⟩
            obtain⟨y,hy,rfl⟩:=TH.1 hxm
            rw[Tm (by rw[xg,HN.out];exact SA _)]at hx
            exact hx y hy
end Go.Proofs.Q
