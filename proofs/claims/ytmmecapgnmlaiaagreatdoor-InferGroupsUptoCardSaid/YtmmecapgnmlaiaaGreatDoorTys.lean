/- infer: case (printed by gen_tym.py) -/
import Derived.Test.YtmmecapgnmlaiaaGreatDoorZxv
set_option maxRecDepth 100000
set_option maxHeartbeats 16000000
namespace Go.Proofs.Q
open Go Go.RowKit Go.Proofs Go.Proofs.Unify
theorem LC {B:Nat}{C:TyC}{W X:World}{v:Value}{ix:List Nat}{σ:Tst}{nf:Nat}{env:Env}{eA:Option Addr}{ec:Nat}(n m:ByteArray)(i d:Int)(A:Option Addr)(c:Nat)
  (k0:Int)(n0 m0:ByteArray)(i0 d0:Int)(A0:Option Addr)(c0:Nat)(s0:Fo)(k1:Int)(n1 m1:ByteArray)(i1 d1:Int)(A1:Option Addr)(c1:Nat)(s1:Fo)(k2:Int)(n2 m2:ByteArray)(i2 d2:Int)(A2:Option Addr)(c2:Nat)(s2:Fo)(r:Fo)
  (E0:eH B s0)(E1:eH B s1)(E2:eH B s2)
  (ha:TyA B C W X v ix σ nf env eA ec)(hs:(Fo.cons k0 n0 m0 i0 d0 A0 c0 s0 (.cons k1 n1 m1 i1 d1 A1 c1 s1 (.cons k2 n2 m2 i2 d2 A2 c2 s2 r))).Sl X B A c)(hx:(Fo.cons k0 n0 m0 i0 d0 A0 c0 s0 (.cons k1 n1 m1 i1 d1 A1 c1 s1 (.cons k2 n2 m2 i2 d2 A2 c2 s2 r))).ex.Cok C.sc)(hro:(Fo.cons k0 n0 m0 i0 d0 A0 c0 s0 (.cons k1 n1 m1 i1 d1 A1 c1 s1 (.cons k2 n2 m2 i2 d2 A2 c2 s2 r))).Ro (fun k=>k<B) C W)
  (hel:env.length+2*(Fo.cons k0 n0 m0 i0 d0 A0 c0 s0 (.cons k1 n1 m1 i1 d1 A1 c1 s1 (.cons k2 n2 m2 i2 d2 A2 c2 s2 r))).count≤900000)(hnl:σ.ns.length+(Fo.cons k0 n0 m0 i0 d0 A0 c0 s0 (.cons k1 n1 m1 i1 d1 A1 c1 s1 (.cons k2 n2 m2 i2 d2 A2 c2 s2 r))).count≤900000) :
  Calls Tryz.prog 157 #[.pointer (some ⟨C.tb,0,none⟩),.agg #[.int .i64 13,.string n,.string m,.int .i64 i,.int .i64 d,.slice A (Fo.cons k0 n0 m0 i0 d0 A0 c0 s0 (.cons k1 n1 m1 i1 d1 A1 c1 s1 (.cons k2 n2 m2 i2 d2 A2 c2 s2 r))).len c],.slice eA env.length ec] X (TyP (fun k=>k<B) C X v ix nf (caseT (fun env σ=>aG (aF C.sc k0 n0 m0 i0 (tyF C.sc s0.ex) env σ)) (fun env σ=>aG (aF C.sc k1 n1 m1 i1 (tyF C.sc s1.ex) env σ)) (fun env σ=>aG (aF C.sc k2 n2 m2 i2 (tyF C.sc s2.ex) env σ)) n m env σ) ((Fo.cons k0 n0 m0 i0 d0 A0 c0 s0 (.cons k1 n1 m1 i1 d1 A1 c1 s1 (.cons k2 n2 m2 i2 d2 A2 c2 s2 r))).count+1)):=by
 have hxB:B≤X.heap.size:=by
  rcases Nat.lt_or_ge X.heap.size B with h|h
  ·have h1:=ha.ti.dlt _ h;have h2:=ha.ti.tn;omega
  ·exact h
 obtain⟨hsl,hsc,hsm⟩:=hs
 obtain⟨b,o,rfl,hbB,hat⟩:=hsm (by intro e;cases e)
 obtain⟨N,HN⟩:∃N,Hid ((Fo.cons k0 n0 m0 i0 d0 A0 c0 s0 (.cons k1 n1 m1 i1 d1 A1 c1 s1 (.cons k2 n2 m2 i2 d2 A2 c2 s2 r))).len=N):=⟨_,Sk rfl⟩
 have hN:3≤N:=by rw[←HN.out];simp[Fo.len]
 have hNm:N≤maxLen:=by rw[←HN.out];omega
 have hN0:0<N:=by omega
 have hN1:(1:Int)<(N:Int):=by omega
 have hN2:(2:Int)<(N:Int):=by omega
 rw[HN.out]
 obtain⟨L0,HL0⟩:∃L,Hid (s0.len=L):=⟨_,Sk rfl⟩
 obtain⟨L1,HL1⟩:∃L,Hid (s1.len=L):=⟨_,Sk rfl⟩
 obtain⟨L2,HL2⟩:∃L,Hid (s2.len=L):=⟨_,Sk rfl⟩
 obtain⟨q0a,q0b,q0c,q0d,q0e,⟨q0f,q0l⟩,hat⟩:=hat
 obtain⟨q1a,q1b,q1c,q1d,q1e,⟨q1f,q1l⟩,hat⟩:=hat
 obtain⟨q2a,q2b,q2c,q2d,q2e,⟨q2f,q2l⟩,hat⟩:=hat
 have hx0:(Fo.cons k0 n0 m0 i0 d0 A0 c0 s0 .nil).ex.Cok C.sc:=⟨hx.1,hx.2.1,hx.2.2.1,trivial⟩
 have hr0:(Fo.cons k0 n0 m0 i0 d0 A0 c0 s0 .nil).Ro (fun k=>k<B) C W:=⟨hro.1,hro.2.1,trivial⟩
 have hs0:s0.Sl X B A0 c0:=q0l
 rw[HL0.out]at q0f
 have hx1:(Fo.cons k1 n1 m1 i1 d1 A1 c1 s1 .nil).ex.Cok C.sc:=⟨hx.2.2.2.1,hx.2.2.2.2.1,hx.2.2.2.2.2.1,trivial⟩
 have hr1:(Fo.cons k1 n1 m1 i1 d1 A1 c1 s1 .nil).Ro (fun k=>k<B) C W:=⟨hro.2.2.1,hro.2.2.2.1,trivial⟩
 have hs1:s1.Sl X B A1 c1:=q1l
 rw[HL1.out]at q1f
 have hx2:(Fo.cons k2 n2 m2 i2 d2 A2 c2 s2 .nil).ex.Cok C.sc:=⟨hx.2.2.2.2.2.2.1,hx.2.2.2.2.2.2.2.1,hx.2.2.2.2.2.2.2.2.1,trivial⟩
 have hr2:(Fo.cons k2 n2 m2 i2 d2 A2 c2 s2 .nil).Ro (fun k=>k<B) C W:=⟨hro.2.2.2.2.1,hro.2.2.2.2.2.1,trivial⟩
 have hs2:s2.Sl X B A2 c2:=q2l
 rw[HL2.out]at q2f
 obtain⟨W0,hW0⟩:∃W0,X.alloc (.cells #[.int .i64 13,.string n,.string m,.int .i64 i,.int .i64 d,.slice (some ⟨b,o,none⟩) N c] 44)=W0:=⟨_,rfl⟩
 have hb0:Below X.heap.size X W0:=by subst hW0;exact(TA _ _).alloc (SA _) _
 have hrb:W0.heap[X.heap.size]?=some (.cells #[.int .i64 13,.string n,.string m,.int .i64 i,.int .i64 d,.slice (some ⟨b,o,none⟩) N c] 44 (0,0)):=by subst hW0;exact Sv X _
 have e0:=Sq W0 X.heap.size 0 _ _ (0,0) hrb
 have e1:=Sq W0 X.heap.size 1 _ _ (0,0) hrb
 have e2:=Sq W0 X.heap.size 2 _ _ (0,0) hrb
 have e5:=Sq W0 X.heap.size 5 _ _ (0,0) hrb
 simp at e0 e1 e2 e5
 have hA:=TyB.start (ha.below hb0)
 have hcell:∀q u,X.cell? ⟨b,q,none⟩=some u→W0.cell? ⟨b,q,none⟩=some u:=fun q u h=>(hb0.cell (p:=⟨b,q,none⟩) (by show b<X.heap.size;omega)).trans h
 have HSX:=Sk (show ∀(Y:World) (v':Value),TyK (fun k=>k<B) C W0 v Y v'→Y.cell? ⟨X.heap.size,1,none⟩=some (.string n)∧Y.cell? ⟨X.heap.size,2,none⟩=some (.string m)∧Y.cell? ⟨X.heap.size,5,none⟩=some (.slice (some ⟨b,o,none⟩) N c)∧Y.cell? ⟨b,o,none⟩=some (.int .i64 k0)∧Y.cell? ⟨b,o+1,none⟩=some (.string n0)∧Y.cell? ⟨b,o+2,none⟩=some (.string m0)∧Y.cell? ⟨b,o+3,none⟩=some (.int .i64 i0)∧Y.cell? ⟨b,o+4,none⟩=some (.int .i64 d0)∧Y.cell? ⟨b,o+5,none⟩=some (.slice A0 L0 c0)∧Y.cell? ⟨b,o+6,none⟩=some (.int .i64 k1)∧Y.cell? ⟨b,o+7,none⟩=some (.string n1)∧Y.cell? ⟨b,o+8,none⟩=some (.string m1)∧Y.cell? ⟨b,o+9,none⟩=some (.int .i64 i1)∧Y.cell? ⟨b,o+10,none⟩=some (.int .i64 d1)∧Y.cell? ⟨b,o+11,none⟩=some (.slice A1 L1 c1)∧Y.cell? ⟨b,o+12,none⟩=some (.int .i64 k2)∧Y.cell? ⟨b,o+13,none⟩=some (.string n2)∧Y.cell? ⟨b,o+14,none⟩=some (.string m2)∧Y.cell? ⟨b,o+15,none⟩=some (.int .i64 i2)∧Y.cell? ⟨b,o+16,none⟩=some (.int .i64 d2)∧Y.cell? ⟨b,o+17,none⟩=some (.slice A2 L2 c2)from fun Y v' hk=>by
  have hcY:∀q u,X.cell? ⟨b,q,none⟩=some u→Y.cell? ⟨b,q,none⟩=some u:=fun q u h=>(hk.cell hA.a.ti hbB).trans (hcell q u h)
  have hrY:=hk.box hA.a.ti hrb (by decide)
  have y1:=Sq Y X.heap.size 1 _ _ (0,0) hrY
  have y2:=Sq Y X.heap.size 2 _ _ (0,0) hrY
  have y5:=Sq Y X.heap.size 5 _ _ (0,0) hrY
  simp at y1 y2 y5
  exact⟨y1,y2,y5,hcY _ _ q0a,hcY _ _ q0b,hcY _ _ q0c,hcY _ _ q0d,hcY _ _ q0e,hcY _ _ q0f,hcY _ _ q1a,hcY _ _ q1b,hcY _ _ q1c,hcY _ _ q1d,hcY _ _ q1e,hcY _ _ q1f,hcY _ _ q2a,hcY _ _ q2b,hcY _ _ q2c,hcY _ _ q2d,hcY _ _ q2e,hcY _ _ q2f⟩)
 have HB:=Sk hb0
 have HS0:=Sk (show ∀(Y:World) (v':Value),TyK (fun k=>k<B) C W0 v Y v'→s0.Sl Y B A0 c0 from fun Y v' hk=>TyK.sl hA.a.ti hk (hs0.keep (SA _) fun p hp=>hb0.cell (by omega)))
 have HX0:=Sk (Sn hx0 hr0)
 have HE0:=Sk E0
 have HS1:=Sk (show ∀(Y:World) (v':Value),TyK (fun k=>k<B) C W0 v Y v'→s1.Sl Y B A1 c1 from fun Y v' hk=>TyK.sl hA.a.ti hk (hs1.keep (SA _) fun p hp=>hb0.cell (by omega)))
 have HX1:=Sk (Sn hx1 hr1)
 have HE1:=Sk E1
 have HS2:=Sk (show ∀(Y:World) (v':Value),TyK (fun k=>k<B) C W0 v Y v'→s2.Sl Y B A2 c2 from fun Y v' hk=>TyK.sl hA.a.ti hk (hs2.keep (SA _) fun p hp=>hb0.cell (by omega)))
 have HX2:=Sk (Sn hx2 hr2)
 have HE2:=Sk E2
 have HCN:=Sk (Sn hel hnl)
 simp only[Fo.count]at HCN
 obtain⟨R,HR⟩:∃R,Hid (caseT (fun env σ=>aG (aF C.sc k0 n0 m0 i0 (tyF C.sc s0.ex) env σ)) (fun env σ=>aG (aF C.sc k1 n1 m1 i1 (tyF C.sc s1.ex) env σ)) (fun env σ=>aG (aF C.sc k2 n2 m2 i2 (tyF C.sc s2.ex) env σ)) n m env σ=R):=⟨_,Sk rfl⟩
 rw[HR.out]
 obtain⟨M,HM⟩:∃M,Hid ((Fo.cons k0 n0 m0 i0 d0 A0 c0 s0 (.cons k1 n1 m1 i1 d1 A1 c1 s1 (.cons k2 n2 m2 i2 d2 A2 c2 s2 r))).count+1=M):=⟨_,Sk rfl⟩
 rw[HM.out]
 have HA:=Sk hA
 clear ha hx hro hat hs0 hA hcell hrb hb0 hsl hsc hsm hel hnl hx0 hr0 E0 q0a q0b q0c q0d q0e q0f q0l hx1 hr1 E1 q1a q1b q1c q1d q1e q1f q1l hx2 hr2 E2 q2a q2b q2c q2d q2e q2f q2l
 clear hs1 hs2
 go_enter Tryz.func157,Tryz.ntmps157
 obtain⟨Ra,HRa⟩:∃R,Hid (aJ σ 5 []=R):=⟨_,Sk rfl⟩
 have HWa:=Sk (show TyW C.sc σ Ra 0 by rw[←HRa.out];exact aZ HA.out.a.wf rfl (by simp))
 obtain⟨Rl,HRl⟩:∃R,Hid (aJ Ra.2 3 [Ra.1]=R):=⟨_,Sk rfl⟩
 have HWl:=Sk (show TyW C.sc Ra.2 Rl 0 by rw[←HRl.out];exact aZ HWa.out.wf rfl (fun j hj=>by rw[Te.1 hj];exact HWa.out.lt))
 have HC0:=Sk (show ∀(w1:World) (v1:Value) (iz:List Nat) (nf1 nn:Nat),TyB B C W W0 v ix nf w1 v1 iz Rl.2 nf1 env eA ec nn→TyW C.sc Rl.2 (aG (aF C.sc k0 n0 m0 i0 (tyF C.sc s0.ex) env Rl.2)) (s0.count+1)∧Calls Tryz.prog 97 #[.pointer (some ⟨C.tb,0,none⟩),.agg #[.int .i64 k0,.string n0,.string m0,.int .i64 i0,.int .i64 d0,.slice A0 L0 c0],.slice eA env.length ec] w1 (ExB B C W W0 v ix nf iz (aG (aF C.sc k0 n0 m0 i0 (tyF C.sc s0.ex) env Rl.2)) env eA ec (nn+(s0.count+1)))from fun w1 v1 iz nf1 nn h1=>by
  have fJ:Rl.2.ns.length+s0.count≤900000:=by have:=HCN.out.2;have:=fD HWa.out;have:=fD HWl.out;omega
  have:=h1.expr HE0.out h1.a.en h1.a.ea k0 n0 m0 i0 d0 A0 c0 (HS0.out _ _ h1.k) HX0.out.1 HX0.out.2 (by have:=HCN.out.1;omega) fJ
  rw[HL0.out]at this
  exact this)
 obtain⟨R0,HR0⟩:∃R,Hid (aG (aF C.sc k0 n0 m0 i0 (tyF C.sc s0.ex) env Rl.2)=R):=⟨_,Sk rfl⟩
 rw[HR0.out]at HC0
 have le1:σ.S.length≤Rl.2.S.length:=SE HWa.out.le HWl.out.le
 have HW0:=Sk (show TyW C.sc Rl.2 R0 (s0.count+1) by
  have h1:=(gD (sc:=C.sc) k0 n0 m0 i0 s0.ex HX0.out.1.1 HX0.out.1.2.1 (Ex.tw HX0.out.1.2.2.1) env Rl.2 HWl.out.wf (fun x hx=>SB (HA.out.a.ti.lC x hx) le1) (HA.out.a.en.le le1)).keep
  rw[Fo.iH,HR0.out]at h1
  exact h1)
 obtain⟨Sg1,tY⟩:∃R,Hid (bE R0.2 R0.1 Rl.1=R):=⟨_,Sk rfl⟩
 have HWs:=Sk (show Wf arP Sg1.S∧Sg1.S.length=R0.2.S.length∧Sg1.ns=R0.2.ns by rw[←tY.out];exact dW HW0.out.wf HW0.out.lt (SB HWl.out.lt HW0.out.le))
 have le2:σ.S.length≤Sg1.S.length:=by have:=HW0.out.le;have:=HWs.out.2.1;omega
 have HC1:=Sk (show ∀(w1:World) (v1:Value) (iz:List Nat) (nf1 nn:Nat),TyB B C W W0 v ix nf w1 v1 iz Sg1 nf1 env eA ec nn→TyW C.sc Sg1 (aG (aF C.sc k1 n1 m1 i1 (tyF C.sc s1.ex) env Sg1)) (s1.count+1)∧Calls Tryz.prog 97 #[.pointer (some ⟨C.tb,0,none⟩),.agg #[.int .i64 k1,.string n1,.string m1,.int .i64 i1,.int .i64 d1,.slice A1 L1 c1],.slice eA env.length ec] w1 (ExB B C W W0 v ix nf iz (aG (aF C.sc k1 n1 m1 i1 (tyF C.sc s1.ex) env Sg1)) env eA ec (nn+(s1.count+1)))from fun w1 v1 iz nf1 nn h1=>by
  have fJ:Sg1.ns.length+s1.count≤900000:=by have:=HCN.out.2;have:=fD HWa.out;have:=fD HWl.out;have:=fD HW0.out;have:=congrArg List.length HWs.out.2.2;omega
  have:=h1.expr HE1.out h1.a.en h1.a.ea k1 n1 m1 i1 d1 A1 c1 (HS1.out _ _ h1.k) HX1.out.1 HX1.out.2 (by have:=HCN.out.1;omega) fJ
  rw[HL1.out]at this
  exact this)
 obtain⟨R1,HR1⟩:∃R,Hid (aG (aF C.sc k1 n1 m1 i1 (tyF C.sc s1.ex) env Sg1)=R):=⟨_,Sk rfl⟩
 rw[HR1.out]at HC1
 have HW1:=Sk (show TyW C.sc Sg1 R1 (s1.count+1) by
  have h1:=(gD (sc:=C.sc) k1 n1 m1 i1 s1.ex HX1.out.1.1 HX1.out.1.2.1 (Ex.tw HX1.out.1.2.2.1) env Sg1 HWs.out.1 (fun x hx=>SB (HA.out.a.ti.lC x hx) le2) (HA.out.a.en.le le2)).keep
  rw[Fo.iH,HR1.out]at h1
  exact h1)
 have le3:σ.S.length≤R1.2.S.length:=SE le2 HW1.out.le
 have la3:Ra.1<R1.2.S.length∧Rl.1<R1.2.S.length:=by
  have h1:=HWa.out.lt;have h2:=HWl.out.le;have h3:=HWl.out.lt;have h4:=HW0.out.le;have h5:=HWs.out.2.1;have h6:=HW1.out.le
  omega
 have HEN:=Sk (show iy (env++[(n,Ra.1),(m,Rl.1)]) R1.2 from by
  have:=((HA.out.a.en.le le3).snoc (n:=n) la3.1).snoc (n:=m) la3.2
  rw[TR]at this
  exact this)
 have HL3:=Sk (Sn le3 la3)
 clear le1 le2 le3 la3
 obtain⟨NE,HNE⟩:∃N,Hid ((env++[(n,Ra.1),(m,Rl.1)]).length=N):=⟨_,Sk rfl⟩
 have HC2:=Sk (show ∀(w1:World) (v1:Value) (iz:List Nat) (nf1 nn:Nat) (eA1:Option Addr) (ec1:Nat),TyB B C W W0 v ix nf w1 v1 iz R1.2 nf1 env eA ec nn→iy (env++[(n,Ra.1),(m,Rl.1)]) R1.2→eO (TyE C v1) w1 iz eA1 ec1 (env++[(n,Ra.1),(m,Rl.1)])→TyW C.sc R1.2 (aG (aF C.sc k2 n2 m2 i2 (tyF C.sc s2.ex) (env++[(n,Ra.1),(m,Rl.1)]) R1.2)) (s2.count+1)∧Calls Tryz.prog 97 #[.pointer (some ⟨C.tb,0,none⟩),.agg #[.int .i64 k2,.string n2,.string m2,.int .i64 i2,.int .i64 d2,.slice A2 L2 c2],.slice eA1 NE ec1] w1 (ExB B C W W0 v ix nf iz (aG (aF C.sc k2 n2 m2 i2 (tyF C.sc s2.ex) (env++[(n,Ra.1),(m,Rl.1)]) R1.2)) env eA ec (nn+(s2.count+1)))from fun w1 v1 iz nf1 nn eA1 ec1 h1 hen hea=>by
  have fJ:R1.2.ns.length+s2.count≤900000:=by have:=HCN.out.2;have:=fD HWa.out;have:=fD HWl.out;have:=fD HW0.out;have:=congrArg List.length HWs.out.2.2;have:=fD HW1.out;omega
  have:=h1.expr HE2.out hen hea k2 n2 m2 i2 d2 A2 c2 (HS2.out _ _ h1.k) HX2.out.1 HX2.out.2 (by have:=HCN.out.1;simp only[SX,TS,List.length_nil];omega) fJ
  rw[HL2.out,HNE.out]at this
  exact this)
 obtain⟨R2,HR2⟩:∃R,Hid (aG (aF C.sc k2 n2 m2 i2 (tyF C.sc s2.ex) (env++[(n,Ra.1),(m,Rl.1)]) R1.2)=R):=⟨_,Sk rfl⟩
 rw[HR2.out]at HC2
 have HU:=Sk (show Calls _ _ _ _ _ from HA.out.unknown.2)
 rw[HRa.out]at HU
 go_wp2_with fail
 try rw[hW0]
 clear e0 e1 e2 e5
 refine HU.out.mono ?_
 rintro e w1 ⟨b1,rfl,hp1,hB1⟩
 have HM1:=Sk (show Calls _ _ _ _ _ from (hB1.K3 (a:=Ra.1) HWa.out.lt hp1).2)
 rw[HRl.out]at HM1
 have HP1:=Sk (show ∀y,blk (ix++[b1]++y) Ra.1=b1 from fun y=>dx hp1 (by rw[hB1.lt];exact HWa.out.lt))
 clear hp1 hB1 HU
 go_wp2_with fail
 refine HM1.out.mono ?_
 rintro e w2 ⟨b2,rfl,hp2,hB2⟩
 obtain⟨z1,z2,z5,u0,u1,u2,u3,u4,u5,u6,u7,u8,u9,u10,u11,u12,u13,u14,u15,u16,u17⟩:=HSX.out _ _ hB2.k
 have HB2:=Sk hB2
 have HP2:=Sk (show ∀y,blk (ix++[b1]++[b2]++y) Rl.1=b2 from fun y=>dx hp2 (by rw[hB2.lt];exact HWl.out.lt))
 clear hB2 hp2 HM1
 go_wp2_with fail
 refine(HC0.out _ _ _ _ _ HB2.out).2.mono ?_
 rintro e w3 ⟨v3,y3,p3,nf3,rfl,hp3,hB3⟩
 have HS3:=Sk (show Calls _ _ _ _ _ from (hB3.same (a:=R0.1) (b:=Rl.1) (p:=p3) (q:=b2) HW0.out.lt (SB HWl.out.lt HW0.out.le) hp3 (HP2.out y3)).2)
 rw[tY.out]at HS3
 clear z1 z2 z5 u0 u1 u2 u3 u4 u5 u6 u7 u8 u9 u10 u11 u12 u13 u14 u15 u16 u17 hB3 hp3
 go_wp2_with fail
 refine HS3.out.mono ?_
 rintro e w4 ⟨rfl,hB4⟩
 obtain⟨z1,z2,z5,u0,u1,u2,u3,u4,u5,u6,u7,u8,u9,u10,u11,u12,u13,u14,u15,u16,u17⟩:=HSX.out _ _ hB4.k
 have HB4:=Sk hB4
 clear hB4 HS3
 go_wp2_with fail
 refine(HC1.out _ _ _ _ _ HB4.out).2.mono ?_
 rintro e w5 ⟨v5,y5,p5,nf5,rfl,hp5,hB5⟩
 clear z1 z2 z5 u0 u1 u2 u3 u4 u5 u6 u7 u8 u9 u10 u11 u12 u13 u14 u15 u16 u17
 have PZ:=Sk (show blk (ix++[b1]++[b2]++y3++y5) Ra.1=b1 from by rw[TR (ix++[b1]),TR (ix++[b1])];exact HP1.out _)
 have P5:=Sk (show blk (ix++[b1]++[b2]++y3++y5) Rl.1=b2 from by rw[TR (ix++[b1]++[b2])];exact HP2.out _)
 have HWI:=Sk (show ∀(Z:World) (g:Nat),Below w5.heap.size w5 Z→Z.cell? ⟨g,0,none⟩=some (.string n)→Z.cell? ⟨g,1,none⟩=some (.pointer (some ⟨b1,0,none⟩))→Z.cell? ⟨g,2,none⟩=some (.string m)→Z.cell? ⟨g,3,none⟩=some (.pointer (some ⟨b2,0,none⟩))→_ from fun Z g hZ h0 h1 h2 h3=>hB5.OV hZ (a:=Ra.1) (a2:=Rl.1) PZ.out P5.out (by have:=HCN.out.1;omega) h0 h1 h2 h3 HNE.out)
 have HSM:=Sk (show ∀(w6:World) (v6:Value) (y6:List Nat) (nf6 p6 nn:Nat),TyB B C W W0 v ix nf w6 v6 (ix++[b1]++[b2]++y3++y5++y6) R2.2 nf6 env eA ec nn→blk (ix++[b1]++[b2]++y3++y5++y6) R2.1=p6→TyW C.sc R1.2 R2 (s2.count+1)→blk (ix++[b1]++[b2]++y3++y5++y6) R1.1=p5∧_ from fun w6 v6 y6 nf6 p6 nn h6 hp6 hw6=>⟨dx hp5 (by rw[hB5.lt];exact HW1.out.lt),(h6.same (a:=R1.1) (b:=R2.1) (p:=p5) (q:=p6) (SB HW1.out.lt hw6.le) hw6.lt (dx hp5 (by rw[hB5.lt];exact HW1.out.lt)) hp6).2⟩)
 have HF:=Sk (show ∀(Y:World),(Y.cell? ⟨X.heap.size,1,none⟩=some (.string n)∧Y.cell? ⟨X.heap.size,2,none⟩=some (.string m)∧Y.cell? ⟨X.heap.size,5,none⟩=some (.slice (some ⟨b,o,none⟩) N c)∧Y.cell? ⟨b,o,none⟩=some (.int .i64 k0)∧Y.cell? ⟨b,o+1,none⟩=some (.string n0)∧Y.cell? ⟨b,o+2,none⟩=some (.string m0)∧Y.cell? ⟨b,o+3,none⟩=some (.int .i64 i0)∧Y.cell? ⟨b,o+4,none⟩=some (.int .i64 d0)∧Y.cell? ⟨b,o+5,none⟩=some (.slice A0 L0 c0)∧Y.cell? ⟨b,o+6,none⟩=some (.int .i64 k1)∧Y.cell? ⟨b,o+7,none⟩=some (.string n1)∧Y.cell? ⟨b,o+8,none⟩=some (.string m1)∧Y.cell? ⟨b,o+9,none⟩=some (.int .i64 i1)∧Y.cell? ⟨b,o+10,none⟩=some (.int .i64 d1)∧Y.cell? ⟨b,o+11,none⟩=some (.slice A1 L1 c1)∧Y.cell? ⟨b,o+12,none⟩=some (.int .i64 k2)∧Y.cell? ⟨b,o+13,none⟩=some (.string n2)∧Y.cell? ⟨b,o+14,none⟩=some (.string m2)∧Y.cell? ⟨b,o+15,none⟩=some (.int .i64 i2)∧Y.cell? ⟨b,o+16,none⟩=some (.int .i64 d2)∧Y.cell? ⟨b,o+17,none⟩=some (.slice A2 L2 c2))→(Y.cell? ⟨X.heap.size,2,none⟩=some (.string m)∧Y.cell? ⟨X.heap.size,1,none⟩=some (.string n)∧Y.cell? ⟨X.heap.size,5,none⟩=some (.slice (some ⟨b,o,none⟩) N c)∧Y.cell? ⟨b,o+12,none⟩=some (.int .i64 k2)∧Y.cell? ⟨b,o+13,none⟩=some (.string n2)∧Y.cell? ⟨b,o+14,none⟩=some (.string m2)∧Y.cell? ⟨b,o+15,none⟩=some (.int .i64 i2)∧Y.cell? ⟨b,o+16,none⟩=some (.int .i64 d2)∧Y.cell? ⟨b,o+17,none⟩=some (.slice A2 L2 c2))from fun Y h=>⟨h.2.1,h.1,h.2.2.1,h.2.2.2.2.2.2.2.2.2.2.2.2.2.2.2.1,h.2.2.2.2.2.2.2.2.2.2.2.2.2.2.2.2.1,h.2.2.2.2.2.2.2.2.2.2.2.2.2.2.2.2.2.1,h.2.2.2.2.2.2.2.2.2.2.2.2.2.2.2.2.2.2.1,h.2.2.2.2.2.2.2.2.2.2.2.2.2.2.2.2.2.2.2.1,h.2.2.2.2.2.2.2.2.2.2.2.2.2.2.2.2.2.2.2.2⟩)
 go_upto_region 43 with fail
 go_region_held3 (fun Y=>Y.cell? ⟨X.heap.size,2,none⟩=some (.string m)∧Y.cell? ⟨X.heap.size,1,none⟩=some (.string n)∧Y.cell? ⟨X.heap.size,5,none⟩=some (.slice (some ⟨b,o,none⟩) N c)∧Y.cell? ⟨b,o+12,none⟩=some (.int .i64 k2)∧Y.cell? ⟨b,o+13,none⟩=some (.string n2)∧Y.cell? ⟨b,o+14,none⟩=some (.string m2)∧Y.cell? ⟨b,o+15,none⟩=some (.int .i64 i2)∧Y.cell? ⟨b,o+16,none⟩=some (.int .i64 d2)∧Y.cell? ⟨b,o+17,none⟩=some (.slice A2 L2 c2))
  (first|exact HF.out _ (HSX.out _ _ hB7.k)|exact HF.out _ (HSX.out _ _ hB6.k)|exact HF.out _ (HSX.out _ _ (hB5.below hbv).k)|exact HF.out _ (HSX.out _ _ (hB5.below (by repeat (first|with_reducible exact TA _ _|with_reducible refine aO ?_ _|with_reducible refine fP ?_))).k))
  (first
   | (go_at_call 215;(refine TJ (HWI.out _ w5.heap.size ?_ ?_ ?_ ?_ ?_) ?_);(focus (repeat (first|with_reducible exact TA _ _|with_reducible refine aO ?_ _|with_reducible refine fP ?_)));(focus go_simp);(focus go_simp);(focus go_simp);(focus go_simp);rintro e wv ⟨vAX,vcX,rfl,hsv,hbv⟩)
   | (go_at_call 96;refine(HSM.out _ _ _ _ _ _ hB6 hp6 (HC2.out _ _ _ _ _ _ _ (hB5.below hbv) HEN.out hsv).1).2.mono ?_;rintro e w7 ⟨rfl,hB7⟩)
   | (go_at_call 97;refine(HC2.out _ _ _ _ _ _ _ (hB5.below hbv) HEN.out hsv).2.mono ?_;rintro e w6 ⟨v6,y6,p6,nf6,rfl,hp6,hB6⟩))
 all_goals (
  have HP:=Sk (HSM.out _ _ _ _ _ _ hB6 hp6 (HC2.out _ _ _ _ _ _ _ (hB5.below hbv) HEN.out hsv).1).1
  have HBz:=Sk hB7
  have HRR:=Sk (show R=(R1.1,bE R2.2 R1.1 R2.1) by rw[←HR.out,←HR2.out,←HR1.out,←tY.out,←HR0.out,←HRl.out,←HRa.out];rfl)
  clear hB5 hB6 hB7 hp5 hp6 hsv hbv
  go_wp2
  go_ret
  rw[HRR.out]
  refine⟨v6,_,nf6,?_,HBz.out.p,HBz.out.a.ti,?_,(TyK.below HB.out).trans HBz.out.k⟩
  ·rw[nP,HP.out]
   rfl
  ·have:=HBz.out.n
   have:=HM.out
   simp only[Fo.count]at this
   omega)
end Go.Proofs.Q
