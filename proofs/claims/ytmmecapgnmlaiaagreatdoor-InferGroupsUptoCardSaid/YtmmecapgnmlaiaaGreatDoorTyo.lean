/- infer: if (printed by gen_tym.py) -/
import Derived.Test.YtmmecapgnmlaiaaGreatDoorZxv
set_option maxRecDepth 100000
set_option maxHeartbeats 16000000
namespace Go.Proofs.Q
open Go Go.RowKit Go.Proofs Go.Proofs.Unify
theorem Ni {B:Nat}{C:TyC}{W X:World}{v:Value}{ix:List Nat}{σ:Tst}{nf:Nat}{env:Env}{eA:Option Addr}{ec:Nat}(n m:ByteArray)(i d:Int)(A:Option Addr)(c:Nat)
  (k0:Int)(n0 m0:ByteArray)(i0 d0:Int)(A0:Option Addr)(c0:Nat)(s0:Fo)(k1:Int)(n1 m1:ByteArray)(i1 d1:Int)(A1:Option Addr)(c1:Nat)(s1:Fo)(k2:Int)(n2 m2:ByteArray)(i2 d2:Int)(A2:Option Addr)(c2:Nat)(s2:Fo)(r:Fo)
  (E0:eH B s0)(E1:eH B s1)(E2:eH B s2)
  (ha:TyA B C W X v ix σ nf env eA ec)(hs:(Fo.cons k0 n0 m0 i0 d0 A0 c0 s0 (.cons k1 n1 m1 i1 d1 A1 c1 s1 (.cons k2 n2 m2 i2 d2 A2 c2 s2 r))).Sl X B A c)(hx:(Fo.cons k0 n0 m0 i0 d0 A0 c0 s0 (.cons k1 n1 m1 i1 d1 A1 c1 s1 (.cons k2 n2 m2 i2 d2 A2 c2 s2 r))).ex.Cok C.sc)(hro:(Fo.cons k0 n0 m0 i0 d0 A0 c0 s0 (.cons k1 n1 m1 i1 d1 A1 c1 s1 (.cons k2 n2 m2 i2 d2 A2 c2 s2 r))).Ro (fun k=>k<B) C W)
  (hel:env.length+2*(Fo.cons k0 n0 m0 i0 d0 A0 c0 s0 (.cons k1 n1 m1 i1 d1 A1 c1 s1 (.cons k2 n2 m2 i2 d2 A2 c2 s2 r))).count≤900000)(hnl:σ.ns.length+(Fo.cons k0 n0 m0 i0 d0 A0 c0 s0 (.cons k1 n1 m1 i1 d1 A1 c1 s1 (.cons k2 n2 m2 i2 d2 A2 c2 s2 r))).count≤900000) :
  Calls Tryz.prog 157 #[.pointer (some ⟨C.tb,0,none⟩),.agg #[.int .i64 9,.string n,.string m,.int .i64 i,.int .i64 d,.slice A (Fo.cons k0 n0 m0 i0 d0 A0 c0 s0 (.cons k1 n1 m1 i1 d1 A1 c1 s1 (.cons k2 n2 m2 i2 d2 A2 c2 s2 r))).len c],.slice eA env.length ec] X (TyP (fun k=>k<B) C X v ix nf (ifT (fun env σ=>aG (aF C.sc k0 n0 m0 i0 (tyF C.sc s0.ex) env σ)) (fun env σ=>aG (aF C.sc k1 n1 m1 i1 (tyF C.sc s1.ex) env σ)) (fun env σ=>aG (aF C.sc k2 n2 m2 i2 (tyF C.sc s2.ex) env σ)) env σ) ((Fo.cons k0 n0 m0 i0 d0 A0 c0 s0 (.cons k1 n1 m1 i1 d1 A1 c1 s1 (.cons k2 n2 m2 i2 d2 A2 c2 s2 r))).count+1)):=by
 have hxB:B≤X.heap.size:=by
  rcases Nat.lt_or_ge X.heap.size B with h|h
  ·have h1:=ha.ti.dlt _ h;have h2:=ha.ti.tn;omega
  ·exact h
 obtain⟨hsl,hsc,hsm⟩:=hs
 obtain⟨b,o,rfl,hbB,hat⟩:=hsm (by intro e;cases e)
 obtain⟨N,HN⟩:∃N,Hid ((Fo.cons k0 n0 m0 i0 d0 A0 c0 s0 (.cons k1 n1 m1 i1 d1 A1 c1 s1 (.cons k2 n2 m2 i2 d2 A2 c2 s2 r))).len=N):=⟨_,Sk rfl⟩
 have hN:3≤N:=by rw[←HN.out];simp[Fo.len]
 have hNm:N≤maxLen:=by rw[←HN.out];omega
 have hN0:0<N:=by omega
 have hN1:(1:Int)<(N:Int):=by omega
 have hN2:(2:Int)<(N:Int):=by omega
 rw[HN.out]
 obtain⟨L0,HL0⟩:∃L,Hid (s0.len=L):=⟨_,Sk rfl⟩
 obtain⟨L1,HL1⟩:∃L,Hid (s1.len=L):=⟨_,Sk rfl⟩
 obtain⟨L2,HL2⟩:∃L,Hid (s2.len=L):=⟨_,Sk rfl⟩
 obtain⟨q0a,q0b,q0c,q0d,q0e,⟨q0f,q0l⟩,hat⟩:=hat
 obtain⟨q1a,q1b,q1c,q1d,q1e,⟨q1f,q1l⟩,hat⟩:=hat
 obtain⟨q2a,q2b,q2c,q2d,q2e,⟨q2f,q2l⟩,hat⟩:=hat
 have hx0:(Fo.cons k0 n0 m0 i0 d0 A0 c0 s0 .nil).ex.Cok C.sc:=⟨hx.1,hx.2.1,hx.2.2.1,trivial⟩
 have hr0:(Fo.cons k0 n0 m0 i0 d0 A0 c0 s0 .nil).Ro (fun k=>k<B) C W:=⟨hro.1,hro.2.1,trivial⟩
 have hs0:s0.Sl X B A0 c0:=q0l
 rw[HL0.out]at q0f
 have hx1:(Fo.cons k1 n1 m1 i1 d1 A1 c1 s1 .nil).ex.Cok C.sc:=⟨hx.2.2.2.1,hx.2.2.2.2.1,hx.2.2.2.2.2.1,trivial⟩
 have hr1:(Fo.cons k1 n1 m1 i1 d1 A1 c1 s1 .nil).Ro (fun k=>k<B) C W:=⟨hro.2.2.1,hro.2.2.2.1,trivial⟩
 have hs1:s1.Sl X B A1 c1:=q1l
 rw[HL1.out]at q1f
 have hx2:(Fo.cons k2 n2 m2 i2 d2 A2 c2 s2 .nil).ex.Cok C.sc:=⟨hx.2.2.2.2.2.2.1,hx.2.2.2.2.2.2.2.1,hx.2.2.2.2.2.2.2.2.1,trivial⟩
 have hr2:(Fo.cons k2 n2 m2 i2 d2 A2 c2 s2 .nil).Ro (fun k=>k<B) C W:=⟨hro.2.2.2.2.1,hro.2.2.2.2.2.1,trivial⟩
 have hs2:s2.Sl X B A2 c2:=q2l
 rw[HL2.out]at q2f
 obtain⟨W0,hW0⟩:∃W0,X.alloc (.cells #[.int .i64 9,.string n,.string m,.int .i64 i,.int .i64 d,.slice (some ⟨b,o,none⟩) N c] 44)=W0:=⟨_,rfl⟩
 have hb0:Below X.heap.size X W0:=by subst hW0;exact(TA _ _).alloc (SA _) _
 have hrb:W0.heap[X.heap.size]?=some (.cells #[.int .i64 9,.string n,.string m,.int .i64 i,.int .i64 d,.slice (some ⟨b,o,none⟩) N c] 44 (0,0)):=by subst hW0;exact Sv X _
 have e0:=Sq W0 X.heap.size 0 _ _ (0,0) hrb
 have e1:=Sq W0 X.heap.size 1 _ _ (0,0) hrb
 have e2:=Sq W0 X.heap.size 2 _ _ (0,0) hrb
 have e5:=Sq W0 X.heap.size 5 _ _ (0,0) hrb
 simp at e0 e1 e2 e5
 have hA:=TyB.start (ha.below hb0)
 have hcell:∀q u,X.cell? ⟨b,q,none⟩=some u→W0.cell? ⟨b,q,none⟩=some u:=fun q u h=>(hb0.cell (p:=⟨b,q,none⟩) (by show b<X.heap.size;omega)).trans h
 have HSX:=Sk (show ∀(Y:World) (v':Value),TyK (fun k=>k<B) C W0 v Y v'→Y.cell? ⟨X.heap.size,1,none⟩=some (.string n)∧Y.cell? ⟨X.heap.size,2,none⟩=some (.string m)∧Y.cell? ⟨X.heap.size,5,none⟩=some (.slice (some ⟨b,o,none⟩) N c)∧Y.cell? ⟨b,o,none⟩=some (.int .i64 k0)∧Y.cell? ⟨b,o+1,none⟩=some (.string n0)∧Y.cell? ⟨b,o+2,none⟩=some (.string m0)∧Y.cell? ⟨b,o+3,none⟩=some (.int .i64 i0)∧Y.cell? ⟨b,o+4,none⟩=some (.int .i64 d0)∧Y.cell? ⟨b,o+5,none⟩=some (.slice A0 L0 c0)∧Y.cell? ⟨b,o+6,none⟩=some (.int .i64 k1)∧Y.cell? ⟨b,o+7,none⟩=some (.string n1)∧Y.cell? ⟨b,o+8,none⟩=some (.string m1)∧Y.cell? ⟨b,o+9,none⟩=some (.int .i64 i1)∧Y.cell? ⟨b,o+10,none⟩=some (.int .i64 d1)∧Y.cell? ⟨b,o+11,none⟩=some (.slice A1 L1 c1)∧Y.cell? ⟨b,o+12,none⟩=some (.int .i64 k2)∧Y.cell? ⟨b,o+13,none⟩=some (.string n2)∧Y.cell? ⟨b,o+14,none⟩=some (.string m2)∧Y.cell? ⟨b,o+15,none⟩=some (.int .i64 i2)∧Y.cell? ⟨b,o+16,none⟩=some (.int .i64 d2)∧Y.cell? ⟨b,o+17,none⟩=some (.slice A2 L2 c2)from fun Y v' hk=>by
  have hcY:∀q u,X.cell? ⟨b,q,none⟩=some u→Y.cell? ⟨b,q,none⟩=some u:=fun q u h=>(hk.cell hA.a.ti hbB).trans (hcell q u h)
  have hrY:=hk.box hA.a.ti hrb (by decide)
  have y1:=Sq Y X.heap.size 1 _ _ (0,0) hrY
  have y2:=Sq Y X.heap.size 2 _ _ (0,0) hrY
  have y5:=Sq Y X.heap.size 5 _ _ (0,0) hrY
  simp at y1 y2 y5
  exact⟨y1,y2,y5,hcY _ _ q0a,hcY _ _ q0b,hcY _ _ q0c,hcY _ _ q0d,hcY _ _ q0e,hcY _ _ q0f,hcY _ _ q1a,hcY _ _ q1b,hcY _ _ q1c,hcY _ _ q1d,hcY _ _ q1e,hcY _ _ q1f,hcY _ _ q2a,hcY _ _ q2b,hcY _ _ q2c,hcY _ _ q2d,hcY _ _ q2e,hcY _ _ q2f⟩)
 have HB:=Sk hb0
 have HS0:=Sk (show ∀(Y:World) (v':Value),TyK (fun k=>k<B) C W0 v Y v'→s0.Sl Y B A0 c0 from fun Y v' hk=>TyK.sl hA.a.ti hk (hs0.keep (SA _) fun p hp=>hb0.cell (by omega)))
 have HX0:=Sk (Sn hx0 hr0)
 have HE0:=Sk E0
 have HS1:=Sk (show ∀(Y:World) (v':Value),TyK (fun k=>k<B) C W0 v Y v'→s1.Sl Y B A1 c1 from fun Y v' hk=>TyK.sl hA.a.ti hk (hs1.keep (SA _) fun p hp=>hb0.cell (by omega)))
 have HX1:=Sk (Sn hx1 hr1)
 have HE1:=Sk E1
 have HS2:=Sk (show ∀(Y:World) (v':Value),TyK (fun k=>k<B) C W0 v Y v'→s2.Sl Y B A2 c2 from fun Y v' hk=>TyK.sl hA.a.ti hk (hs2.keep (SA _) fun p hp=>hb0.cell (by omega)))
 have HX2:=Sk (Sn hx2 hr2)
 have HE2:=Sk E2
 have HCN:=Sk (Sn hel hnl)
 simp only[Fo.count]at HCN
 obtain⟨R,HR⟩:∃R,Hid (ifT (fun env σ=>aG (aF C.sc k0 n0 m0 i0 (tyF C.sc s0.ex) env σ)) (fun env σ=>aG (aF C.sc k1 n1 m1 i1 (tyF C.sc s1.ex) env σ)) (fun env σ=>aG (aF C.sc k2 n2 m2 i2 (tyF C.sc s2.ex) env σ)) env σ=R):=⟨_,Sk rfl⟩
 rw[HR.out]
 obtain⟨M,HM⟩:∃M,Hid ((Fo.cons k0 n0 m0 i0 d0 A0 c0 s0 (.cons k1 n1 m1 i1 d1 A1 c1 s1 (.cons k2 n2 m2 i2 d2 A2 c2 s2 r))).count+1=M):=⟨_,Sk rfl⟩
 rw[HM.out]
 have HA:=Sk hA
 clear ha hx hro hat hs0 hA hcell hrb hb0 hsl hsc hsm hel hnl hx0 hr0 E0 q0a q0b q0c q0d q0e q0f q0l hx1 hr1 E1 q1a q1b q1c q1d q1e q1f q1l hx2 hr2 E2 q2a q2b q2c q2d q2e q2f q2l
 clear hs1 hs2
 go_enter Tryz.func157,Tryz.ntmps157
 go_upto_region 24 with fail
 try rw[hW0]
 have HC0:=Sk (show ∀(w1:World) (v1:Value) (iz:List Nat) (nf1 nn:Nat),TyB B C W W0 v ix nf w1 v1 iz σ nf1 env eA ec nn→TyW C.sc σ (aG (aF C.sc k0 n0 m0 i0 (tyF C.sc s0.ex) env σ)) (s0.count+1)∧Calls Tryz.prog 97 #[.pointer (some ⟨C.tb,0,none⟩),.agg #[.int .i64 k0,.string n0,.string m0,.int .i64 i0,.int .i64 d0,.slice A0 L0 c0],.slice eA env.length ec] w1 (ExB B C W W0 v ix nf iz (aG (aF C.sc k0 n0 m0 i0 (tyF C.sc s0.ex) env σ)) env eA ec (nn+(s0.count+1)))from fun w1 v1 iz nf1 nn h1=>by
  have fJ:σ.ns.length+s0.count≤900000:=by have:=HCN.out.2;skip;omega
  have:=h1.expr HE0.out h1.a.en h1.a.ea k0 n0 m0 i0 d0 A0 c0 (HS0.out _ _ h1.k) HX0.out.1 HX0.out.2 (by have:=HCN.out.1;omega) fJ
  rw[HL0.out]at this
  exact this)
 obtain⟨R0,HR0⟩:∃R,Hid (aG (aF C.sc k0 n0 m0 i0 (tyF C.sc s0.ex) env σ)=R):=⟨_,Sk rfl⟩
 rw[HR0.out]at HC0
 have HW0:=Sk (HC0.out _ _ _ _ _ HA.out).1
 have HC1:=Sk (show ∀(w1:World) (v1:Value) (iz:List Nat) (nf1 nn:Nat),TyB B C W W0 v ix nf w1 v1 iz R0.2 nf1 env eA ec nn→TyW C.sc R0.2 (aG (aF C.sc k1 n1 m1 i1 (tyF C.sc s1.ex) env R0.2)) (s1.count+1)∧Calls Tryz.prog 97 #[.pointer (some ⟨C.tb,0,none⟩),.agg #[.int .i64 k1,.string n1,.string m1,.int .i64 i1,.int .i64 d1,.slice A1 L1 c1],.slice eA env.length ec] w1 (ExB B C W W0 v ix nf iz (aG (aF C.sc k1 n1 m1 i1 (tyF C.sc s1.ex) env R0.2)) env eA ec (nn+(s1.count+1)))from fun w1 v1 iz nf1 nn h1=>by
  have fJ:R0.2.ns.length+s1.count≤900000:=by have:=HCN.out.2;have:=fD HW0.out;omega
  have:=h1.expr HE1.out h1.a.en h1.a.ea k1 n1 m1 i1 d1 A1 c1 (HS1.out _ _ h1.k) HX1.out.1 HX1.out.2 (by have:=HCN.out.1;omega) fJ
  rw[HL1.out]at this
  exact this)
 obtain⟨R1,HR1⟩:∃R,Hid (aG (aF C.sc k1 n1 m1 i1 (tyF C.sc s1.ex) env R0.2)=R):=⟨_,Sk rfl⟩
 rw[HR1.out]at HC1
 have HW1:=Sk (show TyW C.sc R0.2 R1 (s1.count+1) by
  have h1:=(gD (sc:=C.sc) k1 n1 m1 i1 s1.ex HX1.out.1.1 HX1.out.1.2.1 (Ex.tw HX1.out.1.2.2.1) env R0.2 HW0.out.wf (fun x hx=>SB (HA.out.a.ti.lC x hx) HW0.out.le) (HA.out.a.en.le HW0.out.le)).keep
  rw[Fo.iH,HR1.out]at h1
  exact h1)
 have HC2:=Sk (show ∀(w1:World) (v1:Value) (iz:List Nat) (nf1 nn:Nat),TyB B C W W0 v ix nf w1 v1 iz R1.2 nf1 env eA ec nn→TyW C.sc R1.2 (aG (aF C.sc k2 n2 m2 i2 (tyF C.sc s2.ex) env R1.2)) (s2.count+1)∧Calls Tryz.prog 97 #[.pointer (some ⟨C.tb,0,none⟩),.agg #[.int .i64 k2,.string n2,.string m2,.int .i64 i2,.int .i64 d2,.slice A2 L2 c2],.slice eA env.length ec] w1 (ExB B C W W0 v ix nf iz (aG (aF C.sc k2 n2 m2 i2 (tyF C.sc s2.ex) env R1.2)) env eA ec (nn+(s2.count+1)))from fun w1 v1 iz nf1 nn h1=>by
  have fJ:R1.2.ns.length+s2.count≤900000:=by have:=HCN.out.2;have:=fD HW0.out;have:=fD HW1.out;omega
  have:=h1.expr HE2.out h1.a.en h1.a.ea k2 n2 m2 i2 d2 A2 c2 (HS2.out _ _ h1.k) HX2.out.1 HX2.out.2 (by have:=HCN.out.1;omega) fJ
  rw[HL2.out]at this
  exact this)
 obtain⟨R2,HR2⟩:∃R,Hid (aG (aF C.sc k2 n2 m2 i2 (tyF C.sc s2.ex) env R1.2)=R):=⟨_,Sk rfl⟩
 rw[HR2.out]at HC2
 clear e0 e1 e2 e5
 have HF:=Sk (show ∀(Y:World),(Y.cell? ⟨X.heap.size,1,none⟩=some (.string n)∧Y.cell? ⟨X.heap.size,2,none⟩=some (.string m)∧Y.cell? ⟨X.heap.size,5,none⟩=some (.slice (some ⟨b,o,none⟩) N c)∧Y.cell? ⟨b,o,none⟩=some (.int .i64 k0)∧Y.cell? ⟨b,o+1,none⟩=some (.string n0)∧Y.cell? ⟨b,o+2,none⟩=some (.string m0)∧Y.cell? ⟨b,o+3,none⟩=some (.int .i64 i0)∧Y.cell? ⟨b,o+4,none⟩=some (.int .i64 d0)∧Y.cell? ⟨b,o+5,none⟩=some (.slice A0 L0 c0)∧Y.cell? ⟨b,o+6,none⟩=some (.int .i64 k1)∧Y.cell? ⟨b,o+7,none⟩=some (.string n1)∧Y.cell? ⟨b,o+8,none⟩=some (.string m1)∧Y.cell? ⟨b,o+9,none⟩=some (.int .i64 i1)∧Y.cell? ⟨b,o+10,none⟩=some (.int .i64 d1)∧Y.cell? ⟨b,o+11,none⟩=some (.slice A1 L1 c1)∧Y.cell? ⟨b,o+12,none⟩=some (.int .i64 k2)∧Y.cell? ⟨b,o+13,none⟩=some (.string n2)∧Y.cell? ⟨b,o+14,none⟩=some (.string m2)∧Y.cell? ⟨b,o+15,none⟩=some (.int .i64 i2)∧Y.cell? ⟨b,o+16,none⟩=some (.int .i64 d2)∧Y.cell? ⟨b,o+17,none⟩=some (.slice A2 L2 c2))→(Y.cell? ⟨X.heap.size,5,none⟩=some (.slice (some ⟨b,o,none⟩) N c)∧Y.cell? ⟨b,o,none⟩=some (.int .i64 k0)∧Y.cell? ⟨b,o+1,none⟩=some (.string n0)∧Y.cell? ⟨b,o+2,none⟩=some (.string m0)∧Y.cell? ⟨b,o+3,none⟩=some (.int .i64 i0)∧Y.cell? ⟨b,o+4,none⟩=some (.int .i64 d0)∧Y.cell? ⟨b,o+5,none⟩=some (.slice A0 L0 c0)∧Y.cell? ⟨b,o+6,none⟩=some (.int .i64 k1)∧Y.cell? ⟨b,o+7,none⟩=some (.string n1)∧Y.cell? ⟨b,o+8,none⟩=some (.string m1)∧Y.cell? ⟨b,o+9,none⟩=some (.int .i64 i1)∧Y.cell? ⟨b,o+10,none⟩=some (.int .i64 d1)∧Y.cell? ⟨b,o+11,none⟩=some (.slice A1 L1 c1)∧Y.cell? ⟨b,o+12,none⟩=some (.int .i64 k2)∧Y.cell? ⟨b,o+13,none⟩=some (.string n2)∧Y.cell? ⟨b,o+14,none⟩=some (.string m2)∧Y.cell? ⟨b,o+15,none⟩=some (.int .i64 i2)∧Y.cell? ⟨b,o+16,none⟩=some (.int .i64 d2)∧Y.cell? ⟨b,o+17,none⟩=some (.slice A2 L2 c2))from fun Y h=>⟨h.2.2.1,h.2.2.2.1,h.2.2.2.2.1,h.2.2.2.2.2.1,h.2.2.2.2.2.2.1,h.2.2.2.2.2.2.2.1,h.2.2.2.2.2.2.2.2.1,h.2.2.2.2.2.2.2.2.2.1,h.2.2.2.2.2.2.2.2.2.2.1,h.2.2.2.2.2.2.2.2.2.2.2.1,h.2.2.2.2.2.2.2.2.2.2.2.2.1,h.2.2.2.2.2.2.2.2.2.2.2.2.2.1,h.2.2.2.2.2.2.2.2.2.2.2.2.2.2.1,h.2.2.2.2.2.2.2.2.2.2.2.2.2.2.2.1,h.2.2.2.2.2.2.2.2.2.2.2.2.2.2.2.2.1,h.2.2.2.2.2.2.2.2.2.2.2.2.2.2.2.2.2.1,h.2.2.2.2.2.2.2.2.2.2.2.2.2.2.2.2.2.2.1,h.2.2.2.2.2.2.2.2.2.2.2.2.2.2.2.2.2.2.2.1,h.2.2.2.2.2.2.2.2.2.2.2.2.2.2.2.2.2.2.2.2⟩)
 go_region_held3 (fun Y=>Y.cell? ⟨X.heap.size,5,none⟩=some (.slice (some ⟨b,o,none⟩) N c)∧Y.cell? ⟨b,o,none⟩=some (.int .i64 k0)∧Y.cell? ⟨b,o+1,none⟩=some (.string n0)∧Y.cell? ⟨b,o+2,none⟩=some (.string m0)∧Y.cell? ⟨b,o+3,none⟩=some (.int .i64 i0)∧Y.cell? ⟨b,o+4,none⟩=some (.int .i64 d0)∧Y.cell? ⟨b,o+5,none⟩=some (.slice A0 L0 c0)∧Y.cell? ⟨b,o+6,none⟩=some (.int .i64 k1)∧Y.cell? ⟨b,o+7,none⟩=some (.string n1)∧Y.cell? ⟨b,o+8,none⟩=some (.string m1)∧Y.cell? ⟨b,o+9,none⟩=some (.int .i64 i1)∧Y.cell? ⟨b,o+10,none⟩=some (.int .i64 d1)∧Y.cell? ⟨b,o+11,none⟩=some (.slice A1 L1 c1)∧Y.cell? ⟨b,o+12,none⟩=some (.int .i64 k2)∧Y.cell? ⟨b,o+13,none⟩=some (.string n2)∧Y.cell? ⟨b,o+14,none⟩=some (.string m2)∧Y.cell? ⟨b,o+15,none⟩=some (.int .i64 i2)∧Y.cell? ⟨b,o+16,none⟩=some (.int .i64 d2)∧Y.cell? ⟨b,o+17,none⟩=some (.slice A2 L2 c2))
  (first|exact HF.out _ (HSX.out _ _ hB3.k)|exact HF.out _ (HSX.out _ _ hB2.k)|exact HF.out _ (HSX.out _ _ hB1.k)|exact HF.out _ (HSX.out _ _ HA.out.drew.k))
  (first
   | (have _t:=o8;go_at_call 97;refine(HC2.out _ _ _ _ _ hB2).2.mono ?_;rintro e w3 ⟨v3,y3,p3,nf3,rfl,hp3,hB3⟩)
   | (have _t:=iw;go_at_call 97;refine(HC1.out _ _ _ _ _ hB1).2.mono ?_;rintro e w2 ⟨v2,y2,p2,nf2,rfl,hp2,hB2⟩;have o8:True:=trivial)
   | (go_at_call 97;refine(HC0.out _ _ _ _ _ HA.out.drew).2.mono ?_;rintro e w1 ⟨v1,y1,p1,nf1,rfl,hp1,hB1⟩;have iw:True:=trivial))
 all_goals (
  have hw1:=(HC1.out _ _ _ _ _ hB1).1
  have hw2:=(HC2.out _ _ _ _ _ hB2).1
  have l1:=hB1.lt
  have l2:=hB2.lt
  have l3:=hB3.lt
  have g0:=HW0.out.lt
  have g1:=hw1.lt
  have g2:=hw2.lt
  have f1:=hw1.le
  have f2:=hw2.le
  obtain⟨hw3,hm⟩:=hB3.uQ 2 rfl
  obtain⟨Rt,HRt⟩:∃R,Hid (aJ R2.2 2 []=R):=⟨_,Sk rfl⟩
  rw[HRt.out]at hw3 hm
  have HM1:=Sk hm
  have g3:=hw3.lt
  have f3:=hw3.le
  have HS:=Sk (show ∀(w4:World) (b4 nn:Nat),blk (ix++y1++y2++y3++[b4]) Rt.1=b4→TyB B C W W0 v ix nf w4 v3 (ix++y1++y2++y3++[b4]) Rt.2 nf3 env eA ec nn→_ from fun w4 b4 nn hb4 h4=>h4.same (a:=R0.1) (b:=Rt.1) (p:=p1) (by omega) g3 (dx (dx (dx hp1 (by omega)) (by omega)) (by omega)) hb4)
  have HS2:=Sk (show ∀(w4:World) (b4 nn:Nat),TyB B C W W0 v ix nf w4 v3 (ix++y1++y2++y3++[b4]) (bE Rt.2 R0.1 Rt.1) nf3 env eA ec nn→_ from fun w4 b4 nn h4=>(h4.same (a:=R1.1) (b:=R2.1) (p:=p2) (q:=p3) (by have:=(dW hw3.wf (show R0.1<Rt.2.S.length by omega) g3).2.1;omega) (by have:=(dW hw3.wf (show R0.1<Rt.2.S.length by omega) g3).2.1;omega) (dx (dx hp2 (by omega)) (by omega)) (dx hp3 (by omega))).2)
  have HP:=Sk (show ∀b4,blk (ix++y1++y2++y3++[b4]) R1.1=p2 from fun b4=>dx (dx hp2 (by omega)) (by omega))
  have HRR:=Sk (show R=(R1.1,bE (bE Rt.2 R0.1 Rt.1) R1.1 R2.1) by rw[←HR.out,←HRt.out,←HR2.out,←HR1.out,←HR0.out];rfl)
  clear hB1 hB2 hB3 hp1 hp2 hp3 hw1 hw2 hw3 hm l1 l2 l3 g0 g1 g2 g3 f1 f2 f3
  go_wp2_with fail
  refine HM1.out.mono ?_
  rintro e w4 ⟨b4,rfl,hb4,hB4⟩
  have HS4:=Sk (HS.out w4 b4 _ hb4 hB4).2
  clear hb4 hB4
  go_wp2_with fail
  refine HS4.out.mono ?_
  rintro e w5 ⟨rfl,hB5⟩
  have HS5:=Sk (HS2.out w5 b4 _ hB5)
  clear hB5
  go_wp2_with fail
  refine HS5.out.mono ?_
  rintro e w6 ⟨rfl,hB6⟩
  have HBz:=Sk hB6
  clear hB6
  go_wp2
  go_ret
  rw[HRR.out]
  refine⟨v3,_,nf3,?_,HBz.out.p,HBz.out.a.ti,?_,(TyK.below HB.out).trans HBz.out.k⟩
  ·rw[nP,HP.out b4]
   rfl
  ·have:=HBz.out.n
   have:=HM.out
   simp only[Fo.count]at this
   omega)
end Go.Proofs.Q
