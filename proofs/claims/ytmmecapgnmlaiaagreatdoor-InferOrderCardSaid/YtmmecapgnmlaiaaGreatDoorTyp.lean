/- infer: op (printed by gen_tym.py) -/
import Derived.Test.YtmmecapgnmlaiaaGreatDoorZxy
import Derived.Deep.DeepCutAuto
import Derived.Deep.RegionHeld3
namespace Go.Proofs.YtmmecapgnmlaiaaGreatDoor
open Go Go.RowKit Go.Proofs Go.Proofs.Unify
set_option maxRecDepth 100000 in
set_option maxHeartbeats 8000000 in
theorem kind_10 {B : Nat} {C : TyC} {W X : World} {v : Value} {ix : List Nat} {σ : Tst} {nf : Nat} {env : Env} {eA : Option Addr} {ec : Nat} (n m : ByteArray) (i d : Int) (A : Option Addr) (c : Nat)
  (k0 : Int) (n0 m0 : ByteArray) (i0 d0 : Int) (A0 : Option Addr) (c0 : Nat) (s0 : Fo) (k1 : Int) (n1 m1 : ByteArray) (i1 d1 : Int) (A1 : Option Addr) (c1 : Nat) (s1 : Fo) (r : Fo)
  (E0 : ExprOK B s0) (E1 : ExprOK B s1)
  (ha : TyA B C W X v ix σ nf env eA ec) (hs : (Fo.cons k0 n0 m0 i0 d0 A0 c0 s0 (.cons k1 n1 m1 i1 d1 A1 c1 s1 r)).Sl X B A c) (hx : (Fo.cons k0 n0 m0 i0 d0 A0 c0 s0 (.cons k1 n1 m1 i1 d1 A1 c1 s1 r)).ex.Cok C.sc) (hro : (Fo.cons k0 n0 m0 i0 d0 A0 c0 s0 (.cons k1 n1 m1 i1 d1 A1 c1 s1 r)).Ro (fun k => k < B) C W)
  (hel : env.length + 2 * (Fo.cons k0 n0 m0 i0 d0 A0 c0 s0 (.cons k1 n1 m1 i1 d1 A1 c1 s1 r)).count ≤ 900000) (hnl : σ.ns.length + (Fo.cons k0 n0 m0 i0 d0 A0 c0 s0 (.cons k1 n1 m1 i1 d1 A1 c1 s1 r)).count ≤ 900000) :
  Calls Tryz.prog 157 #[.pointer (some ⟨C.tb,0,none⟩),.agg #[.int .i64 10,.string n,.string m,.int .i64 i,.int .i64 d,.slice A (Fo.cons k0 n0 m0 i0 d0 A0 c0 s0 (.cons k1 n1 m1 i1 d1 A1 c1 s1 r)).len c],.slice eA env.length ec] X (TyP (fun k => k < B) C X v ix nf (opT (fun env σ => keepT (kindT C.sc k0 n0 m0 i0 (tyF C.sc s0.ex) env σ)) (fun env σ => keepT (kindT C.sc k1 n1 m1 i1 (tyF C.sc s1.ex) env σ)) n env σ) ((Fo.cons k0 n0 m0 i0 d0 A0 c0 s0 (.cons k1 n1 m1 i1 d1 A1 c1 s1 r)).count + 1)):=by
 have hxB : B ≤ X.heap.size:=by
  rcases Nat.lt_or_ge X.heap.size B with h | h
  ·have h1:=ha.ti.dlt _ h;have h2:=ha.ti.tn;omega
  ·exact h
 obtain ⟨hsl,hsc,hsm⟩:=hs
 obtain ⟨b,o,rfl,hbB,hat⟩:=hsm (by intro e;cases e)
 obtain ⟨N,HN⟩ : ∃ N,Hid ((Fo.cons k0 n0 m0 i0 d0 A0 c0 s0 (.cons k1 n1 m1 i1 d1 A1 c1 s1 r)).len = N):=⟨_,Lib.hid rfl⟩
 have hN : 2 ≤ N:=by rw [← HN.out];simp [Fo.len]
 have hNm : N ≤ maxLen:=by rw [← HN.out];omega
 have hN0 : 0 < N:=by omega
 have hN1 : (1 : Int) < (N : Int):=by omega
 rw [HN.out]
 obtain ⟨L0,HL0⟩ : ∃ L,Hid (s0.len = L):=⟨_,Lib.hid rfl⟩
 obtain ⟨L1,HL1⟩ : ∃ L,Hid (s1.len = L):=⟨_,Lib.hid rfl⟩
 obtain ⟨q0a,q0b,q0c,q0d,q0e,⟨q0f,q0l⟩,hat⟩:=hat
 obtain ⟨q1a,q1b,q1c,q1d,q1e,⟨q1f,q1l⟩,hat⟩:=hat
 have hx0 : (Fo.cons k0 n0 m0 i0 d0 A0 c0 s0 .nil).ex.Cok C.sc:=⟨hx.1,hx.2.1,hx.2.2.1,trivial⟩
 have hr0 : (Fo.cons k0 n0 m0 i0 d0 A0 c0 s0 .nil).Ro (fun k => k < B) C W:=⟨hro.1,hro.2.1,trivial⟩
 have hs0 : s0.Sl X B A0 c0:=q0l
 rw [HL0.out] at q0f
 have hx1 : (Fo.cons k1 n1 m1 i1 d1 A1 c1 s1 .nil).ex.Cok C.sc:=⟨hx.2.2.2.1,hx.2.2.2.2.1,hx.2.2.2.2.2.1,trivial⟩
 have hr1 : (Fo.cons k1 n1 m1 i1 d1 A1 c1 s1 .nil).Ro (fun k => k < B) C W:=⟨hro.2.2.1,hro.2.2.2.1,trivial⟩
 have hs1 : s1.Sl X B A1 c1:=q1l
 rw [HL1.out] at q1f
 obtain ⟨W0,hW0⟩ : ∃ W0,X.alloc (.cells #[.int .i64 10,.string n,.string m,.int .i64 i,.int .i64 d,.slice (some ⟨b,o,none⟩) N c] 44) = W0:=⟨_,rfl⟩
 have hb0 : Below X.heap.size X W0:=by subst hW0;exact (Below.refl _ _).alloc (Nat.le_refl _) _
 have hrb : W0.heap[X.heap.size]? = some (.cells #[.int .i64 10,.string n,.string m,.int .i64 i,.int .i64 d,.slice (some ⟨b,o,none⟩) N c] 44 (0,0)):=by subst hW0;exact heap_alloc_new X _
 have e0:=cell_of_row W0 X.heap.size 0 _ _ (0,0) hrb
 have e1:=cell_of_row W0 X.heap.size 1 _ _ (0,0) hrb
 have e2:=cell_of_row W0 X.heap.size 2 _ _ (0,0) hrb
 have e5:=cell_of_row W0 X.heap.size 5 _ _ (0,0) hrb
 simp at e0 e1 e2 e5
 have hA:=TyB.start (ha.below hb0)
 have hcell : ∀ q u,X.cell? ⟨b,q,none⟩ = some u → W0.cell? ⟨b,q,none⟩ = some u:=fun q u h => (hb0.cell (p:=⟨b,q,none⟩) (by show b < X.heap.size;omega)).trans h
 have HSX:=Lib.hid (show ∀ (Y : World) (v' : Value),TyK (fun k => k < B) C W0 v Y v' → Y.cell? ⟨X.heap.size,1,none⟩ = some (.string n) ∧ Y.cell? ⟨X.heap.size,2,none⟩ = some (.string m) ∧ Y.cell? ⟨X.heap.size,5,none⟩ = some (.slice (some ⟨b,o,none⟩) N c) ∧ Y.cell? ⟨b,o,none⟩ = some (.int .i64 k0) ∧ Y.cell? ⟨b,o + 1,none⟩ = some (.string n0) ∧ Y.cell? ⟨b,o + 2,none⟩ = some (.string m0) ∧ Y.cell? ⟨b,o + 3,none⟩ = some (.int .i64 i0) ∧ Y.cell? ⟨b,o + 4,none⟩ = some (.int .i64 d0) ∧ Y.cell? ⟨b,o + 5,none⟩ = some (.slice A0 L0 c0) ∧ Y.cell? ⟨b,o + 6,none⟩ = some (.int .i64 k1) ∧ Y.cell? ⟨b,o + 7,none⟩ = some (.string n1) ∧ Y.cell? ⟨b,o + 8,none⟩ = some (.string m1) ∧ Y.cell? ⟨b,o + 9,none⟩ = some (.int .i64 i1) ∧ Y.cell? ⟨b,o + 10,none⟩ = some (.int .i64 d1) ∧ Y.cell? ⟨b,o + 11,none⟩ = some (.slice A1 L1 c1) from fun Y v' hk => by
  have hcY : ∀ q u,X.cell? ⟨b,q,none⟩ = some u → Y.cell? ⟨b,q,none⟩ = some u:=fun q u h => (hk.cell hA.a.ti hbB).trans (hcell q u h)
  have hrY:=hk.box hA.a.ti hrb (by decide)
  have y1:=cell_of_row Y X.heap.size 1 _ _ (0,0) hrY
  have y2:=cell_of_row Y X.heap.size 2 _ _ (0,0) hrY
  have y5:=cell_of_row Y X.heap.size 5 _ _ (0,0) hrY
  simp at y1 y2 y5
  exact ⟨y1,y2,y5,hcY _ _ q0a,hcY _ _ q0b,hcY _ _ q0c,hcY _ _ q0d,hcY _ _ q0e,hcY _ _ q0f,hcY _ _ q1a,hcY _ _ q1b,hcY _ _ q1c,hcY _ _ q1d,hcY _ _ q1e,hcY _ _ q1f⟩)
 have HB:=Lib.hid hb0
 have HS0:=Lib.hid (show ∀ (Y : World) (v' : Value),TyK (fun k => k < B) C W0 v Y v' → s0.Sl Y B A0 c0 from fun Y v' hk => TyK.sl hA.a.ti hk (hs0.keep (Nat.le_refl _) fun p hp => hb0.cell (by omega)))
 have HX0:=Lib.hid (And.intro hx0 hr0)
 have HE0:=Lib.hid E0
 have HS1:=Lib.hid (show ∀ (Y : World) (v' : Value),TyK (fun k => k < B) C W0 v Y v' → s1.Sl Y B A1 c1 from fun Y v' hk => TyK.sl hA.a.ti hk (hs1.keep (Nat.le_refl _) fun p hp => hb0.cell (by omega)))
 have HX1:=Lib.hid (And.intro hx1 hr1)
 have HE1:=Lib.hid E1
 have HCN:=Lib.hid (And.intro hel hnl)
 simp only [Fo.count] at HCN
 obtain ⟨R,HR⟩ : ∃ R,Hid (opT (fun env σ => keepT (kindT C.sc k0 n0 m0 i0 (tyF C.sc s0.ex) env σ)) (fun env σ => keepT (kindT C.sc k1 n1 m1 i1 (tyF C.sc s1.ex) env σ)) n env σ = R):=⟨_,Lib.hid rfl⟩
 rw [HR.out]
 obtain ⟨M,HM⟩ : ∃ M,Hid ((Fo.cons k0 n0 m0 i0 d0 A0 c0 s0 (.cons k1 n1 m1 i1 d1 A1 c1 s1 r)).count + 1 = M):=⟨_,Lib.hid rfl⟩
 rw [HM.out]
 have HA:=Lib.hid hA
 clear ha hx hro hat hs0 hA hcell hrb hb0 hsl hsc hsm hel hnl hx0 hr0 E0 q0a q0b q0c q0d q0e q0f q0l hx1 hr1 E1 q1a q1b q1c q1d q1e q1f q1l
 clear hs1
 go_enter Tryz.func157,Tryz.ntmps157
 have HC0:=Lib.hid (show ∀ (w1 : World) (v1 : Value) (iz : List Nat) (nf1 nn : Nat),TyB B C W W0 v ix nf w1 v1 iz σ nf1 env eA ec nn → TyW C.sc σ (keepT (kindT C.sc k0 n0 m0 i0 (tyF C.sc s0.ex) env σ)) (s0.count + 1) ∧ Calls Tryz.prog 97 #[.pointer (some ⟨C.tb,0,none⟩),.agg #[.int .i64 k0,.string n0,.string m0,.int .i64 i0,.int .i64 d0,.slice A0 L0 c0],.slice eA env.length ec] w1 (ExB B C W W0 v ix nf iz (keepT (kindT C.sc k0 n0 m0 i0 (tyF C.sc s0.ex) env σ)) env eA ec (nn + (s0.count + 1))) from fun w1 v1 iz nf1 nn h1 => by
  have hnl' : σ.ns.length + s0.count ≤ 900000:=by have:=HCN.out.2;skip;omega
  have:=h1.expr HE0.out h1.a.en h1.a.ea k0 n0 m0 i0 d0 A0 c0 (HS0.out _ _ h1.k) HX0.out.1 HX0.out.2 (by have:=HCN.out.1;omega) hnl'
  rw [HL0.out] at this
  exact this)
 obtain ⟨R0,HR0⟩ : ∃ R,Hid (keepT (kindT C.sc k0 n0 m0 i0 (tyF C.sc s0.ex) env σ) = R):=⟨_,Lib.hid rfl⟩
 rw [HR0.out] at HC0
 have HW0:=Lib.hid (HC0.out _ _ _ _ _ HA.out).1
 obtain ⟨Rt,HRt⟩ : ∃ R,Hid (addT R0.2 1 [] = R):=⟨_,Lib.hid rfl⟩
 have HWt:=Lib.hid (show TyW C.sc R0.2 Rt 0 by rw [← HRt.out];exact addT_spec HW0.out.wf rfl (by simp))
 obtain ⟨Sg1,HSg1⟩ : ∃ R,Hid (sameT Rt.2 R0.1 Rt.1 = R):=⟨_,Lib.hid rfl⟩
 have HWs:=Lib.hid (show Wf arP Sg1.S ∧ Sg1.S.length = Rt.2.S.length ∧ Sg1.ns = Rt.2.ns by rw [← HSg1.out];exact sameT_spec HWt.out.wf (Nat.lt_of_lt_of_le HW0.out.lt HWt.out.le) HWt.out.lt)
 have HC1:=Lib.hid (show ∀ (w1 : World) (v1 : Value) (iz : List Nat) (nf1 nn : Nat),TyB B C W W0 v ix nf w1 v1 iz Sg1 nf1 env eA ec nn → TyW C.sc Sg1 (keepT (kindT C.sc k1 n1 m1 i1 (tyF C.sc s1.ex) env Sg1)) (s1.count + 1) ∧ Calls Tryz.prog 97 #[.pointer (some ⟨C.tb,0,none⟩),.agg #[.int .i64 k1,.string n1,.string m1,.int .i64 i1,.int .i64 d1,.slice A1 L1 c1],.slice eA env.length ec] w1 (ExB B C W W0 v ix nf iz (keepT (kindT C.sc k1 n1 m1 i1 (tyF C.sc s1.ex) env Sg1)) env eA ec (nn + (s1.count + 1))) from fun w1 v1 iz nf1 nn h1 => by
  have hnl' : Sg1.ns.length + s1.count ≤ 900000:=by have:=HCN.out.2;have:=tyw_nl HW0.out;have:=tyw_nl HWt.out;have:=congrArg List.length HWs.out.2.2;omega
  have:=h1.expr HE1.out h1.a.en h1.a.ea k1 n1 m1 i1 d1 A1 c1 (HS1.out _ _ h1.k) HX1.out.1 HX1.out.2 (by have:=HCN.out.1;omega) hnl'
  rw [HL1.out] at this
  exact this)
 obtain ⟨R1,HR1⟩ : ∃ R,Hid (keepT (kindT C.sc k1 n1 m1 i1 (tyF C.sc s1.ex) env Sg1) = R):=⟨_,Lib.hid rfl⟩
 rw [HR1.out] at HC1
 obtain ⟨z1,z2,z5,z6,z7,z8,z9,z10,z11,t6,t7,t8,t9,t10,t11⟩:=HSX.out _ _ HA.out.k
 go_wp2_with fail
 try rw [hW0]
 clear e0 e1 e2 e5
 refine (HC0.out _ _ _ _ _ HA.out).2.mono ?_
 rintro e w1 ⟨v1,y1,p1,nf1,rfl,hp1,hB1⟩
 clear z1 z2 z5 z6 z7 z8 z9 z10 z11 t6 t7 t8 t9 t10 t11
 have HB1:=Lib.hid (And.intro hp1 hB1)
 have HM1:=Lib.hid (show Calls _ _ _ _ _ from (hB1.made0 1 rfl).2)
 rw [HRt.out] at HM1
 clear hp1 hB1
 go_wp2_with fail
 refine HM1.out.mono ?_
 rintro e w2 ⟨b2,rfl,hb2,hB2⟩
 have HS2:=Lib.hid (hB2.same (a:=R0.1) (b:=Rt.1) (p:=p1) (Nat.lt_of_lt_of_le HW0.out.lt HWt.out.le) HWt.out.lt (blk_up HB1.out.1 (by rw [HB1.out.2.lt];exact HW0.out.lt)) hb2).2
 rw [HSg1.out] at HS2
 clear hb2 hB2 HM1
 go_wp2_with fail
 refine HS2.out.mono ?_
 rintro e w3 ⟨rfl,hB3⟩
 have HB3:=Lib.hid hB3
 obtain ⟨z1,z2,z5,z6,z7,z8,z9,z10,z11,t6,t7,t8,t9,t10,t11⟩:=HSX.out _ _ hB3.k
 clear hB3 HS2
 go_wp2_with fail
 refine (HC1.out _ _ _ _ _ HB3.out).2.mono ?_
 rintro e w4 ⟨v4,y4,p4,nf4,rfl,hp4,hB4⟩
 have HW1:=Lib.hid (HC1.out _ _ _ _ _ HB3.out).1
 obtain ⟨Ru,HRu⟩ : ∃ R,Hid (addT R1.2 1 [] = R):=⟨_,Lib.hid rfl⟩
 have HWu:=Lib.hid (show TyW C.sc R1.2 Ru 0 by rw [← HRu.out];exact addT_spec HW1.out.wf rfl (by simp))
 have HM4:=Lib.hid (show Calls _ _ _ _ _ from (hB4.made0 1 rfl).2)
 rw [HRu.out] at HM4
 have HB4:=Lib.hid (And.intro hp4 hB4)
 clear hp4 hB4 z1 z2 z5 z6 z7 z8 z9 z10 z11 t6 t7 t8 t9 t10 t11
 go_wp2_with fail
 refine HM4.out.mono ?_
 rintro e w5 ⟨b5,rfl,hb5,hB5⟩
 have HS5:=Lib.hid (hB5.same (a:=R1.1) (b:=Ru.1) (p:=p4) (Nat.lt_of_lt_of_le HW1.out.lt HWu.out.le) HWu.out.lt (blk_up HB4.out.1 (by rw [HB4.out.2.lt];exact HW1.out.lt)) hb5).2
 obtain ⟨Sg2,HSg2⟩ : ∃ R,Hid (sameT Ru.2 R1.1 Ru.1 = R):=⟨_,Lib.hid rfl⟩
 rw [HSg2.out] at HS5
 clear hb5 hB5 HM4
 go_wp2_with fail
 refine HS5.out.mono ?_
 rintro e w6 ⟨rfl,hB6⟩
 have HB6:=Lib.hid hB6
 obtain ⟨z1,z2,z5,z6,z7,z8,z9,z10,z11,t6,t7,t8,t9,t10,t11⟩:=HSX.out _ _ hB6.k
 clear hB6 HS5 z2 z5 z6 z7 z8 z9 z10 z11 t6 t7 t8 t9 t10 t11
 have HRR:=Lib.hid (show R = addT Sg2 (if n = ⟨#[61]⟩ ∨ n = ⟨#[60]⟩ then 2 else 1) [] by rw [← HR.out,← HSg2.out,← HRu.out,← HR1.out,← HSg1.out,← HRt.out,← HR0.out];rfl)
 have key : ∀ q : Int,arP q = 0 → (if n = (⟨#[61]⟩ : ByteArray) ∨ n = ⟨#[60]⟩ then 2 else 1) = q → Hid (R = addT Sg2 q [] ∧ Calls Tryz.prog 98 #[.int .i64 q,.slice none 0 0] w6 (AdB B C W W0 v ix nf _ _ (addT Sg2 q []) _ env eA ec _)):=fun q hq e => Lib.hid ⟨by rw [HRR.out,e],(HB6.out.made0 q hq).2⟩
 have b61 : (⟨#[61]⟩ : ByteArray).toList = [61]:=by rw [ByteArray.toList_eq]
 have b60 : (⟨#[60]⟩ : ByteArray).toList = [60]:=by rw [ByteArray.toList_eq]
 cases t61 : (n.toList == [61]) with
 | true =>
  have HQ:=key 2 rfl (if_pos (.inl (bytesEq (by rw [b61];exact t61))))
  clear key b61 b60
  go_wp2_with fail
  refine HQ.out.2.mono ?_
  rintro e w7 ⟨b7,rfl,hb7,hB7⟩
  have HRR:=Lib.hid HQ.out.1
  have HBz:=Lib.hid hB7
  have HP:=Lib.hid hb7
  clear hB7 hb7
  go_wp2
  go_ret
  rw [HRR.out]
  refine ⟨_,_,_,?_,HBz.out.p,HBz.out.a.ti,?_,(TyK.below HB.out).trans HBz.out.k⟩
  ·rw [nP,HP.out]
   rfl
  ·have:=HBz.out.n
   have:=HM.out
   simp only [Fo.count] at this
   omega
 | false =>
  have h61 : n ≠ ⟨#[61]⟩:=fun e => by rw [e,b61] at t61;cases t61
  cases t60 : (n.toList == [60]) with
  | true =>
   have HQ:=key 2 rfl (if_pos (.inr (bytesEq (by rw [b60];exact t60))))
   clear key b61 b60 h61
   go_wp2_with fail
   refine HQ.out.2.mono ?_
   rintro e w7 ⟨b7,rfl,hb7,hB7⟩
   have HRR:=Lib.hid HQ.out.1
   have HBz:=Lib.hid hB7
   have HP:=Lib.hid hb7
   clear hB7 hb7
   go_wp2
   go_ret
   rw [HRR.out]
   refine ⟨_,_,_,?_,HBz.out.p,HBz.out.a.ti,?_,(TyK.below HB.out).trans HBz.out.k⟩
   ·rw [nP,HP.out]
    rfl
   ·have:=HBz.out.n
    have:=HM.out
    simp only [Fo.count] at this
    omega
  | false =>
   have h60 : n ≠ ⟨#[60]⟩:=fun e => by rw [e,b60] at t60;cases t60
   have HQ:=key 1 rfl (if_neg (fun h => h.elim h61 h60))
   clear key b61 b60 h61 h60
   go_wp2_with fail
   refine HQ.out.2.mono ?_
   rintro e w7 ⟨b7,rfl,hb7,hB7⟩
   have HRR:=Lib.hid HQ.out.1
   have HBz:=Lib.hid hB7
   have HP:=Lib.hid hb7
   clear hB7 hb7
   go_wp2
   go_ret
   rw [HRR.out]
   refine ⟨_,_,_,?_,HBz.out.p,HBz.out.a.ti,?_,(TyK.below HB.out).trans HBz.out.k⟩
   ·rw [nP,HP.out]
    rfl
   ·have:=HBz.out.n
    have:=HM.out
    simp only [Fo.count] at this
    omega
end Go.Proofs.YtmmecapgnmlaiaaGreatDoor
