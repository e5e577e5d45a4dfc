/- infer: let (printed by gen_tym.py) -/
import Derived.Test.YtmmecapgnmlaiaaGreatDoorZxy
import Derived.Deep.DeepCutAuto
import Derived.Deep.RegionHeld3
import Derived.Test.YtmmecapgnmlaiaaGreatDoorZxx
import Derived.Test.YtmmecapgnmlaiaaGreatDoorTyn
import Derived.Test.YtmmecapgnmlaiaaGreatDoorTyo
import Derived.Test.YtmmecapgnmlaiaaGreatDoorTyp
import Derived.Test.YtmmecapgnmlaiaaGreatDoorTys
import Derived.Test.YtmmecapgnmlaiaaGreatDoorZya
import Derived.Test.YtmmecapgnmlaiaaGreatDoorIms
import Derived.Test.YtmmecapgnmlaiaaGreatDoorZxj
import Derived.Deep.QuietTactic
import Derived.BigQuiet
namespace Go.Proofs.YtmmecapgnmlaiaaGreatDoor
open Go Go.RowKit Go.Proofs Go.Proofs.Unify
set_option maxRecDepth 100000 in
set_option maxHeartbeats 8000000 in
theorem kind_8 {B : Nat} {C : TyC} {W X : World} {v : Value} {ix : List Nat} {σ : Tst} {nf : Nat} {env : Env} {eA : Option Addr} {ec : Nat} (n m : ByteArray) (i d : Int) (A : Option Addr) (c : Nat)
  (k0 : Int) (n0 m0 : ByteArray) (i0 d0 : Int) (A0 : Option Addr) (c0 : Nat) (s0 : Fo) (k1 : Int) (n1 m1 : ByteArray) (i1 d1 : Int) (A1 : Option Addr) (c1 : Nat) (s1 : Fo) (r : Fo)
  (E0 : ExprOK B s0) (E1 : ExprOK B s1)
  (ha : TyA B C W X v ix σ nf env eA ec) (hs : (Fo.cons k0 n0 m0 i0 d0 A0 c0 s0 (.cons k1 n1 m1 i1 d1 A1 c1 s1 r)).Sl X B A c) (hx : (Fo.cons k0 n0 m0 i0 d0 A0 c0 s0 (.cons k1 n1 m1 i1 d1 A1 c1 s1 r)).ex.Cok C.sc) (hro : (Fo.cons k0 n0 m0 i0 d0 A0 c0 s0 (.cons k1 n1 m1 i1 d1 A1 c1 s1 r)).Ro (fun k => k < B) C W)
  (hel : env.length + 2 * (Fo.cons k0 n0 m0 i0 d0 A0 c0 s0 (.cons k1 n1 m1 i1 d1 A1 c1 s1 r)).count ≤ 900000) (hnl : σ.ns.length + (Fo.cons k0 n0 m0 i0 d0 A0 c0 s0 (.cons k1 n1 m1 i1 d1 A1 c1 s1 r)).count ≤ 900000) :
  Calls Tryz.prog 157 #[.pointer (some ⟨C.tb,0,none⟩),.agg #[.int .i64 8,.string n,.string m,.int .i64 i,.int .i64 d,.slice A (Fo.cons k0 n0 m0 i0 d0 A0 c0 s0 (.cons k1 n1 m1 i1 d1 A1 c1 s1 r)).len c],.slice eA env.length ec] X (TyP (fun k => k < B) C X v ix nf (letT (fun env σ => keepT (kindT C.sc k0 n0 m0 i0 (tyF C.sc s0.ex) env σ)) (fun env σ => keepT (kindT C.sc k1 n1 m1 i1 (tyF C.sc s1.ex) env σ)) n env σ) ((Fo.cons k0 n0 m0 i0 d0 A0 c0 s0 (.cons k1 n1 m1 i1 d1 A1 c1 s1 r)).count + 1)):=by
 have hxB : B ≤ X.heap.size:=by
  rcases Nat.lt_or_ge X.heap.size B with h | h
  ·have h1:=ha.ti.dlt _ h;have h2:=ha.ti.tn;omega
  ·exact h
 obtain ⟨hsl,hsc,hsm⟩:=hs
 obtain ⟨b,o,rfl,hbB,hat⟩:=hsm (by intro e;cases e)
 obtain ⟨N,HN⟩ : ∃ N,Hid ((Fo.cons k0 n0 m0 i0 d0 A0 c0 s0 (.cons k1 n1 m1 i1 d1 A1 c1 s1 r)).len = N):=⟨_,Lib.hid rfl⟩
 have hN : 2 ≤ N:=by rw [← HN.out];simp [Fo.len]
 have hNm : N ≤ maxLen:=by rw [← HN.out];omega
 have hN0 : 0 < N:=by omega
 have hN1 : (1 : Int) < (N : Int):=by omega
 rw [HN.out]
 obtain ⟨L0,HL0⟩ : ∃ L,Hid (s0.len = L):=⟨_,Lib.hid rfl⟩
 obtain ⟨L1,HL1⟩ : ∃ L,Hid (s1.len = L):=⟨_,Lib.hid rfl⟩
 obtain ⟨q0a,q0b,q0c,q0d,q0e,⟨q0f,q0l⟩,hat⟩:=hat
 obtain ⟨q1a,q1b,q1c,q1d,q1e,⟨q1f,q1l⟩,hat⟩:=hat
 have hx0 : (Fo.cons k0 n0 m0 i0 d0 A0 c0 s0 .nil).ex.Cok C.sc:=⟨hx.1,hx.2.1,hx.2.2.1,trivial⟩
 have hr0 : (Fo.cons k0 n0 m0 i0 d0 A0 c0 s0 .nil).Ro (fun k => k < B) C W:=⟨hro.1,hro.2.1,trivial⟩
 have hs0 : s0.Sl X B A0 c0:=q0l
 rw [HL0.out] at q0f
 have hx1 : (Fo.cons k1 n1 m1 i1 d1 A1 c1 s1 .nil).ex.Cok C.sc:=⟨hx.2.2.2.1,hx.2.2.2.2.1,hx.2.2.2.2.2.1,trivial⟩
 have hr1 : (Fo.cons k1 n1 m1 i1 d1 A1 c1 s1 .nil).Ro (fun k => k < B) C W:=⟨hro.2.2.1,hro.2.2.2.1,trivial⟩
 have hs1 : s1.Sl X B A1 c1:=q1l
 rw [HL1.out] at q1f
 obtain ⟨W0,hW0⟩ : ∃ W0,X.alloc (.cells #[.int .i64 8,.string n,.string m,.int .i64 i,.int .i64 d,.slice (some ⟨b,o,none⟩) N c] 44) = W0:=⟨_,rfl⟩
 have hb0 : Below X.heap.size X W0:=by subst hW0;exact (Below.refl _ _).alloc (Nat.le_refl _) _
 have hrb : W0.heap[X.heap.size]? = some (.cells #[.int .i64 8,.string n,.string m,.int .i64 i,.int .i64 d,.slice (some ⟨b,o,none⟩) N c] 44 (0,0)):=by subst hW0;exact heap_alloc_new X _
 have e0:=cell_of_row W0 X.heap.size 0 _ _ (0,0) hrb
 have e1:=cell_of_row W0 X.heap.size 1 _ _ (0,0) hrb
 have e2:=cell_of_row W0 X.heap.size 2 _ _ (0,0) hrb
 have e5:=cell_of_row W0 X.heap.size 5 _ _ (0,0) hrb
 simp at e0 e1 e2 e5
 have hA:=TyB.start (ha.below hb0)
 have hcell : ∀ q u,X.cell? ⟨b,q,none⟩ = some u → W0.cell? ⟨b,q,none⟩ = some u:=fun q u h => (hb0.cell (p:=⟨b,q,none⟩) (by show b < X.heap.size;omega)).trans h
 have HSX:=Lib.hid (show ∀ (Y : World) (v' : Value),TyK (fun k => k < B) C W0 v Y v' → Y.cell? ⟨X.heap.size,1,none⟩ = some (.string n) ∧ Y.cell? ⟨X.heap.size,2,none⟩ = some (.string m) ∧ Y.cell? ⟨X.heap.size,5,none⟩ = some (.slice (some ⟨b,o,none⟩) N c) ∧ Y.cell? ⟨b,o,none⟩ = some (.int .i64 k0) ∧ Y.cell? ⟨b,o + 1,none⟩ = some (.string n0) ∧ Y.cell? ⟨b,o + 2,none⟩ = some (.string m0) ∧ Y.cell? ⟨b,o + 3,none⟩ = some (.int .i64 i0) ∧ Y.cell? ⟨b,o + 4,none⟩ = some (.int .i64 d0) ∧ Y.cell? ⟨b,o + 5,none⟩ = some (.slice A0 L0 c0) ∧ Y.cell? ⟨b,o + 6,none⟩ = some (.int .i64 k1) ∧ Y.cell? ⟨b,o + 7,none⟩ = some (.string n1) ∧ Y.cell? ⟨b,o + 8,none⟩ = some (.string m1) ∧ Y.cell? ⟨b,o + 9,none⟩ = some (.int .i64 i1) ∧ Y.cell? ⟨b,o + 10,none⟩ = some (.int .i64 d1) ∧ Y.cell? ⟨b,o + 11,none⟩ = some (.slice A1 L1 c1) from fun Y v' hk => by
  have hcY : ∀ q u,X.cell? ⟨b,q,none⟩ = some u → Y.cell? ⟨b,q,none⟩ = some u:=fun q u h => (hk.cell hA.a.ti hbB).trans (hcell q u h)
  have hrY:=hk.box hA.a.ti hrb (by decide)
  have y1:=cell_of_row Y X.heap.size 1 _ _ (0,0) hrY
  have y2:=cell_of_row Y X.heap.size 2 _ _ (0,0) hrY
  have y5:=cell_of_row Y X.heap.size 5 _ _ (0,0) hrY
  simp at y1 y2 y5
  exact ⟨y1,y2,y5,hcY _ _ q0a,hcY _ _ q0b,hcY _ _ q0c,hcY _ _ q0d,hcY _ _ q0e,hcY _ _ q0f,hcY _ _ q1a,hcY _ _ q1b,hcY _ _ q1c,hcY _ _ q1d,hcY _ _ q1e,hcY _ _ q1f⟩)
 have HB:=Lib.hid hb0
 have HS0:=Lib.hid (show ∀ (Y : World) (v' : Value),TyK (fun k => k < B) C W0 v Y v' → s0.Sl Y B A0 c0 from fun Y v' hk => TyK.sl hA.a.ti hk (hs0.keep (Nat.le_refl _) fun p hp => hb0.cell (by omega)))
 have HX0:=Lib.hid (And.intro hx0 hr0)
 have HE0:=Lib.hid E0
 have HS1:=Lib.hid (show ∀ (Y : World) (v' : Value),TyK (fun k => k < B) C W0 v Y v' → s1.Sl Y B A1 c1 from fun Y v' hk => TyK.sl hA.a.ti hk (hs1.keep (Nat.le_refl _) fun p hp => hb0.cell (by omega)))
 have HX1:=Lib.hid (And.intro hx1 hr1)
 have HE1:=Lib.hid E1
 have HCN:=Lib.hid (And.intro hel hnl)
 simp only [Fo.count] at HCN
 obtain ⟨R,HR⟩ : ∃ R,Hid (letT (fun env σ => keepT (kindT C.sc k0 n0 m0 i0 (tyF C.sc s0.ex) env σ)) (fun env σ => keepT (kindT C.sc k1 n1 m1 i1 (tyF C.sc s1.ex) env σ)) n env σ = R):=⟨_,Lib.hid rfl⟩
 rw [HR.out]
 obtain ⟨M,HM⟩ : ∃ M,Hid ((Fo.cons k0 n0 m0 i0 d0 A0 c0 s0 (.cons k1 n1 m1 i1 d1 A1 c1 s1 r)).count + 1 = M):=⟨_,Lib.hid rfl⟩
 rw [HM.out]
 have HA:=Lib.hid hA
 clear ha hx hro hat hs0 hA hcell hrb hb0 hsl hsc hsm hel hnl hx0 hr0 E0 q0a q0b q0c q0d q0e q0f q0l hx1 hr1 E1 q1a q1b q1c q1d q1e q1f q1l
 clear hs1
 go_enter Tryz.func157,Tryz.ntmps157
 have HC0:=Lib.hid (show ∀ (w1 : World) (v1 : Value) (iz : List Nat) (nf1 nn : Nat),TyB B C W W0 v ix nf w1 v1 iz σ nf1 env eA ec nn → TyW C.sc σ (keepT (kindT C.sc k0 n0 m0 i0 (tyF C.sc s0.ex) env σ)) (s0.count + 1) ∧ Calls Tryz.prog 97 #[.pointer (some ⟨C.tb,0,none⟩),.agg #[.int .i64 k0,.string n0,.string m0,.int .i64 i0,.int .i64 d0,.slice A0 L0 c0],.slice eA env.length ec] w1 (ExB B C W W0 v ix nf iz (keepT (kindT C.sc k0 n0 m0 i0 (tyF C.sc s0.ex) env σ)) env eA ec (nn + (s0.count + 1))) from fun w1 v1 iz nf1 nn h1 => by
  have hnl' : σ.ns.length + s0.count ≤ 900000:=by have:=HCN.out.2;skip;omega
  have:=h1.expr HE0.out h1.a.en h1.a.ea k0 n0 m0 i0 d0 A0 c0 (HS0.out _ _ h1.k) HX0.out.1 HX0.out.2 (by have:=HCN.out.1;omega) hnl'
  rw [HL0.out] at this
  exact this)
 obtain ⟨R0,HR0⟩ : ∃ R,Hid (keepT (kindT C.sc k0 n0 m0 i0 (tyF C.sc s0.ex) env σ) = R):=⟨_,Lib.hid rfl⟩
 rw [HR0.out] at HC0
 have HW0:=Lib.hid (HC0.out _ _ _ _ _ HA.out).1
 obtain ⟨NE,HNE⟩ : ∃ N,Hid ((env ++ [(n,R0.1)]).length = N):=⟨_,Lib.hid rfl⟩
 have HC1:=Lib.hid (show ∀ (w1 : World) (v1 : Value) (iz : List Nat) (nf1 nn : Nat) (eA1 : Option Addr) (ec1 : Nat),TyB B C W W0 v ix nf w1 v1 iz R0.2 nf1 env eA ec nn → EnvOk (env ++ [(n,R0.1)]) R0.2 → EnvA (TyE C v1) w1 iz eA1 ec1 (env ++ [(n,R0.1)]) → TyW C.sc R0.2 (keepT (kindT C.sc k1 n1 m1 i1 (tyF C.sc s1.ex) (env ++ [(n,R0.1)]) R0.2)) (s1.count + 1) ∧ Calls Tryz.prog 97 #[.pointer (some ⟨C.tb,0,none⟩),.agg #[.int .i64 k1,.string n1,.string m1,.int .i64 i1,.int .i64 d1,.slice A1 L1 c1],.slice eA1 NE ec1] w1 (ExB B C W W0 v ix nf iz (keepT (kindT C.sc k1 n1 m1 i1 (tyF C.sc s1.ex) (env ++ [(n,R0.1)]) R0.2)) env eA ec (nn + (s1.count + 1))) from fun w1 v1 iz nf1 nn eA1 ec1 h1 hen hea => by
  have hnl' : R0.2.ns.length + s1.count ≤ 900000:=by have:=HCN.out.2;have:=tyw_nl HW0.out;omega
  have:=h1.expr HE1.out hen hea k1 n1 m1 i1 d1 A1 c1 (HS1.out _ _ h1.k) HX1.out.1 HX1.out.2 (by have:=HCN.out.1;simp only [List.length_append,List.length_cons,List.length_nil];omega) hnl'
  rw [HL1.out,HNE.out] at this
  exact this)
 obtain ⟨R1,HR1⟩ : ∃ R,Hid (keepT (kindT C.sc k1 n1 m1 i1 (tyF C.sc s1.ex) (env ++ [(n,R0.1)]) R0.2) = R):=⟨_,Lib.hid rfl⟩
 rw [HR1.out] at HC1
 obtain ⟨z1,z2,z5,z6,z7,z8,z9,z10,z11,t6,t7,t8,t9,t10,t11⟩:=HSX.out _ _ HA.out.k
 go_wp2_with fail
 try rw [hW0]
 clear e0 e1 e2 e5
 refine (HC0.out _ _ _ _ _ HA.out).2.mono ?_
 rintro e w1 ⟨v1,y1,p1,nf1,rfl,hp1,hB1⟩
 clear z1 z2 z5 z6 z7 z8 z9 z10 z11 t6 t7 t8 t9 t10 t11
 have HWI:=Lib.hid (show ∀ (Z : World) (g : Nat),Below w1.heap.size w1 Z → Z.cell? ⟨g,0,none⟩ = some (.string n) → Z.cell? ⟨g,1,none⟩ = some (.pointer (some ⟨p1,0,none⟩)) → _ from fun Z g hZ h0 h1 => hB1.with1 hZ (a:=R0.1) hp1 (by have:=HCN.out.1;omega) h0 h1 HNE.out)
 have HEN:=Lib.hid (show EnvOk (env ++ [(n,R0.1)]) R0.2 from hB1.a.en.snoc HW0.out.lt)
 have HF:=Lib.hid (show ∀ (Y : World),(Y.cell? ⟨X.heap.size,1,none⟩ = some (.string n) ∧ Y.cell? ⟨X.heap.size,2,none⟩ = some (.string m) ∧ Y.cell? ⟨X.heap.size,5,none⟩ = some (.slice (some ⟨b,o,none⟩) N c) ∧ Y.cell? ⟨b,o,none⟩ = some (.int .i64 k0) ∧ Y.cell? ⟨b,o + 1,none⟩ = some (.string n0) ∧ Y.cell? ⟨b,o + 2,none⟩ = some (.string m0) ∧ Y.cell? ⟨b,o + 3,none⟩ = some (.int .i64 i0) ∧ Y.cell? ⟨b,o + 4,none⟩ = some (.int .i64 d0) ∧ Y.cell? ⟨b,o + 5,none⟩ = some (.slice A0 L0 c0) ∧ Y.cell? ⟨b,o + 6,none⟩ = some (.int .i64 k1) ∧ Y.cell? ⟨b,o + 7,none⟩ = some (.string n1) ∧ Y.cell? ⟨b,o + 8,none⟩ = some (.string m1) ∧ Y.cell? ⟨b,o + 9,none⟩ = some (.int .i64 i1) ∧ Y.cell? ⟨b,o + 10,none⟩ = some (.int .i64 d1) ∧ Y.cell? ⟨b,o + 11,none⟩ = some (.slice A1 L1 c1)) → (Y.cell? ⟨X.heap.size,1,none⟩ = some (.string n) ∧ Y.cell? ⟨X.heap.size,5,none⟩ = some (.slice (some ⟨b,o,none⟩) N c) ∧ Y.cell? ⟨b,o + 6,none⟩ = some (.int .i64 k1) ∧ Y.cell? ⟨b,o + 7,none⟩ = some (.string n1) ∧ Y.cell? ⟨b,o + 8,none⟩ = some (.string m1) ∧ Y.cell? ⟨b,o + 9,none⟩ = some (.int .i64 i1) ∧ Y.cell? ⟨b,o + 10,none⟩ = some (.int .i64 d1) ∧ Y.cell? ⟨b,o + 11,none⟩ = some (.slice A1 L1 c1)) from fun Y h => ⟨h.1,h.2.2.1,h.2.2.2.2.2.2.2.2.2.1,h.2.2.2.2.2.2.2.2.2.2.1,h.2.2.2.2.2.2.2.2.2.2.2.1,h.2.2.2.2.2.2.2.2.2.2.2.2.1,h.2.2.2.2.2.2.2.2.2.2.2.2.2.1,h.2.2.2.2.2.2.2.2.2.2.2.2.2.2⟩)
 go_upto_region 22 with fail
 go_region_held3 (fun Y => Y.cell? ⟨X.heap.size,1,none⟩ = some (.string n) ∧ Y.cell? ⟨X.heap.size,5,none⟩ = some (.slice (some ⟨b,o,none⟩) N c) ∧ Y.cell? ⟨b,o + 6,none⟩ = some (.int .i64 k1) ∧ Y.cell? ⟨b,o + 7,none⟩ = some (.string n1) ∧ Y.cell? ⟨b,o + 8,none⟩ = some (.string m1) ∧ Y.cell? ⟨b,o + 9,none⟩ = some (.int .i64 i1) ∧ Y.cell? ⟨b,o + 10,none⟩ = some (.int .i64 d1) ∧ Y.cell? ⟨b,o + 11,none⟩ = some (.slice A1 L1 c1))
  (first | exact HF.out _ (HSX.out _ _ hB2.k) | exact HF.out _ (HSX.out _ _ (hB1.below hbv).k) | exact HF.out _ (HSX.out _ _ (hB1.below (by repeat (first | with_reducible exact Below.refl _ _ | with_reducible refine below_al ?_ _ | with_reducible refine below_dr ?_))).k))
  (first
   | (go_at_call 215;(refine Calls.mono (HWI.out _ w1.heap.size ?_ ?_ ?_) ?_);(focus (repeat (first | with_reducible exact Below.refl _ _ | with_reducible refine below_al ?_ _ | with_reducible refine below_dr ?_)));(focus go_simp);(focus go_simp);rintro e wv ⟨vAX,vcX,rfl,hsv,hbv⟩)
   | (go_at_call 97;refine (HC1.out _ _ _ _ _ _ _ (hB1.below hbv) HEN.out hsv).2.mono ?_;rintro e w2 ⟨v2,y2,p2,nf2,rfl,hp2,hB2⟩))
 all_goals (
  have HBz:=Lib.hid hB2
  have HP:=Lib.hid hp2
  have HRR:=Lib.hid (show R = R1 by rw [← HR.out,← HR1.out,← HR0.out];rfl)
  clear hB1 hB2 hp1 hp2 hsv hbv
  go_wp2
  go_ret
  rw [HRR.out]
  refine ⟨v2,_,nf2,?_,HBz.out.p,HBz.out.a.ti,?_,(TyK.below HB.out).trans HBz.out.k⟩
  ·rw [nP,HP.out]
   rfl
  ·have:=HBz.out.n
   have:=HM.out
   simp only [Fo.count] at this
   omega)
end Go.Proofs.YtmmecapgnmlaiaaGreatDoor
/- infer: the typer at any expression -/
namespace Go.Proofs.YtmmecapgnmlaiaaGreatDoor
open Go Go.RowKit Go.Proofs Go.Proofs.Unify
theorem TyP.mono {D : Nat → Prop} {C : TyC} {X Y : World} {v : Value} {ix : List Nat} {nf : Nat} {R : Nat × Tst} {n n' : Nat} {e : Ending} (h : TyP D C X v ix nf R n e Y) (hn : n ≤ n') : TyP D C X v ix nf R n' e Y:=by
 obtain ⟨v',ix',nf',h1,h2,h3,h4,h5⟩:=h
 exact ⟨v',ix',nf',h1,h2,h3,by omega,h5⟩
theorem kind_all {B : Nat} {s : Fo} (hE : s.All (ExprOK B)) : KindOK B s:=by
 intro C W X v ix σ nf env eA ec k n m i d A c ha hs hok hr hx hro hrf hel hnl
 have one : 1 ≤ s.len → ∃ k0 n0 m0 i0 d0 A0 c0 s0 r,s = .cons k0 n0 m0 i0 d0 A0 c0 s0 r:=fun h => by
  cases s with
  | nil => simp [Fo.len] at h
  | cons k0 n0 m0 i0 d0 A0 c0 s0 r => exact ⟨_,_,_,_,_,_,_,_,_,rfl⟩
 have two : 2 ≤ s.len → ∃ k0 n0 m0 i0 d0 A0 c0 s0 k1 n1 m1 i1 d1 A1 c1 s1 r,s = .cons k0 n0 m0 i0 d0 A0 c0 s0 (.cons k1 n1 m1 i1 d1 A1 c1 s1 r):=fun h => by
  cases s with
  | nil => simp [Fo.len] at h
  | cons k0 n0 m0 i0 d0 A0 c0 s0 r =>
   cases r with
   | nil => simp [Fo.len] at h
   | cons k1 n1 m1 i1 d1 A1 c1 s1 r => exact ⟨_,_,_,_,_,_,_,_,_,_,_,_,_,_,_,_,_,rfl⟩
 have three : 3 ≤ s.len → ∃ k0 n0 m0 i0 d0 A0 c0 s0 k1 n1 m1 i1 d1 A1 c1 s1 k2 n2 m2 i2 d2 A2 c2 s2 r,s = .cons k0 n0 m0 i0 d0 A0 c0 s0 (.cons k1 n1 m1 i1 d1 A1 c1 s1 (.cons k2 n2 m2 i2 d2 A2 c2 s2 r)):=fun h => by
  cases s with
  | nil => simp [Fo.len] at h
  | cons k0 n0 m0 i0 d0 A0 c0 s0 r =>
   cases r with
   | nil => simp [Fo.len] at h
   | cons k1 n1 m1 i1 d1 A1 c1 s1 r =>
    cases r with
    | nil => simp [Fo.len] at h
    | cons k2 n2 m2 i2 d2 A2 c2 s2 r => exact ⟨_,_,_,_,_,_,_,_,_,_,_,_,_,_,_,_,_,_,_,_,_,_,_,_,_,rfl⟩
 by_cases e1 : k = 1
 ·subst e1
  exact (kind_1 n m i d A s.len c ha).mono fun _ _ h => h.mono (by omega)
 by_cases e2 : k = 2
 ·subst e2
  exact (kind_2 n m i d A s.len c ha).mono fun _ _ h => h.mono (by omega)
 by_cases e14 : k = 14
 ·subst e14
  exact (kind_14 n m i d A s.len c ha).mono fun _ _ h => h.mono (by omega)
 by_cases e11 : k = 11
 ·subst e11
  exact (kind_11 n m i d A s.len c ha).mono fun _ _ h => h.mono (by omega)
 by_cases e3 : k = 3
 ·subst e3
  exact (kind_3 n m i d A s.len c ha (by omega)).mono fun _ _ h => h.mono (by omega)
 by_cases e5 : k = 5
 ·subst e5
  exact (kind_5 n m i d A s.len c ha (hr rfl)).mono fun _ _ h => h.mono (by omega)
 by_cases e6 : k = 6
 ·subst e6
  obtain ⟨k0,n0,m0,i0,d0,A0,c0,s0,r,rfl⟩:=one (hok.1 rfl)
  exact kind_6 n m i d A c k0 n0 m0 i0 d0 A0 c0 s0 r hE.1 ha hs hx hro hel hnl
 by_cases e7 : k = 7
 ·subst e7
  obtain ⟨k0,n0,m0,i0,d0,A0,c0,s0,k1,n1,m1,i1,d1,A1,c1,s1,r,rfl⟩:=two (hok.2.1 (.inl rfl))
  exact kind_7 n m i d A c k0 n0 m0 i0 d0 A0 c0 s0 k1 n1 m1 i1 d1 A1 c1 s1 r hE.1 hE.2.1 ha hs hx hro hel hnl
 by_cases e8 : k = 8
 ·subst e8
  obtain ⟨k0,n0,m0,i0,d0,A0,c0,s0,k1,n1,m1,i1,d1,A1,c1,s1,r,rfl⟩:=two (hok.2.1 (.inr (.inr (.inr rfl))))
  exact kind_8 n m i d A c k0 n0 m0 i0 d0 A0 c0 s0 k1 n1 m1 i1 d1 A1 c1 s1 r hE.1 hE.2.1 ha hs hx hro hel hnl
 by_cases e9 : k = 9
 ·subst e9
  obtain ⟨k0,n0,m0,i0,d0,A0,c0,s0,k1,n1,m1,i1,d1,A1,c1,s1,k2,n2,m2,i2,d2,A2,c2,s2,r,rfl⟩:=three (hok.2.2 (.inl rfl))
  exact kind_9 n m i d A c k0 n0 m0 i0 d0 A0 c0 s0 k1 n1 m1 i1 d1 A1 c1 s1 k2 n2 m2 i2 d2 A2 c2 s2 r hE.1 hE.2.1 hE.2.2.1 ha hs hx hro hel hnl
 by_cases e10 : k = 10
 ·subst e10
  obtain ⟨k0,n0,m0,i0,d0,A0,c0,s0,k1,n1,m1,i1,d1,A1,c1,s1,r,rfl⟩:=two (hok.2.1 (.inr (.inl rfl)))
  exact kind_10 n m i d A c k0 n0 m0 i0 d0 A0 c0 s0 k1 n1 m1 i1 d1 A1 c1 s1 r hE.1 hE.2.1 ha hs hx hro hel hnl
 by_cases e12 : k = 12
 ·subst e12
  obtain ⟨k0,n0,m0,i0,d0,A0,c0,s0,k1,n1,m1,i1,d1,A1,c1,s1,r,rfl⟩:=two (hok.2.1 (.inr (.inr (.inl rfl))))
  exact kind_12 n m i d A c k0 n0 m0 i0 d0 A0 c0 s0 k1 n1 m1 i1 d1 A1 c1 s1 r hE.1 hE.2.1 ha hs hx hro hel hnl
 by_cases e13 : k = 13
 ·subst e13
  obtain ⟨k0,n0,m0,i0,d0,A0,c0,s0,k1,n1,m1,i1,d1,A1,c1,s1,k2,n2,m2,i2,d2,A2,c2,s2,r,rfl⟩:=three (hok.2.2 (.inr rfl))
  exact kind_13 n m i d A c k0 n0 m0 i0 d0 A0 c0 s0 k1 n1 m1 i1 d1 A1 c1 s1 k2 n2 m2 i2 d2 A2 c2 s2 r hE.1 hE.2.1 hE.2.2.1 ha hs hx hro hel hnl
 have hT : kindT C.sc k n m i (tyF C.sc s.ex) env σ = addT σ 5 []:=by
  unfold kindT
  rw [if_neg e1,if_neg (fun h => h.elim e2 e14),if_neg e11,if_neg e3,if_neg e5,if_neg e6,if_neg e7,if_neg e8,if_neg e9,if_neg e10,if_neg e12,if_neg e13]
 rw [hT]
 exact (kind_no k n m i d A s.len c ha ⟨e1,e2,e14,e11,e3,e5,e6,e7,e8,e9,e10,e12,e13⟩).mono fun _ _ h => h.mono (by omega)
theorem expr_all (B : Nat) (s : Fo) : ExprOK B s:=Fo.by_parts (fun _ h => expr_step (kind_all h)) s
end Go.Proofs.YtmmecapgnmlaiaaGreatDoor
/- infer: the typer between groups; its start at a group -/
namespace Go.Proofs.YtmmecapgnmlaiaaGreatDoor
open Go Go.RowKit Go.Proofs Go.Proofs.Unify
def IntsA (w : World) (B : Nat) (A : Option Addr) (c : Nat) (l : List Int) : Prop:=
 l.length ≤ c ∧ c ≤ maxLen ∧ (l ≠ [] → ∃ g o,A = some ⟨g,o,none⟩ ∧ g < B ∧ ∀ j i,l[j]? = some i → w.cell? ⟨g,o + j,none⟩ = some (.int .i64 i))
structure TyR (B : Nat) (C : TyC) (W X : World) (nf : Nat) : Prop where
 box : ∃ gv nv f,X.heap[C.tb]? = some (.cells #[C.c0,C.c1,C.c2,C.c3,.map (some C.sb),gv,nv,.map (some C.fb),.bool f] 95 (0,0))
 sm : ∃ N g,MapA intK X C.sb N g ∧ ∀ a,intK.ok a → ∃ q A c,(g a).getD zeroSch = .agg #[.int .i64 q,.int .i64 (C.sc.sch a).1,.int .i64 (C.sc.sch a).2.1,.slice A (C.sc.sch a).2.2.len c] ∧ (C.sc.sch a).2.2.Sl X (PT (fun k => k < B) X) A c
 fm : ∃ g,MapA nameK X C.fb nf g ∧ ∀ a,nameK.ok a → g a = none ∨ ∃ q A c,g a = some (.agg #[.int .i64 q,.int .i64 (C.sc.frn a).1,.int .i64 (C.sc.frn a).2.1,.slice A (C.sc.frn a).2.2.len c]) ∧ (C.sc.frn a).2.2.Sl X (PT (fun k => k < B) X) A c
 old : ∀ k,k < B → X.heap[k]? = W.heap[k]?
 bs : B ≤ X.heap.size
 dt : B ≤ C.tb
 df : B ≤ C.fb
def TyC.at_ (C : TyC) (gb n0 : Nat) (group : List Int) (j : Nat) : TyC:={ C with gb:=gb,n0:=n0,sc:=⟨grp (group.take j) 0,C.sc.sch,C.sc.frn⟩ }
def TyE0 (C : TyC) (k : Nat) : Prop:=k = C.tb ∨ k = C.fb
section
variable {B : Nat} {C : TyC} {W X Y : World} {nf : Nat}
def stW (C : TyC) (X : World) : World:=(((X.alloc (.map #[] 0)).setCell ⟨C.tb,5,none⟩ (.map (some X.heap.size))).setCell ⟨C.tb,6,none⟩ (.slice none 0 0)).setCell ⟨C.tb,8,none⟩ (.bool false)
theorem TyR.start (h : TyR B C W X nf) (group : List Int) : TyI (fun k => k < B) (C.at_ X.heap.size X.heap.size group 0) (stW C X) (.slice none 0 0) [] ⟨[],[],false⟩ nf ∧ MapA intK (stW C X) X.heap.size 0 (fun _ => none) ∧ Kx (fun k => k < B) (TyE0 C) X (stW C X) ∧ (∀ k,k ≠ C.tb → k < X.heap.size → (stW C X).heap[k]? = X.heap[k]?):=by
 obtain ⟨gv,nv,f,hbx⟩:=h.box
 obtain ⟨Ns,gs,hs1,hs2⟩:=h.sm
 obtain ⟨gf,hf1,hf2⟩:=h.fm
 have hbl:=lt_of_block hbx
 have hb1 : (X.alloc (.map #[] 0)).heap[C.tb]? = some (.cells #[C.c0,C.c1,C.c2,C.c3,.map (some C.sb),gv,nv,.map (some C.fb),.bool f] 95 (0,0)):=(Below.heap_alloc _ _ _ hbl).trans hbx
 have hb2 : (stW C X).heap[C.tb]? = some (.cells #[C.c0,C.c1,C.c2,C.c3,.map (some C.sb),.map (some X.heap.size),.slice none 0 0,.map (some C.fb),.bool false] 95 (0,0)):=heap_set (heap_set (heap_set hb1 _) _) _
 have hsame1 : ∀ k,k ≠ C.tb → (stW C X).heap[k]? = (X.alloc (.map #[] 0)).heap[k]?:=fun k hk => (Below.heap_setCell _ _ _ _ hk).trans ((Below.heap_setCell _ _ _ _ hk).trans (Below.heap_setCell _ _ _ _ hk))
 have hsame : ∀ k,k ≠ C.tb → k < X.heap.size → (stW C X).heap[k]? = X.heap[k]?:=fun k hk hl => (hsame1 k hk).trans (Below.heap_alloc _ _ _ hl)
 have hsz : (stW C X).heap.size = X.heap.size + 1:=by simp [stW,World.setCell]
 have hmn : (stW C X).heap[X.heap.size]? = some (.map #[] 0):=(hsame1 _ (by omega)).trans (heap_alloc_new X _)
 have hgm : MapA intK (stW C X) X.heap.size 0 (fun _ => none):=(MapA.made intK X).keep (hsame1 _ (by omega))
 have hne : ∀ {α : Type} {K : KeyT α} {b N : Nat} {g : α → Option Value},MapA K X b N g → b ≠ C.tb:=fun hm e => by
  obtain ⟨n,Dd,⟨es,cl,h1,_⟩,_⟩:=hm
  rw [e,hbx] at h1
  cases h1
 have km : ∀ {α : Type} {K : KeyT α} {b N : Nat} {g : α → Option Value},MapA K X b N g → MapA K (stW C X) b N g:=fun hm => hm.keep (hsame _ (hne hm) hm.lt)
 have htT : ¬ TgT X C.tb:=fun ⟨cur,fz,h2⟩ => by rw [hbx] at h2;simp at h2
 have pt : ∀ k,PT (fun k => k < B) X k → (stW C X).heap[k]? = X.heap[k]? ∧ PT (fun k => k < B) (stW C X) k:=fun k hp => by
  have hk : k ≠ C.tb:=fun e => by
   subst e
   exact hp.elim (fun h' => by have:=h.dt;omega) htT
  have hl : k < X.heap.size:=hp.elim (fun h' => by have:=h.bs;omega) (fun ht => ht.lt)
  have e:=hsame k hk hl
  exact ⟨e,hp.imp id fun ht => (TgT.congr e).2 ht⟩
 refine ⟨⟨hb2,World.ownsRow_nil _ _ _ _,⟨[],Hv.refl _,rfl,List.nodup_nil,by simp,fun k hk => ?_,fun k hk => ?_,fun i x hx => by simp at hx,fun i x hx => by simp at hx⟩,⟨0,MapA.cong hgm fun a _ => rfl⟩,⟨Ns,gs,km hs1,fun a ha => ?_⟩,⟨gf,km hf1,fun a ha => ?_⟩,by simp,by simp [TyC.at_,grp],fun k hk => by have:=h.bs;show k < X.heap.size;omega,by show X.heap.size ≤ _;omega,fun hk => by have:=h.dt;simp only [TyC.at_] at hk;omega,fun hk => by have:=h.df;simp only [TyC.at_] at hk;omega⟩,hgm,?_,hsame⟩
 ·rcases hk with hk | hk | hk
  ·subst hk;exact lt_of_block hb2
  ·subst hk;exact (km hf1).lt
  ·cases hk
 ·rcases hk with hk | hk | hk
  ·subst hk;exact TgN.not hb2 (by decide)
  ·subst hk;exact (km hf1).not.1
  ·cases hk
 ·obtain ⟨q,A,c,e,hsl⟩:=hs2 a ha
  exact ⟨q,A,c,e,hsl.keep (fun k hp => (pt k hp).1) fun k hp => (pt k hp).2⟩
 ·rcases hf2 a ha with e | ⟨q,A,c,e,hsl⟩
  ·exact .inl e
  ·exact .inr ⟨q,A,c,e,hsl.keep (fun k hp => (pt k hp).1) fun k hp => (pt k hp).2⟩
 ·exact Kx.turn (b:=C.tb) rfl rfl rfl (by omega) (fun k hk e => hsame k e hk) (fun _ => .inl rfl) (fun _ => TgN.not hbx (by decide))
theorem TyI.fill {gb n0 : Nat} {group : List Int} (h : TyI (fun k => k < B) (C.at_ gb n0 group 0) X (.slice none 0 0) [] ⟨[],[],false⟩ nf) (hgbt : gb ≠ C.tb ∧ gb ≠ C.fb ∧ gb ≠ C.sb) (hgX : ¬ TgT X gb) (hgB : B ≤ gb) (hsz : X.heap.size ≤ Y.heap.size) (hs : ∀ k,k < X.heap.size → k ≠ gb → Y.heap[k]? = X.heap[k]?)
  {ix : List Nat} {S : St} (hst : StH (fun k => k < B) (fun k => TyE0 C k ∨ k = gb) Y ix S (fun _ => 0)) {N : Nat} (hgm : MapA intK Y gb N (vsF ix (grp group 0))) (hS : group.length = S.length) :
  TyI (fun k => k < B) (C.at_ gb n0 group group.length) Y (.slice none 0 0) ix ⟨S,[],false⟩ nf:=by
 obtain ⟨Ns,gs,hs1,hs2⟩:=h.sm
 obtain ⟨gf,hf1,hf2⟩:=h.fm
 have ht : group.take group.length = group:=List.take_length
 have pt : ∀ k,PT (fun k => k < B) X k → Y.heap[k]? = X.heap[k]? ∧ PT (fun k => k < B) Y k:=fun k hp => by
  have hk : k ≠ gb:=fun e => by
   subst e
   exact hp.elim (fun h' => by omega) hgX
  have hl : k < X.heap.size:=hp.elim (fun h' => by have:=h.dlt k h';have:=h.tn;omega) (fun ht => ht.lt)
  have e:=hs k hl hk
  exact ⟨e,hp.imp id fun ht => (TgT.congr e).2 ht⟩
 refine ⟨(hs _ (lt_of_block h.box) (Ne.symm hgbt.1)).trans h.box,World.ownsRow_nil _ _ _ _,hst.shift (Nat.le_refl _) (fun _ _ _ => rfl) (fun k hk => .inl ?_) (fun k hk => ?_),⟨N,?_⟩,⟨Ns,gs,hs1.keep (hs _ hs1.lt (Ne.symm hgbt.2.2)),fun a ha => ?_⟩,⟨gf,hf1.keep (hs _ hf1.lt (Ne.symm hgbt.2.1)),fun a ha => ?_⟩,by simp,fun x hx => ?_,h.dlt,Nat.le_trans h.tn hsz,h.dt,h.df⟩
 ·rcases hk with hk | hk | hk
  ·exact .inl (.inl hk)
  ·exact .inl (.inr hk)
  ·cases hk
 ·refine hst.not k ?_
  rcases hk with hk | hk | hk
  ·exact .inl (.inl hk)
  ·exact .inl (.inr hk)
  ·cases hk
 ·show MapA intK Y gb N (vsF ix (grp (group.take group.length) 0))
  rw [ht]
  exact hgm
 ·obtain ⟨q,A,c,e,hsl⟩:=hs2 a ha
  exact ⟨q,A,c,e,hsl.keep (fun k hp => (pt k hp).1) fun k hp => (pt k hp).2⟩
 ·rcases hf2 a ha with e | ⟨q,A,c,e,hsl⟩
  ·exact .inl e
  ·exact .inr ⟨q,A,c,e,hsl.keep (fun k hp => (pt k hp).1) fun k hp => (pt k hp).2⟩
 ·change x ∈ grp (group.take group.length) 0 at hx
  rw [ht] at hx
  have:=(grp_mem hx).2.2
  show x.2 < S.length
  omega
end
theorem grp_snoc (a : Int) : ∀ (l : List Int) (j : Nat),grp (l ++ [a]) j = grp l j ++ [(a,j + l.length)]
 | [],j => by simp [grp]
 | b :: l,j => by
  simp only [List.cons_append,grp,grp_snoc a l (j + 1),List.length_cons]
  rw [show j + 1 + l.length = j + (l.length + 1) by omega]
theorem grp_none {a : Int} : ∀ {l : List Int} {j : Nat},a ∉ l → (grp l j).lookup a = none
 | [],_,_ => rfl
 | b :: l,j,h => by
  unfold grp
  rw [List.lookup_cons]
  have : (a == b) = false:=by
   rw [beq_eq_false_iff_ne]
   intro e
   exact h (e ▸ List.mem_cons_self)
  rw [this]
  exact grp_none fun hm => h (List.mem_cons_of_mem _ hm)
end Go.Proofs.YtmmecapgnmlaiaaGreatDoor
/- infer: what typer.find's loops keep -/
namespace Go.Proofs.YtmmecapgnmlaiaaGreatDoor
open Go Go.RowKit Go.Proofs Go.Proofs.Unify
def Dc.de (x : Dc) : De:=⟨x.id,x.kind,x.k,x.n,x.m,x.i,x.s.ex⟩
def nd0 : Unify.Nd:=⟨none,5,[],0⟩
structure FillI (B : Nat) (C : TyC) (W1 : World) (gb : Nat) (group : List Int) (j : Nat) (ix : List Nat) (w : World) : Prop where
 st : StH (fun k => k < B) (fun k => TyE0 C k ∨ k = gb) w ix (List.replicate j nd0) (fun _ => 0)
 gm : MapA intK w gb j (vsF ix (grp (group.take j) 0))
 size : W1.heap.size ≤ w.heap.size
 os : w.os = W1.os
 tape : w.tape = W1.tape
 output : w.output = W1.output
 same : ∀ k,k < W1.heap.size → k ≠ gb → w.heap[k]? = W1.heap[k]?
section
variable {B : Nat} {C : TyC} {W X Y W1 w : World} {nf gb j : Nat} {group : List Int} {ix : List Nat}
theorem TyR.ne (h : TyR B C W X nf) : C.tb < X.heap.size ∧ C.fb < X.heap.size ∧ C.sb < X.heap.size:=by
 obtain ⟨gv,nv,f,hbx⟩:=h.box
 obtain ⟨N,g,hs,_⟩:=h.sm
 obtain ⟨g',hf,_⟩:=h.fm
 exact ⟨lt_of_block hbx,hf.lt,hs.lt⟩
theorem FillI.start (h : TyR B C W X nf) (group : List Int) : FillI B C (stW C X) X.heap.size group 0 [] (stW C X):=by
 obtain ⟨hI,hm,hk,_⟩:=h.start group
 refine ⟨?_,MapA.cong hm (fun a _ => rfl),Nat.le_refl _,rfl,rfl,rfl,fun _ _ _ => rfl⟩
 refine ⟨[],Hv.refl _,rfl,List.nodup_nil,by simp,fun k hk => ?_,fun k hk => ?_,fun i x hx => by simp at hx,fun i x hx => by simp at hx⟩
 ·rcases hk with (rfl | rfl) | rfl
  ·exact lt_of_block hI.box
  ·obtain ⟨g,hf,_⟩:=hI.fm;exact hf.lt
  ·exact hm.lt
 ·rcases hk with (rfl | rfl) | rfl
  ·exact TgN.not hI.box (by decide)
  ·obtain ⟨g,hf,_⟩:=hI.fm;exact hf.not.1
  ·exact hm.not.1
theorem FillI.below (h : FillI B C W1 gb group j ix w) (hb : Below w.heap.size w Y) : FillI B C W1 gb group j ix Y:=
 ⟨h.st.keep hb,h.gm.keep (hb.block gb h.gm.lt),Nat.le_trans h.size hb.size,hb.os.trans h.os,hb.tape.trans h.tape,hb.output.trans h.output,fun k hk hg => (hb.block k (Nat.lt_of_lt_of_le hk h.size)).trans (h.same k hk hg)⟩
theorem FillI.step (h : FillI B C W1 gb group j ix w) {a : Int} (ha : group[j]? = some a) (hn : group.Nodup) (hok : intK.ok a) (hj : j < maxLen) (_hd : ∀ k,k < B → k < w.heap.size) {e : Ending} (hu : NewP (fun k => k < B) (fun k => TyE0 C k ∨ k = gb) w ix (List.replicate j nd0) 5 [] e Y) :
  ∃ b,e = .returned (.pointer (some ⟨b,0,none⟩)) ∧ Below w.heap.size w Y ∧ ∃ Z,(Instr.mapUpdate 91 (.map (some gb)) (.int .i64 a) (.pointer (some ⟨b,0,none⟩))).run Tryz.prog Y = .ok () Z ∧ FillI B C W1 gb group (j + 1) (ix ++ [b]) Z:=by
 obtain ⟨b,rfl,hst,hb⟩:=hu
 refine ⟨b,rfl,hb,?_⟩
 obtain ⟨Z,hrun,hm,hg⟩:=(h.gm.keep (hb.block gb h.gm.lt)).put (t:=91) Tryz.undNodeM hj hok (nP b)
 have hlen : ix.length = j:=by rw [h.st.len];simp
 have hjl : j < group.length:=(List.getElem?_eq_some_iff.1 ha).1
 have hz : Y.heap.size ≤ Z.heap.size:=hg.size
 have hsame : ∀ k,k < Y.heap.size → k ≠ gb → Z.heap[k]? = Y.heap[k]?:=fun k hk hne => hg.block k hk (fun e => hne (Option.some.inj e))
 have ht : group.take (j + 1) = group.take j ++ [a]:=by rw [List.take_add_one,ha];rfl
 have htl : (group.take j).length = j:=by rw [List.length_take];omega
 have hna : a ∉ group.take j:=fun hm => by
  rw [← List.take_append_drop (j + 1) group,ht,List.nodup_append] at hn
  have:=(List.nodup_append.1 hn.1).2.2 a hm a (by simp)
  exact this rfl
 refine ⟨Z,hrun,?_,MapA.cong hm (fun x hx => ?_),Nat.le_trans h.size (Nat.le_trans hb.size hz),?_,?_,?_,fun k hk hne => ?_⟩
 ·rw [List.replicate_succ']
  refine hst.shift hz (fun k hk hM => hsame k hk fun e => hM (.inr e)) (fun k hk => .inl hk) (fun k hk => ?_)
  have h1:=hst.not k hk
  refine ⟨Nat.lt_of_lt_of_le h1.1 hz,?_⟩
  by_cases e : k = gb
  ·subst e;exact hm.not.1
  ·exact fun ht => h1.2 ((TgN.congr (hsame k h1.1 e)).1 ht)
 ·rw [ht,grp_snoc,htl,Nat.zero_add]
  have hl : (grp (group.take j) 0).lookup a = none:=grp_none hna
  have e1:=congrFun (vsF_put (ix:=ix ++ [b]) (i:=j) hl) x
  rw [← e1,vsF_app (y:=[b]) (fun y hy => by have:=(grp_mem hy).2.2;omega)]
  have : blk (ix ++ [b]) j = b:=by rw [← hlen,blk_new]
  rw [this]
 ·exact hg.os.trans (hb.os.trans h.os)
 ·exact hg.tape.trans (hb.tape.trans h.tape)
 ·exact hg.output.trans (hb.output.trans h.output)
 ·exact (hsame k (Nat.lt_of_lt_of_le hk (Nat.le_trans h.size hb.size)) hne).trans ((hb.block k (Nat.lt_of_lt_of_le hk h.size)).trans (h.same k hk hne))
theorem FillI.done (hR : TyR B C W X nf) (h : FillI B C (stW C X) X.heap.size group group.length ix w) : TyB B (C.at_ X.heap.size X.heap.size group group.length) W w (.slice none 0 0) ix nf w (.slice none 0 0) ix (startT group.length) nf [] none 0 0 ∧ Kx (fun k => k < B) (TyE0 C) X w:=by
 obtain ⟨hI,hm,hk,hs⟩:=hR.start group
 have hl:=hR.ne
 have hbs:=hR.bs
 have hF:=hI.fill (Y:=w) (group:=group) (S:=List.replicate group.length nd0) ⟨by omega,by omega,by omega⟩ hm.not.2 hbs h.size h.same h.st (by have:=h.gm;rw [List.take_length] at this;exact this) (by simp)
 have hkx : Kx (fun k => k < B) (TyE0 C) X w:=by
  refine hk.trans (E':=fun k => k = X.heap.size) ?_ (fun k hk e => by omega)
  exact Kx.turn (b:=X.heap.size) h.os h.tape h.output h.size h.same (fun _ => rfl) (fun _ => hm.not.1)
 refine ⟨TyB.start ⟨hF,?_,fun x hx => (by cases hx),EnvA.nil _ _ _,fun k hk => ?_⟩,hkx⟩
 ·exact start_wf _
 ·have e1:=hkx.block k (by omega) (.inl hk) (fun he => by rcases he with rfl | rfl;exact absurd hR.dt (by omega);exact absurd hR.df (by omega))
  exact e1.trans (hR.old k hk)
theorem TyI.toR {n0 : Nat} {σ : Tst} {v : Value} {nf' : Nat} (hR : TyR B C W X nf) {gb : Nat} (h : TyI (fun k => k < B) (C.at_ gb n0 group j) w v ix σ nf') (hk : Kx (fun k => k < B) (TyE0 C) X w) : TyR B C W w nf':=by
 refine ⟨⟨_,_,_,h.box⟩,h.sm,h.fm,fun k hb => ?_,Nat.le_trans hR.bs hk.size,hR.dt,hR.df⟩
 have hbs:=hR.bs
 have e1:=hk.block k (by omega) (.inl hb) (fun he => by rcases he with rfl | rfl;exact absurd hR.dt (by omega);exact absurd hR.df (by omega))
 exact e1.trans (hR.old k hb)
theorem TyR.kn (hR : TyR B C W X nf) (hk : Kn (fun k => k < B) X Y) : TyR B C W Y nf:=by
 obtain ⟨gv,nv,f,hbx⟩:=hR.box
 obtain ⟨Ns,gs,hs1,hs2⟩:=hR.sm
 obtain ⟨gf,hf1,hf2⟩:=hR.fm
 have hbs:=hR.bs
 have pt : ∀ k,PT (fun k => k < B) X k → Y.heap[k]? = X.heap[k]? ∧ PT (fun k => k < B) Y k:=fun k hp => by
  have hl : k < X.heap.size:=hp.elim (fun h' => by omega) (fun ht => ht.lt)
  have e:=hk.block k hl (hp.imp id fun ht => ht.not)
  exact ⟨e,hp.imp id fun ht => (TgT.congr e).2 ht⟩
 have kp : ∀ k,k < X.heap.size → ¬ TgN X k → Y.heap[k]? = X.heap[k]?:=fun k hl hn => hk.block k hl (.inr hn)
 refine ⟨⟨gv,nv,f,hk.box hbx (by decide)⟩,⟨Ns,gs,hs1.keep (kp _ hs1.lt hs1.not.1),fun a ha => ?_⟩,⟨gf,hf1.keep (kp _ hf1.lt hf1.not.1),fun a ha => ?_⟩,fun k hb => (hk.block k (by omega) (.inl hb)).trans (hR.old k hb),Nat.le_trans hbs hk.size,hR.dt,hR.df⟩
 ·obtain ⟨q,A,c,e,hsl⟩:=hs2 a ha
  exact ⟨q,A,c,e,hsl.keep (fun k hp => (pt k hp).1) fun k hp => (pt k hp).2⟩
 ·rcases hf2 a ha with e | ⟨q,A,c,e,hsl⟩
  ·exact .inl e
  ·exact .inr ⟨q,A,c,e,hsl.keep (fun k hp => (pt k hp).1) fun k hp => (pt k hp).2⟩
structure MsI (B : Nat) (C : TyC) (W X : World) (gb : Nat) (group : List Int) (v : Value) (ix : List Nat) (σ : Tst) (nf : Nat) (sz : Nat → Int) (w : World) : Prop where
 r : TyR B C W w nf
 box : w.heap[C.tb]? = some (.cells #[C.c0,C.c1,C.c2,C.c3,.map (some C.sb),.map (some gb),v,.map (some C.fb),.bool σ.fl] 95 (0,0))
 row : w.ownsRow X.heap.size 144 1 v σ.ns.length (σ.ns.map fun j => nP (blk ix j))
 gm : ∃ N,MapA intK w gb N (vsF ix (grp group 0))
 st : StH (fun k => k < B) (fun _ => False) w ix σ.S sz
 kx : Kx (fun k => k < B) (TyE0 C) X w
 wf : Wf arP σ.S
 mem : ∀ j ∈ σ.ns,j < σ.S.length
theorem MsI.of {v : Value} {σ : Tst} {nf' : Nat} {w2 : World} {nfa n : Nat} {ixa : List Nat} (hR : TyR B C W X nf) (hk0 : Kx (fun k => k < B) (TyE0 C) X w2) (h : TyB B (C.at_ X.heap.size X.heap.size group group.length) W w2 (.slice none 0 0) ixa nfa w v ix σ nf' [] none 0 n) : MsI B C W X X.heap.size group v ix σ nf' (fun _ => 0) w:=by
 have hkx : Kx (fun k => k < B) (TyE0 C) X w:=hk0.trans h.k.kx fun k hk he => by
  rcases he with he | he | he
  ·exact .inl he
  ·exact .inr he
  ·cases he
 refine ⟨h.a.ti.toR hR hkx,h.a.ti.box,h.a.ti.row,?_,h.a.ti.st.shift (Nat.le_refl _) (fun _ _ _ => rfl) (fun k hk => hk.elim) (fun k hk => hk.elim),hkx,h.a.wf,h.a.ti.mem⟩
 obtain ⟨N,hN⟩:=h.a.ti.gm
 refine ⟨N,?_⟩
 have : (C.at_ X.heap.size X.heap.size group group.length).sc.G = grp group 0:=by show grp (group.take group.length) 0 = _;rw [List.take_length]
 rw [this] at hN
 exact hN
theorem MsI.kn {v : Value} {σ : Tst} {sz sz' : Nat → Int} (h : MsI B C W X gb group v ix σ nf sz w) (hk : Kn (fun k => k < B) w Y) (hst : StH (fun k => k < B) (fun _ => False) Y ix σ.S sz') : MsI B C W X gb group v ix σ nf sz' Y:=by
 refine ⟨h.r.kn hk,hk.box h.box (by decide),?_,?_,hst,h.kx.trans (hk.x (fun _ => False)) (fun _ _ h => h.elim),h.wf,h.mem⟩
 ·refine ⟨h.row.1,?_⟩
  rcases h.row.2 with h' | ⟨g,cap,cur,e1,e2,e3,e4⟩
  ·exact .inl h'
  ·exact .inr ⟨g,cap,cur,e1,e2,hk.box e3 (by decide),e4⟩
 ·obtain ⟨N,hN⟩:=h.gm
  exact ⟨N,hN.keep (hk.block _ hN.lt (.inr hN.not.1))⟩
theorem MsI.measure {v : Value} {σ : Tst} {sz : Nat → Int} (h : MsI B C W X gb group v ix σ nf sz w) (hb : Bd sz) {i : Nat} (hi : i < σ.S.length) :
  Calls Tryz.prog 99 #[nP (blk ix i)] w fun e Y => e = .returned (.bool (ms σ.S (σ.S.length + 1) i sz).1) ∧ MsI B C W X gb group v ix σ nf (ms σ.S (σ.S.length + 1) i sz).2 Y:=by
 refine (measure_any arP arP_le σ.S h.wf ix σ.S.length i sz w hi ?_ hb h.st).mono ?_
 ·unfold nz
  exact Nat.le_trans List.countP_le_length (by rw [List.length_range];exact Nat.le_refl _)
 ·rintro e Y ⟨rfl,h1,h2⟩
  exact ⟨rfl,h.kn h2 h1⟩
theorem MsI.find {v : Value} {σ : Tst} {sz : Nat → Int} (h : MsI B C W X gb group v ix σ nf sz w) {i : Nat} (hi : i < σ.S.length) :
  Calls Tryz.prog 100 #[nP (blk ix i)] w fun e Y => e = .returned (.pointer (some ⟨blk ix (rt σ.S i),0,none⟩)) ∧ MsI B C W X gb group v ix σ nf sz Y ∧ Y.cell? ⟨blk ix (rt σ.S i),3,none⟩ = some (.int .i64 (sz (rt σ.S i))):=by
 refine (find_any h.wf hi h.st).mono ?_
 rintro e Y ⟨rfl,h1,h2⟩
 refine ⟨rfl,h.kn h2 h1,?_⟩
 obtain ⟨x,hx1,_⟩:=rt_top h.wf hi
 obtain ⟨u,A,c,hh,_⟩:=h1.at_ hx1
 exact (row4 hh).2.2.2.1
end
theorem TyB.after {B : Nat} {C : TyC} {W W0 X Y : World} {v0 v v' : Value} {ix0 ix ix' : List Nat} {σ σ' : Tst} {nf0 nf nf' : Nat} {env : Env} {eA : Option Addr} {ec n m : Nat} (h : TyB B C W W0 v0 ix0 nf0 X v ix σ nf env eA ec n) (g : TyB B C W X v ix nf Y v' ix' σ' nf' env eA ec m) : TyB B C W W0 v0 ix0 nf0 Y v' ix' σ' nf' env eA ec (n + m):=by
 obtain ⟨y,hy⟩:=h.p
 obtain ⟨z,hz⟩:=g.p
 refine ⟨g.a,h.k.trans g.k,⟨y ++ z,by rw [hz,hy,List.append_assoc]⟩,?_⟩
 have:=h.n
 have:=g.n
 omega
theorem TyB.le {B : Nat} {C : TyC} {W W0 X : World} {v0 v : Value} {ix0 ix : List Nat} {σ : Tst} {nf0 nf : Nat} {env : Env} {eA : Option Addr} {ec n m : Nat} (h : TyB B C W W0 v0 ix0 nf0 X v ix σ nf env eA ec n) (hm : n ≤ m) : TyB B C W W0 v0 ix0 nf0 X v ix σ nf env eA ec m:=
 ⟨h.a,h.k,h.p,by have:=h.n;omega⟩
theorem TyB.drN {B : Nat} {C : TyC} {W W0 X : World} {v0 v : Value} {ix0 ix : List Nat} {σ : Tst} {nf0 nf : Nat} {env : Env} {eA : Option Addr} {ec n : Nat} (h : TyB B C W W0 v0 ix0 nf0 X v ix σ nf env eA ec n) (q : Nat) : TyB B C W W0 v0 ix0 nf0 (X.drewN q) v ix σ nf env eA ec n:=h.below (below_drewNi X q)
theorem declsT_snoc (sc : Sc) (d : De) : ∀ (l : List De) (σ : Tst),declsT sc (l ++ [d]) σ = declT sc d (declsT sc l σ)
 | [],_ => rfl
 | x :: l,σ => declsT_snoc sc d l (declT sc x σ)
theorem cntD_app : ∀ (l l' : List De),cntD (l ++ l') = cntD l + cntD l'
 | [],l' => by simp [cntD]
 | x :: l,l' => by simp only [List.cons_append,cntD,cntD_app l l'];omega
theorem cntD_take (l : List De) (j : Nat) (d : De) (h : l[j]? = some d) : cntD (l.take (j + 1)) = cntD (l.take j) + (d.s.cnt + 1) ∧ cntD (l.take (j + 1)) ≤ cntD l:=by
 have e : l.take (j + 1) = l.take j ++ [d]:=by rw [List.take_add_one,h];rfl
 constructor
 ·rw [e,cntD_app];simp [cntD]
 ·have:=cntD_app (l.take (j + 1)) (l.drop (j + 1))
  rw [List.take_append_drop] at this
  omega
theorem declsT_take (sc : Sc) (l : List De) (j : Nat) (d : De) (h : l[j]? = some d) (σ : Tst) : declsT sc (l.take (j + 1)) σ = declT sc d (declsT sc (l.take j) σ):=by
 rw [← declsT_snoc,List.take_add_one,h]
 rfl
theorem grp_get : ∀ (l : List Int) (j i : Nat),(grp l j)[i]? = (l[i]?).map fun a => (a,j + i)
 | [],_,_ => by simp [grp]
 | a :: l,j,0 => by simp [grp]
 | a :: l,j,i + 1 => by simp only [grp,List.getElem?_cons_succ,grp_get l (j + 1) i];rw [show j + 1 + i = j + (i + 1) by omega]
theorem declsT_dc {sc : Sc} {ds : List De} {group : List Int} (hok : ∀ d ∈ ds,d.Ok sc) (hG : sc.G = grp group 0) : DcW (startT group.length) (declsT sc ds (startT group.length)) (cntD ds):=by
 have hsl : (startT group.length).S.length = group.length:=List.length_replicate
 exact (declsT_spec hok (start_wf _) (fun x hx => by rw [hG] at hx;have:=(grp_mem hx).2.2;omega) (fun j hj => by cases hj)).1
theorem declsT_len {sc : Sc} {ds : List De} {n : Nat} {group : List Int} (hok : ∀ d ∈ ds,d.Ok sc) (hG : sc.G = grp group 0) (hn : n = group.length:=by rfl) : (declsT sc ds (startT n)).ns.length ≤ cntD ds:=by
 subst hn
 obtain ⟨l,h1,h2,_⟩:=(declsT_dc hok hG).ns
 rw [h1]
 simpa [startT] using h2
theorem msA_cons (S : St) (n : Nat) (l : List Nat) (sz : Nat → Int) : msA S (n :: l) sz = if (ms S (S.length + 1) n sz).1 = true then msA S l (ms S (S.length + 1) n sz).2 else (false,(ms S (S.length + 1) n sz).2):=rfl
theorem MsI.vs {B : Nat} {C : TyC} {W X w : World} {gb nf : Nat} {group : List Int} {v : Value} {ix : List Nat} {σ : Tst} {sz : Nat → Int} (h : MsI B C W X gb group v ix σ nf sz w) : ∃ A c,v = .slice A σ.ns.length c ∧ σ.ns.length ≤ maxLen ∧ (σ.ns ≠ [] → ∃ g,A = some ⟨g,0,none⟩):=by
 rcases h.row.2 with ⟨e,e2⟩ | ⟨g,cap,cur,e1,e2,e3,e4,e5,_⟩
 ·exact ⟨none,0,by rw [e,e2],by omega,fun hne => absurd (List.length_eq_zero_iff.1 e2) hne⟩
 ·exact ⟨_,cap,e1,by omega,fun _ => ⟨g,rfl⟩⟩
theorem MsI.at_ {B : Nat} {C : TyC} {W X w : World} {gb nf : Nat} {group : List Int} {g n c : Nat} {ix : List Nat} {σ : Tst} {sz : Nat → Int} (h : MsI B C W X gb group (.slice (some ⟨g,0,none⟩) n c) ix σ nf sz w) {j i : Nat} (hj : σ.ns[j]? = some i) : w.cell? ⟨g,j,none⟩ = some (.pointer (some ⟨blk ix i,0,none⟩)):=by
 have hr:=h.row
 have hn : n = σ.ns.length:=by
  obtain ⟨A,c',e,_⟩:=h.vs
  cases e
  rfl
 subst hn
 rw [hr.cellAt j (by have:=(List.getElem?_eq_some_iff.1 hj).1;omega),List.getElem?_map,hj]
 rfl
structure FoI (B : Nat) (X : World) (group : List Int) (S : St) (ix : List Nat) (sz : Nat → Int) (w4 : World) (mb q : Nat) (w : World) : Prop where
 kn : Kn (fun k => k < B) w4 w
 st : StH (fun k => k < B) (fun k => k = mb) w ix S sz
 mp : ∃ g,MapA intK w mb q g ∧ ∀ x ∈ (grp group 0).take q,∃ A c,g x.1 = some (.agg #[.int .i64 (schT S x).2.1,.int .i64 (schT S x).2.2.1,.int .i64 (schT S x).2.2.2.1,.slice A (schT S x).2.2.2.2.len c]) ∧ (schT S x).2.2.2.2.Sl w (fun k => X.heap.size ≤ k ∧ TgT w k) A c
 hm : w4.heap.size ≤ mb
 hx : X.heap.size ≤ w4.heap.size
section
variable {B : Nat} {X w4 w Y : World} {group : List Int} {S : St} {ix : List Nat} {sz : Nat → Int} {mb q : Nat}
theorem FoI.start (hst : StH (fun k => k < B) (fun _ => False) w4 ix S sz) (hx : X.heap.size ≤ w4.heap.size) : FoI B X group S ix sz w4 w4.heap.size 0 (w4.alloc (.map #[] 0)):=by
 have hm:=MapA.made intK w4
 refine ⟨Kn.alloc _ _,?_,⟨_,hm,fun x hx => by simp at hx⟩,Nat.le_refl _,hx⟩
 exact hst.shift (by simp) (fun k hk _ => Below.heap_alloc _ _ _ hk) (fun k hk => .inr (by omega)) (fun k hk => by subst hk;exact ⟨hm.lt,hm.not.1⟩)
theorem FoI.kn_ (h : FoI B X group S ix sz w4 mb q w) (hk : Kn (fun k => k < B) w Y) (hst : StH (fun k => k < B) (fun k => k = mb) Y ix S sz) : FoI B X group S ix sz w4 mb q Y:=by
 obtain ⟨g,hg,hx⟩:=h.mp
 refine ⟨h.kn.trans hk,hst,⟨g,hg.keep (hk.block _ hg.lt (.inr hg.not.1)),fun x hm => ?_⟩,h.hm,h.hx⟩
 obtain ⟨A,c,e,hsl⟩:=hx x hm
 have pt : ∀ k,TgT w k → Y.heap[k]? = w.heap[k]?:=fun k ht => hk.block k ht.lt (.inr ht.not)
 exact ⟨A,c,e,hsl.keep (fun k hp => pt k hp.2) fun k hp => ⟨hp.1,(TgT.congr (pt k hp.2)).2 hp.2⟩⟩
theorem FoI.below (h : FoI B X group S ix sz w4 mb q w) (hb : Below w.heap.size w Y) : FoI B X group S ix sz w4 mb q Y:=h.kn_ (Kn.below hb) (h.st.keep hb)
theorem FoI.build (h : FoI B X group S ix sz w4 mb q w) (hw : Wf arP S) {i : Nat} (hi : i < S.length) (hb : Bl S 201 i) {w2 : World} (hb2 : Below (w.alloc (.map #[] 0)).heap.size (w.alloc (.map #[] 0)) w2) :
  Calls Tryz.prog 101 #[.pointer (some ⟨blk ix i,0,none⟩),.map (some w.heap.size)] w2 (fun e w3 => ∃ A c,e = .returned (.agg #[.int .i64 (bT S 201 i []).1.1,.int .i64 (bT S 201 i []).1.2.1,.slice A (bT S 201 i []).1.2.2.len c]) ∧ (bT S 201 i []).1.2.2.Sl w3 (fun k => X.heap.size ≤ k ∧ TgT w3 k) A c ∧ NmM w3 w.heap.size ix (bT S 201 i []).2 ∧ FoI B X group S ix sz w4 mb q w3):=by
 have hb1 : Below w.heap.size w w2:=((Below.refl _ _).alloc (Nat.le_refl _) _).trans (hb2.mono (by simp))
 have h2:=h.below hb1
 have hnm : NmM w2 w.heap.size ix []:=(NmM.made w ix).keep (hb2.block _ (by simp))
 have hst : StH (fun k => k < B) (fun k => k = mb ∨ k = w.heap.size) w2 ix S sz:=h.st.shift hb1.size (fun k hk _ => hb1.block k hk) (fun k hk => hk.elim .inl fun hk => .inr (by omega)) (fun k hk => ?_)
 ·refine (build_any arP arP_le S hw ix sz w.heap.size 201 _ i [] w2 (.inr rfl) hi hb (by simp) hst hnm).mono ?_
  rintro e w3 ⟨A,c,rfl,hsl,hst3,hnm3,hk3⟩
  have hk : Kn (fun k => k < B) w w3:=((Kn.below hb1).x (fun k => k = w.heap.size)).trans hk3 (fun _ _ e => e) |>.new (fun k hk => by omega)
  have hsz : X.heap.size ≤ w2.heap.size:=by have:=h.hx;have:=h.kn.size;have:=hb1.size;omega
  refine ⟨A,c,rfl,hsl.keep (fun _ _ => rfl) (fun k hp => ⟨Nat.le_trans hsz hp.1,hp.2⟩),hnm3,h.kn_ hk (hst3.shift (Nat.le_refl _) (fun _ _ _ => rfl) (fun k hk => .inl (.inl hk)) (fun k hk => hst3.not k (.inl hk)))⟩
 ·rcases hk with rfl | rfl
  ·exact h2.st.not _ rfl
  ·exact ⟨hnm.lt,hnm.not⟩
theorem FoI.put (h : FoI B X group S ix sz w4 mb q w) {a : Int} (ha : group[q]? = some a) (hn : group.Nodup) (hok : intK.ok a) (hq : q < maxLen) {A : Option Addr} {c : Nat} (hsl : (bT S 201 q []).1.2.2.Sl w (fun k => X.heap.size ≤ k ∧ TgT w k) A c) :
  ∃ Z,(Instr.mapUpdate 88 (.map (some mb)) (.int .i64 a) (.agg #[.int .i64 ((bT S 201 q []).2.length : Int),.int .i64 (bT S 201 q []).1.1,.int .i64 (bT S 201 q []).1.2.1,.slice A (bT S 201 q []).1.2.2.len c])).run Tryz.prog w = .ok () Z ∧ FoI B X group S ix sz w4 mb (q + 1) Z:=by
 obtain ⟨g,hg,hx⟩:=h.mp
 obtain ⟨Z,hrun,hm,hgr⟩:=hg.put (t:=88) Tryz.undSchemeM hq hok (.agg #[.int .i64 ((bT S 201 q []).2.length : Int),.int .i64 (bT S 201 q []).1.1,.int .i64 (bT S 201 q []).1.2.1,.slice A (bT S 201 q []).1.2.2.len c])
 have hz : w.heap.size ≤ Z.heap.size:=hgr.size
 have hsame : ∀ k,k < w.heap.size → k ≠ mb → Z.heap[k]? = w.heap[k]?:=fun k hk hne => hgr.block k hk (fun e => hne (Option.some.inj e))
 have pt : ∀ k,TgT w k → Z.heap[k]? = w.heap[k]?:=fun k ht => hsame k ht.lt fun e => hg.not.2 (e ▸ ht)
 have hql : q < group.length:=(List.getElem?_eq_some_iff.1 ha).1
 have hgq : (grp group 0)[q]? = some (a,q):=by rw [grp_get,ha];simp
 have kx : Kx (fun k => k < B) (fun k => k = mb) w Z:=Kx.turn (b:=mb) hgr.os hgr.tape hgr.output hz (fun k hk hne => hsame k hk hne) (fun _ => rfl) (fun _ => hg.not.1)
 refine ⟨Z,hrun,(h.kn.x (fun k => k = mb)).trans kx (fun _ _ e => e) |>.new (fun k hk => by have:=h.hm;omega),h.st.shift hz (fun k hk hne => hsame k hk hne) (fun k hk => .inl hk) (fun k hk => by subst hk;exact ⟨hm.lt,hm.not.1⟩),⟨_,hm,fun x hxm => ?_⟩,h.hm,h.hx⟩
 have ht : (grp group 0).take (q + 1) = (grp group 0).take q ++ [(a,q)]:=by rw [List.take_add_one,hgq];rfl
 rw [ht] at hxm
 rcases List.mem_append.1 hxm with h' | h'
 ·obtain ⟨A',c',e,hsl'⟩:=hx x h'
  have hne : x.1 ≠ a:=fun e => by
   have h1:=grp_look (j:=0) hn x (List.mem_of_mem_take h')
   have h2:=grp_look (j:=0) hn (a,q) (List.mem_of_getElem? hgq)
   rw [e] at h1
   rw [h1] at h2
   obtain ⟨i,hi,e3⟩:=List.getElem_of_mem h'
   have hi' : i < q:=by rw [List.length_take] at hi;omega
   have h3 : (grp group 0)[i]? = some x:=by rw [← List.getElem?_take_of_lt hi',List.getElem?_eq_getElem hi,e3]
   rw [grp_get] at h3
   cases h4 : group[i]? with
   | none => rw [h4] at h3;cases h3
   | some y => rw [h4] at h3;cases h3;simp at h2;omega
  refine ⟨A',c',by simp only [if_neg hne];exact e,hsl'.keep (fun k hp => pt k hp.2) fun k hp => ⟨hp.1,(TgT.congr (pt k hp.2)).2 hp.2⟩⟩
 ·obtain rfl:=List.mem_singleton.1 h'
  exact ⟨A,c,by simp only [if_pos];rfl,hsl.keep (fun k hp => pt k hp.2) fun k hp => ⟨hp.1,(TgT.congr (pt k hp.2)).2 hp.2⟩⟩
end
end Go.Proofs.YtmmecapgnmlaiaaGreatDoor
/- infer: typer.find -/
namespace Go.Proofs.YtmmecapgnmlaiaaGreatDoor
open Go Go.RowKit Go.Proofs Go.Proofs.Unify
theorem row9f {W : World} {b : Nat} {t : TypeId} {c0 c1 c2 c3 c4 c5 c6 c7 c8 : Value} (h : W.heap[b]? = some (.cells #[c0,c1,c2,c3,c4,c5,c6,c7,c8] t (0,0))) :
  W.cell? ⟨b,5,none⟩ = some c5 ∧ W.cell? ⟨b,6,none⟩ = some c6 ∧ W.cell? ⟨b,8,none⟩ = some c8 ∧ W.frozen? ⟨b,5,none⟩ = false ∧ W.frozen? ⟨b,6,none⟩ = false ∧ W.frozen? ⟨b,8,none⟩ = false:=
 ⟨cell_of_row W b 5 _ _ (0,0) h,cell_of_row W b 6 _ _ (0,0) h,cell_of_row W b 8 _ _ (0,0) h,frozen_of_row W b 5 _ _ h,frozen_of_row W b 6 _ _ h,frozen_of_row W b 8 _ _ h⟩
def FindP (B : Nat) (C : TyC) (W X : World) (nf n : Nat) (R : FindR) (e : Ending) (Y : World) : Prop:=
 (∃ nf',nf' ≤ nf + n ∧ TyR B C W Y nf') ∧ Kx (fun k => k < B) (TyE0 C) X Y ∧
 match R with
 | .err z => e = .returned (.tuple #[.map none,.int .i64 z])
 | .ok l => ∃ mb N g,e = .returned (.tuple #[.map (some mb),.int .i64 0]) ∧ X.heap.size ≤ mb ∧ N ≤ l.length ∧ MapA intK Y mb N g ∧
   ∀ x ∈ l,∃ A c,g x.1 = some (.agg #[.int .i64 x.2.1,.int .i64 x.2.2.1,.int .i64 x.2.2.2.1,.slice A x.2.2.2.2.len c]) ∧ x.2.2.2.2.Sl Y (fun k => X.heap.size ≤ k ∧ TgT Y k) A c
set_option maxRecDepth 100000 in
set_option maxHeartbeats 8000000 in
theorem find_all {B : Nat} {C : TyC} {W X : World} {nf : Nat} (h : TyR B C W X nf) {group : List Int} {A : Option Addr} {c : Nat} (hg : IntsA X B A c group) (hgn : group.Nodup) (hgl : group.length ≤ 1000) (hgi : ∀ a ∈ group,intK.ok a)
  {ds : List Dc} {dA : Option Addr} {dc : Nat} (hd : SlD W B dA dc ds) (hc2 : C.c2 = .slice dA ds.length dc) (hids : ∀ a ∈ group,∃ d ∈ ds,d.id = a) (hdi : ∀ d ∈ ds,intK.ok d.id)
  (hok : ∀ d ∈ ds,d.de.Ok ⟨grp group 0,C.sc.sch,C.sc.frn⟩) (hro : ∀ d ∈ ds,∀ gb n0,(d.k = 5 → RefOK (fun k => k < B) (C.at_ gb n0 group group.length) W d.n d.i) ∧ d.s.Ro (fun k => k < B) (C.at_ gb n0 group group.length) W)
  (hcnt : cntD (ds.map Dc.de) ≤ 400000) (hdl : ds.length ≤ 1000000) :
  Calls Tryz.prog 51 #[.pointer (some ⟨C.tb,0,none⟩),.slice A group.length c] X (FindP B C W X nf (cntD (ds.map Dc.de)) (findT C.sc (ds.map Dc.de) group)):=by
 obtain ⟨R,HR⟩ : ∃ R,Hid (findT C.sc (ds.map Dc.de) group = R):=⟨_,Lib.hid rfl⟩
 rw [HR.out]
 obtain ⟨hI0,hgm0,hkx0,hsame0⟩:=h.start group
 have hF0:=FillI.start h group
 obtain ⟨gv,nv,f,hbx⟩:=h.box
 have hbl:=lt_of_block hbx
 have hb1 : (X.alloc (.map #[] 0)).heap[C.tb]? = some (.cells #[C.c0,C.c1,C.c2,C.c3,.map (some C.sb),gv,nv,.map (some C.fb),.bool f] 95 (0,0)):=(Below.heap_alloc _ _ _ hbl).trans hbx
 obtain ⟨x5,x6,x8,f5,f6,f8⟩:=row9f hb1
 obtain ⟨N,HN⟩ : ∃ N,Hid (group.length = N):=⟨_,Lib.hid rfl⟩
 have HG:=Lib.hid (And.intro hg (And.intro hgn (And.intro hgl hgi)))
 have HD:=Lib.hid (And.intro hd (And.intro hc2 (And.intro hids (And.intro hdi (And.intro hok (And.intro hro (And.intro hcnt hdl)))))))
 have HH:=Lib.hid h
 have H0:=Lib.hid (And.intro hI0 (And.intro hgm0 (And.intro hkx0 hsame0)))
 have HL:=Lib.hid (And.intro h.ne (And.intro h.bs (And.intro h.dt h.df)))
 have hgcap : N ≤ 1000:=by rw [← HN.out];exact hgl
 have hmm:=@run_makeMap Tryz.prog
 rw [HN.out]
 clear h hg hgn hgl hgi hd hc2 hids hdi hok hro hcnt hdl hI0 hgm0 hkx0 hsame0 hbx hb1 hbl
 go_enter Tryz.func51,Tryz.ntmps51
 go_upto_region 4 with fail
 obtain ⟨W1,hW1⟩ : ∃ W1,stW C X = W1:=⟨_,rfl⟩
 have H1:=Lib.hid (And.intro H0.out hF0)
 rw [hW1] at H1
 have HW1:=Lib.hid hW1
 unfold stW at hW1
 try rw [hW1]
 obtain ⟨x0,x1,x2,x3,x4,x5,x6,x7,x8,f6,f8⟩:=row9 H1.out.1.1.box
 simp only [TyC.at_] at x5
 clear x0 x1 x2 x3 x4 x6 x7 x8 f6 f8 hF0 hW1
 go_wp2
 go_loopg [7,32] N (fun g _ ct wr => ∃ (j : Nat) (ixj : List Nat),g = N - j ∧ j ≤ N ∧ ct = .int .i64 j ∧ FillI B C W1 X.heap.size group j ixj wr)
 case atStart => exact ⟨0,[],rfl,Nat.zero_le _,rfl,H1.out.2⟩
 case round =>
  obtain ⟨j,ixj,hg,hj,rfl,hF⟩:=hrel
  have HF:=Lib.hid (And.intro hg hF)
  have y5 : wr.cell? ⟨C.tb,5,none⟩ = some (.map (some X.heap.size)):=(World.cell?_of_block (hF.same C.tb (by have:=H1.out.1.1.box;exact lt_of_block this) (by have:=HL.out.1.1;omega))).trans x5
  have HZ:=Lib.hid (show W1.heap.size = X.heap.size + 1 by rw [← HW1.out];simp [stW,World.setCell])
  by_cases hlt : j < N
  ·obtain ⟨a,ha⟩ : ∃ a,group[j]? = some a:=⟨_,List.getElem?_eq_getElem (by rw [HN.out];exact hlt)⟩
   obtain ⟨g,o,rfl,hgB,hgc⟩:=HG.out.1.2.2 (by intro e;rw [e] at ha;simp at ha)
   have eg : wr.cell? ⟨g,o + j,none⟩ = some (.int .i64 a):=(World.cell?_of_block ((hF.same g (by have:=HL.out.2.1;have:=HZ.out;omega) (by have:=HL.out.2.1;omega)).trans (H1.out.1.2.2.2 g (by have:=HL.out.2.2.1;omega) (by have:=HL.out.2.1;omega)))).trans (hgc j a ha)
   have hwf : Wf arP (List.replicate j nd0):=start_wf j
   have hdd : ∀ k,k < B → k < wr.heap.size:=fun k hk => by have:=HL.out.2.1;have:=HZ.out;have:=hF.size;omega
   have HC:=Lib.hid (show Calls Tryz.prog 95 #[] wr.drew _ from unknown_any hwf (hF.below (Below.refl _ _).drew).st hdd)
   have HA:=Lib.hid (show ∀ e Y,_ → _ from fun e Y hu => FillI.step (hF.below (Below.refl _ _).drew) ha HG.out.2.1 (HG.out.2.2.2 a (List.mem_of_getElem? ha)) (by unfold maxLen;omega) hdd (e:=e) (Y:=Y) hu)
   have HY:=Lib.hid (show ∀ Y,Below wr.drew.heap.size wr.drew Y → Y.cell? ⟨C.tb,5,none⟩ = some (.map (some X.heap.size)) from fun Y hb => (hb.cell (p:=⟨C.tb,5,none⟩) (World.block_lt_of_cell? wr ⟨C.tb,5,none⟩ y5)).trans y5)
   clear hF hgc hwf ha hg hdd
   go_upto_region 7 with fail
   go_region_law (first
    | (go_simp;go_at_call 95;(with_reducible refine Calls.mono HC.out ?_);intro e w2 hu;obtain ⟨b,he,hb2,w3,hrun3,hF3⟩:=HA.out e w2 hu;clear hu;subst he;have u5:=HY.out _ hb2;have HM3:=Lib.hid hF3;clear hb2 hF3)
    | fail)
   all_goals (
    go_wp2
    go_roundg (N - (j + 1))
    case measure => have:=HF.out.1;omega
    case rel => exact ⟨j + 1,_,rfl,by omega,rfl,HM3.out⟩)
  ·obtain rfl : j = N:=by omega
   have i1 : decide ((j : Int) < (j : Int)) = false:=decide_eq_false (by omega)
   have i2 : decide (j < j) = false:=decide_eq_false (by omega)
   obtain ⟨hT0,hK0⟩:=FillI.done HH.out (ix:=ixj) (w:=wr) (by rw [HW1.out,HN.out];exact hF)
   obtain ⟨C1,HC1⟩ : ∃ C1,Hid (C.at_ X.heap.size X.heap.size group group.length = C1):=⟨_,Lib.hid rfl⟩
   rw [HC1.out] at hT0
   have htb : C1.tb = C.tb:=by rw [← HC1.out];rfl
   have hgb : C1.gb = X.heap.size:=by rw [← HC1.out];rfl
   have HF0:=Lib.hid (And.intro hT0 hK0)
   obtain ⟨M,HM⟩ : ∃ M,Hid (ds.length = M):=⟨_,Lib.hid rfl⟩
   have hc2' : C.c2 = .slice dA M dc:=by rw [← HM.out];exact HD.out.2.1
   have x2 : wr.cell? ⟨C.tb,2,none⟩ = some (.slice dA M dc):=by
    have:=(row9 hT0.a.ti.box).2.2.1
    rw [htb] at this
    rw [this,← HC1.out,← hc2']
    rfl
   have hMcap : M ≤ 1000000:=by rw [← HM.out];exact HD.out.2.2.2.2.2.2.2
   have HTB:=Lib.hid (And.intro htb hgb)
   clear hg hF hj hlt hT0 hK0 htb hgb hc2' y5
   obtain ⟨W2,rfl⟩ : ∃ W2,W2 = wr:=⟨_,rfl⟩
   go_wp2
   go_loopg [9,10,49] M (fun g _ _ ct w => ∃ (j : Nat) (v : Value) (ix : List Nat) (nf' : Nat),g = M - j ∧ j ≤ M ∧ ct = .int .i64 j ∧ TyB B C1 W W2 (.slice none 0 0) ixj nf w v ix (declsT C1.sc ((ds.map Dc.de).take j) (startT group.length)) nf' [] none 0 (cntD ((ds.map Dc.de).take j)))
   case atStart => exact ⟨0,_,_,_,rfl,Nat.zero_le _,rfl,HF0.out.1⟩
   case round =>
    obtain ⟨q,v,ix,nf',hq,hqM,rfl,hT⟩:=hrel
    obtain ⟨htb,hgb⟩:=HTB.out
    by_cases hlt : q < M
    ·have hlt' : q < ds.length:=by rw [HM.out];exact hlt
     obtain ⟨x,hx⟩ : ∃ x,ds[q]? = some x:=⟨_,List.getElem?_eq_getElem hlt'⟩
     obtain ⟨b,o,rfl,hbB,hall⟩:=HD.out.1.2.2 (by intro e;rw [e] at hlt';simp at hlt')
     obtain ⟨hcs,hxo⟩:=hall q x hx
     have hx2:=hx
     have hxm : (ds.map Dc.de)[q]? = some x.de:=by rw [List.getElem?_map,hx];rfl
     obtain ⟨xid,xkind,xpub,xnA,xnc,xnames,xdoubt,xk,xn,xm,xi,xd,xA,xc,xs⟩:=x
     have hcw : ∀ a,wr.cell? ⟨b,a,none⟩ = W.cell? ⟨b,a,none⟩:=fun a => World.cell?_of_block (hT.a.old b hbB)
     have d0 : wr.cell? ⟨b,o + q * 11,none⟩ = some (.int .i64 xid):=(hcw _).trans (hcs 0 _ rfl)
     have d1 : wr.cell? ⟨b,o + q * 11 + 1,none⟩ = some (.int .i64 xkind):=(hcw _).trans (hcs 1 _ rfl)
     have d2 : wr.cell? ⟨b,o + q * 11 + 2,none⟩ = some (.bool xpub):=(hcw _).trans (hcs 2 _ rfl)
     have d3 : wr.cell? ⟨b,o + q * 11 + 3,none⟩ = some (.slice xnA xnames.length xnc):=(hcw _).trans (hcs 3 _ rfl)
     have d4 : wr.cell? ⟨b,o + q * 11 + 4,none⟩ = some (.bool xdoubt):=(hcw _).trans (hcs 4 _ rfl)
     have d5 : wr.cell? ⟨b,o + q * 11 + 5,none⟩ = some (.int .i64 xk):=(hcw _).trans (hcs 5 _ rfl)
     have d6 : wr.cell? ⟨b,o + q * 11 + 6,none⟩ = some (.string xn):=(hcw _).trans (hcs 6 _ rfl)
     have d7 : wr.cell? ⟨b,o + q * 11 + 7,none⟩ = some (.string xm):=(hcw _).trans (hcs 7 _ rfl)
     have d8 : wr.cell? ⟨b,o + q * 11 + 8,none⟩ = some (.int .i64 xi):=(hcw _).trans (hcs 8 _ rfl)
     have d9 : wr.cell? ⟨b,o + q * 11 + 9,none⟩ = some (.int .i64 xd):=(hcw _).trans (hcs 9 _ rfl)
     have d10 : wr.cell? ⟨b,o + q * 11 + 10,none⟩ = some (.slice xA xs.len xc):=(hcw _).trans (hcs 10 _ rfl)
     have hmem:=List.mem_of_getElem? hx
     obtain ⟨cnt1,cnt2⟩:=cntD_take _ _ _ hxm
     have hstep:=declsT_take C1.sc _ _ _ hxm (startT group.length)
     obtain ⟨σ,Hσ⟩ : ∃ σ,Hid (declsT C1.sc ((ds.map Dc.de).take q) (startT group.length) = σ):=⟨_,Lib.hid rfl⟩
     obtain ⟨cn,Hcn⟩ : ∃ cn,Hid (cntD ((ds.map Dc.de).take q) = cn):=⟨_,Lib.hid rfl⟩
     rw [Hσ.out] at hstep hT
     rw [Hcn.out] at cnt1 hT
     obtain ⟨W3,hW3⟩ : ∃ W3,wr.alloc (.cells #[.int .i64 xid,.int .i64 xkind,.bool xpub,.slice xnA xnames.length xnc,.bool xdoubt,.int .i64 xk,.string xn,.string xm,.int .i64 xi,.int .i64 xd,.slice xA xs.len xc] 46) = W3:=⟨_,rfl⟩
     have hb3 : Below wr.heap.size wr W3:=by subst hW3;exact (Below.refl _ _).alloc (Nat.le_refl _) _
     have hr3 : W3.heap[wr.heap.size]? = some (.cells #[.int .i64 xid,.int .i64 xkind,.bool xpub,.slice xnA xnames.length xnc,.bool xdoubt,.int .i64 xk,.string xn,.string xm,.int .i64 xi,.int .i64 xd,.slice xA xs.len xc] 46 (0,0)):=by subst hW3;exact heap_alloc_new wr _
     have hT3:=hT.below hb3
     have e0:=cell_of_row W3 wr.heap.size 0 _ _ (0,0) hr3
     simp at e0
     have y5:=(row9 hT3.a.ti.box).2.2.2.2.2.1
     rw [htb,hgb] at y5
     obtain ⟨Ng,hg⟩:=hT3.a.ti.gm
     rw [hgb] at hg
     have hlk:=fun q => (hg.keep (w':=W3.drewN q) rfl).look false (t:=91) Tryz.undNodeM (zeroNodeP _) (a:=xid) (HD.out.2.2.2.1 _ hmem)
     simp only [Bool.false_eq_true,if_false,intK] at hlk
     have hd0 : W3.drewN 0 = W3:=rfl
     have HT3:=Lib.hid (And.intro hT3 (And.intro hb3 hr3))
     have HQ:=Lib.hid (And.intro hq (And.intro hmem (And.intro cnt1 (And.intro cnt2 (And.intro hstep hxo)))))
     cases hG : C1.sc.G.lookup xid with
     | none =>
      have hF : vsF ix C1.sc.G xid = none:=by unfold vsF;rw [hG];rfl
      rw [hF] at hlk
      simp only [Option.getD_none] at hlk
      have HS:=Lib.hid (show declT C1.sc (Dc.de ⟨xid,xkind,xpub,xnA,xnc,xnames,xdoubt,xk,xn,xm,xi,xd,xA,xc,xs⟩) σ = σ by unfold declT Dc.de;simp only [hG])
      clear hT hT3 hall hcs hxo hx hx2 hxm hcw hg hF hstep cnt1 cnt2 hq hb3 hr3
      go_upto_region 12 with fail
      try rw [hW3]
      go_quiet (fail)
      go_wp2
      go_roundg (M - (q + 1))
      case measure => have:=HQ.out.1;omega
      case rel =>
       refine ⟨q + 1,v,ix,nf',rfl,by omega,by go_num,?_⟩
       rw [HQ.out.2.2.2.2.1,HS.out]
       exact (HT3.out.1.drN _).le (by have:=HQ.out.2.2.1;omega)
     | some k =>
      have hF : vsF ix C1.sc.G xid = some (nP (blk ix k)):=by unfold vsF;rw [hG];rfl
      rw [hF] at hlk
      simp only [Option.getD_some,nP] at hlk
      have hkl : k < σ.S.length:=hT3.a.ti.gmem _ (lookup_mem hG)
      obtain ⟨p,Hp⟩ : ∃ p,Hid (blk ix k = p):=⟨_,Lib.hid rfl⟩
      rw [Hp.out] at hlk
      have HK:=Lib.hid (And.intro hkl hG)
      clear hT hT3 hall hcs hxo hx hx2 hxm hcw hg hF hstep cnt1 cnt2 hq hb3 hr3 hkl hG
      go_upto_region 12 with fail
      try rw [hW3]
      go_quiet (fail)
      go_upto_region 14 with fail
      generalize hW4 : World.drewN W3 _ = W4
      obtain ⟨hT4,hb4⟩ : TyB B C1 W W2 (.slice none 0 0) ixj nf W4 v ix σ nf' [] none 0 cn ∧ Below W3.heap.size W3 W4:=by rw [← hW4];exact ⟨HT3.out.1.drN _,below_drewNi _ _⟩
      have hr4:=(hb4.block wr.heap.size (lt_of_block HT3.out.2.2)).trans HT3.out.2.2
      have e5:=cell_of_row W4 wr.heap.size 5 _ _ (0,0) hr4
      have e6:=cell_of_row W4 wr.heap.size 6 _ _ (0,0) hr4
      have e7:=cell_of_row W4 wr.heap.size 7 _ _ (0,0) hr4
      have e8:=cell_of_row W4 wr.heap.size 8 _ _ (0,0) hr4
      have e9:=cell_of_row W4 wr.heap.size 9 _ _ (0,0) hr4
      have e10:=cell_of_row W4 wr.heap.size 10 _ _ (0,0) hr4
      simp at e5 e6 e7 e8 e9 e10
      have hS:=TyB.start hT4.a
      obtain ⟨sn,Hsn⟩ : ∃ sn,Hid (xs.count = sn):=⟨_,Lib.hid rfl⟩
      obtain ⟨R1,HR1⟩ : ∃ R1,Hid (keepT (kindT C1.sc xk xn xm xi (tyF C1.sc xs.ex) [] σ) = R1):=⟨_,Lib.hid rfl⟩
      obtain ⟨LN,HLN⟩ : ∃ LN,Hid (xs.len = LN):=⟨_,Lib.hid rfl⟩
      have hexp : TyW C1.sc σ R1 (sn + 1) ∧ ∀ w1,Below W4.heap.size W4 w1 → Calls Tryz.prog 97 #[.pointer (some ⟨C.tb,0,none⟩),.agg #[.int .i64 xk,.string xn,.string xm,.int .i64 xi,.int .i64 xd,.slice xA LN xc],.slice none 0 0] w1 (ExB B C1 W W4 v ix nf' ix R1 [] none 0 (sn + 1)):=by
       have hds : (Dc.de ⟨xid,xkind,xpub,xnA,xnc,xnames,xdoubt,xk,xn,xm,xi,xd,xA,xc,xs⟩).Ok C1.sc:=by
        have:=HD.out.2.2.2.2.1 _ HQ.out.2.1
        rw [← HC1.out]
        show De.Ok ⟨grp (group.take group.length) 0,_,_⟩ _
        rw [List.take_length]
        exact this
       have hro:=HD.out.2.2.2.2.2.1 _ HQ.out.2.1 X.heap.size X.heap.size
       rw [HC1.out] at hro
       have hxs : xs.Sl W4 B xA xc:=HQ.out.2.2.2.2.2.2.keep (Nat.le_refl _) fun pp hpp => World.cell?_of_block (hT4.a.old pp.block hpp)
       have hns : σ.ns.length ≤ cn:=by
        have:=declsT_len (sc:=C1.sc) (ds:=(ds.map Dc.de).take q) (n:=group.length) (fun z hz => by
         obtain ⟨y,hy,rfl⟩:=List.mem_map.1 (List.mem_of_mem_take hz)
         have:=HD.out.2.2.2.2.1 _ hy
         rw [← HC1.out]
         show De.Ok ⟨grp (group.take group.length) 0,_,_⟩ _
         rw [List.take_length]
         exact this) (by rw [← HC1.out];show grp (group.take group.length) 0 = grp group 0;rw [List.take_length])
        rw [Hσ.out,Hcn.out] at this
        exact this
       have hcb:=HQ.out.2.2.2.1
       have hc0:=HD.out.2.2.2.2.2.2.1
       have hcn1:=HQ.out.2.2.1
       simp only [Dc.de,Fo.ex_cnt,Hsn.out] at hcn1
       have h1 : ∀ w1,Below W4.heap.size W4 w1 → _:=fun w1 hb1 => (hS.below hb1).expr (expr_all B xs) (env':=[]) (fun x hx => by cases hx) (EnvA.nil _ _ _) xk xn xm xi xd xA xc (hxs.keep (Nat.le_refl _) fun pp hpp => World.cell?_of_block (hb1.block pp.block (by have:=hT4.a.ti.dlt pp.block hpp;have:=hT4.a.ti.tn;omega))) ⟨hds.1,hds.2.1,hds.2.2,trivial⟩ ⟨hro.1,hro.2,trivial⟩ (by rw [Hsn.out];simp;omega) (by rw [Hsn.out];omega)
       rw [HR1.out,Hsn.out,HLN.out,htb] at h1
       exact ⟨(h1 W4 (Below.refl _ _)).1,fun w1 hb1 => by have:=(h1 w1 hb1).2;rw [Nat.zero_add] at this;exact this⟩
      have HE:=Lib.hid hexp.2
      have HW:=Lib.hid hexp.1
      have HSm:=Lib.hid (show ∀ (w2 : World) (v2 : Value) (y : List Nat) (b2 nf2 nn : Nat),blk (ix ++ y) R1.1 = b2 → TyB B C1 W W4 v ix nf' w2 v2 (ix ++ y) R1.2 nf2 [] none 0 nn → Calls Tryz.prog 96 #[.pointer (some ⟨C.tb,0,none⟩),.pointer (some ⟨p,0,none⟩),.pointer (some ⟨b2,0,none⟩)] w2 (fun e Y => e = .returned (.tuple #[]) ∧ TyB B C1 W W4 v ix nf' Y v2 (ix ++ y) (sameT R1.2 k R1.1) nf2 [] none 0 nn) from fun w2 v2 y b2 nf2 nn hb2 h2 => by
       have:=(h2.same (a:=k) (b:=R1.1) (p:=p) (q:=b2) (Nat.lt_of_lt_of_le HK.out.1 HW.out.le) HW.out.lt (blk_up Hp.out (by rw [hT4.lt];exact HK.out.1)) hb2).2
       rw [htb] at this
       exact this)
      have HT4:=Lib.hid (And.intro hT4 hr4)
      clear hT4 hr4 hS hexp e0 hlk
      rw [HLN.out] at e10
      go_wp2_with fail
      with_reducible refine Calls.mono (HE.out _ (Below.refl _ _)) ?_
      rintro e w1 ⟨v1,y1,p1,nf1,rfl,hp1,hB1⟩
      have HS1:=Lib.hid (HSm.out _ _ _ _ _ _ hp1 hB1)
      have HP1:=Lib.hid (And.intro hp1 hB1)
      clear hp1 hB1
      go_wp2_with fail
      with_reducible refine Calls.mono HS1.out ?_
      rintro e w2 ⟨rfl,hB2⟩
      have HB2:=Lib.hid hB2
      have e1:=cell_of_row w2 wr.heap.size 1 _ _ (0,0) (hB2.k.box HT4.out.1.a.ti HT4.out.2 (by decide))
      simp at e1
      clear hB2
      have HV:=Lib.hid (show declT C1.sc (Dc.de ⟨xid,xkind,xpub,xnA,xnc,xnames,xdoubt,xk,xn,xm,xi,xd,xA,xc,xs⟩) σ = if xkind ≠ 1 then sameT (addT (sameT R1.2 k R1.1) 2 []).2 k (addT (sameT R1.2 k R1.1) 2 []).1 else sameT R1.2 k R1.1 by
       unfold declT
       simp only [Dc.de,HK.out.2,De.ty,HR1.out])
      by_cases hkd : xkind = 1
      ·subst hkd
       rw [if_neg (by simp)] at HV
       go_wp2
       go_roundg (M - (q + 1))
       case measure => have:=HQ.out.1;omega
       case rel =>
        refine ⟨q + 1,v1,ix ++ y1,nf1,rfl,by omega,by go_num,?_⟩
        rw [HQ.out.2.2.2.2.1,HV.out]
        have hcn1:=HQ.out.2.2.1
        simp only [Dc.de,Fo.ex_cnt,Hsn.out] at hcn1
        exact (HT4.out.1.after HB2.out).le (by omega)
      ·have hkd' : (xkind != 1) = true:=by simpa using hkd
       rw [if_pos hkd] at HV
       have hss:=sameT_spec HW.out.wf (Nat.lt_of_lt_of_le HK.out.1 HW.out.le) HW.out.lt
       obtain ⟨hmw,hmc⟩:=HB2.out.made0 2 rfl
       obtain ⟨Q,HQQ⟩ : ∃ Q,Hid (addT (sameT R1.2 k R1.1) 2 [] = Q):=⟨_,Lib.hid rfl⟩
       rw [HQQ.out] at hmw hmc HV
       have HMC:=Lib.hid hmc
       have HSm2:=Lib.hid (show ∀ (w3 : World) (b3 nn : Nat),blk (ix ++ y1 ++ [b3]) Q.1 = b3 → TyB B C1 W W4 v ix nf' w3 v1 (ix ++ y1 ++ [b3]) Q.2 nf1 [] none 0 nn → Calls Tryz.prog 96 #[.pointer (some ⟨C.tb,0,none⟩),.pointer (some ⟨p,0,none⟩),.pointer (some ⟨b3,0,none⟩)] w3 (fun e Y => e = .returned (.tuple #[]) ∧ TyB B C1 W W4 v ix nf' Y v1 (ix ++ y1 ++ [b3]) (sameT Q.2 k Q.1) nf1 [] none 0 nn) from fun w3 b3 nn hb3 h3 => by
        have:=(h3.same (a:=k) (b:=Q.1) (p:=p) (q:=b3) (Nat.lt_of_lt_of_le (Nat.lt_of_lt_of_le HK.out.1 HW.out.le) (Nat.le_trans (by rw [hss.2.1];exact Nat.le_refl _) hmw.le)) hmw.lt (blk_up (blk_up Hp.out (by rw [HT4.out.1.lt];exact HK.out.1)) (by rw [HB2.out.lt,hss.2.1];exact Nat.lt_of_lt_of_le HK.out.1 HW.out.le)) hb3).2
        rw [htb] at this
        exact this)
       clear hmc
       go_wp2_with fail
       with_reducible refine Calls.mono HMC.out ?_
       rintro e w3 ⟨b3,rfl,hb3,hB3⟩
       have HS3:=Lib.hid (HSm2.out _ _ _ hb3 hB3)
       clear hb3 hB3
       go_wp2_with fail
       with_reducible refine Calls.mono HS3.out ?_
       rintro e w4 ⟨rfl,hB4⟩
       have HB4:=Lib.hid hB4
       clear hB4
       go_wp2
       go_roundg (M - (q + 1))
       case measure => have:=HQ.out.1;omega
       case rel =>
        refine ⟨q + 1,v1,ix ++ y1 ++ [b3],nf1,rfl,by omega,by go_num,?_⟩
        rw [HQ.out.2.2.2.2.1,HV.out]
        have hcn1:=HQ.out.2.2.1
        simp only [Dc.de,Fo.ex_cnt,Hsn.out] at hcn1
        exact (HT4.out.1.after HB4.out).le (by omega)
    ·obtain rfl : q = M:=by omega
     have i1 : decide ((q : Int) < (q : Int)) = false:=decide_eq_false (by omega)
     have i2 : decide (q < q) = false:=decide_eq_false (by omega)
     have htk : (ds.map Dc.de).take q = ds.map Dc.de:=List.take_of_length_le (by rw [List.length_map,HM.out];exact Nat.le_refl _)
     rw [htk] at hT
     obtain ⟨σ,Hσ⟩ : ∃ σ,Hid (declsT C1.sc (ds.map Dc.de) (startT group.length) = σ):=⟨_,Lib.hid rfl⟩
     rw [Hσ.out] at hT
     have hMs:=MsI.of HH.out HF0.out.2 (by rw [HC1.out];exact hT)
     have HSC:=Lib.hid (show C1.sc = ⟨grp group 0,C.sc.sch,C.sc.frn⟩ by rw [← HC1.out];show (⟨grp (group.take group.length) 0,_,_⟩ : Sc) = _;rw [List.take_length])
     have hfind : R = if σ.fl = true then .err 22 else if (msA σ.S σ.ns fun _ => 0).1 = false then .err 22 else if great σ.S σ.ns (msA σ.S σ.ns fun _ => 0).2 = true then .err 4 else .ok ((grp group 0).map (schT σ.S)):=by
      rw [← HR.out,← Hσ.out,HSC.out];rfl
     have hnf : nf' ≤ nf + cntD (ds.map Dc.de):=hT.n
     obtain ⟨vA,vc,rfl,hvl,hvA⟩:=hMs.vs
     obtain ⟨NL,HNL⟩ : ∃ NL,Hid (σ.ns.length = NL):=⟨_,Lib.hid rfl⟩
     rw [HNL.out] at hMs hvl
     have hcap3 : NL ≤ 400000:=by
      have:=declsT_len (sc:=C1.sc) (ds:=ds.map Dc.de) (n:=group.length) (group:=group) (fun z hz => by
       obtain ⟨y,hy,rfl⟩:=List.mem_map.1 hz
       rw [HSC.out]
       exact HD.out.2.2.2.2.1 _ hy) (by rw [HSC.out])
      rw [Hσ.out,HNL.out] at this
      exact Nat.le_trans this HD.out.2.2.2.2.2.2.1
     have z8:=(row9 hMs.box).2.2.2.2.2.2.2.2.1
     have HMs:=Lib.hid (And.intro hMs (And.intro hfind (And.intro hnf hvA)))
     have z6:=(row9 hMs.box).2.2.2.2.2.2.1
     clear hT hq hqM hlt htk hMs hfind hnf hvA
     cases hfl : σ.fl with
     | true =>
      rw [hfl] at z8
      have HV:=Lib.hid (show R = .err 22 by rw [HMs.out.2.1,if_pos hfl])
      go_wp2
      go_ret2
      rw [HV.out]
      exact ⟨⟨nf',HMs.out.2.2.1,HMs.out.1.r⟩,HMs.out.1.kx,rfl⟩
     | false =>
      rw [hfl] at z8
      have HV:=Lib.hid (show R = if (msA σ.S σ.ns fun _ => 0).1 = false then .err 22 else if great σ.S σ.ns (msA σ.S σ.ns fun _ => 0).2 = true then .err 4 else .ok ((grp group 0).map (schT σ.S)) by rw [HMs.out.2.1,if_neg (by rw [hfl];simp)])
      have HFL:=Lib.hid hfl
      clear hfl
      go_wp2
      go_loopg [12,86] NL (fun g _ ct w => ∃ (j : Nat) (sz : Nat → Int),g = NL - j ∧ j ≤ NL ∧ ct = .int .i64 j ∧ MsI B C W X X.heap.size group (.slice vA NL vc) ix σ nf' sz w ∧ Bd sz ∧ (msA σ.S σ.ns fun _ => 0) = msA σ.S (σ.ns.drop j) sz)
      case atStart => exact ⟨0,_,rfl,Nat.zero_le _,rfl,HMs.out.1,bd0,rfl⟩
      case round =>
       obtain ⟨j3,sz,hg3,hj3,rfl,hM3,hbd,hms⟩:=hrel
       by_cases hlt : j3 < NL
       ·obtain ⟨i,hi⟩ : ∃ i,σ.ns[j3]? = some i:=⟨_,List.getElem?_eq_getElem (by rw [HNL.out];exact hlt)⟩
        obtain ⟨g,rfl⟩:=HMs.out.2.2.2 (by intro e;rw [e] at hi;simp at hi)
        have ec:=hM3.at_ hi
        have him:=hM3.mem i (List.mem_of_getElem? hi)
        obtain ⟨pi,Hpi⟩ : ∃ p,Hid (blk ix i = p):=⟨_,Lib.hid rfl⟩
        rw [Hpi.out] at ec
        have HC:=Lib.hid (hM3.measure hbd him)
        have hdr : σ.ns.drop j3 = i :: σ.ns.drop (j3 + 1):=by
         have h1:=(List.getElem?_eq_some_iff.1 hi)
         rw [List.drop_eq_getElem_cons h1.1,h1.2]
        rw [hdr,msA_cons] at hms
        have HB:=Lib.hid (ms_pres (S:=σ.S) (σ.S.length + 1) i sz hbd).1
        unfold nP at HC
        rw [Hpi.out] at HC
        generalize ms σ.S (σ.S.length + 1) i sz = q3 at HC hms HB
        obtain ⟨ok3,sz3⟩:=q3
        have HJ:=Lib.hid (And.intro hg3 hms)
        clear hM3 hi him hdr hbd hms hg3
        go_wp2_with fail
        with_reducible refine Calls.mono HC.out ?_
        rintro e w3 ⟨rfl,hM4⟩
        have HM4:=Lib.hid hM4
        clear hM4
        cases ok3 with
        | true =>
         go_wp2
         go_roundg (NL - (j3 + 1))
         case measure => have:=HJ.out.1;omega
         case rel => exact ⟨j3 + 1,sz3,rfl,by omega,by have:=hcap3;go_num,HM4.out,HB.out,by rw [HJ.out.2];rfl⟩
        | false =>
         have HV2:=Lib.hid (show R = .err 22 by rw [HV.out,HJ.out.2];rfl)
         go_wp2
         go_ret2
         rw [HV2.out]
         exact ⟨⟨nf',HMs.out.2.2.1,HM4.out.r⟩,HM4.out.kx,rfl⟩
       ·obtain rfl : j3 = NL:=by omega
        have i1 : decide ((j3 : Int) < (j3 : Int)) = false:=decide_eq_false (by omega)
        have i2 : decide (j3 < j3) = false:=decide_eq_false (by omega)
        rw [List.drop_of_length_le (by rw [HNL.out];exact Nat.le_refl _)] at hms
        have HV2:=Lib.hid (show R = if great σ.S σ.ns sz = true then .err 4 else .ok ((grp group 0).map (schT σ.S)) by rw [HV.out,hms];rfl)
        have HM5:=Lib.hid hM3
        have z6:=(row9 hM3.box).2.2.2.2.2.2.1
        have HMS:=Lib.hid hms
        clear hM3 hms hbd hg3 hlt hj3
        go_wp2
        go_loopg [14,99] j3 (fun g _ ct w => ∃ (j : Nat),g = j3 - j ∧ j ≤ j3 ∧ ct = .int .i64 j ∧ MsI B C W X X.heap.size group (.slice vA j3 vc) ix σ nf' sz w ∧ great σ.S σ.ns sz = great σ.S (σ.ns.drop j) sz)
        case atStart => exact ⟨0,rfl,Nat.zero_le _,rfl,HM5.out,rfl⟩
        case round =>
         obtain ⟨j4,hg4,hj4,rfl,hM6,hgr⟩:=hrel
         by_cases hlt : j4 < j3
         ·obtain ⟨i,hi⟩ : ∃ i,σ.ns[j4]? = some i:=⟨_,List.getElem?_eq_getElem (by rw [HNL.out];exact hlt)⟩
          obtain ⟨g,rfl⟩:=HMs.out.2.2.2 (by intro e;rw [e] at hi;simp at hi)
          have ec:=hM6.at_ hi
          have him:=hM6.mem i (List.mem_of_getElem? hi)
          obtain ⟨pi,Hpi⟩ : ∃ p,Hid (blk ix i = p):=⟨_,Lib.hid rfl⟩
          rw [Hpi.out] at ec
          have hdr : σ.ns.drop j4 = i :: σ.ns.drop (j4 + 1):=by
           have h1:=(List.getElem?_eq_some_iff.1 hi)
           rw [List.drop_eq_getElem_cons h1.1,h1.2]
          have hgr2 : great σ.S σ.ns sz = (decide (200 < sz (rt σ.S i)) || great σ.S (σ.ns.drop (j4 + 1)) sz):=by rw [hgr,hdr];rfl
          obtain ⟨zi,Hzi⟩ : ∃ z,Hid (sz (rt σ.S i) = z):=⟨_,Lib.hid rfl⟩
          obtain ⟨ri,Hri⟩ : ∃ z,Hid (blk ix (rt σ.S i) = z):=⟨_,Lib.hid rfl⟩
          have hf:=hM6.find him
          rw [Hzi.out] at hgr2
          unfold nP at hf
          rw [Hpi.out,Hri.out,Hzi.out] at hf
          have HC:=Lib.hid hf
          have HJ:=Lib.hid (And.intro hg4 hgr2)
          clear hM6 hi him hdr hgr hgr2 hg4 hf
          go_wp2_with fail
          with_reducible refine Calls.mono HC.out ?_
          rintro e w3 ⟨rfl,hM7,ez⟩
          have HM7:=Lib.hid hM7
          clear hM7
          by_cases hz : 200 < zi
          ·have hz' : decide (zi > 200) = true:=decide_eq_true hz
           have HV3:=Lib.hid (show R = .err 4 by rw [HV2.out,HJ.out.2,decide_eq_true hz];rfl)
           go_wp2
           go_ret2
           rw [HV3.out]
           exact ⟨⟨nf',HMs.out.2.2.1,HM7.out.r⟩,HM7.out.kx,rfl⟩
          ·have hz' : decide (zi > 200) = false:=decide_eq_false hz
           go_wp2
           go_roundg (j3 - (j4 + 1))
           case measure => have:=HJ.out.1;omega
           case rel => exact ⟨j4 + 1,rfl,by omega,by go_num,HM7.out,by rw [HJ.out.2,decide_eq_false (by omega : ¬ 200 < zi)];rfl⟩
         ·obtain rfl : j4 = j3:=by omega
          have i1 : decide ((j4 : Int) < (j4 : Int)) = false:=decide_eq_false (by omega)
          have i2 : decide (j4 < j4) = false:=decide_eq_false (by omega)
          rw [List.drop_of_length_le (by rw [HNL.out];exact Nat.le_refl _)] at hgr
          have HV3:=Lib.hid (show R = .ok ((grp group 0).map (schT σ.S)) by rw [HV2.out,hgr];rfl)
          have HM8:=Lib.hid hM6
          have hbl:=find_bl (sc:=C1.sc) (ds:=ds.map Dc.de) (group:=group) (by rw [HSC.out]) HG.out.2.1 (fun d hd => by
           obtain ⟨y,hy,rfl⟩:=List.mem_map.1 hd
           have:=HD.out.2.2.2.2.1 _ hy
           rw [HSC.out]
           exact this) (fun a ha => by
           obtain ⟨d,hd,e⟩:=HD.out.2.2.1 a ha
           exact ⟨d.de,List.mem_map.2 ⟨d,hd,rfl⟩,e⟩) (by rw [Hσ.out];exact HFL.out) (by rw [Hσ.out,HMS.out];rfl) (by rw [Hσ.out,HMS.out];exact hgr)
          rw [Hσ.out] at hbl
          have HBL:=Lib.hid hbl
          have HFo:=Lib.hid (FoI.start (X:=X) (group:=group) (S:=σ.S) (sz:=sz) (hM6.st) hM6.kx.size)
          clear hM6 hgr hg4 hlt hj4 hbl
          obtain ⟨W4,rfl⟩ : ∃ W4,W4 = wr:=⟨_,rfl⟩
          go_wp2
          go_loopg [17,18,19,113] j (fun g _ _ _ ct w => ∃ (i : Nat),g = j - i ∧ i ≤ j ∧ ct = .int .i64 i ∧ FoI B X group σ.S ix sz W4 W4.heap.size i w)
          case atStart => exact ⟨0,rfl,Nat.zero_le _,rfl,HFo.out⟩
          case round =>
           obtain ⟨j5,hg5,hj5,rfl,hF5⟩:=hrel
           by_cases hlt : j5 < j
           ·obtain ⟨a,ha⟩ : ∃ a,group[j5]? = some a:=⟨_,List.getElem?_eq_getElem (by rw [HN.out];exact hlt)⟩
            obtain ⟨g,o,rfl,hgB,hgc⟩:=HG.out.1.2.2 (by intro e;rw [e] at ha;simp at ha)
            have hR5:=HM8.out.r.kn hF5.kn
            have eg : wr.cell? ⟨g,o + j5,none⟩ = some (.int .i64 a):=(World.cell?_of_block ((hR5.old g hgB).trans (HH.out.old g hgB).symm)).trans (hgc j5 a ha)
            have y5:=(row9 (hF5.kn.box HM8.out.box (by decide))).2.2.2.2.2.1
            have hbl:=HBL.out (a,j5) (List.mem_of_getElem? (i:=j5) (by rw [grp_get,ha];simp))
            obtain ⟨W5,hW5⟩ : ∃ W5,wr.alloc (.map #[] 0) = W5:=⟨_,rfl⟩
            have hb5 : Below wr.heap.size wr W5:=by rw [← hW5];exact (Below.refl _ _).alloc (Nat.le_refl _) _
            obtain ⟨pj,Hpj⟩ : ∃ b,Hid (blk ix j5 = b):=⟨_,Lib.hid rfl⟩
            have hC:=hF5.build HM8.out.wf hbl.1 hbl.2 (w2:=W5) (by rw [hW5];exact Below.refl _ _)
            obtain ⟨bt,Hbt⟩ : ∃ b,Hid (bT σ.S 201 j5 [] = b):=⟨_,Lib.hid rfl⟩
            have hok:=HG.out.2.2.2 a (List.mem_of_getElem? ha)
            have hF5':=hF5.below hb5
            obtain ⟨Ng,hgm⟩:=(HM8.out.kn hF5'.kn (hF5'.st.shift (Nat.le_refl _) (fun _ _ _ => rfl) (fun k hk => hk.elim) (fun k hk => hk.elim))).gm
            have hlk:=hgm.look false (t:=91) Tryz.undNodeM (zeroNodeP _) hok
            have hvF : vsF ix (grp group 0) a = some (nP (blk ix j5)):=by
             unfold vsF
             rw [grp_look HG.out.2.1 (a,j5) (List.mem_of_getElem? (i:=j5) (by rw [grp_get,ha];simp))]
             rfl
            rw [hvF] at hlk
            simp only [Bool.false_eq_true,if_false,intK,Option.getD_some,nP] at hlk
            rw [Hpj.out] at hlk hC
            rw [Hbt.out] at hC
            have z5 : W5.cell? ⟨C.tb,5,none⟩ = some (.map (some X.heap.size)):=(hb5.cell (p:=⟨C.tb,5,none⟩) (World.block_lt_of_cell? wr ⟨C.tb,5,none⟩ y5)).trans y5
            have HC5:=Lib.hid hC
            have HP5:=Lib.hid (And.intro ha (And.intro hok hg5))
            clear hF5 hgc ha hg5 hR5 hbl hb5 hC hok hF5' hgm hvF
            go_upto_region 36 with fail
            try rw [hW5]
            go_wp2_with fail
            with_reducible refine Calls.mono HC5.out ?_
            rintro e w3 ⟨A5,c5,rfl,hsl,hnm,hF6⟩
            obtain ⟨LT,HLT⟩ : ∃ L,Hid (bt.1.2.2.len = L):=⟨_,Lib.hid rfl⟩
            rw [HLT.out]
            obtain ⟨W6,hW6⟩ : ∃ W6,w3.alloc (.cells #[.int .i64 bt.1.1,.int .i64 bt.1.2.1,.slice A5 LT c5] 53) = W6:=⟨_,rfl⟩
            have hb6 : Below w3.heap.size w3 W6:=by rw [← hW6];exact (Below.refl _ _).alloc (Nat.le_refl _) _
            have hr6 : W6.heap[w3.heap.size]? = some (.cells #[.int .i64 bt.1.1,.int .i64 bt.1.2.1,.slice A5 LT c5] 53 (0,0)):=by rw [← hW6];exact heap_alloc_new w3 _
            have q0:=cell_of_row W6 w3.heap.size 0 _ _ (0,0) hr6
            have q1:=cell_of_row W6 w3.heap.size 1 _ _ (0,0) hr6
            have q2:=cell_of_row W6 w3.heap.size 2 _ _ (0,0) hr6
            simp at q0 q1 q2
            have hnm6:=(hnm.keep (hb6.block _ hnm.lt)).len 3
            have hpt : ∀ k,TgT w3 k → W6.heap[k]? = w3.heap[k]?:=fun k ht => hb6.block k ht.lt
            rw [← Hbt.out] at hsl
            obtain ⟨Z,hrunZ,hFZ⟩:=(hF6.below hb6).put HP5.out.1 HG.out.2.1 HP5.out.2.1 (by unfold maxLen;omega) (hsl.keep (fun k hp => hpt k hp.2) fun k hp => ⟨hp.1,(TgT.congr (hpt k hp.2)).2 hp.2⟩)
            rw [Hbt.out,HLT.out] at hrunZ
            have HFZ:=Lib.hid hFZ
            clear hsl hnm hF6 hFZ hb6 hr6 hpt
            go_upto_region 38 with fail
            try rw [hW6]
            go_wp2
            go_roundg (j - (j5 + 1))
            case measure => have:=HP5.out.2.2;omega
            case rel => exact ⟨j5 + 1,rfl,by omega,rfl,HFZ.out⟩
           ·obtain rfl : j5 = j:=by omega
            have i1 : decide ((j5 : Int) < (j5 : Int)) = false:=decide_eq_false (by omega)
            have i2 : decide (j5 < j5) = false:=decide_eq_false (by omega)
            have HF7:=Lib.hid hF5
            clear hF5
            go_wp2
            go_ret2
            rw [HV3.out]
            refine ⟨⟨nf',HMs.out.2.2.1,HM8.out.r.kn HF7.out.kn⟩,HM8.out.kx.trans (HF7.out.kn.x (fun _ => False)) (fun _ _ h => h.elim),?_⟩
            obtain ⟨g,hg,hx⟩:=HF7.out.mp
            refine ⟨W4.heap.size,j5,g,rfl,HF7.out.hx,by rw [List.length_map,grp_len,HN.out];exact Nat.le_refl _,hg,fun x hxm => ?_⟩
            obtain ⟨y,hy,rfl⟩:=List.mem_map.1 hxm
            rw [List.take_of_length_le (by rw [grp_len,HN.out];exact Nat.le_refl _)] at hx
            exact hx y hy
end Go.Proofs.YtmmecapgnmlaiaaGreatDoor
