/- infer: one step of the typer after another -/
import Derived.Test.YtmmecapgnmlaiaaGreatDoorZxu
set_option maxRecDepth 100000
set_option maxHeartbeats 16000000
namespace Go.Proofs.Q
open Go Go.RowKit Go.Proofs Go.Proofs.Unify
structure TyB (B:Nat)(C:TyC)(W W0:World)(v0:Value)(ix0:List Nat)(nf0:Nat)(X:World)(v:Value)(ix:List Nat)(σ:Tst)(nf:Nat)(env:Env)(eA:Option Addr)(ec:Nat)(n:Nat):Prop where
 a:TyA B C W X v ix σ nf env eA ec
 k:TyK (fun k=>k<B) C W0 v0 X v
 p:∃y,ix=ix0++y
 n:nf≤nf0+n
section
variable {B:Nat} {C:TyC} {W W0 X Y:World} {v0 v:Value} {ix0 ix:List Nat} {σ:Tst} {nf0 nf:Nat} {env:Env} {eA:Option Addr} {ec n:Nat}
theorem TyB.start (h:TyA B C W W0 v0 ix0 σ nf0 env eA ec):TyB B C W W0 v0 ix0 nf0 W0 v0 ix0 σ nf0 env eA ec 0:=⟨h,TyK.refl _ _,⟨[],by simp⟩,SA _⟩
theorem TyB.below (h:TyB B C W W0 v0 ix0 nf0 X v ix σ nf env eA ec n)(hb:Below X.heap.size X Y):TyB B C W W0 v0 ix0 nf0 Y v ix σ nf env eA ec n:=⟨h.a.below hb,h.k.trans (TyK.below hb),h.p,h.n⟩
theorem TyB.drew (h:TyB B C W W0 v0 ix0 nf0 X v ix σ nf env eA ec n):TyB B C W W0 v0 ix0 nf0 X.drew v ix σ nf env eA ec n:=h.below (TA _ _).drew
theorem TyB.lt (h:TyB B C W W0 v0 ix0 nf0 X v ix σ nf env eA ec n):ix.length=σ.S.length:=h.a.ti.st.len
theorem fD {sc:Sc}{R:Nat×Tst}{m:Nat}(h:TyW sc σ R m):R.2.ns.length≤σ.ns.length+m:=by
 obtain⟨l,h1,h2,_⟩:=h.ns
 rw[h1,SX]
 omega
theorem TyB.with_ (h:TyB B C W W0 v0 ix0 nf0 X v ix σ nf env eA ec n)(more:Env){g mc:Nat}(hm:more.length≤1000)(hel:env.length≤900000)(hg:g<X.heap.size)(hcs:∀j u,(dZ ix more)[j]?=some u→X.cell? ⟨g,j,none⟩=some u){NM:Nat}(hNM:more.length=NM) :
  Calls Tryz.prog 215 #[.slice eA env.length ec,.slice (some ⟨g,0,none⟩) NM mc] X fun e Y=>∃A' c',e=.returned (.slice A' (env++more).length c')∧eO (TyE C v) Y ix A' c' (env++more)∧Below X.heap.size X Y:=by
 subst hNM
 exact J8 env more ix X h.a.ea (by omega) hm hg hcs fun k hk=>(h.a.ti.e hk).2.2.2
theorem aO {w X:World}(h:Below w.heap.size w X)(o:Obj):Below w.heap.size w (X.alloc o):=h.alloc h.size o
theorem fP {w X:World}(h:Below w.heap.size w X):Below w.heap.size w X.drew:=h.drew
theorem TyB.Lc (h:TyB B C W W0 v0 ix0 nf0 X v ix σ nf env eA ec n){Z:World}(hZ:Below X.heap.size X Z){nm:ByteArray}{a p g NE:Nat}(hp:blk ix a=p)(hel:env.length≤900000)(h0:Z.cell? ⟨g,0,none⟩=some (.string nm))(h1:Z.cell? ⟨g,1,none⟩=some (.pointer (some ⟨p,0,none⟩)))(hNE:(env++[(nm,a)]).length=NE) :
  Calls Tryz.prog 215 #[.slice eA env.length ec,.slice (some ⟨g,0,none⟩) 1 1] Z fun e Y=>∃A' c',e=.returned (.slice A' NE c')∧eO (TyE C v) Y ix A' c' (env++[(nm,a)])∧Below X.heap.size X Y:=by
 have hz:=h.below hZ
 refine(hz.with_ [(nm,a)] (g:=g) (mc:=1) (by simp) hel (SS Z ⟨g,0,none⟩ h0) (fun j u hu=>?_) (NM:=1) rfl).mono ?_
 ·match j,hu with
  | 0,hu=>simp only[dZ,List.getElem?_cons_zero,TK]at hu;subst hu;exact h0
  | 1,hu=>simp only[dZ,List.getElem?_cons_succ,List.getElem?_cons_zero,TK,nP,hp]at hu;subst hu;exact h1
  | j+2,hu=>simp[dZ]at hu
 ·rintro e Y ⟨A',c',rfl,hE,hb⟩
  exact⟨A',c',by rw[hNE],hE,hZ.trans (hb.mono hZ.size)⟩
theorem TyB.OV (h:TyB B C W W0 v0 ix0 nf0 X v ix σ nf env eA ec n){Z:World}(hZ:Below X.heap.size X Z){nm nm2:ByteArray}{a p a2 p2 g NE:Nat}(hp:blk ix a=p)(hp2:blk ix a2=p2)(hel:env.length≤900000)(h0:Z.cell? ⟨g,0,none⟩=some (.string nm))(h1:Z.cell? ⟨g,1,none⟩=some (.pointer (some ⟨p,0,none⟩)))(h2:Z.cell? ⟨g,2,none⟩=some (.string nm2))(h3:Z.cell? ⟨g,3,none⟩=some (.pointer (some ⟨p2,0,none⟩)))(hNE:(env++[(nm,a),(nm2,a2)]).length=NE) :
  Calls Tryz.prog 215 #[.slice eA env.length ec,.slice (some ⟨g,0,none⟩) 2 2] Z fun e Y=>∃A' c',e=.returned (.slice A' NE c')∧eO (TyE C v) Y ix A' c' (env++[(nm,a),(nm2,a2)])∧Below X.heap.size X Y:=by
 have hz:=h.below hZ
 refine(hz.with_ [(nm,a),(nm2,a2)] (g:=g) (mc:=2) (by simp) hel (SS Z ⟨g,0,none⟩ h0) (fun j u hu=>?_) (NM:=2) rfl).mono ?_
 ·match j,hu with
  | 0,hu=>simp only[dZ,List.getElem?_cons_zero,TK]at hu;subst hu;exact h0
  | 1,hu=>simp only[dZ,List.getElem?_cons_succ,List.getElem?_cons_zero,TK,nP,hp]at hu;subst hu;exact h1
  | 2,hu=>simp only[dZ,List.getElem?_cons_succ,List.getElem?_cons_zero,TK]at hu;subst hu;exact h2
  | 3,hu=>simp only[dZ,List.getElem?_cons_succ,List.getElem?_cons_zero,TK,nP,hp2]at hu;subst hu;exact h3
  | j+4,hu=>simp[dZ]at hu
 ·rintro e Y ⟨A',c',rfl,hE,hb⟩
  exact⟨A',c',by rw[hNE],hE,hZ.trans (hb.mono hZ.size)⟩
theorem dx {ix y:List Nat}{a b:Nat}(h:blk ix a=b)(ha:a<ix.length):blk (ix++y) a=b:=by rw[oJ ha];exact h
def ExB (B:Nat)(C:TyC)(W W0:World)(v0:Value)(ix0:List Nat)(nf0:Nat)(ix:List Nat)(R:Nat×Tst)(env:Env)(eA:Option Addr)(ec n:Nat)(e:Ending)(Y:World):Prop:=
 ∃v' y b nf',e=.returned (.pointer (some ⟨b,0,none⟩))∧blk (ix++y) R.1=b∧TyB B C W W0 v0 ix0 nf0 Y v' (ix++y) R.2 nf' env eA ec n
theorem TyB.expr {s:Fo}(hE:eH B s)(h:TyB B C W W0 v0 ix0 nf0 X v ix σ nf env eA ec n){env':Env}{eA':Option Addr}{ec':Nat}(hen:iy env' σ)(hea:eO (TyE C v) X ix eA' ec' env')(k:Int)(nm m:ByteArray)(i d:Int)(A:Option Addr)(c:Nat)
  (hs:s.Sl X B A c)(hx:(Fo.cons k nm m i d A c s .nil).ex.Cok C.sc)(hro:(Fo.cons k nm m i d A c s .nil).Ro (fun k=>k<B) C W)(hel:env'.length+2*s.count≤900000)(hnl:σ.ns.length+s.count≤900000) :
  TyW C.sc σ (aG (aF C.sc k nm m i (tyF C.sc s.ex) env' σ)) (s.count+1) ∧
  Calls Tryz.prog 97 #[.pointer (some ⟨C.tb,0,none⟩),.agg #[.int .i64 k,.string nm,.string m,.int .i64 i,.int .i64 d,.slice A s.len c],.slice eA' env'.length ec'] X (ExB B C W W0 v0 ix0 nf0 ix (aG (aF C.sc k nm m i (tyF C.sc s.ex) env' σ)) env eA ec (n+(s.count+1))):=by
 have hx':=hx
 obtain⟨h1,h2,h3,_⟩:=hx
 have hw:TyW C.sc σ (aG (aF C.sc k nm m i (tyF C.sc s.ex) env' σ)) (s.count+1):=by
  have:=(gD (sc:=C.sc) k nm m i s.ex h1 h2 (Ex.tw h3) env' σ h.a.wf h.a.ti.lC hen).keep
  rw[Fo.iH]at this
  exact this
 refine⟨hw,?_⟩
 refine(hE C W X v ix σ nf env' eA' ec' k nm m i d A c ⟨h.a.ti,h.a.wf,hen,hea,h.a.old⟩ hs (by rw[←Fo.ru];exact h1) hro.1 h3 hro.2.1 h2 hel hnl).mono ?_
 rintro e Y ⟨v',ix',nf',rfl,⟨y,rfl⟩,hI,hn,hK⟩
 refine⟨v',y,_,nf',rfl,rfl,h.a.next hw hI hK,h.k.trans hK,?_,by have:=h.n;omega⟩
 obtain⟨z,hz⟩:=h.p
 exact⟨z++y,by rw[hz,TR]⟩
def AdB (B:Nat)(C:TyC)(W W0:World)(v0:Value)(ix0:List Nat)(nf0:Nat)(v:Value)(ix:List Nat)(R:Nat×Tst)(nf:Nat)(env:Env)(eA:Option Addr)(ec n:Nat)(e:Ending)(Y:World):Prop:=
 ∃b,e=.returned (.pointer (some ⟨b,0,none⟩))∧blk (ix++[b]) R.1=b∧TyB B C W W0 v0 ix0 nf0 Y v (ix++[b]) R.2 nf env eA ec n
theorem TyB.add (h:TyB B C W W0 v0 ix0 nf0 X v ix σ nf env eA ec n){k:Int}{l:List Nat}(hw:TyW C.sc σ (aJ σ k l) 0){e:Ending}(ha:mV B C X v ix σ nf k l e Y):AdB B C W W0 v0 ix0 nf0 v ix (aJ σ k l) nf env eA ec n e Y:=by
 obtain⟨b,rfl,h1,h2,h3,_⟩:=ha
 obtain⟨z,hz⟩:=h.p
 exact⟨b,rfl,h1,h.a.next hw h2 h3,h.k.trans h3,⟨z++[b],by rw[hz,TR]⟩,h.n⟩
theorem TyB.unknown (h:TyB B C W W0 v0 ix0 nf0 X v ix σ nf env eA ec n):TyW C.sc σ (aJ σ 5 []) 0∧Calls Tryz.prog 95 #[] X (AdB B C W W0 v0 ix0 nf0 v ix (aJ σ 5 []) nf env eA ec n):=by
 have hw:=aZ (sc:=C.sc) h.a.wf (k:=5) (l:=[]) rfl (by simp)
 exact⟨hw,(rz h.a.ti h.a.wf).mono fun _ _=>h.add hw⟩
theorem TyB.uQ (h:TyB B C W W0 v0 ix0 nf0 X v ix σ nf env eA ec n)(k:Int)(hk:arP k=0):TyW C.sc σ (aJ σ k []) 0∧Calls Tryz.prog 98 #[.int .i64 k,.slice none 0 0] X (AdB B C W W0 v0 ix0 nf0 v ix (aJ σ k []) nf env eA ec n):=by
 have hw:=aZ (sc:=C.sc) h.a.wf (k:=k) (l:=[]) hk.symm (by simp)
 exact⟨hw,(sG h.a.ti h.a.wf k).mono fun _ _=>h.add hw⟩
theorem TyB.K3 (h:TyB B C W W0 v0 ix0 nf0 X v ix σ nf env eA ec n){a p:Nat}(ha:a<σ.S.length)(hp:blk ix a=p):TyW C.sc σ (aJ σ 3 [a]) 0∧Calls Tryz.prog 98 #[.int .i64 3,.slice (some ⟨X.heap.size,0,none⟩) 1 1] (X.alloc (.cells #[.pointer (some ⟨p,0,none⟩)] 144)) (AdB B C W W0 v0 ix0 nf0 v ix (aJ σ 3 [a]) nf env eA ec n):=by
 have hl:∀j∈[a],j<σ.S.length:=fun j hj=>by rw[Te.1 hj];exact ha
 have hw:=aZ (sc:=C.sc) h.a.wf (k:=3) (l:=[a]) rfl hl
 have:=Bj h.a.ti h.a.wf 3 [a] hl (by simp)
 simp only[List.map_cons,List.map_nil,nP,hp]at this
 exact⟨hw,this.mono fun _ _=>h.add hw⟩
theorem TyB.Lg (h:TyB B C W W0 v0 ix0 nf0 X v ix σ nf env eA ec n){a b p q:Nat}(ha:a<σ.S.length)(hb:b<σ.S.length)(hp:blk ix a=p)(hq:blk ix b=q):TyW C.sc σ (aJ σ 4 [a,b]) 0∧Calls Tryz.prog 98 #[.int .i64 4,.slice (some ⟨X.heap.size,0,none⟩) 2 2] (X.alloc (.cells #[.pointer (some ⟨p,0,none⟩),.pointer (some ⟨q,0,none⟩)] 144)) (AdB B C W W0 v0 ix0 nf0 v ix (aJ σ 4 [a,b]) nf env eA ec n):=by
 have hl:∀j∈[a,b],j<σ.S.length:=fun j hj=>by
  rcases TI.1 hj with rfl|hj
  ·exact ha
  ·rw[Te.1 hj];exact hb
 have hw:=aZ (sc:=C.sc) h.a.wf (k:=4) (l:=[a,b]) rfl hl
 have:=Bj h.a.ti h.a.wf 4 [a,b] hl (by simp)
 simp only[List.map_cons,List.map_nil,nP,hp,hq]at this
 exact⟨hw,this.mono fun _ _=>h.add hw⟩
theorem TyB.same (h:TyB B C W W0 v0 ix0 nf0 X v ix σ nf env eA ec n){a b p q:Nat}(ha:a<σ.S.length)(hb:b<σ.S.length)(hp:blk ix a=p)(hq:blk ix b=q) :
  (Wf arP (bE σ a b).S∧(bE σ a b).S.length=σ.S.length∧(bE σ a b).ns=σ.ns) ∧
  Calls Tryz.prog 96 #[.pointer (some ⟨C.tb,0,none⟩),.pointer (some ⟨p,0,none⟩),.pointer (some ⟨q,0,none⟩)] X fun e Y=>e=.returned (.tuple #[])∧TyB B C W W0 v0 ix0 nf0 Y v ix (bE σ a b) nf env eA ec n:=by
 have hs:=dW h.a.wf ha hb
 refine⟨hs,?_⟩
 have h1:=J7 h.a.ti h.a.wf ha hb
 rw[nP,nP,hp,hq]at h1
 refine h1.mono ?_
 rintro e Y ⟨rfl,hI,hK⟩
 have:=h.a.ea.tyk (y:=[]) hK (fun x hx=>by rw[h.a.ti.st.len];exact h.a.en x hx)
 rw[TV]at this
 exact⟨rfl,⟨hI,hs.1,h.a.en.le (by rw[hs.2.1];exact SA _),this,fun k hb=>(hK.old h.a.ti k hb).trans (h.a.old k hb)⟩,h.k.trans hK,h.p,h.n⟩
end
end Go.Proofs.Q
namespace Go.Proofs.Q
open Go Go.RowKit Go.Proofs Go.Proofs.Unify
theorem Md {B:Nat}{C:TyC}{W X:World}{v:Value}{ix:List Nat}{σ:Tst}{nf:Nat}{env:Env}{eA:Option Addr}{ec:Nat}(n m:ByteArray)(i d:Int)(A:Option Addr)(c:Nat)
  (k0:Int)(n0 m0:ByteArray)(i0 d0:Int)(A0:Option Addr)(c0:Nat)(s0:Fo)(k1:Int)(n1 m1:ByteArray)(i1 d1:Int)(A1:Option Addr)(c1:Nat)(s1:Fo)(r:Fo)
  (E0:eH B s0)(E1:eH B s1)
  (ha:TyA B C W X v ix σ nf env eA ec)(hs:(Fo.cons k0 n0 m0 i0 d0 A0 c0 s0 (.cons k1 n1 m1 i1 d1 A1 c1 s1 r)).Sl X B A c)(hx:(Fo.cons k0 n0 m0 i0 d0 A0 c0 s0 (.cons k1 n1 m1 i1 d1 A1 c1 s1 r)).ex.Cok C.sc)(hro:(Fo.cons k0 n0 m0 i0 d0 A0 c0 s0 (.cons k1 n1 m1 i1 d1 A1 c1 s1 r)).Ro (fun k=>k<B) C W)
  (hel:env.length+2*(Fo.cons k0 n0 m0 i0 d0 A0 c0 s0 (.cons k1 n1 m1 i1 d1 A1 c1 s1 r)).count≤900000)(hnl:σ.ns.length+(Fo.cons k0 n0 m0 i0 d0 A0 c0 s0 (.cons k1 n1 m1 i1 d1 A1 c1 s1 r)).count≤900000) :
  Calls Tryz.prog 157 #[.pointer (some ⟨C.tb,0,none⟩),.agg #[.int .i64 12,.string n,.string m,.int .i64 i,.int .i64 d,.slice A (Fo.cons k0 n0 m0 i0 d0 A0 c0 s0 (.cons k1 n1 m1 i1 d1 A1 c1 s1 r)).len c],.slice eA env.length ec] X (TyP (fun k=>k<B) C X v ix nf (zw (fun env σ=>aG (aF C.sc k0 n0 m0 i0 (tyF C.sc s0.ex) env σ)) (fun env σ=>aG (aF C.sc k1 n1 m1 i1 (tyF C.sc s1.ex) env σ)) env σ) ((Fo.cons k0 n0 m0 i0 d0 A0 c0 s0 (.cons k1 n1 m1 i1 d1 A1 c1 s1 r)).count+1)):=by
 have hxB:B≤X.heap.size:=by
  rcases Nat.lt_or_ge X.heap.size B with h|h
  ·have h1:=ha.ti.dlt _ h;have h2:=ha.ti.tn;omega
  ·exact h
 obtain⟨hsl,hsc,hsm⟩:=hs
 obtain⟨b,o,rfl,hbB,hat⟩:=hsm (by intro e;cases e)
 obtain⟨N,HN⟩:∃N,Hid ((Fo.cons k0 n0 m0 i0 d0 A0 c0 s0 (.cons k1 n1 m1 i1 d1 A1 c1 s1 r)).len=N):=⟨_,Sk rfl⟩
 have hN:2≤N:=by rw[←HN.out];simp[Fo.len]
 have hNm:N≤maxLen:=by rw[←HN.out];omega
 have hN0:0<N:=by omega
 have hN1:(1:Int)<(N:Int):=by omega
 rw[HN.out]
 obtain⟨L0,HL0⟩:∃L,Hid (s0.len=L):=⟨_,Sk rfl⟩
 obtain⟨L1,HL1⟩:∃L,Hid (s1.len=L):=⟨_,Sk rfl⟩
 obtain⟨q0a,q0b,q0c,q0d,q0e,⟨q0f,q0l⟩,hat⟩:=hat
 obtain⟨q1a,q1b,q1c,q1d,q1e,⟨q1f,q1l⟩,hat⟩:=hat
 have hx0:(Fo.cons k0 n0 m0 i0 d0 A0 c0 s0 .nil).ex.Cok C.sc:=⟨hx.1,hx.2.1,hx.2.2.1,trivial⟩
 have hr0:(Fo.cons k0 n0 m0 i0 d0 A0 c0 s0 .nil).Ro (fun k=>k<B) C W:=⟨hro.1,hro.2.1,trivial⟩
 have hs0:s0.Sl X B A0 c0:=q0l
 rw[HL0.out]at q0f
 have hx1:(Fo.cons k1 n1 m1 i1 d1 A1 c1 s1 .nil).ex.Cok C.sc:=⟨hx.2.2.2.1,hx.2.2.2.2.1,hx.2.2.2.2.2.1,trivial⟩
 have hr1:(Fo.cons k1 n1 m1 i1 d1 A1 c1 s1 .nil).Ro (fun k=>k<B) C W:=⟨hro.2.2.1,hro.2.2.2.1,trivial⟩
 have hs1:s1.Sl X B A1 c1:=q1l
 rw[HL1.out]at q1f
 obtain⟨W0,hW0⟩:∃W0,X.alloc (.cells #[.int .i64 12,.string n,.string m,.int .i64 i,.int .i64 d,.slice (some ⟨b,o,none⟩) N c] 44)=W0:=⟨_,rfl⟩
 have hb0:Below X.heap.size X W0:=by subst hW0;exact(TA _ _).alloc (SA _) _
 have hrb:W0.heap[X.heap.size]?=some (.cells #[.int .i64 12,.string n,.string m,.int .i64 i,.int .i64 d,.slice (some ⟨b,o,none⟩) N c] 44 (0,0)):=by subst hW0;exact Sv X _
 have e0:=Sq W0 X.heap.size 0 _ _ (0,0) hrb
 have e1:=Sq W0 X.heap.size 1 _ _ (0,0) hrb
 have e2:=Sq W0 X.heap.size 2 _ _ (0,0) hrb
 have e5:=Sq W0 X.heap.size 5 _ _ (0,0) hrb
 simp at e0 e1 e2 e5
 have hA:=TyB.start (ha.below hb0)
 have hcell:∀q u,X.cell? ⟨b,q,none⟩=some u→W0.cell? ⟨b,q,none⟩=some u:=fun q u h=>(hb0.cell (p:=⟨b,q,none⟩) (by show b<X.heap.size;omega)).trans h
 have HSX:=Sk (show ∀(Y:World) (v':Value),TyK (fun k=>k<B) C W0 v Y v'→Y.cell? ⟨X.heap.size,1,none⟩=some (.string n)∧Y.cell? ⟨X.heap.size,2,none⟩=some (.string m)∧Y.cell? ⟨X.heap.size,5,none⟩=some (.slice (some ⟨b,o,none⟩) N c)∧Y.cell? ⟨b,o,none⟩=some (.int .i64 k0)∧Y.cell? ⟨b,o+1,none⟩=some (.string n0)∧Y.cell? ⟨b,o+2,none⟩=some (.string m0)∧Y.cell? ⟨b,o+3,none⟩=some (.int .i64 i0)∧Y.cell? ⟨b,o+4,none⟩=some (.int .i64 d0)∧Y.cell? ⟨b,o+5,none⟩=some (.slice A0 L0 c0)∧Y.cell? ⟨b,o+6,none⟩=some (.int .i64 k1)∧Y.cell? ⟨b,o+7,none⟩=some (.string n1)∧Y.cell? ⟨b,o+8,none⟩=some (.string m1)∧Y.cell? ⟨b,o+9,none⟩=some (.int .i64 i1)∧Y.cell? ⟨b,o+10,none⟩=some (.int .i64 d1)∧Y.cell? ⟨b,o+11,none⟩=some (.slice A1 L1 c1)from fun Y v' hk=>by
  have hcY:∀q u,X.cell? ⟨b,q,none⟩=some u→Y.cell? ⟨b,q,none⟩=some u:=fun q u h=>(hk.cell hA.a.ti hbB).trans (hcell q u h)
  have hrY:=hk.box hA.a.ti hrb (by decide)
  have y1:=Sq Y X.heap.size 1 _ _ (0,0) hrY
  have y2:=Sq Y X.heap.size 2 _ _ (0,0) hrY
  have y5:=Sq Y X.heap.size 5 _ _ (0,0) hrY
  simp at y1 y2 y5
  exact⟨y1,y2,y5,hcY _ _ q0a,hcY _ _ q0b,hcY _ _ q0c,hcY _ _ q0d,hcY _ _ q0e,hcY _ _ q0f,hcY _ _ q1a,hcY _ _ q1b,hcY _ _ q1c,hcY _ _ q1d,hcY _ _ q1e,hcY _ _ q1f⟩)
 have HB:=Sk hb0
 have HS0:=Sk (show ∀(Y:World) (v':Value),TyK (fun k=>k<B) C W0 v Y v'→s0.Sl Y B A0 c0 from fun Y v' hk=>TyK.sl hA.a.ti hk (hs0.keep (SA _) fun p hp=>hb0.cell (by omega)))
 have HX0:=Sk (Sn hx0 hr0)
 have HE0:=Sk E0
 have HS1:=Sk (show ∀(Y:World) (v':Value),TyK (fun k=>k<B) C W0 v Y v'→s1.Sl Y B A1 c1 from fun Y v' hk=>TyK.sl hA.a.ti hk (hs1.keep (SA _) fun p hp=>hb0.cell (by omega)))
 have HX1:=Sk (Sn hx1 hr1)
 have HE1:=Sk E1
 have HCN:=Sk (Sn hel hnl)
 simp only[Fo.count]at HCN
 obtain⟨R,HR⟩:∃R,Hid (zw (fun env σ=>aG (aF C.sc k0 n0 m0 i0 (tyF C.sc s0.ex) env σ)) (fun env σ=>aG (aF C.sc k1 n1 m1 i1 (tyF C.sc s1.ex) env σ)) env σ=R):=⟨_,Sk rfl⟩
 rw[HR.out]
 obtain⟨M,HM⟩:∃M,Hid ((Fo.cons k0 n0 m0 i0 d0 A0 c0 s0 (.cons k1 n1 m1 i1 d1 A1 c1 s1 r)).count+1=M):=⟨_,Sk rfl⟩
 rw[HM.out]
 have HA:=Sk hA
 clear ha hx hro hat hs0 hA hcell hrb hb0 hsl hsc hsm hel hnl hx0 hr0 E0 q0a q0b q0c q0d q0e q0f q0l hx1 hr1 E1 q1a q1b q1c q1d q1e q1f q1l
 clear hs1
 go_enter Tryz.func157,Tryz.ntmps157
 go_upto_region 35 with fail
 try rw[hW0]
 have hD:=HA.out.drew
 obtain⟨hw0,hc0⟩:=hD.expr HE0.out hD.a.en hD.a.ea k0 n0 m0 i0 d0 A0 c0 (HS0.out _ _ hD.k) HX0.out.1 HX0.out.2 (by have:=HCN.out.1;omega) (by have:=HCN.out.2;omega)
 rw[HL0.out]at hc0
 obtain⟨R0,HR0⟩:∃R,Hid (aG (aF C.sc k0 n0 m0 i0 (tyF C.sc s0.ex) env σ)=R):=⟨_,Sk rfl⟩
 rw[HR0.out]at hw0 hc0
 have HW0:=Sk hw0
 have HC0:=Sk hc0
 have HC1:=Sk (show ∀(w1:World) (v1:Value) (y1:List Nat) (nf1 n1':Nat),TyB B C W W0 v ix nf w1 v1 (ix++y1) R0.2 nf1 env eA ec n1'→TyW C.sc R0.2 (aG (aF C.sc k1 n1 m1 i1 (tyF C.sc s1.ex) env R0.2)) (s1.count+1)∧Calls Tryz.prog 97 #[.pointer (some ⟨C.tb,0,none⟩),.agg #[.int .i64 k1,.string n1,.string m1,.int .i64 i1,.int .i64 d1,.slice A1 L1 c1],.slice eA env.length ec] w1 (ExB B C W W0 v ix nf (ix++y1) (aG (aF C.sc k1 n1 m1 i1 (tyF C.sc s1.ex) env R0.2)) env eA ec (n1'+(s1.count+1)))from fun w1 v1 y1 nf1 n1' h1=>by
  obtain⟨l,e1,e2,_⟩:=HW0.out.ns
  have:=h1.expr HE1.out h1.a.en h1.a.ea k1 n1 m1 i1 d1 A1 c1 (HS1.out _ _ h1.k) HX1.out.1 HX1.out.2 (by have:=HCN.out.1;omega) (by have:=HCN.out.2;rw[e1,SX];omega)
  rw[HL1.out]at this
  exact this)
 obtain⟨R1,HR1⟩:∃R,Hid (aG (aF C.sc k1 n1 m1 i1 (tyF C.sc s1.ex) env R0.2)=R):=⟨_,Sk rfl⟩
 rw[HR1.out]at HC1
 clear hD hw0 hc0 e0 e1 e2 e5
 have HF:=Sk (show ∀(Y:World),(Y.cell? ⟨X.heap.size,1,none⟩=some (.string n)∧Y.cell? ⟨X.heap.size,2,none⟩=some (.string m)∧Y.cell? ⟨X.heap.size,5,none⟩=some (.slice (some ⟨b,o,none⟩) N c)∧Y.cell? ⟨b,o,none⟩=some (.int .i64 k0)∧Y.cell? ⟨b,o+1,none⟩=some (.string n0)∧Y.cell? ⟨b,o+2,none⟩=some (.string m0)∧Y.cell? ⟨b,o+3,none⟩=some (.int .i64 i0)∧Y.cell? ⟨b,o+4,none⟩=some (.int .i64 d0)∧Y.cell? ⟨b,o+5,none⟩=some (.slice A0 L0 c0)∧Y.cell? ⟨b,o+6,none⟩=some (.int .i64 k1)∧Y.cell? ⟨b,o+7,none⟩=some (.string n1)∧Y.cell? ⟨b,o+8,none⟩=some (.string m1)∧Y.cell? ⟨b,o+9,none⟩=some (.int .i64 i1)∧Y.cell? ⟨b,o+10,none⟩=some (.int .i64 d1)∧Y.cell? ⟨b,o+11,none⟩=some (.slice A1 L1 c1))→(Y.cell? ⟨X.heap.size,5,none⟩=some (.slice (some ⟨b,o,none⟩) N c)∧Y.cell? ⟨b,o,none⟩=some (.int .i64 k0)∧Y.cell? ⟨b,o+1,none⟩=some (.string n0)∧Y.cell? ⟨b,o+2,none⟩=some (.string m0)∧Y.cell? ⟨b,o+3,none⟩=some (.int .i64 i0)∧Y.cell? ⟨b,o+4,none⟩=some (.int .i64 d0)∧Y.cell? ⟨b,o+5,none⟩=some (.slice A0 L0 c0)∧Y.cell? ⟨b,o+6,none⟩=some (.int .i64 k1)∧Y.cell? ⟨b,o+7,none⟩=some (.string n1)∧Y.cell? ⟨b,o+8,none⟩=some (.string m1)∧Y.cell? ⟨b,o+9,none⟩=some (.int .i64 i1)∧Y.cell? ⟨b,o+10,none⟩=some (.int .i64 d1)∧Y.cell? ⟨b,o+11,none⟩=some (.slice A1 L1 c1))from fun Y h=>⟨h.2.2.1,h.2.2.2⟩)
 go_region_held3 (fun Y=>Y.cell? ⟨X.heap.size,5,none⟩=some (.slice (some ⟨b,o,none⟩) N c)∧Y.cell? ⟨b,o,none⟩=some (.int .i64 k0)∧Y.cell? ⟨b,o+1,none⟩=some (.string n0)∧Y.cell? ⟨b,o+2,none⟩=some (.string m0)∧Y.cell? ⟨b,o+3,none⟩=some (.int .i64 i0)∧Y.cell? ⟨b,o+4,none⟩=some (.int .i64 d0)∧Y.cell? ⟨b,o+5,none⟩=some (.slice A0 L0 c0)∧Y.cell? ⟨b,o+6,none⟩=some (.int .i64 k1)∧Y.cell? ⟨b,o+7,none⟩=some (.string n1)∧Y.cell? ⟨b,o+8,none⟩=some (.string m1)∧Y.cell? ⟨b,o+9,none⟩=some (.int .i64 i1)∧Y.cell? ⟨b,o+10,none⟩=some (.int .i64 d1)∧Y.cell? ⟨b,o+11,none⟩=some (.slice A1 L1 c1))
  (first|exact HF.out _ (HSX.out _ _ hB2.k)|exact HF.out _ (HSX.out _ _ hB1.k)|exact HF.out _ (HSX.out _ _ HA.out.drew.k))
  (first
   | (have _t:=iw;go_at_call 97;refine(HC1.out _ _ _ _ _ hB1).2.mono ?_;rintro e w2 ⟨v2,y2,p2,nf2,rfl,hp2,hB2⟩)
   | (go_at_call 97;refine HC0.out.mono ?_;rintro e w1 ⟨v1,y1,p1,nf1,rfl,hp1,hB1⟩;have iw:True:=trivial))
 all_goals (
  have hw1:=(HC1.out _ _ _ _ _ hB1).1
  have RS:=HR1
  obtain⟨hwt,hm⟩:=hB2.K3 (a:=R0.1) (SB HW0.out.lt hw1.le) (dx hp1 (by rw[hB1.lt];exact HW0.out.lt))
  have HM1:=Sk hm
  obtain⟨Rt,HRt⟩:∃R,Hid (aJ R1.2 3 [R0.1]=R):=⟨_,Sk rfl⟩
  rw[HRt.out]at hwt HM1
  have HS:=Sk (show ∀(w3:World) (b3 nn:Nat),blk ((ix++y1)++y2++[b3]) Rt.1=b3→TyB B C W W0 v ix nf w3 v2 ((ix++y1)++y2++[b3]) Rt.2 nf2 env eA ec nn→_ from fun w3 b3 nn hb3 h3=>(h3.same (a:=R1.1) (b:=Rt.1) (p:=p2) (SB hw1.lt hwt.le) hwt.lt (dx hp2 (by rw[hB2.lt];exact hw1.lt)) hb3).2)
  have HP:=Sk (show ∀b3,blk ((ix++y1)++y2++[b3]) R1.1=p2 from fun b3=>dx hp2 (by rw[hB2.lt];exact hw1.lt))
  have HRR:=Sk (show R=(R1.1,bE Rt.2 R1.1 Rt.1) by rw[←HR.out,←HRt.out,←HR1.out,←HR0.out];rfl)
  clear hB1 hB2 hp1 hp2 hw1 hwt hm
  go_wp2_with fail
  refine HM1.out.mono ?_
  rintro e w3 ⟨b3,rfl,hb3,hB3⟩
  have HS3:=Sk (HS.out w3 b3 _ hb3 hB3)
  clear hb3 hB3
  go_wp2_with fail
  refine HS3.out.mono ?_
  rintro e w4 ⟨rfl,hB4⟩
  have HB4:=Sk hB4
  clear hB4
  go_wp2
  go_ret
  rw[HRR.out]
  refine⟨v2,_,nf2,?_,HB4.out.p,HB4.out.a.ti,?_,(TyK.below HB.out).trans HB4.out.k⟩
  ·rw[nP,HP.out b3]
   rfl
  ·have:=HB4.out.n
   have:=HM.out
   simp only[Fo.count]at this
   omega)
theorem Oa {B:Nat}{C:TyC}{W X:World}{v:Value}{ix:List Nat}{σ:Tst}{nf:Nat}{env:Env}{eA:Option Addr}{ec:Nat}(n m:ByteArray)(i d:Int)(A:Option Addr)(c:Nat)
  (k0:Int)(n0 m0:ByteArray)(i0 d0:Int)(A0:Option Addr)(c0:Nat)(s0:Fo)(k1:Int)(n1 m1:ByteArray)(i1 d1:Int)(A1:Option Addr)(c1:Nat)(s1:Fo)(r:Fo)
  (E0:eH B s0)(E1:eH B s1)
  (ha:TyA B C W X v ix σ nf env eA ec)(hs:(Fo.cons k0 n0 m0 i0 d0 A0 c0 s0 (.cons k1 n1 m1 i1 d1 A1 c1 s1 r)).Sl X B A c)(hx:(Fo.cons k0 n0 m0 i0 d0 A0 c0 s0 (.cons k1 n1 m1 i1 d1 A1 c1 s1 r)).ex.Cok C.sc)(hro:(Fo.cons k0 n0 m0 i0 d0 A0 c0 s0 (.cons k1 n1 m1 i1 d1 A1 c1 s1 r)).Ro (fun k=>k<B) C W)
  (hel:env.length+2*(Fo.cons k0 n0 m0 i0 d0 A0 c0 s0 (.cons k1 n1 m1 i1 d1 A1 c1 s1 r)).count≤900000)(hnl:σ.ns.length+(Fo.cons k0 n0 m0 i0 d0 A0 c0 s0 (.cons k1 n1 m1 i1 d1 A1 c1 s1 r)).count≤900000) :
  Calls Tryz.prog 157 #[.pointer (some ⟨C.tb,0,none⟩),.agg #[.int .i64 7,.string n,.string m,.int .i64 i,.int .i64 d,.slice A (Fo.cons k0 n0 m0 i0 d0 A0 c0 s0 (.cons k1 n1 m1 i1 d1 A1 c1 s1 r)).len c],.slice eA env.length ec] X (TyP (fun k=>k<B) C X v ix nf (zu (fun env σ=>aG (aF C.sc k0 n0 m0 i0 (tyF C.sc s0.ex) env σ)) (fun env σ=>aG (aF C.sc k1 n1 m1 i1 (tyF C.sc s1.ex) env σ)) env σ) ((Fo.cons k0 n0 m0 i0 d0 A0 c0 s0 (.cons k1 n1 m1 i1 d1 A1 c1 s1 r)).count+1)):=by
 have hxB:B≤X.heap.size:=by
  rcases Nat.lt_or_ge X.heap.size B with h|h
  ·have h1:=ha.ti.dlt _ h;have h2:=ha.ti.tn;omega
  ·exact h
 obtain⟨hsl,hsc,hsm⟩:=hs
 obtain⟨b,o,rfl,hbB,hat⟩:=hsm (by intro e;cases e)
 obtain⟨N,HN⟩:∃N,Hid ((Fo.cons k0 n0 m0 i0 d0 A0 c0 s0 (.cons k1 n1 m1 i1 d1 A1 c1 s1 r)).len=N):=⟨_,Sk rfl⟩
 have hN:2≤N:=by rw[←HN.out];simp[Fo.len]
 have hNm:N≤maxLen:=by rw[←HN.out];omega
 have hN0:0<N:=by omega
 have hN1:(1:Int)<(N:Int):=by omega
 rw[HN.out]
 obtain⟨L0,HL0⟩:∃L,Hid (s0.len=L):=⟨_,Sk rfl⟩
 obtain⟨L1,HL1⟩:∃L,Hid (s1.len=L):=⟨_,Sk rfl⟩
 obtain⟨q0a,q0b,q0c,q0d,q0e,⟨q0f,q0l⟩,hat⟩:=hat
 obtain⟨q1a,q1b,q1c,q1d,q1e,⟨q1f,q1l⟩,hat⟩:=hat
 have hx0:(Fo.cons k0 n0 m0 i0 d0 A0 c0 s0 .nil).ex.Cok C.sc:=⟨hx.1,hx.2.1,hx.2.2.1,trivial⟩
 have hr0:(Fo.cons k0 n0 m0 i0 d0 A0 c0 s0 .nil).Ro (fun k=>k<B) C W:=⟨hro.1,hro.2.1,trivial⟩
 have hs0:s0.Sl X B A0 c0:=q0l
 rw[HL0.out]at q0f
 have hx1:(Fo.cons k1 n1 m1 i1 d1 A1 c1 s1 .nil).ex.Cok C.sc:=⟨hx.2.2.2.1,hx.2.2.2.2.1,hx.2.2.2.2.2.1,trivial⟩
 have hr1:(Fo.cons k1 n1 m1 i1 d1 A1 c1 s1 .nil).Ro (fun k=>k<B) C W:=⟨hro.2.2.1,hro.2.2.2.1,trivial⟩
 have hs1:s1.Sl X B A1 c1:=q1l
 rw[HL1.out]at q1f
 obtain⟨W0,hW0⟩:∃W0,X.alloc (.cells #[.int .i64 7,.string n,.string m,.int .i64 i,.int .i64 d,.slice (some ⟨b,o,none⟩) N c] 44)=W0:=⟨_,rfl⟩
 have hb0:Below X.heap.size X W0:=by subst hW0;exact(TA _ _).alloc (SA _) _
 have hrb:W0.heap[X.heap.size]?=some (.cells #[.int .i64 7,.string n,.string m,.int .i64 i,.int .i64 d,.slice (some ⟨b,o,none⟩) N c] 44 (0,0)):=by subst hW0;exact Sv X _
 have e0:=Sq W0 X.heap.size 0 _ _ (0,0) hrb
 have e1:=Sq W0 X.heap.size 1 _ _ (0,0) hrb
 have e2:=Sq W0 X.heap.size 2 _ _ (0,0) hrb
 have e5:=Sq W0 X.heap.size 5 _ _ (0,0) hrb
 simp at e0 e1 e2 e5
 have hA:=TyB.start (ha.below hb0)
 have hcell:∀q u,X.cell? ⟨b,q,none⟩=some u→W0.cell? ⟨b,q,none⟩=some u:=fun q u h=>(hb0.cell (p:=⟨b,q,none⟩) (by show b<X.heap.size;omega)).trans h
 have HSX:=Sk (show ∀(Y:World) (v':Value),TyK (fun k=>k<B) C W0 v Y v'→Y.cell? ⟨X.heap.size,1,none⟩=some (.string n)∧Y.cell? ⟨X.heap.size,2,none⟩=some (.string m)∧Y.cell? ⟨X.heap.size,5,none⟩=some (.slice (some ⟨b,o,none⟩) N c)∧Y.cell? ⟨b,o,none⟩=some (.int .i64 k0)∧Y.cell? ⟨b,o+1,none⟩=some (.string n0)∧Y.cell? ⟨b,o+2,none⟩=some (.string m0)∧Y.cell? ⟨b,o+3,none⟩=some (.int .i64 i0)∧Y.cell? ⟨b,o+4,none⟩=some (.int .i64 d0)∧Y.cell? ⟨b,o+5,none⟩=some (.slice A0 L0 c0)∧Y.cell? ⟨b,o+6,none⟩=some (.int .i64 k1)∧Y.cell? ⟨b,o+7,none⟩=some (.string n1)∧Y.cell? ⟨b,o+8,none⟩=some (.string m1)∧Y.cell? ⟨b,o+9,none⟩=some (.int .i64 i1)∧Y.cell? ⟨b,o+10,none⟩=some (.int .i64 d1)∧Y.cell? ⟨b,o+11,none⟩=some (.slice A1 L1 c1)from fun Y v' hk=>by
  have hcY:∀q u,X.cell? ⟨b,q,none⟩=some u→Y.cell? ⟨b,q,none⟩=some u:=fun q u h=>(hk.cell hA.a.ti hbB).trans (hcell q u h)
  have hrY:=hk.box hA.a.ti hrb (by decide)
  have y1:=Sq Y X.heap.size 1 _ _ (0,0) hrY
  have y2:=Sq Y X.heap.size 2 _ _ (0,0) hrY
  have y5:=Sq Y X.heap.size 5 _ _ (0,0) hrY
  simp at y1 y2 y5
  exact⟨y1,y2,y5,hcY _ _ q0a,hcY _ _ q0b,hcY _ _ q0c,hcY _ _ q0d,hcY _ _ q0e,hcY _ _ q0f,hcY _ _ q1a,hcY _ _ q1b,hcY _ _ q1c,hcY _ _ q1d,hcY _ _ q1e,hcY _ _ q1f⟩)
 have HB:=Sk hb0
 have HS0:=Sk (show ∀(Y:World) (v':Value),TyK (fun k=>k<B) C W0 v Y v'→s0.Sl Y B A0 c0 from fun Y v' hk=>TyK.sl hA.a.ti hk (hs0.keep (SA _) fun p hp=>hb0.cell (by omega)))
 have HX0:=Sk (Sn hx0 hr0)
 have HE0:=Sk E0
 have HS1:=Sk (show ∀(Y:World) (v':Value),TyK (fun k=>k<B) C W0 v Y v'→s1.Sl Y B A1 c1 from fun Y v' hk=>TyK.sl hA.a.ti hk (hs1.keep (SA _) fun p hp=>hb0.cell (by omega)))
 have HX1:=Sk (Sn hx1 hr1)
 have HE1:=Sk E1
 have HCN:=Sk (Sn hel hnl)
 simp only[Fo.count]at HCN
 obtain⟨R,HR⟩:∃R,Hid (zu (fun env σ=>aG (aF C.sc k0 n0 m0 i0 (tyF C.sc s0.ex) env σ)) (fun env σ=>aG (aF C.sc k1 n1 m1 i1 (tyF C.sc s1.ex) env σ)) env σ=R):=⟨_,Sk rfl⟩
 rw[HR.out]
 obtain⟨M,HM⟩:∃M,Hid ((Fo.cons k0 n0 m0 i0 d0 A0 c0 s0 (.cons k1 n1 m1 i1 d1 A1 c1 s1 r)).count+1=M):=⟨_,Sk rfl⟩
 rw[HM.out]
 have HA:=Sk hA
 clear ha hx hro hat hs0 hA hcell hrb hb0 hsl hsc hsm hel hnl hx0 hr0 E0 q0a q0b q0c q0d q0e q0f q0l hx1 hr1 E1 q1a q1b q1c q1d q1e q1f q1l
 clear hs1
 go_enter Tryz.func157,Tryz.ntmps157
 go_upto_region 17 with fail
 try rw[hW0]
 have HC0:=Sk (show ∀(w1:World) (v1:Value) (iz:List Nat) (nf1 nn:Nat),TyB B C W W0 v ix nf w1 v1 iz σ nf1 env eA ec nn→TyW C.sc σ (aG (aF C.sc k0 n0 m0 i0 (tyF C.sc s0.ex) env σ)) (s0.count+1)∧Calls Tryz.prog 97 #[.pointer (some ⟨C.tb,0,none⟩),.agg #[.int .i64 k0,.string n0,.string m0,.int .i64 i0,.int .i64 d0,.slice A0 L0 c0],.slice eA env.length ec] w1 (ExB B C W W0 v ix nf iz (aG (aF C.sc k0 n0 m0 i0 (tyF C.sc s0.ex) env σ)) env eA ec (nn+(s0.count+1)))from fun w1 v1 iz nf1 nn h1=>by
  have fJ:σ.ns.length+s0.count≤900000:=by have:=HCN.out.2;skip;omega
  have:=h1.expr HE0.out h1.a.en h1.a.ea k0 n0 m0 i0 d0 A0 c0 (HS0.out _ _ h1.k) HX0.out.1 HX0.out.2 (by have:=HCN.out.1;omega) fJ
  rw[HL0.out]at this
  exact this)
 obtain⟨R0,HR0⟩:∃R,Hid (aG (aF C.sc k0 n0 m0 i0 (tyF C.sc s0.ex) env σ)=R):=⟨_,Sk rfl⟩
 rw[HR0.out]at HC0
 have HW0:=Sk (HC0.out _ _ _ _ _ HA.out).1
 have HC1:=Sk (show ∀(w1:World) (v1:Value) (iz:List Nat) (nf1 nn:Nat),TyB B C W W0 v ix nf w1 v1 iz R0.2 nf1 env eA ec nn→TyW C.sc R0.2 (aG (aF C.sc k1 n1 m1 i1 (tyF C.sc s1.ex) env R0.2)) (s1.count+1)∧Calls Tryz.prog 97 #[.pointer (some ⟨C.tb,0,none⟩),.agg #[.int .i64 k1,.string n1,.string m1,.int .i64 i1,.int .i64 d1,.slice A1 L1 c1],.slice eA env.length ec] w1 (ExB B C W W0 v ix nf iz (aG (aF C.sc k1 n1 m1 i1 (tyF C.sc s1.ex) env R0.2)) env eA ec (nn+(s1.count+1)))from fun w1 v1 iz nf1 nn h1=>by
  have fJ:R0.2.ns.length+s1.count≤900000:=by have:=HCN.out.2;have:=fD HW0.out;omega
  have:=h1.expr HE1.out h1.a.en h1.a.ea k1 n1 m1 i1 d1 A1 c1 (HS1.out _ _ h1.k) HX1.out.1 HX1.out.2 (by have:=HCN.out.1;omega) fJ
  rw[HL1.out]at this
  exact this)
 obtain⟨R1,HR1⟩:∃R,Hid (aG (aF C.sc k1 n1 m1 i1 (tyF C.sc s1.ex) env R0.2)=R):=⟨_,Sk rfl⟩
 rw[HR1.out]at HC1
 clear e0 e1 e2 e5
 have HF:=Sk (show ∀(Y:World),(Y.cell? ⟨X.heap.size,1,none⟩=some (.string n)∧Y.cell? ⟨X.heap.size,2,none⟩=some (.string m)∧Y.cell? ⟨X.heap.size,5,none⟩=some (.slice (some ⟨b,o,none⟩) N c)∧Y.cell? ⟨b,o,none⟩=some (.int .i64 k0)∧Y.cell? ⟨b,o+1,none⟩=some (.string n0)∧Y.cell? ⟨b,o+2,none⟩=some (.string m0)∧Y.cell? ⟨b,o+3,none⟩=some (.int .i64 i0)∧Y.cell? ⟨b,o+4,none⟩=some (.int .i64 d0)∧Y.cell? ⟨b,o+5,none⟩=some (.slice A0 L0 c0)∧Y.cell? ⟨b,o+6,none⟩=some (.int .i64 k1)∧Y.cell? ⟨b,o+7,none⟩=some (.string n1)∧Y.cell? ⟨b,o+8,none⟩=some (.string m1)∧Y.cell? ⟨b,o+9,none⟩=some (.int .i64 i1)∧Y.cell? ⟨b,o+10,none⟩=some (.int .i64 d1)∧Y.cell? ⟨b,o+11,none⟩=some (.slice A1 L1 c1))→(Y.cell? ⟨X.heap.size,5,none⟩=some (.slice (some ⟨b,o,none⟩) N c)∧Y.cell? ⟨b,o,none⟩=some (.int .i64 k0)∧Y.cell? ⟨b,o+1,none⟩=some (.string n0)∧Y.cell? ⟨b,o+2,none⟩=some (.string m0)∧Y.cell? ⟨b,o+3,none⟩=some (.int .i64 i0)∧Y.cell? ⟨b,o+4,none⟩=some (.int .i64 d0)∧Y.cell? ⟨b,o+5,none⟩=some (.slice A0 L0 c0)∧Y.cell? ⟨b,o+6,none⟩=some (.int .i64 k1)∧Y.cell? ⟨b,o+7,none⟩=some (.string n1)∧Y.cell? ⟨b,o+8,none⟩=some (.string m1)∧Y.cell? ⟨b,o+9,none⟩=some (.int .i64 i1)∧Y.cell? ⟨b,o+10,none⟩=some (.int .i64 d1)∧Y.cell? ⟨b,o+11,none⟩=some (.slice A1 L1 c1))from fun Y h=>⟨h.2.2.1,h.2.2.2.1,h.2.2.2.2.1,h.2.2.2.2.2.1,h.2.2.2.2.2.2.1,h.2.2.2.2.2.2.2.1,h.2.2.2.2.2.2.2.2.1,h.2.2.2.2.2.2.2.2.2.1,h.2.2.2.2.2.2.2.2.2.2.1,h.2.2.2.2.2.2.2.2.2.2.2.1,h.2.2.2.2.2.2.2.2.2.2.2.2.1,h.2.2.2.2.2.2.2.2.2.2.2.2.2.1,h.2.2.2.2.2.2.2.2.2.2.2.2.2.2⟩)
 go_region_held3 (fun Y=>Y.cell? ⟨X.heap.size,5,none⟩=some (.slice (some ⟨b,o,none⟩) N c)∧Y.cell? ⟨b,o,none⟩=some (.int .i64 k0)∧Y.cell? ⟨b,o+1,none⟩=some (.string n0)∧Y.cell? ⟨b,o+2,none⟩=some (.string m0)∧Y.cell? ⟨b,o+3,none⟩=some (.int .i64 i0)∧Y.cell? ⟨b,o+4,none⟩=some (.int .i64 d0)∧Y.cell? ⟨b,o+5,none⟩=some (.slice A0 L0 c0)∧Y.cell? ⟨b,o+6,none⟩=some (.int .i64 k1)∧Y.cell? ⟨b,o+7,none⟩=some (.string n1)∧Y.cell? ⟨b,o+8,none⟩=some (.string m1)∧Y.cell? ⟨b,o+9,none⟩=some (.int .i64 i1)∧Y.cell? ⟨b,o+10,none⟩=some (.int .i64 d1)∧Y.cell? ⟨b,o+11,none⟩=some (.slice A1 L1 c1))
  (first|exact HF.out _ (HSX.out _ _ hB3.k)|exact HF.out _ (HSX.out _ _ hB2.k)|exact HF.out _ (HSX.out _ _ hB1.k)|exact HF.out _ (HSX.out _ _ HA.out.drew.k))
  (first
   | (go_at_call 95;refine hB2.unknown.2.mono ?_;rintro e w3 ⟨p3,rfl,hp3,hB3⟩)
   | (have _t:=iw;go_at_call 97;refine(HC1.out _ _ _ _ _ hB1).2.mono ?_;rintro e w2 ⟨v2,y2,p2,nf2,rfl,hp2,hB2⟩)
   | (go_at_call 97;refine(HC0.out _ _ _ _ _ HA.out.drew).2.mono ?_;rintro e w1 ⟨v1,y1,p1,nf1,rfl,hp1,hB1⟩;have iw:True:=trivial))
 all_goals (
  have hw1:=(HC1.out _ _ _ _ _ hB1).1
  have hw2:=hB2.unknown.1
  have l1:=hB1.lt
  have l2:=hB2.lt
  have g0:=HW0.out.lt
  have g1:=hw1.lt
  have g2:=hw2.lt
  have f1:=hw1.le
  have f2:=hw2.le
  obtain⟨hw3,hm⟩:=hB3.Lg (a:=R1.1) (b:=(aJ R1.2 5 []).1) (by omega) g2 (dx hp2 (by omega)) hp3
  obtain⟨Rt,HRt⟩:∃R,Hid (aJ (aJ R1.2 5 []).2 4 [R1.1,(aJ R1.2 5 []).1]=R):=⟨_,Sk rfl⟩
  rw[HRt.out]at hw3 hm
  have HM1:=Sk hm
  have l3:=hB3.lt
  have g3:=hw3.lt
  have f3:=hw3.le
  have HS:=Sk (show ∀(w4:World) (b4 nn:Nat),blk (ix++y1++y2++[p3]++[b4]) Rt.1=b4→TyB B C W W0 v ix nf w4 v2 (ix++y1++y2++[p3]++[b4]) Rt.2 nf2 env eA ec nn→_ from fun w4 b4 nn hb4 h4=>(h4.same (a:=R0.1) (b:=Rt.1) (p:=p1) (by omega) g3 (dx (dx (dx hp1 (by omega)) (by omega)) (by omega)) hb4).2)
  have HP:=Sk (show ∀b4,blk (ix++y1++y2++[p3]++[b4]) (aJ R1.2 5 []).1=p3 from fun b4=>dx hp3 (by omega))
  have HRR:=Sk (show R=((aJ R1.2 5 []).1,bE Rt.2 R0.1 Rt.1) by rw[←HR.out,←HRt.out,←HR1.out,←HR0.out];rfl)
  clear hB1 hB2 hB3 hp1 hp2 hp3 hw1 hw2 hw3 hm l1 l2 l3 g0 g1 g2 g3 f1 f2 f3
  go_wp2_with fail
  refine HM1.out.mono ?_
  rintro e w4 ⟨b4,rfl,hb4,hB4⟩
  have HS4:=Sk (HS.out w4 b4 _ hb4 hB4)
  clear hb4 hB4
  go_wp2_with fail
  refine HS4.out.mono ?_
  rintro e w5 ⟨rfl,hB5⟩
  have HBz:=Sk hB5
  clear hB5
  go_wp2
  go_ret
  rw[HRR.out]
  refine⟨v2,_,nf2,?_,HBz.out.p,HBz.out.a.ti,?_,(TyK.below HB.out).trans HBz.out.k⟩
  ·rw[nP,HP.out b4]
   rfl
  ·have:=HBz.out.n
   have:=HM.out
   simp only[Fo.count]at this
   omega)
theorem Ob {B:Nat}{C:TyC}{W X:World}{v:Value}{ix:List Nat}{σ:Tst}{nf:Nat}{env:Env}{eA:Option Addr}{ec:Nat}(n m:ByteArray)(i d:Int)(A:Option Addr)(c:Nat)
  (k0:Int)(n0 m0:ByteArray)(i0 d0:Int)(A0:Option Addr)(c0:Nat)(s0:Fo)(r:Fo)
  (E0:eH B s0)
  (ha:TyA B C W X v ix σ nf env eA ec)(hs:(Fo.cons k0 n0 m0 i0 d0 A0 c0 s0 r).Sl X B A c)(hx:(Fo.cons k0 n0 m0 i0 d0 A0 c0 s0 r).ex.Cok C.sc)(hro:(Fo.cons k0 n0 m0 i0 d0 A0 c0 s0 r).Ro (fun k=>k<B) C W)
  (hel:env.length+2*(Fo.cons k0 n0 m0 i0 d0 A0 c0 s0 r).count≤900000)(hnl:σ.ns.length+(Fo.cons k0 n0 m0 i0 d0 A0 c0 s0 r).count≤900000) :
  Calls Tryz.prog 157 #[.pointer (some ⟨C.tb,0,none⟩),.agg #[.int .i64 6,.string n,.string m,.int .i64 i,.int .i64 d,.slice A (Fo.cons k0 n0 m0 i0 d0 A0 c0 s0 r).len c],.slice eA env.length ec] X (TyP (fun k=>k<B) C X v ix nf (Fz (fun env σ=>aG (aF C.sc k0 n0 m0 i0 (tyF C.sc s0.ex) env σ)) n env σ) ((Fo.cons k0 n0 m0 i0 d0 A0 c0 s0 r).count+1)):=by
 have hxB:B≤X.heap.size:=by
  rcases Nat.lt_or_ge X.heap.size B with h|h
  ·have h1:=ha.ti.dlt _ h;have h2:=ha.ti.tn;omega
  ·exact h
 obtain⟨hsl,hsc,hsm⟩:=hs
 obtain⟨b,o,rfl,hbB,hat⟩:=hsm (by intro e;cases e)
 obtain⟨N,HN⟩:∃N,Hid ((Fo.cons k0 n0 m0 i0 d0 A0 c0 s0 r).len=N):=⟨_,Sk rfl⟩
 have hN:1≤N:=by rw[←HN.out];simp[Fo.len]
 have hNm:N≤maxLen:=by rw[←HN.out];omega
 have hN0:0<N:=by omega
 rw[HN.out]
 obtain⟨L0,HL0⟩:∃L,Hid (s0.len=L):=⟨_,Sk rfl⟩
 obtain⟨q0a,q0b,q0c,q0d,q0e,⟨q0f,q0l⟩,hat⟩:=hat
 have hx0:(Fo.cons k0 n0 m0 i0 d0 A0 c0 s0 .nil).ex.Cok C.sc:=⟨hx.1,hx.2.1,hx.2.2.1,trivial⟩
 have hr0:(Fo.cons k0 n0 m0 i0 d0 A0 c0 s0 .nil).Ro (fun k=>k<B) C W:=⟨hro.1,hro.2.1,trivial⟩
 have hs0:s0.Sl X B A0 c0:=q0l
 rw[HL0.out]at q0f
 obtain⟨W0,hW0⟩:∃W0,X.alloc (.cells #[.int .i64 6,.string n,.string m,.int .i64 i,.int .i64 d,.slice (some ⟨b,o,none⟩) N c] 44)=W0:=⟨_,rfl⟩
 have hb0:Below X.heap.size X W0:=by subst hW0;exact(TA _ _).alloc (SA _) _
 have hrb:W0.heap[X.heap.size]?=some (.cells #[.int .i64 6,.string n,.string m,.int .i64 i,.int .i64 d,.slice (some ⟨b,o,none⟩) N c] 44 (0,0)):=by subst hW0;exact Sv X _
 have e0:=Sq W0 X.heap.size 0 _ _ (0,0) hrb
 have e1:=Sq W0 X.heap.size 1 _ _ (0,0) hrb
 have e2:=Sq W0 X.heap.size 2 _ _ (0,0) hrb
 have e5:=Sq W0 X.heap.size 5 _ _ (0,0) hrb
 simp at e0 e1 e2 e5
 have hA:=TyB.start (ha.below hb0)
 have hcell:∀q u,X.cell? ⟨b,q,none⟩=some u→W0.cell? ⟨b,q,none⟩=some u:=fun q u h=>(hb0.cell (p:=⟨b,q,none⟩) (by show b<X.heap.size;omega)).trans h
 have HSX:=Sk (show ∀(Y:World) (v':Value),TyK (fun k=>k<B) C W0 v Y v'→Y.cell? ⟨X.heap.size,1,none⟩=some (.string n)∧Y.cell? ⟨X.heap.size,2,none⟩=some (.string m)∧Y.cell? ⟨X.heap.size,5,none⟩=some (.slice (some ⟨b,o,none⟩) N c)∧Y.cell? ⟨b,o,none⟩=some (.int .i64 k0)∧Y.cell? ⟨b,o+1,none⟩=some (.string n0)∧Y.cell? ⟨b,o+2,none⟩=some (.string m0)∧Y.cell? ⟨b,o+3,none⟩=some (.int .i64 i0)∧Y.cell? ⟨b,o+4,none⟩=some (.int .i64 d0)∧Y.cell? ⟨b,o+5,none⟩=some (.slice A0 L0 c0)from fun Y v' hk=>by
  have hcY:∀q u,X.cell? ⟨b,q,none⟩=some u→Y.cell? ⟨b,q,none⟩=some u:=fun q u h=>(hk.cell hA.a.ti hbB).trans (hcell q u h)
  have hrY:=hk.box hA.a.ti hrb (by decide)
  have y1:=Sq Y X.heap.size 1 _ _ (0,0) hrY
  have y2:=Sq Y X.heap.size 2 _ _ (0,0) hrY
  have y5:=Sq Y X.heap.size 5 _ _ (0,0) hrY
  simp at y1 y2 y5
  exact⟨y1,y2,y5,hcY _ _ q0a,hcY _ _ q0b,hcY _ _ q0c,hcY _ _ q0d,hcY _ _ q0e,hcY _ _ q0f⟩)
 have HB:=Sk hb0
 have HS0:=Sk (show ∀(Y:World) (v':Value),TyK (fun k=>k<B) C W0 v Y v'→s0.Sl Y B A0 c0 from fun Y v' hk=>TyK.sl hA.a.ti hk (hs0.keep (SA _) fun p hp=>hb0.cell (by omega)))
 have HX0:=Sk (Sn hx0 hr0)
 have HE0:=Sk E0
 have HCN:=Sk (Sn hel hnl)
 simp only[Fo.count]at HCN
 obtain⟨R,HR⟩:∃R,Hid (Fz (fun env σ=>aG (aF C.sc k0 n0 m0 i0 (tyF C.sc s0.ex) env σ)) n env σ=R):=⟨_,Sk rfl⟩
 rw[HR.out]
 obtain⟨M,HM⟩:∃M,Hid ((Fo.cons k0 n0 m0 i0 d0 A0 c0 s0 r).count+1=M):=⟨_,Sk rfl⟩
 rw[HM.out]
 have HA:=Sk hA
 clear ha hx hro hat hs0 hA hcell hrb hb0 hsl hsc hsm hel hnl hx0 hr0 E0 q0a q0b q0c q0d q0e q0f q0l
 go_enter Tryz.func157,Tryz.ntmps157
 obtain⟨Ra,HRa⟩:∃R,Hid (aJ σ 5 []=R):=⟨_,Sk rfl⟩
 have HWa:=Sk (show TyW C.sc σ Ra 0 by rw[←HRa.out];exact aZ HA.out.a.wf rfl (by simp))
 obtain⟨NE,HNE⟩:∃N,Hid ((env++[(n,Ra.1)]).length=N):=⟨_,Sk rfl⟩
 have HC0:=Sk (show ∀(w1:World) (v1:Value) (iz:List Nat) (nf1 nn:Nat) (eA1:Option Addr) (ec1:Nat),TyB B C W W0 v ix nf w1 v1 iz Ra.2 nf1 env eA ec nn→iy (env++[(n,Ra.1)]) Ra.2→eO (TyE C v1) w1 iz eA1 ec1 (env++[(n,Ra.1)])→TyW C.sc Ra.2 (aG (aF C.sc k0 n0 m0 i0 (tyF C.sc s0.ex) (env++[(n,Ra.1)]) Ra.2)) (s0.count+1)∧Calls Tryz.prog 97 #[.pointer (some ⟨C.tb,0,none⟩),.agg #[.int .i64 k0,.string n0,.string m0,.int .i64 i0,.int .i64 d0,.slice A0 L0 c0],.slice eA1 NE ec1] w1 (ExB B C W W0 v ix nf iz (aG (aF C.sc k0 n0 m0 i0 (tyF C.sc s0.ex) (env++[(n,Ra.1)]) Ra.2)) env eA ec (nn+(s0.count+1)))from fun w1 v1 iz nf1 nn eA1 ec1 h1 hen hea=>by
  have fJ:Ra.2.ns.length+s0.count≤900000:=by have:=HCN.out.2;have:=fD HWa.out;omega
  have:=h1.expr HE0.out hen hea k0 n0 m0 i0 d0 A0 c0 (HS0.out _ _ h1.k) HX0.out.1 HX0.out.2 (by have:=HCN.out.1;simp only[SX,TS,List.length_nil];omega) fJ
  rw[HL0.out,HNE.out]at this
  exact this)
 obtain⟨R0,HR0⟩:∃R,Hid (aG (aF C.sc k0 n0 m0 i0 (tyF C.sc s0.ex) (env++[(n,Ra.1)]) Ra.2)=R):=⟨_,Sk rfl⟩
 rw[HR0.out]at HC0
 have HU:=Sk (show Calls _ _ _ _ _ from HA.out.unknown.2)
 rw[HRa.out]at HU
 go_wp2_with fail
 try rw[hW0]
 clear e0 e1 e2 e5
 refine HU.out.mono ?_
 rintro e w1 ⟨b1,rfl,hp1,hB1⟩
 have HWI:=Sk (show ∀(Z:World) (g:Nat),Below w1.heap.size w1 Z→Z.cell? ⟨g,0,none⟩=some (.string n)→Z.cell? ⟨g,1,none⟩=some (.pointer (some ⟨b1,0,none⟩))→_ from fun Z g hZ h0 h1=>hB1.Lc hZ (a:=Ra.1) hp1 (by have:=HCN.out.1;omega) h0 h1 HNE.out)
 have HEN:=Sk (show iy (env++[(n,Ra.1)]) Ra.2 from hB1.a.en.snoc HWa.out.lt)
 have HW0:=Sk (show TyW C.sc Ra.2 R0 (s0.count+1) by
  have h1:=(gD (sc:=C.sc) k0 n0 m0 i0 s0.ex HX0.out.1.1 HX0.out.1.2.1 (Ex.tw HX0.out.1.2.2.1) (env++[(n,Ra.1)]) Ra.2 HWa.out.wf (fun x hx=>SB (HA.out.a.ti.lC x hx) HWa.out.le) HEN.out).keep
  rw[Fo.iH,HR0.out]at h1
  exact h1)
 have HMD:=Sk (show ∀(w2:World) (v2:Value) (y2:List Nat) (nf2 p2 nn:Nat),TyB B C W W0 v ix nf w2 v2 (ix++[b1]++y2) R0.2 nf2 env eA ec nn→blk (ix++[b1]++y2) R0.1=p2→_ from fun w2 v2 y2 nf2 p2 nn h2 hp2=>(h2.Lg (a:=Ra.1) (b:=R0.1) (p:=b1) (SB HWa.out.lt HW0.out.le) HW0.out.lt (dx hp1 (by rw[hB1.lt];exact HWa.out.lt)) hp2).2)
 have HF:=Sk (show ∀(Y:World),(Y.cell? ⟨X.heap.size,1,none⟩=some (.string n)∧Y.cell? ⟨X.heap.size,2,none⟩=some (.string m)∧Y.cell? ⟨X.heap.size,5,none⟩=some (.slice (some ⟨b,o,none⟩) N c)∧Y.cell? ⟨b,o,none⟩=some (.int .i64 k0)∧Y.cell? ⟨b,o+1,none⟩=some (.string n0)∧Y.cell? ⟨b,o+2,none⟩=some (.string m0)∧Y.cell? ⟨b,o+3,none⟩=some (.int .i64 i0)∧Y.cell? ⟨b,o+4,none⟩=some (.int .i64 d0)∧Y.cell? ⟨b,o+5,none⟩=some (.slice A0 L0 c0))→(Y.cell? ⟨X.heap.size,1,none⟩=some (.string n)∧Y.cell? ⟨X.heap.size,5,none⟩=some (.slice (some ⟨b,o,none⟩) N c)∧Y.cell? ⟨b,o,none⟩=some (.int .i64 k0)∧Y.cell? ⟨b,o+1,none⟩=some (.string n0)∧Y.cell? ⟨b,o+2,none⟩=some (.string m0)∧Y.cell? ⟨b,o+3,none⟩=some (.int .i64 i0)∧Y.cell? ⟨b,o+4,none⟩=some (.int .i64 d0)∧Y.cell? ⟨b,o+5,none⟩=some (.slice A0 L0 c0))from fun Y h=>⟨h.1,h.2.2.1,h.2.2.2.1,h.2.2.2.2.1,h.2.2.2.2.2.1,h.2.2.2.2.2.2.1,h.2.2.2.2.2.2.2.1,h.2.2.2.2.2.2.2.2⟩)
 go_upto_region 15 with fail
 go_region_held3 (fun Y=>Y.cell? ⟨X.heap.size,1,none⟩=some (.string n)∧Y.cell? ⟨X.heap.size,5,none⟩=some (.slice (some ⟨b,o,none⟩) N c)∧Y.cell? ⟨b,o,none⟩=some (.int .i64 k0)∧Y.cell? ⟨b,o+1,none⟩=some (.string n0)∧Y.cell? ⟨b,o+2,none⟩=some (.string m0)∧Y.cell? ⟨b,o+3,none⟩=some (.int .i64 i0)∧Y.cell? ⟨b,o+4,none⟩=some (.int .i64 d0)∧Y.cell? ⟨b,o+5,none⟩=some (.slice A0 L0 c0))
  (first|exact HF.out _ (HSX.out _ _ hB3.k)|exact HF.out _ (HSX.out _ _ hB2.k)|exact HF.out _ (HSX.out _ _ (hB2.below (by repeat (first|with_reducible exact TA _ _|with_reducible refine aO ?_ _|with_reducible refine fP ?_))).k)|exact HF.out _ (HSX.out _ _ (hB1.below hbv).k)|exact HF.out _ (HSX.out _ _ (hB1.below (by repeat (first|with_reducible exact TA _ _|with_reducible refine aO ?_ _|with_reducible refine fP ?_))).k))
  (first
   | (go_at_call 215;(refine TJ (HWI.out _ w1.heap.size ?_ ?_ ?_) ?_);(focus (repeat (first|with_reducible exact TA _ _|with_reducible refine aO ?_ _|with_reducible refine fP ?_)));(focus go_simp);(focus go_simp);rintro e wv ⟨vAX,vcX,rfl,hsv,hbv⟩)
   | (go_at_call 98;refine(HMD.out _ _ _ _ _ _ hB2 hp2).mono ?_;rintro e w3 ⟨b3,rfl,hp3,hB3⟩)
   | (go_at_call 97;refine(HC0.out _ _ _ _ _ _ _ (hB1.below hbv) HEN.out hsv).2.mono ?_;rintro e w2 ⟨v2,y2,p2,nf2,rfl,hp2,hB2⟩))
 all_goals (
  have HBz:=Sk hB3
  have HP:=Sk hp3
  have HRR:=Sk (show R=aJ R0.2 4 [Ra.1,R0.1] by rw[←HR.out,←HR0.out,←HRa.out];rfl)
  clear hB1 hB2 hB3 hp1 hp2 hp3 hsv hbv
  go_wp2
  go_ret
  rw[HRR.out]
  refine⟨v2,_,nf2,?_,HBz.out.p,HBz.out.a.ti,?_,(TyK.below HB.out).trans HBz.out.k⟩
  ·rw[nP,HP.out]
   rfl
  ·have:=HBz.out.n
   have:=HM.out
   simp only[Fo.count]at this
   omega)
end Go.Proofs.Q
