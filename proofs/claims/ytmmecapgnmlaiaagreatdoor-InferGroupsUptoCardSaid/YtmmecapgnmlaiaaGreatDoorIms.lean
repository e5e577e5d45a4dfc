/- infer.measure -/
import Derived.Test.YtmmecapgnmlaiaaGreatDoorZxn
set_option maxRecDepth 100000
set_option maxHeartbeats 16000000
namespace Go.Proofs.Q
open Go Go.RowKit Go.Proofs Go.Proofs.Unify
variable {D:Nat→Prop} {M:Nat→Prop}
theorem StH.size {w:World}{ix:List Nat}{S:St}{sz:Nat→Int}(h:StH D M w ix S sz){i:Nat}(hi:i<S.length)(z:Int) :
  StH D M (w.setCell ⟨blk ix i,3,none⟩ (.int .i64 z)) ix S (bJ sz i z)∧Kn D w (w.setCell ⟨blk ix i,3,none⟩ (.int .i64 z)):=by
 obtain⟨Q,h1,h2⟩:=h
 obtain⟨h3,h4⟩:=h2.size (i:=i) (by rw[h1.len];exact hi) z
 exact⟨⟨Q,h1,h3⟩,h4⟩
def MsP (D:Nat→Prop)(M:Nat→Prop)(w:World)(ix:List Nat)(S:St)(R:Bool×(Nat→Int))(e:Ending)(w':World):Prop:=
 e=.returned (.bool R.1)∧StH D M w' ix S R.2∧Kn D w w'
theorem qE (ar:Int→Nat)(har:∀k,ar k≤1000)(S:St)(hw:Wf ar S)(ix:List Nat)(f:Nat)
  (ih:∀f',f=f'+1→∀(i:Nat)(sz:Nat→Int)(w:World),i<S.length→nz S sz≤f'→Bd sz→StH D M w ix S sz→Calls Tryz.prog 99 #[nP (blk ix i)] w (MsP D M w ix S (ms S f i sz)))
  (i:Nat)(sz:Nat→Int)(w:World)(hi:i<S.length)(hn:nz S sz≤f)(hb:Bd sz)(h:StH D M w ix S sz) :
  Calls Tryz.prog 99 #[nP (blk ix i)] w (MsP D M w ix S (ms S (f+1) i sz)):=by
 obtain⟨R,HR⟩:∃R,Hid (ms S (f+1) i sz=R):=⟨_,Sk rfl⟩
 rw[HR.out]
 have HA:=Sk (kg hw hi h)
 have HB:=Sk (fun (X:World) (sz:Nat→Int) (j:Nat) (hj:j<S.length) (hX:StH D M X ix S sz)=>kg hw hj hX)
 obtain⟨x,hx1,hx2⟩:=iV hw hi
 have hr:=nu hw hi
 have HU:=Sk (show R=if sz (rt S i)≠0 then (decide (0<sz (rt S i)),sz)else
   if (msL S (ms S f) x.sub 1 (bJ sz (rt S i) (-1))).1=true then (true,bJ (msL S (ms S f) x.sub 1 (bJ sz (rt S i) (-1))).2.2 (rt S i) (min (msL S (ms S f) x.sub 1 (bJ sz (rt S i) (-1))).2.1 201))else (false,(msL S (ms S f) x.sub 1 (bJ sz (rt S i) (-1))).2.2) by
  rw[←HR.out]
  show (if sz (rt S i)≠0 then (decide (0<sz (rt S i)),sz)else match S[rt S i]? with
   | none=>(false,sz)
   | some x=>let q:=msL S (ms S f) x.sub 1 (bJ sz (rt S i) (-1));if q.1=true then (true,bJ q.2.2 (rt S i) (min q.2.1 201))else (false,q.2.2))=_
  rw[hx1])
 generalize hgr:rt S i=r at *
 clear hgr
 have H0:=Sk (Sn hw (Sn hn (Sn hb hr)))
 have HS:=Sk (hw.sub r x hx1)
 have HX:=Sk hx1
 have HIH:=Sk ih
 have HAR:=Sk (har x.kind)
 clear hw hn hb h ih hx1 hx2 har hi
 unfold nP at HA ⊢
 go_enter Tryz.func99,Tryz.ntmps99
 go_wp2_with fail
 refine HA.out.mono ?_
 rintro e w1 ⟨rfl,h1,hk1⟩
 obtain⟨ua,A,c,hb1,hc1,hc2,hs1⟩:=h1.at_ HX.out
 obtain⟨c0,c1,c2,c3,f0,f1,f2,f3⟩:=jE hb1
 obtain⟨zr,Hz⟩:∃z,Hid (sz r=z):=⟨_,Sk rfl⟩
 rw[Hz.out]at c3
 have H1:=Sk (Sn h1 hk1)
 by_cases e0:zr=0
 ·have e1:sz r=0:=Hz.out.trans e0
  have h2:=h1.size hr (-1)
  have hb2:Bd (bJ sz r (-1)):=fun k=>by
   unfold bJ
   split
   ·omega
   ·exact H0.out.2.2.1 k
  have hn2:nz S (bJ sz r (-1))+1=nz S sz:=M0 hr e1 (by decide)
  obtain⟨f',rfl⟩:∃f',f=f'+1:=⟨f-1,by have:=H0.out.2.1;omega⟩
  have HI:=Sk (HIH.out f' rfl)
  obtain⟨T,HT⟩:∃T,Hid (msL S (ms S (f'+1)) x.sub 1 (bJ sz r (-1))=T):=⟨_,Sk rfl⟩
  have HV:=Sk (show R=if T.1=true then (true,bJ T.2.2 r (min T.2.1 201))else (false,T.2.2) by
   rw[HU.out,TW (by omega),HT.out])
  have H2:=Sk (Sn h2 (Sn hb2 (show nz S (bJ sz r (-1))≤f' by have:=H0.out.2.1;omega)))
  have HSub:=Sk (show ∀(j p:Nat),x.sub[j]?=some p→∃g o,A=some ⟨g,o,none⟩∧g<w1.heap.size∧¬TgN w1 g∧w1.cell? ⟨g,o+j,none⟩=some (.pointer (some ⟨blk ix p,0,none⟩))from fun j p hp=>by
   obtain⟨g,o,e,k1,k2,_,k3⟩:=hs1 (by intro e;rw[e]at hp;simp at hp)
   exact⟨g,o,e,k1,k2,k3 j p hp⟩)
  have hN:x.sub.length≤1000:=by rw[HS.out.1];exact HAR.out
  obtain⟨N,HN⟩:∃N,Hid (x.sub.length=N):=⟨_,Sk rfl⟩
  rw[HN.out]at c2 hN
  have hrl:blk ix r<w1.heap.size:=(Sz.1 hb1).1
  clear h1 hk1 h2 hb2 hn2 hb1 hc1 hc2 hs1 e1 HIH
  subst e0
  go_wp2
  go_loopg [5,3,26] N (fun g _ zt ct wr=>∃(j:Nat) (nn:Int) (sj:Nat→Int),g=N-j∧j≤N∧ct=.int .i64 j∧zt=.int .i64 nn∧1≤nn∧nn≤1+201*j∧msL S (ms S (f'+1)) (x.sub.drop j) nn sj=T∧Bd sj∧nz S sj≤f'∧StH D M wr ix S sj∧Kn D w1 wr)
  case atStart=>exact⟨0,1,_,rfl,SC _,rfl,rfl,by omega,by omega,HT.out,H2.out.2.1,H2.out.2.2,H2.out.1⟩
  case round =>
   obtain⟨j,nn,sj,hg,hj,rfl,rfl,hn1,hn2,hT,hbj,hnj,hst,hk⟩:=hrel
   clear c0 c1 c2 c3 f0 f1 f2 f3
   have HG:=Sk (Sn hg hk)
   by_cases hlt:j<N
   ·obtain⟨p,hp⟩:∃p,x.sub[j]?=some p:=⟨_,Sw (by rw[HN.out];exact hlt)⟩
    obtain⟨ga,oa,rfl,hga,hta,ea⟩:=HSub.out j p hp
    have ea':=(hk.cell hga hta).trans ea
    have hpl:p<S.length:=HS.out.2 p (SV hp)
    have HC:=Sk (HI.out p sj wr hpl hnj hbj hst)
    have HP:=Sk (Sn (rW (S:=S) (f'+1) p sj hbj) (uL (S:=S) (f'+1) p sj))
    rw[drop_cons hp]at hT
    have HTT:=Sk (show (if (ms S (f'+1) p sj).1=true then msL S (ms S (f'+1)) (x.sub.drop (j+1)) (nn+(ms S (f'+1) p sj).2 (rt S p)) (ms S (f'+1) p sj).2 else (false,nn,(ms S (f'+1) p sj).2))=T from hT)
    have HF:=Sk (fun (X:World) (sz:Nat→Int) (hX:StH D M X ix S sz)=>HB.out X sz p hpl hX)
    have HPL:=Sk (nu H0.out.1 hpl)
    have HPT:=Sk (iV H0.out.1 hpl)
    generalize hq:ms S (f'+1) p sj=q at HC HP HTT
    obtain⟨ok,s2⟩:=q
    have HNJ:=Sk hnj
    clear hg hT hbj hnj hst hk ea hga hta hp hpl hq
    unfold nP at HC
    go_wp2_with fail
    refine HC.out.mono ?_
    rintro e w2 ⟨rfl,h2,hk2⟩
    cases ok with
    | false =>
     have HE:=Sk (show R=(false,s2) by rw[HV.out,←HTT.out];rfl)
     have H3:=Sk (Sn h2 (H1.out.2.trans (HG.out.2.trans hk2)))
     clear h2 hk2 HC ea'
     go_wp2
     go_ret
     rw[HE.out]
     exact⟨rfl,H3.out⟩
    | true =>
     have HF2:=Sk (HF.out w2 s2 h2)
     have H3:=Sk hk2
     have hpos:=HP.out.2 rfl
     have hbd:=HP.out.1.1 (rt S p)
     clear h2 hk2 HC ea'
     unfold nP at HF2
     go_wp2_with fail
     refine HF2.out.mono ?_
     rintro e w3 ⟨rfl,h3,hk3⟩
     obtain⟨y,hy,_⟩:=HPT.out
     obtain⟨ub,A',c',hb3,_⟩:=h3.at_ hy
     obtain⟨d0,d1,d2,d3,g0,g1,g2,g3⟩:=jE hb3
     have H4:=Sk (Sn h3 (HG.out.2.trans (H3.out.trans hk3)))
     obtain⟨zp,Hzp⟩:∃z,Hid (s2 (rt S p)=z):=⟨_,Sk rfl⟩
     simp only[Hzp.out]at d3 hpos hbd
     have hsum:wrap64 (nn+zp)=nn+zp:=gP (by omega) (by omega)
     clear h3 hk3 hy hb3
     go_wp2
     go_roundg (N-(j+1))
     case measure=>have:=HG.out.1;omega
     case rel =>
      refine⟨j+1,nn+zp,s2,rfl,by omega,oC (by first|(push_cast;rfl)|(push_cast;exact gP (by omega) (by omega))),?_,by omega,by push_cast;omega,?_,HP.out.1.1,SE (Gr.nz HP.out.1.2) HNJ.out,H4.out⟩
      ·rfl
      ·rw[←HTT.out,←Hzp.out]
       rfl
   ·have HE:=Sk (show T=(true,nn,sj) by
     rw[←hT,List.drop_eq_nil_of_le (by rw[HN.out];omega)]
     rfl)
    have HE2:=Sk (show R=(true,bJ sj r (min nn 201)) by rw[HV.out,HE.out];rfl)
    have HSZ:=Sk (hst.size H0.out.2.2.2 (min nn 201))
    obtain⟨ub,A',c',hb3,_⟩:=hst.at_ HX.out
    obtain⟨d0,d1,d2,d3,g0,g1,g2,g3⟩:=jE hb3
    clear hg hT hbj hnj hst hk hb3
    have HH:=Sk (Sn H1.out.2 HG.out.2)
    clear HSub HU HX HS HN HT HV HE
    go_wp2
    all_goals go_ret
    all_goals rw[HE2.out]
    ·have em:min nn 201=201:=by omega
     have h5:=HSZ.out
     rw[em]at h5
     refine⟨rfl,?_,HH.out.1.trans (HH.out.2.trans h5.2)⟩
     show StH D M _ ix S (bJ sj r (min nn 201))
     rw[em]
     exact h5.1
    ·have em:min nn 201=nn:=by omega
     have h5:=HSZ.out
     rw[em]at h5
     refine⟨rfl,?_,HH.out.1.trans (HH.out.2.trans h5.2)⟩
     show StH D M _ ix S (bJ sj r (min nn 201))
     rw[em]
     exact h5.1
 ·have HV:=Sk (show R=(decide (0<zr),sz) by rw[HU.out,Hz.out,TY e0])
  clear h1 hk1 hb1 hc1 hc2 hs1
  go_wp2
  go_ret
  rw[HV.out]
  exact⟨rfl,H1.out⟩
theorem sN (ar:Int→Nat)(har:∀k,ar k≤1000)(S:St)(hw:Wf ar S)(ix:List Nat):∀(f i:Nat)(sz:Nat→Int)(w:World),i<S.length→nz S sz≤f→Bd sz→StH D M w ix S sz →
  Calls Tryz.prog 99 #[nP (blk ix i)] w (MsP D M w ix S (ms S (f+1) i sz))
 | 0,i,sz,w,hi,hn,hb,h=>qE ar har S hw ix 0 (fun f' e=>by omega) i sz w hi hn hb h
 | f+1,i,sz,w,hi,hn,hb,h=>qE ar har S hw ix (f+1) (fun f' e=>by
   obtain rfl:f=f':=by omega
   exact fun i sz w hi hn hb h=>sN ar har S hw ix f i sz w hi hn hb h) i sz w hi hn hb h
end Go.Proofs.Q
