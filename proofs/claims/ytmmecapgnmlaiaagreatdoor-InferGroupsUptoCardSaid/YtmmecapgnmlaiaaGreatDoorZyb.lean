/- infer.uses -/
import Derived.Test.YtmmecapgnmlaiaaGreatDoorZxl
import Derived.Test.YtmmecapgnmlaiaaGreatDoorZya
set_option maxRecDepth 100000
set_option maxHeartbeats 16000000
namespace Go.Proofs.Q
open Go Go.RowKit Go.Proofs Go.Proofs.Scc
def usL (l:List (ByteArray×Int)):List Int:=l.filterMap fun r=>if r.1=⟨#[]⟩then some r.2 else none
def Dc.us (x:Dc):List Int:=usL x.refs
def Ep (R:List Int)(w:World)(e:Ending)(w':World):Prop:=∃v,e=.returned v∧w'.ownsRow w.heap.size 3 1 v R.length (R.map (.int .i64))∧RowKit.Below w.heap.size w w'
theorem jK {l:List Nd}:(refsOf l).length≤l.length:=by
 have h0:∀(l:List (ByteArray×Int)) (p:ByteArray×Int),(dd p l).length≤l.length:=fun l=>by
  induction l with
  | nil=>exact fun p=>SA _
  | cons y r ih =>
   intro p
   unfold dd
   split
   ·exact SE (ih y) (Nat.le_succ _)
   ·exact Nat.succ_le_succ (ih y)
 have h1:∀l:List (ByteArray×Int),(cZ l).length≤l.length:=fun l=>by
  cases l with
  | nil=>exact SA _
  | cons y r=>exact Nat.succ_le_succ (h0 r y)
 refine SE (h1 _) ?_
 rw[show (cK (gK l)).length=(gK l).length by simp[cK]]
 exact List.length_filterMap_le _ _
theorem tN {x:ByteArray}(h:¬x=⟨#[]⟩):x.toList.isEmpty=false:=by
 cases e:x.toList.isEmpty with
 | false=>rfl
 | true =>
  rw[List.isEmpty_iff,Lib.toList_data]at e
  exact absurd (by cases x with|mk d=>exact congrArg ByteArray.mk (Array.ext' (by simpa using e))) h
theorem BI (l:List (ByteArray×Int))(r:ByteArray×Int):usL (l++[r])=if r.1=⟨#[]⟩then usL l++[r.2]else usL l:=by
 unfold usL
 rw[List.filterMap_append]
 by_cases h:r.1=⟨#[]⟩
 ·simp[h]
 ·simp[h]
theorem rG (l:List (ByteArray×Int)):(usL l).length≤l.length:=List.length_filterMap_le _ _
theorem GD (x:Dc){w:World}(hs:x.s.Sl w w.heap.size x.A x.c)(hcnt:x.s.count≤100000) :
  Calls Tryz.prog 43 #[.agg #[.int .i64 x.id,.int .i64 x.kind,.bool x.pub,.slice x.nA x.names.length x.nc,.bool x.doubt,.int .i64 x.k,.string x.n,.string x.m,.int .i64 x.i,.int .i64 x.d,.slice x.A x.s.len x.c]] w (Ep x.us w):=by
 have hlen:x.refs.length≤1000000:=by
  have h1:x.refs.length≤x.body.vis.length:=jK
  rw[Fo.fB]at h1
  simp only[Dc.body,Fo.count]at h1
  omega
 have hus:usL x.refs=x.us:=rfl
 have hrf:refsOf (Fo.cons x.k x.n x.m x.i x.d x.A x.c x.s .nil).vis=x.refs:=rfl
 obtain⟨id,kind,pub,nA,nc,names,doubt,k,n,m,i,d,A,c,s⟩:=x
 obtain⟨W0,hW0⟩:∃W0,w.alloc (.cells #[.int .i64 id,.int .i64 kind,.bool pub,.slice nA names.length nc,.bool doubt,.int .i64 k,.string n,.string m,.int .i64 i,.int .i64 d,.slice A s.len c] 46)=W0:=⟨_,rfl⟩
 have hb0:RowKit.Below w.heap.size w W0:=by subst hW0;exact(TA _ _).alloc (SA _) _
 have hr0:W0.heap[w.heap.size]?=some (.cells #[.int .i64 id,.int .i64 kind,.bool pub,.slice nA names.length nc,.bool doubt,.int .i64 k,.string n,.string m,.int .i64 i,.int .i64 d,.slice A s.len c] 46 (0,0)):=by subst hW0;exact Sv w _
 have e5:=Sq W0 w.heap.size 5 _ _ (0,0) hr0
 have e6:=Sq W0 w.heap.size 6 _ _ (0,0) hr0
 have e7:=Sq W0 w.heap.size 7 _ _ (0,0) hr0
 have e8:=Sq W0 w.heap.size 8 _ _ (0,0) hr0
 have e9:=Sq W0 w.heap.size 9 _ _ (0,0) hr0
 have e10:=Sq W0 w.heap.size 10 _ _ (0,0) hr0
 simp at e5 e6 e7 e8 e9 e10
 have HC:=Sk (zK k n m i d A c s W0 (hs.keep (SF (by have:=hb0.size;subst hW0;simp)) fun p hp=>hb0.cell hp) hcnt)
 obtain⟨RF,HRF⟩:∃RF,RF=refsOf (Fo.cons k n m i d A c s .nil).vis:=⟨_,rfl⟩
 rw[←HRF]at HC hrf
 rw[←hrf]at hus hlen
 rw[←hus]
 obtain⟨L,HL⟩:∃L,Hid (RF.length=L):=⟨_,Sk rfl⟩
 rw[HL.out]at hlen
 obtain⟨nl,hnl⟩:∃nl,Hid (names.length=nl):=⟨_,Sk rfl⟩
 rw[hnl.out]at hW0 ⊢
 obtain⟨sl,hsl⟩:∃sl,Hid (s.len=sl):=⟨_,Sk rfl⟩
 rw[hsl.out]at hW0 HC e10 ⊢
 have HB:=Sk hb0
 clear hs hcnt hr0 hb0 HRF hrf hus
 go_enter Tryz.func43,Tryz.ntmps43
 go_wp2_with (go_at_call 54;(with_reducible refine TJ HC.out ?_);rintro e w2 ⟨v,rfl,hrow,hb2⟩;obtain⟨vA,vc,rfl⟩:=bR hrow;have HR2:=Sk (Sn hrow hb2);clear hrow hb2;rw[HL.out])
 go_loopg [3,5,10] L (fun g lv _ ct wr=>∃j:Nat,g=L-j∧j≤L∧ct=.int .i64 j∧wr.ownsRow w2.heap.size 3 1 lv (usL (RF.take j)).length ((usL (RF.take j)).map (.int .i64))∧RowKit.Below w2.heap.size w2 wr)
 case atStart=>exact⟨0,rfl,SC _,rfl,TD _ _ _ _,Tz _ _⟩
 case round =>
  obtain⟨j,hg,hj,rfl,hlv,hB⟩:=hrel
  obtain⟨lA,lc,rfl⟩:=bR hlv
  obtain⟨q,hq⟩:∃q,Hid ((usL (RF.take j)).length=q):=⟨_,Sk rfl⟩
  have hqj:q≤1000000:=by
   rw[←hq.out]
   have:=rG (RF.take j)
   rw[Um]at this
   omega
  by_cases hlt:j<L
  ·have hlt':j<RF.length:=by rw[HL.out];exact hlt
   obtain⟨x,hx⟩:∃x,RF[j]?=some x:=⟨_,Sw hlt'⟩
   obtain⟨n0,n1⟩:=fC x RF j hx
   obtain⟨b,rfl⟩:∃b,vA=some ⟨b,0,none⟩:=by
    rcases HR2.out.1.2 with⟨e,e'⟩|⟨g',cap',cur,e,_⟩
    ·rw[HL.out]at e';omega
    ·cases e;exact⟨_,rfl⟩
   have hbz:=(HR2.out.1.lt b rfl).2
   have hrow':=HR2.out.1
   have c0:wr.cell? ⟨b,j*2,none⟩=some (.string x.1):=(hB.cell (p:=⟨b,j*2,none⟩) hbz).trans ((hrow'.cellAt _ (by omega)).trans n0)
   have c1:wr.cell? ⟨b,j*2+1,none⟩=some (.int .i64 x.2):=(hB.cell (p:=⟨b,j*2+1,none⟩) hbz).trans ((hrow'.cellAt _ (by omega)).trans n1)
   have htk:RF.take (j+1)=RF.take j++[x]:=by rw[Tn,hx];rfl
   have hsn:=BI (RF.take j) x
   rw[←htk]at hsn
   obtain⟨xn,xi⟩:=x
   simp only at c0 c1 hsn
   obtain⟨W3,hW3⟩:∃W3,wr.alloc (.cells #[.string xn,.int .i64 xi] 102)=W3:=⟨_,rfl⟩
   have hb3:RowKit.Below wr.heap.size wr W3:=by subst hW3;exact(Tz _ _).alloc (SA _) _
   have hr3:W3.heap[wr.heap.size]?=some (.cells #[.string xn,.int .i64 xi] 102 (0,0)):=by subst hW3;exact Sv wr _
   have f0:=Sq W3 wr.heap.size 0 _ _ (0,0) hr3
   have f1:=Sq W3 wr.heap.size 1 _ _ (0,0) hr3
   simp at f0 f1
   have hlv3:=bQ hlv (w':=W3) fun g hg=>hb3.block g (hlv.lt g hg).2
   rw[hq.out]at hlv3 ⊢
   by_cases he:xn=⟨#[]⟩
   ·subst he
    rw[TY rfl]at hsn
    obtain⟨i1',hi',hz0',hz1',hz2'⟩:=info_parts Tryz.oz
    have hrl:(W3.alloc (.cells #[.int .i64 xi] 3)).ownsRow w2.heap.size 3 1 (.slice lA q lc) q ((usL (RF.take j)).map (.int .i64)):=hlv3.alloc _
    have HI3:=Sk (Sn hrl (Sn (show w2.heap.size≤(W3.alloc (.cells #[.int .i64 xi] 3)).heap.size by have:=hB.size;have:=hb3.size;simp;omega) (Sn (hB.trans (hb3.mono hB.size)) (Sn hsn hg))))
    clear hlv hlv3 hrl hB hb3 hr3 hx n0 n1 htk hsn hg hrow' hlt'
    go_upto_region 5 with fail
    try rw[hW3]
    go_wp2_with (at_builtin;refine wpList_append_own_at _ rfl _ _ 39 rfl w2.heap.size 3 i1' _ 1 8 Tryz.lX hi' hz0' hz1' hz2' rfl (by decide) (.slice lA q lc) q _ rfl HI3.out.1 ⟨W3.heap.size,0,none⟩ 1 1 [.int .i64 xi] rfl rfl (ji W3 _ _) (by simp[Value.oneCell']) (by unfold maxLen;omega) (by omega) HI3.out.2.1 ?_;intro lv6 Z6 hown6 dh _ _;have HZ6:=Sk (Sn hown6 dh);clear hown6 dh)
    go_roundg (L-(j+1))
    case measure=>have:=HI3.out.2.2.2.2;omega
    case rel =>
     refine⟨j+1,rfl,by omega,by go_num,?_,?_⟩
     ·rw[HI3.out.2.2.2.1,SX,Tp,SY,hq.out]
      exact HZ6.out.1
     ·have h1:=HI3.out.2.2.1
      exact h1.trans (((Tz _ _).alloc h1.size (.cells #[.int .i64 xi] 3)).trans (cu HZ6.out.2 HI3.out.2.1 fun k e=>(HI3.out.1.lt k e).1))
   ·rw[TW he]at hsn
    have he':xn.toList.isEmpty=false:=tN he
    have HI3:=Sk (Sn hlv3 (Sn (hB.trans (hb3.mono hB.size)) (Sn hsn hg)))
    clear hlv hlv3 hB hb3 hr3 hx n0 n1 htk hsn hg hrow' hlt'
    go_upto_region 5 with fail
    try rw[hW3]
    go_wp2
    go_roundg (L-(j+1))
    case measure=>have:=HI3.out.2.2.2;omega
    case rel =>
     refine⟨j+1,rfl,by omega,by go_num,?_,HI3.out.2.1⟩
     rw[HI3.out.2.2.1,hq.out]
     exact HI3.out.1
  ·obtain rfl:j=L:=by omega
   have i1:decide ((j:Int)<(j:Int))=false:=SH (by omega)
   have i2:decide (j<j)=false:=SH (by omega)
   have htk:RF.take j=RF:=Tm (by rw[HL.out];exact SA _)
   rw[htk]at hlv hq
   have HI3:=Sk (Sn hlv hB)
   rw[htk]
   clear hlv hB hg
   go_wp2
   go_ret
   refine⟨_,rfl,?_,?_⟩
   ·have h2:=HI3.out.1
    have h3:=HR2.out.2.size
    have h4:=HB.out.size
    exact fQ h2 (by omega)
   ·have h2:=HR2.out.2
    have h3:=HB.out
    exact h3.trans ((h2.mono h3.size).trans (HI3.out.2.mono (SE h3.size h2.size)))
def dP (ds:List Dc)(a:Int):List Int:=match ds.find? (fun d=>d.id==a)with
 | some d=>d.us
 | none=>[]
def aA (ds:List Dc):List Int:=ds.map Dc.id
def dM (ds:List Dc):Bool:=ds.any fun d=>d.us.any fun u=>!(decide (u∈aA ds))
def kr (label:ByteArray)(uses:List ByteArray)(ds:List Dc):Int:=if bY label uses ds≠0 then bY label uses ds else if dM ds=true then 21 else 0
def bX (ds:List Dc):List (List Int):=iK (dP ds) (aA ds)
theorem vV:∀{label:ByteArray}{ds:List Dc}{p:Option Int},cO label p ds=0→(∀x∈ds,∀q,p=some q→q<x.id)∧(aA ds).Pairwise (· < ·)
 | _,[],_,_=>⟨fun x hx=>(by cases hx),List.Pairwise.nil⟩
 | label,y::r,p,h=>by
  have key:cO label (some y.id) r=0∧∀q,p=some q→q<y.id:=by
   cases p with
   | none =>
    unfold cO at h
    by_cases hy:fG label y=0
    ·rw[TY hy]at h;exact⟨h,fun q e=>by cases e⟩
    ·rw[TW hy]at h;exact absurd h hy
   | some p =>
    unfold cO at h
    by_cases hy:fG label y=0
    ·rw[TY hy]at h
     by_cases hp:y.id≤p
     ·rw[TY hp]at h;simp at h
     ·rw[TW hp]at h;exact⟨h,fun q e=>by cases e;omega⟩
    ·rw[TW hy]at h;exact absurd h hy
  obtain⟨k1,k2⟩:=vV key.1
  have k3:∀x∈r,y.id<x.id:=fun x hx=>k1 x hx _ rfl
  refine⟨fun x hx q hq=>?_,?_⟩
  ·rcases TI.1 hx with rfl|hx
   ·exact key.2 q hq
   ·have:=key.2 q hq;have:=k3 x hx;omega
  ·show (y.id::aA r).Pairwise _
   rw[Ub]
   refine⟨fun a ha=>?_,k2⟩
   obtain⟨x,hx,rfl⟩:=TH.1 ha
   exact k3 x hx
structure MdV (label:ByteArray)(ds:List Dc):Prop where
 asc:(aA ds).Pairwise (· < ·)
 len:ds.length≤100
 v:∀x∈ds,DcV label x
theorem MdV.of {label:ByteArray}{uses:List ByteArray}{ds:List Dc}(h:bY label uses ds=0):MdV label ds:=by
 obtain⟨_,h2,h3⟩:=CZ h
 refine⟨?_,h2,h3⟩
 have h4:cO label none ds=0:=by
  unfold bY at h
  split at h
  ·simp at h
  ·split at h
   ·rename_i h1;exact absurd h h1
   ·split at h
    ·rename_i h1;exact absurd h h1
    ·split at h
     ·simp at h
     ·exact h
 exact(vV h4).2
section
variable {label:ByteArray} {ds:List Dc}
theorem Mr (h:(aA ds).Pairwise (· < ·)){j:Nat}{x:Dc}(hx:ds[j]?=some x):ds.find? (fun d=>d.id==x.id)=some x:=by
 induction ds generalizing j with
 | nil=>simp at hx
 | cons y r ih =>
  have h':(y.id::aA r).Pairwise (· < ·):=h
  rw[Ub]at h'
  cases j with
  | zero =>
   simp only[List.getElem?_cons_zero,TK]at hx
   subst hx
   simp[List.find?]
  | succ j =>
   rw[List.getElem?_cons_succ]at hx
   have h1:y.id<x.id:=h'.1 x.id (TH.2 ⟨x,SV hx,rfl⟩)
   have e:(y.id==x.id)=false:=by simp;omega
   rw[List.find?_cons,e]
   exact ih h'.2 hx
theorem oW (h:(aA ds).Pairwise (· < ·)){j:Nat}{x:Dc}(hx:ds[j]?=some x):dP ds x.id=x.us:=by
 unfold dP
 rw[Mr h hx]
theorem IB (h:(aA ds).Pairwise (· < ·)){x:Dc}(hx:x∈ds):dP ds x.id=x.us:=by
 obtain⟨j,hj⟩:=List.getElem?_of_mem hx
 exact oW h hj
theorem DcV.KX {x:Dc}(h:DcV label x):x.us.length≤1000∧∀u∈x.us,1≤u∧u≤999999:=by
 have h1:x.refs.length≤x.body.vis.length:=jK
 rw[Fo.fB]at h1
 simp only[Dc.body,Fo.count]at h1
 have h2:=rG x.refs
 have h3:=h.cnt
 refine⟨by unfold Dc.us;omega,fun u hu=>?_⟩
 unfold Dc.us usL at hu
 rw[List.mem_filterMap]at hu
 obtain⟨r,hr,e⟩:=hu
 split at e
 ·cases e;exact(h.refs r hr).2
 ·cases e
theorem MdV.gr (h:MdV label ds)(hm:dM ds=false):FM (dP ds) (aA ds):=by
 have hx:∀a∈aA ds,∃x∈ds,x.id=a∧dP ds a=x.us:=fun a ha=>by
  obtain⟨x,hx,rfl⟩:=TH.1 ha
  exact⟨x,hx,rfl,IB h.asc hx⟩
 refine⟨jL h.asc,fun a ha=>?_,fun a ha u hu=>?_,by show (ds.map Dc.id).length≤1000;rw[S9];have:=h.len;omega,fun a ha=>?_⟩
 ·obtain⟨x,hx,rfl,_⟩:=hx a ha
  exact lq (h.v x hx).id
 ·obtain⟨x,hx,rfl,e⟩:=hx a ha
  rw[e]at hu
  unfold dM at hm
  rw[TG]at hm
  have:=hm x hx
  rw[Uf,TG]at this
  simpa using this u hu
 ·obtain⟨x,hx,rfl,e⟩:=hx a ha
  rw[e]
  have:=(h.v x hx).KX.1
  omega
end
def rX (W:World)(E:Int)(R:List (List Int))(e:Ending)(Y:World):Prop:=
 ∃v gl,e=.returned (.tuple #[v,.int .i64 E])∧RowKit.Below W.heap.size W Y∧((E=0∧RG Y W.heap.size W.heap.size v gl R)∨(E≠0∧v=.slice none 0 0))
theorem zO {w:World}{base:Nat}{v:Value}{l:List Int}(h:w.ownsRow base 3 1 v l.length (l.map (.int .i64))):∃A c,v=.slice A l.length c∧dF w w.heap.size A c l:=by
 rcases h.2 with⟨e1,e2⟩|⟨g,cap,cur,e1,e2,e3,e4,e5,e6,e7⟩
 ·have:l=[]:=Tq.1 e2
  subst this
  exact⟨none,0,e1,SA _,SC _,fun h'=>absurd rfl h'⟩
 ·subst e1
  refine⟨_,cap,rfl,e4,e5,fun _=>⟨g,0,rfl,lt_of_block e3,fun j i hj=>?_⟩⟩
  have:=(h.cellAt j (by rw[Nat.mul_one];exact(Sy.1 hj).1))
  rw[Tk,hj]at this
  rw[Nat.zero_add]
  exact this
def jS (ids:List Int)(used:Int→List Int)(j:Nat)(a:Int):List Int:=if a∈ids.take j then used a else []
structure GuI (W:World)(ub:Nat)(mo:Array Value)(ids:List Int)(used:Int→List Int)(j:Nat)(w:World):Prop where
 bl:RowKit.Below W.heap.size W w
 box:w.heap[W.heap.size]?=some (.cells mo 25 (0,0))
 lt:W.heap.size<ub
 um:∃g,aQ aH w ub j g∧∀a,∃A c,(g a).getD (.slice none 0 0)=.slice A (jS ids used j a).length c∧dF w w.heap.size A c (jS ids used j a)
section
variable {W w w':World} {ub j:Nat} {mo:Array Value} {ids:List Int} {used:Int→List Int}
theorem dF.mono {B B':Nat}{A:Option Addr}{c:Nat}{l:List Int}(h:dF w B A c l)(hB:B≤B'):dF w B' A c l:=⟨h.1,h.2.1,fun hne=>by
 obtain⟨g,o,e,hg,hc⟩:=h.2.2 hne
 exact⟨g,o,e,SB hg hB,hc⟩⟩
theorem GuI.below (h:GuI W ub mo ids used j w)(hb:RowKit.Below w.heap.size w w'):GuI W ub mo ids used j w':=by
 obtain⟨g,hm,ha⟩:=h.um
 refine⟨h.bl.trans (hb.mono h.bl.size),(hb.block _ (lt_of_block h.box)).trans h.box,h.lt,g,hm.keep (hb.block ub hm.lt),fun a=>?_⟩
 obtain⟨A,c,e,hi⟩:=ha a
 exact⟨A,c,e,(hi.below hb).mono hb.size⟩
theorem aQ.cells {α:Type}{K:fq α}{b N:Nat}{g:α→Option Value}(h:aQ K w b N g){k:Nat}{cur:Array Value}{t:TypeId}{fz:Nat×Nat}(hc:w.heap[k]?=some (.cells cur t fz)):k≠b:=fun e=>by
 obtain⟨_,_,⟨es,cl,h1,_⟩,_⟩:=h
 rw[e,h1]at hc
 cases hc
theorem dF.turn {A:Option Addr}{c:Nat}{l:List Int}(h:dF w w.heap.size A c l){tb:Nat}(hz:w.heap.size≤w'.heap.size)(hs:∀k,k<w.heap.size→k≠tb→w'.heap[k]?=w.heap[k]?)(ht:∃es c,w.heap[tb]?=some (.map es c)):dF w' w'.heap.size A c l:=
 ⟨h.1,h.2.1,fun hne=>by
  obtain⟨q,o,e,hq,hc⟩:=h.2.2 hne
  obtain⟨i,hi⟩:∃i,i∈l:=List.exists_mem_of_ne_nil _ hne
  obtain⟨t,ht'⟩:=List.getElem?_of_mem hi
  have h0:=hc t i ht'
  have hqm:q≠tb:=fun e'=>by
   obtain⟨es,cl,h1⟩:=ht
   rw[e']at h0
   simp[World.cell?,h1]at h0
  exact⟨q,o,e,SB hq hz,fun t' i' ht'=>(SN (hs q hq hqm)).trans (hc t' i' ht')⟩⟩
theorem GuI.put (h:GuI W ub mo ids used j w){a:Int}(hj:ids[j]?=some a)(hn:ids.Nodup)(ha:aH.ok a)(hjm:j<maxLen){A:Option Addr}{c:Nat}(hi:dF w w.heap.size A c (used a)) :
  ∃Y,(Instr.mapUpdate 77 (.map (some ub)) (.int .i64 a) (.slice A (used a).length c)).run Tryz.prog w=.ok () Y∧GuI W ub mo ids used (j+1) Y:=by
 obtain⟨g,hm,hg⟩:=h.um
 obtain⟨Y,hr,hm2,hgr⟩:=hm.put (t:=77) Tryz.pX hjm ha (.slice A (used a).length c)
 have hlt:=h.lt
 have hbz:=lt_of_block h.box
 have hs:∀k,k<w.heap.size→k≠ub→Y.heap[k]?=w.heap[k]?:=fun k hk hne=>hgr.block k hk (fun e=>hne (TL e))
 have htm:∃es c,w.heap[ub]?=some (.map es c):=by
  obtain⟨_,_,⟨es,cl,h1,_⟩,_⟩:=hm
  exact⟨es,cl,h1⟩
 have htk:ids.take (j+1)=ids.take j++[a]:=by rw[Tn,hj];rfl
 have hna:a∉ids.take j:=fun hm'=>by
  rw[←List.take_append_drop (j+1) ids,htk,List.nodup_append]at hn
  exact(List.nodup_append.1 hn.1).2.2 a hm' a (by simp) rfl
 refine⟨Y,hr,h.bl.trans (cu hgr h.bl.size (fun k e=>by have:=TL e;omega)),(hs _ hbz (by omega)).trans h.box,hlt,_,hm2,fun x=>?_⟩
 unfold jS
 rw[htk]
 by_cases e:x=a
 ·subst e
  rw[TY rfl,TY (by simp)]
  exact⟨A,c,rfl,hi.turn hgr.size hs htm⟩
 ·rw[TW e]
  obtain⟨A',c',e',hi'⟩:=hg x
  unfold jS at e' hi'
  by_cases hx:x∈ids.take j
  ·rw[TY hx]at e' hi'
   rw[TY (List.mem_append_left _ hx)]
   exact⟨A',c',e',hi'.turn hgr.size hs htm⟩
  ·rw[TW hx]at e' hi'
   rw[TW (by simp[hx,e])]
   exact⟨A',c',e',hi'.turn hgr.size hs htm⟩
structure GuT (W:World)(ub tb:Nat)(mo:Array Value)(ids:List Int)(used:Int→List Int)(j:Nat)(w:World):Prop where
 i:GuI W ub mo ids used ids.length w
 ne:ub<tb
 tm:aQ aH w tb j (fun a=>if a∈ids.take j then some (.bool true)else none)
theorem GuT.below {tb:Nat}(h:GuT W ub tb mo ids used j w)(hb:RowKit.Below w.heap.size w w'):GuT W ub tb mo ids used j w':=⟨h.i.below hb,h.ne,h.tm.keep (hb.block tb h.tm.lt)⟩
theorem GuT.put {tb:Nat}(h:GuT W ub tb mo ids used j w){a:Int}(hj:ids[j]?=some a)(ha:aH.ok a)(hjm:j<maxLen) :
  ∃Y,(Instr.mapUpdate 79 (.map (some tb)) (.int .i64 a) (.bool true)).run Tryz.prog w=.ok () Y∧GuT W ub tb mo ids used (j+1) Y:=by
 obtain⟨Y,hr,hm2,hgr⟩:=h.tm.put (t:=79) Tryz.iW hjm ha (.bool true)
 have hs:∀k,k<w.heap.size→k≠tb→Y.heap[k]?=w.heap[k]?:=fun k hk hne=>hgr.block k hk (fun e=>hne (TL e))
 have htk:ids.take (j+1)=ids.take j++[a]:=by rw[Tn,hj];rfl
 have hne:=h.ne
 have hlt:=h.i.lt
 obtain⟨g,hm,hg⟩:=h.i.um
 have htm:∃es c,w.heap[tb]?=some (.map es c):=by
  obtain⟨_,_,⟨es,cl,h1,_⟩,_⟩:=h.tm
  exact⟨es,cl,h1⟩
 refine⟨Y,hr,⟨h.i.bl.trans (cu hgr h.i.bl.size (fun k e=>by have:=TL e;omega)),(hs _ (lt_of_block h.i.box) (by omega)).trans h.i.box,hlt,g,hm.keep (hs ub hm.lt (by omega)),fun x=>?_⟩,hne,hm2.eG fun x _=>?_⟩
 ·obtain⟨A,c,e,hi⟩:=hg x
  exact⟨A,c,e,hi.turn hgr.size hs htm⟩
 ·rw[htk]
  by_cases e:x=a
  ·subst e;simp
  ·simp[e]
theorem GuT.looks {tb:Nat}(h:GuT W ub tb mo ids used ids.length w)(hu:∀a,a∉ids→used a=[]){a:Int}(ha:aH.ok a) :
  (∃A c,(Instr.lookup 77 (.map (some ub)) (.int .i64 a) false).run Tryz.prog w=.ok (.slice A (used a).length c) w∧dF w w.heap.size A c (used a))∧(Instr.lookup 79 (.map (some tb)) (.int .i64 a) false).run Tryz.prog w=.ok (.bool (decide (a∈ids))) w:=by
 constructor
 ·obtain⟨g,hm,hg⟩:=h.i.um
  have:=hm.look false (t:=77) Tryz.pX (pY w) ha
  simp only[TN,if_false,aH]at this
  obtain⟨A,c,e,hi⟩:=hg a
  have e2:jS ids used ids.length a=used a:=by
   unfold jS
   rw[List.take_length]
   split
   ·rfl
   ·rename_i hn;exact(hu a hn).symm
  rw[e2]at e hi
  rw[e]at this
  exact⟨A,c,this,hi⟩
 ·have:=h.tm.look false (t:=79) Tryz.iW (kQ w) ha
  simp only[TN,if_false,aH]at this
  have e:(if a∈ids.take ids.length then some (Value.bool true)else none).getD (.bool false)=.bool (decide (a∈ids)):=by
   rw[List.take_length]
   by_cases e:a∈ids
   ·rw[TY e,SI e];rfl
   ·rw[TW e,SH e];rfl
  rw[e]at this
  exact this
theorem GuI.done (h:GuI W ub mo ids used ids.length w)(hu:∀a,a∉ids→used a=[]):zM w.heap.size ub used w:=by
 obtain⟨g,hm,ha⟩:=h.um
 have e:jS ids used ids.length=used:=by
  funext a
  unfold jS
  rw[List.take_length]
  split
  ·rfl
  ·rename_i hn;exact(hu a hn).symm
 rw[e]at ha
 exact⟨_,g,hm,ha⟩
end
end Go.Proofs.Q
namespace Go.Proofs.Q
open Go Go.RowKit Go.Proofs Go.Shelf
theorem ints_at {w:World}{B:Nat}{A:Option Addr}{c:Nat}{l:List Int}(h:dF w B A c l){j:Nat}(hj:j<l.length):∃b o,A=some ⟨b,o,none⟩∧b<B∧w.cell? ⟨b,o+j,none⟩=some (.int .i64 l[j]):=by
 obtain⟨b,o,e,hb,hs⟩:=h.2.2 (by intro e;subst e;simp at hj)
 exact⟨b,o,e,hb,hs j _ (Sw hj)⟩
theorem IC (l:List Int)(s:Int)(A:Option Addr)(c:Nat)(w:World)(hs:dF w w.heap.size A c l) :
  Calls Tryz.prog 20 #[.slice A l.length c,.int .i64 s] w fun e w'=>e=.returned (.bool (decide (s∈l)))∧w=w':=by
 have hc1:=hs.1
 have hc2:=hs.2.1
 unfold maxLen at hc2
 have HS:=Sk hs
 clear hs
 obtain⟨E,HE⟩:∃E,Hid (decide (s∈l)=E):=⟨_,Sk rfl⟩
 rw[HE.out]
 obtain⟨n,HN⟩:∃n,Hid (l.length=n):=⟨_,Sk rfl⟩
 rw[HN.out]at hc1 ⊢
 go_enter Tryz.func20,Tryz.ntmps20
 go_wp2
 go_loop [5] (fun ct=>∃j:Nat,j≤n∧ct=.int .i64 j∧(∀i,i<j→∀v,l[i]?=some v→v≠s)) (fun ct=>n-(intOf ct).toNat)
 case atStart=>exact⟨0,by omega,rfl,by intro i hi;omega⟩
 case round =>
  obtain⟨j,hj,rfl,HA⟩:=hrel
  have HA':=Sk HA
  clear HA
  by_cases hlt:j<n
  ·have hjl:j<l.length:=by rw[HN.out];exact hlt
   obtain⟨b,o,rfl,hb,hcell⟩:=ints_at HS.out hjl
   have hj2:=Sk (Sw hjl)
   generalize l[j]=v at hcell hj2
   clear hjl
   by_cases hv:v=s
   ·subst hv
    have HR:=Sk (show E=true by
     rw[←HE.out,decide_eq_true_eq]
     exact SV hj2.out)
    go_wp2
    go_ret
    exact⟨by rw[HR.out];rfl,rfl⟩
   ·have hv':(v==s)=false:=by simpa using hv
    go_wp2
    go_round
    case measure=>simp[intOf];omega
    case rel =>
     refine⟨j+1,by omega,by go_num,fun i hi u hu=>?_⟩
     by_cases hij:i=j
     ·subst hij
      rw[hj2.out]at hu
      cases hu
      exact hv
     ·exact HA'.out i (by omega) u hu
  ·have HR:=Sk (show E=false by
    rw[←HE.out,decide_eq_false_iff_not]
    intro hm
    obtain⟨i,hi⟩:=List.mem_iff_getElem?.1 hm
    exact HA'.out i (by have:=(Sy.1 hi).1;rw[HN.out]at this;omega) s hi rfl)
   go_wp2
   go_ret
   exact⟨by rw[HR.out];rfl,rfl⟩
end Go.Proofs.Q
namespace Go.Proofs.Q
open Go Go.RowKit Go.Proofs Go.Proofs.Scc
def GsA (w:World)(A:Option Addr)(c:Nat)(gs:List (List Int)):Prop:=
 gs.length≤c∧c≤maxLen∧(gs≠[]→∃g o,A=some ⟨g,o,none⟩∧∀(j:Nat) (l:List Int),gs[j]?=some l→∃A' c',w.cell? ⟨g,o+j,none⟩=some (.slice A' l.length c')∧dF w w.heap.size A' c' l)
theorem GsA.keep {w w':World}{A:Option Addr}{c:Nat}{gs:List (List Int)}(h:GsA w A c gs)(hb:RowKit.Below w.heap.size w w'):GsA w' A c gs:=
 ⟨h.1,h.2.1,fun hne=>by
  obtain⟨g,o,e,hc⟩:=h.2.2 hne
  refine⟨g,o,e,fun j l hj=>?_⟩
  obtain⟨A',c',h1,h2⟩:=hc j l hj
  exact⟨A',c',(hb.cell (p:=⟨g,o+j,none⟩) (SS w ⟨g,o+j,none⟩ h1)).trans h1,(h2.below hb).mono hb.size⟩⟩
theorem RG.gsA {w:World}{base rb:Nat}{v:Value}{gl:List Value}{gs:List (List Int)}(h:RG w base rb v gl gs):∃A c,v=.slice A gs.length c∧GsA w A c gs:=by
 have hl:=h.len
 rcases h.row.2 with⟨e1,e2⟩|⟨g,cap,cur,e1,e2,e3,e4,e5,e6,e7⟩
 ·have:gs=[]:=Tq.1 (by omega)
  subst this
  exact⟨none,0,e1,SA _,SC _,fun h'=>absurd rfl h'⟩
 ·subst e1
  rw[hl]at e4 ⊢
  refine⟨_,cap,rfl,e4,e5,fun _=>⟨g,0,rfl,fun j l hj=>?_⟩⟩
  obtain⟨v,hv⟩:∃v,gl[j]?=some v:=⟨_,Sw (by have:=(Sy.1 hj).1;omega)⟩
  obtain⟨A',c',rfl,hi⟩:=(h.gs j v l hv hj).ints
  have:=(h.row.cellAt j (by rw[Nat.mul_one];exact(Sy.1 hv).1)).trans hv
  rw[Nat.zero_add]
  exact⟨A',c',this,hi⟩
theorem oM {w:World}{A1 A2:Option Addr}{c1 c2:Nat}{g1 g2:List (List Int)}(h1:GsA w A1 c1 g1)(h2:GsA w A2 c2 g2) :
  Calls Tryz.prog 16 #[.slice A1 g1.length c1,.slice A2 g2.length c2] w fun e w'=>e=.returned (.bool (decide (g1=g2)))∧RowKit.Below w.heap.size w w':=by
 obtain⟨R,HR⟩:∃R,Hid (decide (g1=g2)=R):=⟨_,Sk rfl⟩
 obtain⟨N1,HN1⟩:∃N,Hid (g1.length=N):=⟨_,Sk rfl⟩
 obtain⟨N2,HN2⟩:∃N,Hid (g2.length=N):=⟨_,Sk rfl⟩
 have HH:=Sk (Sn h1 h2)
 have hc1:=h1.1
 have hc1':=h1.2.1
 have hc2:=h2.1
 have hc2':=h2.2.1
 unfold maxLen at hc1' hc2'
 rw[HN1.out]at hc1
 rw[HN2.out]at hc2
 rw[HR.out,HN1.out,HN2.out]
 clear h1 h2
 by_cases hl:N1=N2
 rotate_left
 ·have hl':((N1:Int) != (N2:Int))=true:=bne_iff_ne.2 (by omega)
  have HV:=Sk (show R=false by rw[←HR.out];exact SH fun e=>hl (by rw[←HN1.out,←HN2.out,e]))
  clear hl
  go_enter Tryz.func16,Tryz.ntmps16
  go_wp2
  go_ret
  exact⟨by rw[HV.out];rfl,Tz _ _⟩
 subst hl
 go_enter Tryz.func16,Tryz.ntmps16
 go_wp2
 go_loopg [5] N1 (fun g ct wr=>∃j:Nat,g=N1-j∧j≤N1∧ct=.int .i64 j∧RowKit.Below w.heap.size w wr∧g1.take j=g2.take j)
 case atStart=>exact⟨0,rfl,SC _,rfl,Tz _ _,by simp⟩
 case round =>
  obtain⟨j,hg,hj,rfl,hb,ht⟩:=hrel
  by_cases hlt:j<N1
  ·obtain⟨l1,hl1⟩:∃l,g1[j]?=some l:=⟨_,Sw (by rw[HN1.out];exact hlt)⟩
   obtain⟨l2,hl2⟩:∃l,g2[j]?=some l:=⟨_,Sw (by rw[HN2.out];exact hlt)⟩
   obtain⟨b1,o1,rfl,hc⟩:=(HH.out.1.keep hb).2.2 (by intro e;rw[e]at hl1;simp at hl1)
   obtain⟨A1',c1',k1,i1⟩:=hc j l1 hl1
   obtain⟨b2,o2,rfl,hc'⟩:=(HH.out.2.keep hb).2.2 (by intro e;rw[e]at hl2;simp at hl2)
   obtain⟨A2',c2',k2,i2⟩:=hc' j l2 hl2
   obtain⟨M1,HM1⟩:∃M,Hid (l1.length=M):=⟨_,Sk rfl⟩
   obtain⟨M2,HM2⟩:∃M,Hid (l2.length=M):=⟨_,Sk rfl⟩
   have z1:=i1.1
   have z1':=i1.2.1
   have z2:=i2.1
   have z2':=i2.2.1
   unfold maxLen at z1' z2'
   rw[HM1.out]at k1 z1
   rw[HM2.out]at k2 z2
   have p1:(0:Int)≤(j:Int):=by omega
   have p2:(j:Int)<(N1:Int):=by omega
   have HJ:=Sk (Sn hg (Sn ht (Sn i1 (Sn i2 (Sn hl1 (Sn hl2 hb))))))
   clear hg ht hl1 hl2 hc hc' i1 i2 hb
   by_cases hm:M1=M2
   rotate_left
   ·have hm':((M1:Int) != (M2:Int))=true:=bne_iff_ne.2 (by omega)
    have HV:=Sk (show R=false by
     rw[←HR.out]
     refine SH fun e=>hm ?_
     have h1:=HJ.out.2.2.2.2.1
     rw[e,HJ.out.2.2.2.2.2.1]at h1
     cases h1
     rw[←HM1.out,←HM2.out])
    clear hm
    go_upto_region 6 with fail
    go_quiet (fail)
    go_wp2
    go_ret
    exact⟨by rw[HV.out];rfl,HJ.out.2.2.2.2.2.2.trans ((dJ _ _).mono HJ.out.2.2.2.2.2.2.size)⟩
   subst hm
   have hm':((M1:Int) != (M1:Int))=false:=by simp
   go_upto_region 6 with fail
   go_quiet (fail)
   go_wp2
   go_loopg [6] M1 (fun g ct w'=>∃q:Nat,g=M1-q∧q≤M1∧ct=.int .i64 q∧RowKit.Below w.heap.size w w'∧l1.take q=l2.take q)
   case atStart=>exact⟨0,rfl,SC _,rfl,HJ.out.2.2.2.2.2.2.trans ((dJ _ _).mono HJ.out.2.2.2.2.2.2.size),by simp⟩
   case round =>
    obtain⟨q,hg,hq,rfl,hb,ht⟩:=hrel
    obtain⟨b1',o1',eb1,hc⟩:=(HH.out.1.keep hb).2.2 (by intro e;have:=HJ.out.2.2.2.2.1;rw[e]at this;simp at this)
    cases eb1
    obtain⟨B1,d1,k1,i1⟩:=hc j l1 HJ.out.2.2.2.2.1
    obtain⟨b2',o2',eb2,hc'⟩:=(HH.out.2.keep hb).2.2 (by intro e;have:=HJ.out.2.2.2.2.2.1;rw[e]at this;simp at this)
    cases eb2
    obtain⟨B2,d2,k2,i2⟩:=hc' j l2 HJ.out.2.2.2.2.2.1
    have z1:=i1.1
    have z1':=i1.2.1
    have z2:=i2.1
    have z2':=i2.2.1
    unfold maxLen at z1' z2'
    rw[HM1.out]at k1 z1
    rw[HM2.out]at k2 z2
    by_cases hlq:q<M1
    ·obtain⟨x,hx⟩:∃x,l1[q]?=some x:=⟨_,Sw (by rw[HM1.out];exact hlq)⟩
     obtain⟨y,hy⟩:∃y,l2[q]?=some y:=⟨_,Sw (by rw[HM2.out];exact hlq)⟩
     obtain⟨e1,f1,rfl,_,he1⟩:=i1.2.2 (by intro e;rw[e]at hx;simp at hx)
     obtain⟨e2,f2,rfl,_,he2⟩:=i2.2.2 (by intro e;rw[e]at hy;simp at hy)
     have ex:=he1 q x hx
     have ey:=he2 q y hy
     have p3:(0:Int)≤(q:Int):=by omega
     have p4:(q:Int)<(M1:Int):=by omega
     by_cases hxy:x=y
     ·subst hxy
      have hn:(x != x)=false:=by simp
      have HQ:=Sk (Sn hg (Sn hb (show l1.take (q+1)=l2.take (q+1) by rw[Tn,Tn,hx,hy,ht])))
      clear hg hb ht hc hc' i1 i2 hx hy he1 he2
      go_wp2
      go_quiet (fail)
      go_wp2
      go_roundg (M1-(q+1))
      case measure=>have:=HQ.out.1;omega
      case rel=>exact⟨q+1,rfl,by omega,by go_num,HQ.out.2.1.trans ((dJ _ _).mono HQ.out.2.1.size),HQ.out.2.2⟩
     ·have hn:(x != y)=true:=bne_iff_ne.2 hxy
      have HV:=Sk (Sn (show R=false by
       rw[←HR.out]
       refine SH fun e=>hxy ?_
       have h1:=HJ.out.2.2.2.2.1
       rw[e,HJ.out.2.2.2.2.2.1]at h1
       cases h1
       rw[hx]at hy
       cases hy
       rfl) hb)
      clear hg hb ht hc hc' i1 i2 hx hy he1 he2 hxy
      go_wp2
      go_quiet (fail)
      go_wp2
      go_ret
      exact⟨by rw[HV.out.1];rfl,HV.out.2.trans ((dJ _ _).mono HV.out.2.size)⟩
    ·have hqM:M1=q:=by omega
     subst hqM
     have i1':decide ((M1:Int)<(M1:Int))=false:=SH (by omega)
     have i2':decide (M1<M1)=false:=SH (by omega)
     rw[Tm (by rw[HM1.out];exact SA _),Tm (by rw[HM2.out];exact SA _)]at ht
     have HQ:=Sk (Sn hb (show g1.take (j+1)=g2.take (j+1) by rw[Tn,Tn,HJ.out.2.2.2.2.1,HJ.out.2.2.2.2.2.1,HJ.out.2.1,ht]))
     clear hg hb ht hc hc' i1 i2
     go_wp2
     go_roundg (N1-(j+1))
     case measure=>have:=HJ.out.1;omega
     case rel=>exact⟨j+1,rfl,by omega,by go_num,HQ.out.1,HQ.out.2⟩
  ·have hjN:N1=j:=by omega
   subst hjN
   have i1:decide ((N1:Int)<(N1:Int))=false:=SH (by omega)
   have i2:decide (N1<N1)=false:=SH (by omega)
   rw[Tm (by rw[HN1.out];exact SA _),Tm (by rw[HN2.out];exact SA _)]at ht
   have HV:=Sk (Sn (show R=true by rw[←HR.out];exact SI ht) hb)
   clear ht hb hg
   go_wp2
   go_ret
   exact⟨by rw[HV.out.1];rfl,HV.out.2⟩
end Go.Proofs.Q
