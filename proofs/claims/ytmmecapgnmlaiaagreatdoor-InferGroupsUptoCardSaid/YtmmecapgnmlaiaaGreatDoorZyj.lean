/- helper lemmas -/
import Derived.Test.YtmmecapgnmlaiaaGreatDoorZyi
import Derived.Test.YtmmecapgnmlaiaaGreatDoorGqg
import Derived.Test.YtmmecapgnmlaiaaGreatDoorAwh
set_option maxRecDepth 100000
set_option maxHeartbeats 16000000
namespace Go.Proofs.Q
open Go.RowKit Go.Proofs
def Fo.iF:Fo→Bool
 | .nil=>false
 | .cons _ n m _ _ _ _ s r=>(decide (100<n.size)||decide (100<m.size)||s.iF)||r.iF
def wm (s:Fo):Prop:=∀(k:Int)(n m:ByteArray)(i d:Int)(A:Option Addr)(c:Nat)(w:World),s.Sl w w.heap.size A c →
  Calls Tryz.prog 185 #[.agg #[.int .i64 k,.string n,.string m,.int .i64 i,.int .i64 d,.slice A s.len c]] w fun e w'=>e=.returned (.bool (decide (100<n.size)||decide (100<m.size)||s.iF))∧Below w.heap.size w w'
theorem IL (s:Fo)(ih:s.All wm):wm s:=by
 intro k n m i d A c w hs
 have HS:=Sk hs
 clear hs
 have IH:=Sk ih
 clear ih
 have hcap:s.len≤9223372036854775807:=by have:=HS.out.1;have:=HS.out.2.1;unfold maxLen at this;omega
 obtain⟨W0,hW0⟩:∃W0,w.alloc (.cells #[.int .i64 k,.string n,.string m,.int .i64 i,.int .i64 d,.slice A s.len c] 44)=W0:=⟨_,rfl⟩
 have hzw:w.heap.size<W0.heap.size:=by subst hW0;simp
 have HB0:=Sk (show Below w.heap.size w W0 by subst hW0;exact(TA _ _).alloc (SA _) _)
 have h1:W0.cell? ⟨w.heap.size,1,none⟩=some (.string n):=by subst hW0;go_simp
 have h2:W0.cell? ⟨w.heap.size,2,none⟩=some (.string m):=by subst hW0;go_simp
 have h5:W0.cell? ⟨w.heap.size,5,none⟩=some (.slice A s.len c):=by subst hW0;go_simp
 by_cases hn:100<n.size
 ·have hn':(100:Int)<(n.size:Int):=by omega
  go_enter Tryz.func185,Tryz.ntmps185
  go_wp2
  go_ret
  exact⟨by simp[hn],HB0.out⟩
 have HN:=Sk hn
 have hn':decide ((100:Int)<(n.size:Int))=false:=by simp;omega
 clear hn
 by_cases hm:100<m.size
 ·have hm':(100:Int)<(m.size:Int):=by omega
  go_enter Tryz.func185,Tryz.ntmps185
  go_wp2
  go_ret
  exact⟨by simp[hm],HB0.out⟩
 have hm':decide ((100:Int)<(m.size:Int))=false:=by simp;omega
 have HE:=Sk (show (decide (100<n.size)||decide (100<m.size)||s.iF)=s.iF by simp[HN.out,hm])
 rw[HE.out]
 clear hm
 go_enter Tryz.func185,Tryz.ntmps185
 go_wp2
 clear hW0
 go_loopg [3] s.len (fun g ct wr=>∃(j:Nat) (r:Fo),g=r.len∧j+r.len=s.len∧ct=.int .i64 j∧s.iF=r.iF∧r.All wm ∧
  (r≠.nil→∃b o,A=some ⟨b,o,none⟩∧b<w.heap.size∧r.At wr w.heap.size b (o+j*6))∧Below W0.heap.size W0 wr)
 case atStart =>
  refine⟨0,s,rfl,by omega,rfl,rfl,IH.out,?_,TA _ _⟩
  intro hne
  obtain⟨b,o,e,hb,h⟩:=HS.out.2.2 hne
  exact⟨b,o,e,hb,by rw[Nat.zero_mul,Nat.add_zero];exact h.keep (SA _) (fun p hp=>HB0.out.cell hp) hb⟩
 case round =>
  obtain⟨j,r,HG,hjr,rfl,HL,HA,HAt,HB⟩:=hrel
  have y5:=(HB.cell (p:=⟨w.heap.size,5,none⟩) hzw).trans h5
  have hz:=HB.size
  have HG':=Sk (Sn HG (Sn HL (HB0.out.trans (HB.mono (by omega)))))
  clear HG HL
  cases r with
  | nil =>
   have gJ:s.len≤j:=by simp only[Fo.len]at hjr;omega
   have nT:j≤s.len:=by simp only[Fo.len]at hjr;omega
   clear hjr HA HAt
   go_wp2
   go_ret
   exact⟨by rw[HG'.out.2.1];rfl,HG'.out.2.2⟩
  | cons rk rn rm ri rd A' c' rs rr =>
   have gJ:j<s.len:=by simp only[Fo.len]at hjr;omega
   obtain⟨b,o,rfl,hb,t0,t1,t2,t3,t4,⟨t5,hc',QU,hs'⟩,hr'⟩:=HAt (by simp)
   have HX:=Sk (HA.1 rk rn rm ri rd A' c' wr ⟨hc',QU,fun hne=>by
     obtain⟨b',o',e,hb',h'⟩:=hs' hne
     exact⟨b',o',e,by omega,h'.keep (by omega) (fun _ _=>rfl) hb'⟩⟩)
   have HN2:=Sk (Sn HA.2 hr')
   obtain⟨bx,Hbx⟩:∃bx,Hid ((decide (100<rn.size)||decide (100<rm.size)||rs.iF)=bx):=⟨_,rfl⟩
   rw[Hbx.out]at HX
   have HLB:=Sk (show (Fo.cons rk rn rm ri rd A' c' rs rr).iF=(bx||rr.iF) by rw[Fo.iF,Hbx.out])
   clear HA HAt hs' hr'
   go_wp2_with fail
   refine HX.out.mono ?_
   rintro e w1 ⟨rfl,hb1⟩
   have HB1:=Sk (Sn hb1 (HB.trans (hb1.mono hz)))
   clear hb1 t0 t1 t2 t3 t4 t5
   cases bx
   ·go_wp2
    go_roundg rr.len
    case measure=>rw[HG'.out.1];simp[Fo.len]
    case rel =>
     refine⟨j+1,rr,rfl,by simp only[Fo.len]at hjr;omega,by go_num,by rw[HG'.out.2.1,HLB.out];rfl,HN2.out.1,fun hne=>⟨b,o,rfl,hb,?_⟩,HB1.out.2⟩
     rw[show o+(j+1)*6=o+j*6+6 by omega]
     exact HN2.out.2.keep (SA _) (fun p hp=>HB1.out.1.cell (by omega)) hb
   ·go_wp2
    go_ret
    exact⟨by rw[HG'.out.2.1,HLB.out];rfl,HG'.out.2.2.trans (HB1.out.1.mono (by omega))⟩
theorem KO (s:Fo):wm s:=Fo.eT IL s
def mY (n m:ByteArray)(s:Fo):Bool:=decide (40<wrap64 (1+s.count))||(decide (100<n.size)||decide (100<m.size)||s.iF)
def mZ (l:List ByteArray):Bool:=decide (10<l.length)||l.any fun s=>decide (120<s.size)
theorem Du (k:Int)(n m:ByteArray)(i d:Int)(A:Option Addr)(c:Nat)(s:Fo)(w:World)(hs:s.Sl w w.heap.size A c) :
  Calls Tryz.prog 140 #[.agg #[.int .i64 k,.string n,.string m,.int .i64 i,.int .i64 d,.slice A s.len c]] w fun e w'=>e=.returned (.bool (mY n m s))∧Below w.heap.size w w':=by
 obtain⟨W0,hW0⟩:∃W0,w.alloc (.cells #[.int .i64 k,.string n,.string m,.int .i64 i,.int .i64 d,.slice A s.len c] 44)=W0:=⟨_,rfl⟩
 have hzw:w.heap.size<W0.heap.size:=by subst hW0;simp
 have HB0:=Sk (show Below w.heap.size w W0 by subst hW0;exact(TA _ _).alloc (SA _) _)
 have h0:W0.cell? ⟨w.heap.size,0,none⟩=some (.int .i64 k):=by subst hW0;go_simp
 have h1:W0.cell? ⟨w.heap.size,1,none⟩=some (.string n):=by subst hW0;go_simp
 have h2:W0.cell? ⟨w.heap.size,2,none⟩=some (.string m):=by subst hW0;go_simp
 have h3:W0.cell? ⟨w.heap.size,3,none⟩=some (.int .i64 i):=by subst hW0;go_simp
 have h4:W0.cell? ⟨w.heap.size,4,none⟩=some (.int .i64 d):=by subst hW0;go_simp
 have h5:W0.cell? ⟨w.heap.size,5,none⟩=some (.slice A s.len c):=by subst hW0;go_simp
 have hs0:=hs.keep (w':=W0) (B':=W0.heap.size) (by omega) fun p hp=>HB0.out.cell hp
 have HN:=Sk (xK s k n m i d A c W0 hs0)
 obtain⟨N,HNE⟩:∃N,Hid (wrap64 (1+s.count)=N):=⟨_,rfl⟩
 obtain⟨bl,Hbl⟩:∃bl,Hid ((decide (100<n.size)||decide (100<m.size)||s.iF)=bl):=⟨_,rfl⟩
 have HE:=Sk (show mY n m s=(decide (40<N)||bl) by rw[mY,HNE.out,Hbl.out])
 rw[HE.out]
 have HS:=Sk hs0
 clear hs hs0
 rw[HNE.out]at HN
 go_enter Tryz.func140,Tryz.ntmps140
 go_wp2_with fail
 refine HN.out.mono ?_
 rintro e w1 ⟨rfl,hb1⟩
 have HB1:=Sk (HB0.out.trans (hb1.mono (by omega)))
 have y0:=(hb1.cell (p:=⟨w.heap.size,0,none⟩) hzw).trans h0
 have y1:=(hb1.cell (p:=⟨w.heap.size,1,none⟩) hzw).trans h1
 have y2:=(hb1.cell (p:=⟨w.heap.size,2,none⟩) hzw).trans h2
 have y3:=(hb1.cell (p:=⟨w.heap.size,3,none⟩) hzw).trans h3
 have y4:=(hb1.cell (p:=⟨w.heap.size,4,none⟩) hzw).trans h4
 have y5:=(hb1.cell (p:=⟨w.heap.size,5,none⟩) hzw).trans h5
 have HL:=Sk (KO s k n m i d A c w1 (HS.out.keep hb1.size fun p hp=>hb1.cell hp))
 rw[Hbl.out]at HL
 clear hb1 h0 h1 h2 h3 h4 h5 hW0
 by_cases hN:40<N
 ·go_wp2
  go_ret
  exact⟨by simp[hN],HB1.out⟩
 ·have hN':decide (40<N)=false:=by simpa using hN
  clear hN
  go_wp2_with (go_at_call 185;refine HL.out.mono ?_;rintro e w2 ⟨rfl,hb2⟩)
  go_ret
  exact⟨by rw[hN'];rfl,HB1.out.trans (hb2.mono HB1.out.size)⟩
theorem yX (l:List ByteArray)(A:Option Addr)(c:Nat)(w:World)(hs:SlS w w.heap.size A c l) :
  Calls Tryz.prog 74 #[.slice A l.length c] w fun e w'=>e=.returned (.bool (mZ l))∧w=w':=by
 have hc1:=hs.1
 have hc2:=hs.2.1
 unfold maxLen at hc2
 have HS:=Sk hs
 clear hs
 obtain⟨E,HE⟩:∃E,Hid (E=mZ l):=⟨_,rfl⟩
 rw[←HE.out]
 by_cases hl:10<l.length
 ·have HR:=Sk (show E=true by rw[HE.out,mZ];simp[hl])
  go_enter Tryz.func74,Tryz.ntmps74
  go_wp2
  go_ret
  exact⟨by rw[HR.out];rfl,rfl⟩
 have HE1:=Sk (show E=l.any fun s=>decide (120<s.size) by rw[HE.out,mZ];simp[hl])
 go_enter Tryz.func74,Tryz.ntmps74
 go_wp2
 go_loopg [3] l.length (fun g ct wr=>∃j:Nat,g=l.length-j∧j≤l.length∧ct=.int .i64 j∧((l.take j).any fun s=>decide (120<s.size))=false∧wr=w)
 case atStart=>exact⟨0,rfl,by omega,rfl,by simp,rfl⟩
 case round =>
  obtain⟨j,HG,hj,rfl,HA,rfl⟩:=hrel
  have HG':=Sk (Sn HG HA)
  clear HG HA
  by_cases hlt:j<l.length
  ·obtain⟨b,o,rfl,hb,hcell⟩:=HS.out.at_ hlt
   have HT:=Sk (Sn (show (l.take (j+1)).any (fun s=>decide (120<s.size))=decide (120<l[j].size) by
    rw[TT hlt,List.any_append,HG'.out.2];simp) (show decide (120<l[j].size)=true→(l.any fun s=>decide (120<s.size))=true from fun h=>TF.2 ⟨l[j],Ul hlt,h⟩))
   generalize l[j]=v at hcell HT
   by_cases hv:120<v.size
   ·have hv':(120:Int)<(v.size:Int):=by omega
    have HR:=Sk (HE1.out.trans (HT.out.2 (by simpa using hv)))
    clear hv
    go_wp2
    go_ret
    exact⟨by rw[HR.out];rfl,rfl⟩
   ·have hv':decide ((120:Int)<(v.size:Int))=false:=by simp;omega
    have hv2:=Sk (show decide (120<v.size)=false by simpa using hv)
    clear hv
    go_wp2
    go_roundg (l.length-(j+1))
    case measure=>rw[HG'.out.1];omega
    case rel=>exact⟨j+1,rfl,by omega,by go_num,by rw[HT.out.1,hv2.out],rfl⟩
  ·obtain rfl:j=l.length:=by omega
   have HR:=Sk (show E=false by rw[HE1.out,←HG'.out.2,Tm (SA _)])
   go_wp2
   go_ret
   exact⟨by rw[HR.out];rfl,rfl⟩
def kX (l:List ByteArray):Bool:=l.any fun s=>decide (100<s.size)
def iM (x:Dc):Bool:=decide (5<x.names.length)||mY x.n x.m x.s||kX x.names
def ng (l:List Dc):Bool:=decide (8<l.length)||l.any iM
def kY (label:ByteArray)(uses:List ByteArray)(decls:List Dc):Bool:=decide (120<label.size)||mZ uses||ng decls
theorem xE (l:List Dc)(A:Option Addr)(c:Nat)(w:World)(hs:SlD w w.heap.size A c l) :
  Calls Tryz.prog 75 #[.slice A l.length c] w fun e w'=>e=.returned (.bool (ng l))∧Below w.heap.size w w':=by
 have hc1:=hs.1
 have hc2:=hs.2.1
 unfold maxLen at hc2
 have HS:=Sk hs
 clear hs
 obtain⟨E,HE⟩:∃E,Hid (E=ng l):=⟨_,rfl⟩
 rw[←HE.out]
 by_cases hl:8<l.length
 ·have HR:=Sk (show E=true by rw[HE.out,ng];simp[hl])
  go_enter Tryz.func75,Tryz.ntmps75
  go_wp2
  go_ret
  exact⟨by rw[HR.out];rfl,TA _ _⟩
 have HE1:=Sk (show E=l.any iM by rw[HE.out,ng];simp[hl])
 clear HE
 go_enter Tryz.func75,Tryz.ntmps75
 go_wp2
 go_loopg [3,4] l.length (fun g ct _ wr=>∃j:Nat,g=l.length-j∧j≤l.length∧ct=.int .i64 j∧(l.take j).any iM=false∧Below w.heap.size w wr)
 case atStart=>exact⟨0,rfl,by omega,rfl,by simp,TA _ _⟩
 case round =>
  obtain⟨j,HG,hj,rfl,HA,HB⟩:=hrel
  have HG':=Sk (Sn HG HA)
  clear HG HA
  have hz:=HB.size
  by_cases hlt:j<l.length
  ·have hj3:l[j]?=some l[j]:=Sw hlt
   obtain⟨b,o,rfl,hb,hall⟩:=HS.out.2.2 (by intro e;subst e;simp at hlt)
   obtain⟨hcs,hok⟩:=hall j _ hj3
   have HT:=Sk (Sn (show (l.take (j+1)).any iM=iM l[j] by
    rw[TT hlt,List.any_append,HG'.out.2];simp) (show iM l[j]=true→l.any iM=true from fun h=>TF.2 ⟨l[j],Ul hlt,h⟩))
   clear hall hj3
   generalize l[j]=x at hcs hok HT
   have HOK:=Sk (show x.Ok wr w.heap.size from⟨hok.1.below HB,hok.2.below HB⟩)
   clear hok
   obtain⟨xid,bD,bS,xnA,xnc,aK,aY,xk,xn,xm,xi,xd,xA,xc,xs⟩:=x
   have d3:wr.cell? ⟨b,o+j*11+3,none⟩=some (.slice xnA aK.length xnc):=(HB.cell (p:=⟨b,o+j*11+3,none⟩) hb).trans (hcs 3 _ rfl)
   have d5:wr.cell? ⟨b,o+j*11+5,none⟩=some (.int .i64 xk):=(HB.cell (p:=⟨b,o+j*11+5,none⟩) hb).trans (hcs 5 _ rfl)
   have d6:wr.cell? ⟨b,o+j*11+6,none⟩=some (.string xn):=(HB.cell (p:=⟨b,o+j*11+6,none⟩) hb).trans (hcs 6 _ rfl)
   have d7:wr.cell? ⟨b,o+j*11+7,none⟩=some (.string xm):=(HB.cell (p:=⟨b,o+j*11+7,none⟩) hb).trans (hcs 7 _ rfl)
   have d8:wr.cell? ⟨b,o+j*11+8,none⟩=some (.int .i64 xi):=(HB.cell (p:=⟨b,o+j*11+8,none⟩) hb).trans (hcs 8 _ rfl)
   have d9:wr.cell? ⟨b,o+j*11+9,none⟩=some (.int .i64 xd):=(HB.cell (p:=⟨b,o+j*11+9,none⟩) hb).trans (hcs 9 _ rfl)
   have d10:wr.cell? ⟨b,o+j*11+10,none⟩=some (.slice xA xs.len xc):=(HB.cell (p:=⟨b,o+j*11+10,none⟩) hb).trans (hcs 10 _ rfl)
   have HD3:Hid (∀X,Below wr.heap.size wr X→X.cell? ⟨b,o+j*11+3,none⟩=some (.slice xnA aK.length xnc)∧SlS X w.heap.size xnA xnc aK):=fun X hX =>
    ⟨(hX.cell (p:=⟨b,o+j*11+3,none⟩) (by simp;omega)).trans d3,HOK.out.1.keep (SA _) fun p hp=>hX.cell (by omega)⟩
   clear hcs
   have HD1:=Sk (show iM ⟨xid,bD,bS,xnA,xnc,aK,aY,xk,xn,xm,xi,xd,xA,xc,xs⟩=(decide (5<aK.length)||mY xn xm xs||kX aK)from rfl)
   by_cases h5:5<aK.length
   ·have HR:=Sk (show E=true by rw[HE1.out];exact HT.out.2 (by rw[HD1.out];simp[h5]))
    go_wp2
    go_ret
    exact⟨by rw[HR.out];rfl,HB⟩
   have h5':decide ((5:Int)<(aK.length:Int))=false:=by simp;omega
   have H5:=Sk h5
   clear h5
   obtain⟨bg,Hbg⟩:∃bg,Hid (mY xn xm xs=bg):=⟨_,rfl⟩
   have HGR:=Sk (Du xk xn xm xi xd xA xc xs wr (Fo.Sl.keep (w:=wr) (w':=wr) (B:=w.heap.size) HOK.out.2 hz fun _ _=>rfl))
   rw[Hbg.out]at HGR
   go_wp2_with fail
   refine HGR.out.mono ?_
   rintro e w1 ⟨rfl,hb1⟩
   obtain⟨y3,hsn⟩:=HD3.out w1 hb1
   have HB1:=Sk (Sn (HB.trans (hb1.mono hz)) hsn)
   have hz1:=hb1.size
   have Si:=Sk hb1
   clear hb1 hsn d3 d5 d6 d7 d8 d9 d10
   cases bg
   rotate_left
   ·have HR:=Sk (show E=true by rw[HE1.out];exact HT.out.2 (by rw[HD1.out,Hbg.out];simp))
    go_wp2
    go_ret
    exact⟨by rw[HR.out];rfl,HB1.out.1⟩
   go_wp2
   go_loopg [4] aK.length (fun g ct wr2=>∃q:Nat,g=aK.length-q∧q≤aK.length∧ct=.int .i64 q∧kX (aK.take q)=false∧wr2=w1)
   case atStart=>exact⟨0,rfl,by omega,rfl,by simp[kX],rfl⟩
   case round =>
    obtain⟨q,HQ,hq,rfl,HA2,rfl⟩:=hrel
    have HQ':=Sk (Sn HQ HA2)
    clear HQ HA2
    have hnl:aK.length≤5:=by have:=H5.out;omega
    by_cases hlt2:q<aK.length
    ·obtain⟨b2,o2,rfl,hb2,hcell⟩:=HB1.out.2.at_ hlt2
     have HT2:=Sk (Sn (show kX (aK.take (q+1))=decide (100<aK[q].size) by
      have:=HQ'.out.2
      unfold kX at this ⊢
      rw[TT hlt2,List.any_append,this];simp) (show decide (100<aK[q].size)=true→kX aK=true from fun h=>TF.2 ⟨aK[q],Ul hlt2,h⟩))
     generalize aK[q]=v at hcell HT2
     by_cases hv:100<v.size
     ·have hv':(100:Int)<(v.size:Int):=by omega
      have HR:=Sk (show E=true by rw[HE1.out];exact HT.out.2 (by rw[HD1.out,HT2.out.2 (by simpa using hv)];simp))
      clear hv
      go_wp2
      go_ret
      exact⟨by rw[HR.out];rfl,HB1.out.1⟩
     ·have hv':decide ((100:Int)<(v.size:Int))=false:=by simp;omega
      have hv2:=Sk (show decide (100<v.size)=false by simpa using hv)
      clear hv
      go_wp2
      go_roundg (aK.length-(q+1))
      case measure=>rw[HQ'.out.1];omega
      case rel=>exact⟨q+1,rfl,by omega,by go_num,by rw[HT2.out.1,hv2.out],rfl⟩
    ·obtain rfl:q=aK.length:=by omega
     have HR:=Sk (show (l.take (j+1)).any iM=false by
      have h:=HQ'.out.2
      rw[Tm (SA _)]at h
      rw[HT.out.1,HD1.out,Hbg.out,h]
      simp[H5.out])
     go_wp2
     go_roundg (l.length-(j+1))
     case measure=>rw[HG'.out.1];omega
     case rel=>exact⟨j+1,rfl,by omega,by go_num,HR.out,HB1.out.1⟩
  ·obtain rfl:j=l.length:=by omega
   have HR:=Sk (show E=false by rw[HE1.out,←HG'.out.2,Tm (SA _)])
   go_wp2
   go_ret
   exact⟨by rw[HR.out];rfl,HB⟩
theorem Dv (label:ByteArray)(uses:List ByteArray)(uA:Option Addr)(uc:Nat)(decls:List Dc)(dA:Option Addr)(dc:Nat)(w:World)(hu:SlS w w.heap.size uA uc uses)(hd:SlD w w.heap.size dA dc decls) :
  Calls Tryz.prog 39 #[.agg #[.string label,.slice uA uses.length uc,.slice dA decls.length dc]] w fun e w'=>e=.returned (.bool (kY label uses decls))∧Below w.heap.size w w':=by
 obtain⟨W0,hW0⟩:∃W0,w.alloc (.cells #[.string label,.slice uA uses.length uc,.slice dA decls.length dc] 25)=W0:=⟨_,rfl⟩
 have hzw:w.heap.size<W0.heap.size:=by subst hW0;simp
 have hB0:Below w.heap.size w W0:=by subst hW0;exact(TA _ _).alloc (SA _) _
 have h0:W0.cell? ⟨w.heap.size,0,none⟩=some (.string label):=by subst hW0;go_simp
 have h1:W0.cell? ⟨w.heap.size,1,none⟩=some (.slice uA uses.length uc):=by subst hW0;go_simp
 have h2:W0.cell? ⟨w.heap.size,2,none⟩=some (.slice dA decls.length dc):=by subst hW0;go_simp
 have HU:=Sk (yX uses uA uc W0 (hu.keep (w':=W0) (B':=W0.heap.size) (by omega) fun p hp=>hB0.cell hp))
 have HD:=Sk (xE decls dA dc W0 (hd.keep (w':=W0) (B':=W0.heap.size) (by omega) fun p hp=>hB0.cell hp))
 have HB0:=Sk hB0
 clear hu hd hB0
 obtain⟨b1,Hb1⟩:∃b1,Hid (mZ uses=b1):=⟨_,rfl⟩
 obtain⟨b2,Hb2⟩:∃b2,Hid (ng decls=b2):=⟨_,rfl⟩
 rw[Hb1.out]at HU
 rw[Hb2.out]at HD
 have HE:=Sk (show kY label uses decls=(decide (120<label.size)||b1||b2) by rw[kY,Hb1.out,Hb2.out])
 rw[HE.out]
 by_cases hl:120<label.size
 ·have hl':(120:Int)<(label.size:Int):=by omega
  go_enter Tryz.func39,Tryz.ntmps39
  go_wp2
  go_ret
  exact⟨by simp[hl],HB0.out⟩
 have hl':decide ((120:Int)<(label.size:Int))=false:=by simp;omega
 have HL:=Sk (show decide (120<label.size)=false by simpa using hl)
 clear hl
 cases b1
 ·go_enter Tryz.func39,Tryz.ntmps39
  go_wp2_with (first|(go_at_call 74;refine HU.out.mono ?_;rintro e w1 ⟨rfl,rfl⟩)|(go_at_call 75;refine HD.out.mono ?_;rintro e w2 ⟨rfl,hb2⟩))
  go_ret
  exact⟨by rw[HL.out];rfl,HB0.out.trans (hb2.mono (by omega))⟩
 ·go_enter Tryz.func39,Tryz.ntmps39
  go_wp2_with (first|(go_at_call 74;refine HU.out.mono ?_;rintro e w1 ⟨rfl,rfl⟩)|(go_at_call 75;refine HD.out.mono ?_;rintro e w2 ⟨rfl,hb2⟩))
  go_ret
  exact⟨by rw[HL.out];rfl,HB0.out⟩
open Go.Shelf
theorem rU:∀s:Fo,s.iF=false→s.Short
 | .nil,_=>trivial
 | .cons _ n m _ _ _ _ s r,h=>by
  simp only[Fo.iF,Bool.or_eq_false_iff,decide_eq_false_iff_not]at h
  exact⟨⟨by omega,by omega⟩,rU s h.1.2,rU r h.2⟩
theorem Gh {label:ByteArray}{uses:List ByteArray}{decls:List Dc}(hg:kY label uses decls=false)(hc:∀x∈decls,x.s.count≤2000000):KN label uses decls∧∀x∈decls,x.s.count≤39:=by
 simp only[kY,mZ,ng,Bool.or_eq_false_iff,decide_eq_false_iff_not,TG]at hg
 obtain⟨⟨h1,_,h2⟩,_,h3⟩:=hg
 have hx:∀x∈decls,x.Sht∧x.s.count≤39:=fun x hx=>by
  have h:=h3 x hx
  simp only[iM,mY,kX,Ud,not_or,decide_eq_true_eq,TF,not_exists,not_and,Uf]at h
  obtain⟨⟨_,hn,hl⟩,hnm⟩:=h
  have hcx:=hc x hx
  have hw:wrap64 (1+(x.s.count:Int))=1+x.s.count:=gP (by omega) (by omega)
  rw[hw]at hn
  obtain⟨⟨hl1,hl2⟩,hl3⟩:=hl
  refine⟨⟨⟨by omega,by omega⟩,rU x.s hl3,by omega,fun s hs=>?_⟩,by omega⟩
  have:=hnm s hs
  omega
 refine⟨⟨by omega,fun s hs=>?_,fun x h=>(hx x h).1⟩,fun x h=>(hx x h).2⟩
 have:=h2 s hs
 simp only[decide_eq_true_eq]at this
 omega
end Go.Proofs.Q
namespace Go.Proofs.Q
open Go Go.RowKit Go.Proofs Go.Proofs.Scc
theorem nM {n:Nat}{r r':Nat→Nat→Bool}(h:∀i j,i<n→j<n→r i j=r' i j):∀k,k≤n→∀i j,i<n→j<n→dL r k i j=dL r' k i j
 | 0,_,i,j,hi,hj=>h i j hi hj
 | k+1,hk,i,j,hi,hj=>by
  show (dL r k i j||dL r k i k&&dL r k k j)=(dL r' k i j||dL r' k i k&&dL r' k k j)
  rw[nM h k (by omega) i j hi hj,nM h k (by omega) i k hi (by omega),nM h k (by omega) k j (by omega) hj]
theorem IQ {ds:List Dc}{i:Nat}{x:Dc}(hx:ds[i]?=some x):(aA ds).getD i 0=x.id:=by
 unfold aA
 rw[TM,Tk,hx]
 rfl
theorem OI {ds:List Dc}(hV:(aA ds).Pairwise (· < ·)){i j:Nat}(hi:i<ds.length)(hj:j<ds.length):dT ds i j=ql (dP ds) (aA ds) i j:=by
 have hx:=Sw hi
 have hy:=Sw hj
 rw[Ll hx hy]
 unfold ql
 rw[IQ hx,IQ hy,oW hV hx]
theorem OJ {label:ByteArray}{ds:List Dc}(h:MdV label ds)(hm:dM ds=false):ig (aA ds) (dL (dT ds) ds.length) ds.length (fun _=>false)=bX ds:=by
 have hG:=h.gr hm
 have hl:(aA ds).length=ds.length:=S9 ..
 have htab:sI (dP ds) (aA ds) (dL (dT ds) ds.length):=fun i j hi hj=>by
  rw[hl]at hi hj
  rw[nM (fun a b ha hb=>OI h.asc ha hb) _ (SA _) i j hi hj]
  have:=Kv h.asc hG.us i j (by rw[hl];exact hi) (by rw[hl];exact hj)
  rw[hl]at this
  exact this
 have:=FR h.asc hG.us htab
 rw[hl]at this
 exact this
theorem Cc (ds:List Dc):dM ds=ds.any (rQ ds):=rfl
theorem Ce (label:ByteArray)(uses:List ByteArray)(uA:Option Addr)(uc:Nat)(ds:List Dc)(dA:Option Addr)(dc:Nat)(W:World)(hu:SlS W W.heap.size uA uc uses)(hd:SlD W W.heap.size dA dc ds)(hms:KN label uses ds) :
  Calls Tryz.prog 15 #[.agg #[.string label,.slice uA uses.length uc,.slice dA ds.length dc]] W (rX W (kr label uses ds) (bX ds)):=by
 obtain⟨W0,hW0⟩:∃W0,W.alloc (.cells #[.string label,.slice uA uses.length uc,.slice dA ds.length dc] 25)=W0:=⟨_,rfl⟩
 have hb0:RowKit.Below W.heap.size W W0:=by subst hW0;exact(Tz _ _).alloc (SA _) _
 have hr0:W0.heap[W.heap.size]?=some (.cells #[.string label,.slice uA uses.length uc,.slice dA ds.length dc] 25 (0,0)):=by subst hW0;exact Sv W _
 have hz0:=lt_of_block hr0
 have iX:=Dt label uses uA uc ds dA dc W0 (hu.keep hb0.size fun p hp=>hb0.cell hp) (hd.keep hb0.size fun p hp=>hb0.cell hp) hms
 have hE:kr label uses ds=if bY label uses ds≠0 then bY label uses ds else if dM ds=true then 21 else 0:=rfl
 have hV0:bY label uses ds=0→MdV label ds:=MdV.of
 have hgr:MdV label ds→∀Y,RowKit.Below W.heap.size W Y→Calls Tryz.prog 48 #[.agg #[.string label,.slice uA uses.length uc,.slice dA ds.length dc]] Y fun e Z=>∃v gl,e=.returned v∧RG Z Y.heap.size Y.heap.size v gl (ig (aA ds) (dL (dT ds) ds.length) ds.length fun _=>false)∧RowKit.Below Y.heap.size Y Z:=fun hV Y hY =>
  zG label uses uA uc ds dA dc Y (hd.keep hY.size fun p hp=>hY.cell hp) (fun x hx=>by have:=(hV.v x hx).cnt;omega) (by have:=hV.len;omega)
 have hmi:MdV label ds→∀x∈ds,∀Y,RowKit.Below W.heap.size W Y→x.s.Sl W W.heap.size x.A x.c→Calls Tryz.prog 47 #[.agg #[.string label,.slice uA uses.length uc,.slice dA ds.length dc],.agg #[.int .i64 x.id,.int .i64 x.kind,.bool x.pub,.slice x.nA x.names.length x.nc,.bool x.doubt,.int .i64 x.k,.string x.n,.string x.m,.int .i64 x.i,.int .i64 x.d,.slice x.A x.s.len x.c]] Y fun e Z=>e=.returned (.bool (rQ ds x))∧RowKit.Below Y.heap.size Y Z:=fun hV x hx Y hY hs =>
  yV label uses uA uc ds dA dc x Y (hd.keep hY.size fun p hp=>hY.cell hp) (hs.keep hY.size fun p hp=>hY.cell hp) (by have:=(hV.v x hx).cnt;omega)
 have hge:MdV label ds→dM ds=false→ig (aA ds) (dL (dT ds) ds.length) ds.length (fun _=>false)=bX ds:=OJ
 obtain⟨GG,HGG⟩:∃G,Hid (bX ds=G):=⟨_,Sk rfl⟩
 obtain⟨RR,HRR⟩:∃G,Hid (ig (aA ds) (dL (dT ds) ds.length) ds.length (fun _=>false)=G):=⟨_,Sk rfl⟩
 simp only[HRR.out]at hgr hge
 rw[HGG.out]at hge ⊢
 obtain⟨C0,HC0⟩:∃C0,Hid (bY label uses ds=C0):=⟨_,Sk rfl⟩
 rw[HC0.out]at iX hE hV0
 obtain⟨E,HE⟩:∃E,Hid (kr label uses ds=E):=⟨_,Sk rfl⟩
 rw[HE.out]at hE ⊢
 obtain⟨N,HN⟩:∃N,Hid (ds.length=N):=⟨_,Sk rfl⟩
 obtain⟨NU,HNU⟩:∃N,Hid (uses.length=N):=⟨_,Sk rfl⟩
 simp only[HN.out,HNU.out]at hW0 hr0 iX hgr hmi ⊢
 have t0:=Sq W0 W.heap.size 0 _ _ (0,0) hr0
 have t1:=Sq W0 W.heap.size 1 _ _ (0,0) hr0
 have t2:=Sq W0 W.heap.size 2 _ _ (0,0) hr0
 simp at t0 t1 t2
 have HCK:=Sk iX
 have HD:=Sk (Sn hd (Sn hgr (Sn hmi hge)))
 have HB0:=Sk (Sn hb0 (Sn hr0 hz0))
 have hdc:=hd.2.1
 have hdl:=hd.1
 unfold maxLen at hdc
 rw[HN.out]at hdl
 clear hu hd hb0 hr0 hz0 iX hgr hmi hge hms
 by_cases h0:C0=0
 rotate_left
 ·have h0':(C0 != 0)=true:=by simpa using h0
  have M8:(C0==0)=false:=by simpa using h0
  have HEE:=Sk (show E=C0 by rw[hE,TY h0])
  clear hE hV0
  go_enter Tryz.func15,Tryz.ntmps15
  go_upto_region 1 with fail
  try rw[hW0]
  go_wp2_with (go_at_call 46;(with_reducible refine TJ HCK.out ?_);rintro e w1 ⟨rfl,hb1⟩;have HB1:=Sk hb1;clear hb1)
  refine Ua (v:=.tuple #[.slice none 0 0,.int .i64 C0]) (by simp[results,Tryz.results15,go_sem]) rfl ?_
  rw[HEE.out]
  exact⟨_,[],rfl,HB0.out.1.trans (HB1.out.mono HB0.out.1.size),.inr ⟨h0,rfl⟩⟩
 subst h0
 have HV:=Sk (hV0 rfl)
 have HEE:=Sk (show E=if dM ds=true then 21 else 0 by rw[hE];exact TW (by simp))
 clear hE hV0
 go_enter Tryz.func15,Tryz.ntmps15
 go_upto_region 1 with fail
 try rw[hW0]
 go_wp2_with (go_at_call 46;(with_reducible refine TJ HCK.out ?_);rintro e w1 ⟨rfl,hb1⟩;have HB1:=Sk (Sn (HB0.out.1.trans (hb1.mono HB0.out.1.size)) ((hb1.block _ HB0.out.2.2).trans HB0.out.2.1));clear hb1)
 clear t0 t1 t2
 have HT:=Sk (show ∀Y,RowKit.Below w1.heap.size w1 Y→RowKit.Below W.heap.size W Y∧Y.cell? ⟨W.heap.size,0,none⟩=some (.string label)∧Y.cell? ⟨W.heap.size,1,none⟩=some (.slice uA NU uc)∧Y.cell? ⟨W.heap.size,2,none⟩=some (.slice dA N dc)from fun Y hY=>by
  have h:=(hY.block _ (lt_of_block HB1.out.2)).trans HB1.out.2
  exact⟨HB1.out.1.trans (hY.mono HB1.out.1.size),Sq Y _ 0 _ _ (0,0) h,Sq Y _ 1 _ _ (0,0) h,Sq Y _ 2 _ _ (0,0) h⟩)
 go_loopg [5] N (fun g ct wr=>∃j:Nat,g=N-j∧j≤N∧ct=.int .i64 j∧RowKit.Below w1.heap.size w1 wr∧∀x∈ds.take j,rQ ds x=false)
 case atStart=>exact⟨0,rfl,SC _,rfl,Tz _ _,by simp⟩
 case round =>
  obtain⟨j,hg,hj,rfl,hB,hn⟩:=hrel
  obtain⟨hWr,t0,t1,t2⟩:=HT.out wr hB
  by_cases hlt:j<N
  ·have hlt':j<ds.length:=by rw[HN.out];exact hlt
   obtain⟨x,hx⟩:∃x,ds[j]?=some x:=⟨_,Sw hlt'⟩
   have hxm:=SV hx
   obtain⟨b,o,rfl,hb,hall⟩:=HD.out.1.2.2 (by intro e;rw[e]at hlt';simp at hlt')
   obtain⟨hcs,iq⟩:=hall j x hx
   have htk:ds.take (j+1)=ds.take j++[x]:=by rw[Tn,hx];rfl
   have hcall:=HD.out.2.2.1 HV.out x hxm wr.drew (hWr.trans ((Tz _ _).drew.mono hWr.size)) iq.2
   obtain⟨mb,Hmb⟩:∃q,Hid (rQ ds x=q):=⟨_,Sk rfl⟩
   rw[Hmb.out]at hcall
   have hstep:∀y∈ds.take (j+1),mb=false→rQ ds y=false:=fun y hy e=>by
    rw[htk]at hy
    rcases Td.1 hy with hy|hy
    ·exact hn y hy
    ·rw[Te.1 hy,Hmb.out,e]
   have hyes:mb=true→dM ds=true:=fun e=>by
    rw[Cc,TF]
    exact⟨x,hxm,by rw[Hmb.out,e]⟩
   obtain⟨xid,bD,bS,xnA,xnc,aK,aY,xk,xn,xm,xi,xd,xA,xc,xs⟩:=x
   obtain⟨d0,d1,d2,d3,d4,d5,d6,d7,d8,d9,d10⟩:=dcs hcs
   obtain⟨sl,Hsl⟩:∃sl,Hid (xs.len=sl):=⟨_,Sk rfl⟩
   obtain⟨nl,Hnl⟩:∃nl,Hid (aK.length=nl):=⟨_,Sk rfl⟩
   rw[Hsl.out]at d10
   rw[Hnl.out]at d3
   simp only[Hsl.out,Hnl.out]at hcall
   have HC:=Sk hcall
   have HS:=Sk (show ∀Y,RowKit.Below wr.heap.size wr Y→Y.cell? ⟨W.heap.size,0,none⟩=some (.string label)∧Y.cell? ⟨W.heap.size,1,none⟩=some (.slice uA NU uc)∧Y.cell? ⟨W.heap.size,2,none⟩=some (.slice (some ⟨b,o,none⟩) N dc)∧Y.cell? ⟨b,o+j*11,none⟩=some (.int .i64 xid)∧Y.cell? ⟨b,o+j*11+1,none⟩=some (.int .i64 bD)∧Y.cell? ⟨b,o+j*11+2,none⟩=some (.bool bS)∧Y.cell? ⟨b,o+j*11+3,none⟩=some (.slice xnA nl xnc)∧Y.cell? ⟨b,o+j*11+4,none⟩=some (.bool aY)∧Y.cell? ⟨b,o+j*11+5,none⟩=some (.int .i64 xk)∧Y.cell? ⟨b,o+j*11+6,none⟩=some (.string xn)∧Y.cell? ⟨b,o+j*11+7,none⟩=some (.string xm)∧Y.cell? ⟨b,o+j*11+8,none⟩=some (.int .i64 xi)∧Y.cell? ⟨b,o+j*11+9,none⟩=some (.int .i64 xd)∧Y.cell? ⟨b,o+j*11+10,none⟩=some (.slice xA sl xc)from fun Y hY=>by
    obtain⟨hX,m0,m1,m2⟩:=HT.out Y (hB.trans (hY.mono hB.size))
    exact⟨m0,m1,m2,(hX.cell hb).trans d0,(hX.cell hb).trans d1,(hX.cell hb).trans d2,(hX.cell hb).trans d3,(hX.cell hb).trans d4,(hX.cell hb).trans d5,(hX.cell hb).trans d6,(hX.cell hb).trans d7,(hX.cell hb).trans d8,(hX.cell hb).trans d9,(hX.cell hb).trans d10⟩)
   have HJ:=Sk (Sn hg (Sn hB (Sn hstep (Sn hyes hWr))))
   clear hg hB hn hx hxm hall hcs iq htk hcall hstep hyes hlt' d0 d1 d2 d3 d4 d5 d6 d7 d8 d9 d10 t0 t1 hWr hb
   cases mb
   all_goals (
    go_upto_region 7 with fail
    go_region_held3 (fun Y=>Y.cell? ⟨W.heap.size,0,none⟩=some (.string label)∧Y.cell? ⟨W.heap.size,1,none⟩=some (.slice uA NU uc)∧Y.cell? ⟨W.heap.size,2,none⟩=some (.slice (some ⟨b,o,none⟩) N dc)∧Y.cell? ⟨b,o+j*11,none⟩=some (.int .i64 xid)∧Y.cell? ⟨b,o+j*11+1,none⟩=some (.int .i64 bD)∧Y.cell? ⟨b,o+j*11+2,none⟩=some (.bool bS)∧Y.cell? ⟨b,o+j*11+3,none⟩=some (.slice xnA nl xnc)∧Y.cell? ⟨b,o+j*11+4,none⟩=some (.bool aY)∧Y.cell? ⟨b,o+j*11+5,none⟩=some (.int .i64 xk)∧Y.cell? ⟨b,o+j*11+6,none⟩=some (.string xn)∧Y.cell? ⟨b,o+j*11+7,none⟩=some (.string xm)∧Y.cell? ⟨b,o+j*11+8,none⟩=some (.int .i64 xi)∧Y.cell? ⟨b,o+j*11+9,none⟩=some (.int .i64 xd)∧Y.cell? ⟨b,o+j*11+10,none⟩=some (.slice xA sl xc))
     (first|exact HS.out _ HB5.out|exact HS.out _ (Tz _ _).drew|exact HS.out _ (Tz _ _))
     ((go_at_call 47;(with_reducible refine TJ HC.out ?_);rintro e w5 ⟨rfl,hb5⟩;have HB5:=Sk (show RowKit.Below wr.heap.size wr w5 from (Tz _ _).drew.trans hb5);clear hb5)))
   ·go_wp2
    go_roundg (N-(j+1))
    case measure=>have:=HJ.out.1;omega
    case rel=>exact⟨j+1,rfl,by omega,by go_num,HJ.out.2.1.trans (HB5.out.mono HJ.out.2.1.size),fun y hy=>HJ.out.2.2.1 y hy (by simp)⟩
   ·have HQ:=Sk (show E=21 by rw[HEE.out,TY (HJ.out.2.2.2.1 (by simp))])
    go_wp2
    refine Ua (v:=.tuple #[.slice none 0 0,.int .i64 21]) (by simp[results,Tryz.results15,go_sem]) rfl ?_
    rw[HQ.out]
    have h1:=HJ.out.2.2.2.2
    exact⟨_,[],rfl,h1.trans (HB5.out.mono h1.size),.inr ⟨by decide,rfl⟩⟩
  ·obtain rfl:j=N:=by omega
   have hmf:dM ds=false:=by
    rw[Cc,TG]
    intro x hx
    rw[hn x (by rw[Tm (by rw[HN.out];exact SA _)];exact hx)]
    simp
   have HQ:=Sk (Sn (show E=0 by rw[HEE.out,hmf];rfl) (HD.out.2.2.2 HV.out hmf))
   have HC:=Sk (HD.out.2.1 HV.out wr hWr)
   have HWr:=Sk hWr
   clear hmf hn hg hB hWr
   go_wp2_with (go_at_call 48;(with_reducible refine TJ HC.out ?_);rintro e w5 ⟨v,gl,rfl,hrg,hb5⟩;have HR5:=Sk (Sn hrg hb5);clear hrg hb5)
   refine Ua (v:=.tuple #[v,.int .i64 0]) (by simp[results,Tryz.results15,go_sem]) rfl ?_
   rw[HQ.out.1]
   have h1:=HWr.out
   refine⟨v,gl,rfl,h1.trans (HR5.out.2.mono h1.size),.inl ⟨rfl,?_⟩⟩
   rw[←HQ.out.2]
   exact HR5.out.1.mono h1.size h1.size
end Go.Proofs.Q
namespace Go.Proofs.Q
open Go Go.RowKit Go.Proofs
theorem Dw (w:World):Calls Tryz.prog 40 #[.slice none 0 0] w fun e w'=>e=.returned (.bool false)∧w=w':=by
 go_enter Tryz.func40,Tryz.ntmps40
 go_wp2
 go_loop [3,4] (fun ct _=>ct=.int .i64 0) (fun _ _=>0)
 case atStart=>rfl
 case round =>
  subst hrel
  go_wp2
  go_ret
  exact⟨rfl,rfl⟩
theorem Cg (label:ByteArray)(uses:List ByteArray)(uA:Option Addr)(uc:Nat)(ds:List Dc)(dA:Option Addr)(dc:Nat)(w:World)(hu:SlS w w.heap.size uA uc uses)(hd:SlD w w.heap.size dA dc ds) :
  Calls Tryz.prog 12 #[.agg #[.string label,.slice uA uses.length uc,.slice dA ds.length dc],.slice none 0 0] w fun e w'=>e=.returned (.bool (kY label uses ds))∧RowKit.Below w.heap.size w w':=by
 obtain⟨W0,hW0⟩:∃W0,w.alloc (.cells #[.string label,.slice uA uses.length uc,.slice dA ds.length dc] 25)=W0:=⟨_,rfl⟩
 have hb0:RowKit.Below w.heap.size w W0:=by subst hW0;exact(Tz _ _).alloc (SA _) _
 have hr0:W0.heap[w.heap.size]?=some (.cells #[.string label,.slice uA uses.length uc,.slice dA ds.length dc] 25 (0,0)):=by subst hW0;exact Sv w _
 have e0:=Sq W0 w.heap.size 0 _ _ (0,0) hr0
 have e1:=Sq W0 w.heap.size 1 _ _ (0,0) hr0
 have e2:=Sq W0 w.heap.size 2 _ _ (0,0) hr0
 simp at e0 e1 e2
 have HG:=Sk (Dv label uses uA uc ds dA dc W0 (hu.keep hb0.size fun p hp=>hb0.cell hp) (hd.keep hb0.size fun p hp=>hb0.cell hp))
 obtain⟨G,hG⟩:∃G,Hid (kY label uses ds=G):=⟨_,Sk rfl⟩
 rw[hG.out]at HG ⊢
 have HB0:=Sk hb0
 clear hu hd hb0 hr0
 cases G with
 | true =>
  go_enter Tryz.func12,Tryz.ntmps12
  go_upto_region 1 with fail
  try rw[hW0]
  go_wp2_with (first|(go_at_call 39;(with_reducible refine TJ HG.out ?_);rintro e w1 ⟨rfl,hb1⟩;have HB1:=Sk hb1;clear hb1)|fail)
  go_ret
  exact⟨rfl,HB0.out.trans (HB1.out.mono HB0.out.size)⟩
 | false =>
  go_enter Tryz.func12,Tryz.ntmps12
  go_upto_region 1 with fail
  try rw[hW0]
  go_wp2_with (first|(go_at_call 39;(with_reducible refine TJ HG.out ?_);rintro e w1 ⟨rfl,hb1⟩;have HB1:=Sk hb1;clear hb1)|(go_at_call 40;(with_reducible refine TJ (Dw _) ?_);rintro e _ ⟨rfl,rfl⟩)|fail)
  go_loop [6,15] (fun _ ct=>ct=.int .i64 0) (fun _ _=>0)
  case atStart=>rfl
  case round =>
   subst hrel
   go_wp2
   go_ret
   exact⟨rfl,HB0.out.trans (HB1.out.mono HB0.out.size)⟩
open Go.Proofs.Scc
theorem rX.gsA {W Y:World}{E:Int}{R:List (List Int)}{v:Value}{gl:List Value}(h:(E=0∧RG Y W.heap.size W.heap.size v gl R)∨(E≠0∧v=.slice none 0 0)):∃A c,v=.slice A (if E=0 then R else []).length c∧GsA Y A c (if E=0 then R else []):=by
 rcases h with⟨rfl,h⟩|⟨hE,rfl⟩
 ·rw[TY rfl]
  exact h.gsA
 ·rw[TW hE]
  exact⟨none,0,rfl,SA _,SC _,fun h=>absurd rfl h⟩
theorem yN (label:ByteArray)(uses:List ByteArray)(uA:Option Addr)(uc:Nat)(ds:List Dc)(dA:Option Addr)(dc:Nat)(w:World)(hu:SlS w w.heap.size uA uc uses)(hd:SlD w w.heap.size dA dc ds)(hcn:∀x∈ds,x.s.count≤2000000) :
  Calls Tryz.prog 3 #[.agg #[.string label,.slice uA uses.length uc,.slice dA ds.length dc]] w fun e w'=>e=.returned (.bool true)∧RowKit.Below w.heap.size w w':=by
 obtain⟨W0,hW0⟩:∃W0,w.alloc (.cells #[.string label,.slice uA uses.length uc,.slice dA ds.length dc] 25)=W0:=⟨_,rfl⟩
 have hb0:RowKit.Below w.heap.size w W0:=by subst hW0;exact(Tz _ _).alloc (SA _) _
 have hr0:W0.heap[w.heap.size]?=some (.cells #[.string label,.slice uA uses.length uc,.slice dA ds.length dc] 25 (0,0)):=by subst hW0;exact Sv w _
 have e0:=Sq W0 w.heap.size 0 _ _ (0,0) hr0
 have e1:=Sq W0 w.heap.size 1 _ _ (0,0) hr0
 have e2:=Sq W0 w.heap.size 2 _ _ (0,0) hr0
 simp at e0 e1 e2
 have HS:=Sk (show ∀Y,RowKit.Below w.heap.size w Y→SlS Y Y.heap.size uA uc uses∧SlD Y Y.heap.size dA dc ds from fun Y hY=>⟨hu.keep hY.size fun p hp=>hY.cell hp,hd.keep hY.size fun p hp=>hY.cell hp⟩)
 have HG:=Sk (Cg label uses uA uc ds dA dc W0 (HS.out _ hb0).1 (HS.out _ hb0).2)
 obtain⟨G,hG⟩:∃G,Hid (kY label uses ds=G):=⟨_,Sk rfl⟩
 rw[hG.out]at HG
 have HB0:=Sk (Sn hb0 (Sn hr0 (lt_of_block hr0)))
 have HCN:=Sk hcn
 clear hu hd hb0 hr0 hcn
 cases G with
 | true =>
  go_enter Tryz.func3,Tryz.ntmps3
  go_upto_region 1 with fail
  try rw[hW0]
  go_wp2_with (first|(go_at_call 12;(with_reducible refine TJ HG.out ?_);rintro e w1 ⟨rfl,hb1⟩;have HB1:=Sk hb1;clear hb1)|(go_at_call 13;(with_reducible refine TJ (sM _) ?_);rintro e w2 ⟨rfl,hb2⟩;have HB2:=Sk hb2;clear hb2)|fail)
  go_ret
  have h1:=HB0.out.1.trans (HB1.out.mono HB0.out.1.size)
  exact⟨rfl,h1.trans (HB2.out.mono h1.size)⟩
 | false =>
 have HMS:=Sk (Gh hG.out HCN.out).1
 have HGR:=Sk (show ∀Y,RowKit.Below w.heap.size w Y→_ from fun Y hY=>oV label uses uA uc ds dA dc Y (HS.out _ hY).1 (HS.out _ hY).2)
 have HGS:=Sk (show ∀Y,RowKit.Below w.heap.size w Y→_ from fun Y hY=>Ce label uses uA uc ds dA dc Y (HS.out _ hY).1 (HS.out _ hY).2 HMS.out)
 obtain⟨E,HE⟩:∃E,Hid (kr label uses ds=E):=⟨_,Sk rfl⟩
 obtain⟨R,HR⟩:∃R,Hid (bX ds=R):=⟨_,Sk rfl⟩
 simp only[HE.out,HR.out]at HGR HGS
 obtain⟨Q,HQ⟩:∃Q,Hid ((if E=0 then R else [])=Q):=⟨_,Sk rfl⟩
 obtain⟨N,HN⟩:∃N,Hid (ds.length=N):=⟨_,Sk rfl⟩
 obtain⟨NU,HNU⟩:∃N,Hid (uses.length=N):=⟨_,Sk rfl⟩
 simp only[HN.out,HNU.out]at HG HGR HGS e1 e2 hW0 HB0 ⊢
 go_enter Tryz.func3,Tryz.ntmps3
 go_upto_region 1 with fail
 try rw[hW0]
 go_wp2_with fail
 with_reducible refine TJ HG.out ?_
 rintro e w1 ⟨rfl,hb1⟩
 have HB1:=Sk (HB0.out.1.trans (hb1.mono HB0.out.1.size))
 have HX1:=Sk ((hb1.block _ HB0.out.2.2).trans HB0.out.2.1)
 clear hb1 e0 e1 e2
 have e0:=Sq w1 w.heap.size 0 _ _ (0,0) HX1.out
 have e1:=Sq w1 w.heap.size 1 _ _ (0,0) HX1.out
 have e2:=Sq w1 w.heap.size 2 _ _ (0,0) HX1.out
 simp at e0 e1 e2
 go_wp2_with fail
 with_reducible refine TJ (HGR.out w1 HB1.out) ?_
 rintro e w2 ⟨v,gl,rfl,hb2,hcase⟩
 obtain⟨A2,c2,rfl,KP⟩:=rX.gsA hcase
 rw[HQ.out]at KP ⊢
 have HB2:=Sk (HB1.out.trans (hb2.mono HB1.out.size))
 have HX2:=Sk ((hb2.block _ (lt_of_block HX1.out)).trans HX1.out)
 have HG2:=Sk KP
 clear hb2 hcase KP e0 e1 e2
 have e0:=Sq w2 w.heap.size 0 _ _ (0,0) HX2.out
 have e1:=Sq w2 w.heap.size 1 _ _ (0,0) HX2.out
 have e2:=Sq w2 w.heap.size 2 _ _ (0,0) HX2.out
 simp at e0 e1 e2
 go_wp2_with fail
 with_reducible refine TJ (HGS.out w2 HB2.out) ?_
 rintro e w3 ⟨v3,gl3,rfl,hb3,hcase⟩
 obtain⟨A3,c3,rfl,KQ⟩:=rX.gsA hcase
 rw[HQ.out]at KQ ⊢
 have HB3:=Sk (HB2.out.trans (hb3.mono HB2.out.size))
 have HSM:=Sk (oM (HG2.out.keep hb3) KQ)
 clear hb3 hcase KQ e0 e1 e2
 have hEE:(E==E)=true:=by simp
 rw[SI (rfl:Q=Q)]at HSM
 generalize Q.length=gn at HSM ⊢
 go_wp2_with (first|(go_at_call 16;(with_reducible refine TJ HSM.out ?_);rintro e w4 ⟨rfl,hb4⟩;have HB4:=Sk (HB3.out.trans (hb4.mono HB3.out.size));clear hb4)|(go_at_call 13;(with_reducible refine TJ (sM _) ?_);rintro e w5 ⟨rfl,hb5⟩;have HB5:=Sk hb5;clear hb5)|fail)
 go_ret
 exact⟨rfl,HB4.out.trans (HB5.out.mono HB4.out.size)⟩
end Go.Proofs.Q
