/- helper lemmas -/
import Derived.Test.YtmmecapgnmlaiaaGreatDoorZyb
set_option maxRecDepth 100000
set_option maxHeartbeats 16000000
namespace Go.Proofs.Q
open Go Go.RowKit Go.Proofs Go.Proofs.Scc
theorem oQ {ds:List Dc}{a:Int}(h:a∉aA ds):dP ds a=[]:=by
 unfold dP
 have:ds.find? (fun d=>d.id==a)=none:=by
  rw[List.find?_eq_none]
  intro x hx e
  exact h (TH.2 ⟨x,hx,by simpa using e⟩)
 rw[this]
theorem uN {V g:List Int}(hV:V.Pairwise (· < ·))(hg:g.Pairwise (· < ·))(hs:∀x∈g,x∈V):g.length≤V.length:=by
 have:g=V.filter fun x=>decide (x∈g):=wG hg (hV.filter _) fun x=>by
  rw[List.mem_filter,decide_eq_true_eq]
  exact⟨fun h=>⟨hs x h,h⟩,fun h=>h.2⟩
 rw[this]
 exact List.length_filter_le _ _
theorem GA {ds:List Dc}{label:ByteArray}(h:MdV label ds)(hm:dM ds=false){w Y:World}{ub:Nat}(hus:zM w.heap.size ub (dP ds) w)(hub:ub<w.heap.size){e:Ending}(hc:zN w (comps (dP ds) ds.length (aA ds) tj0).grs e Y) :
  RowKit.Below w.heap.size w Y∧∃A c n,e=.returned (.slice A n c)∧Calls Tryz.prog 44 #[.slice A n c,.map (some ub)] Y fun e Z=>∃v gl,e=.returned v∧RowKit.Below w.heap.size w Z∧RG Z w.heap.size w.heap.size v gl (bX ds):=by
 obtain⟨gv,gl,ov,rfl,hb,hrow,hlen,hgs⟩:=hc
 have hG:=h.gr hm
 have hV:(aA ds).Nodup:=hG.nd
 obtain⟨c1,c2,c3⟩:=mH hV hG.us
 have hok:=(oU hV hG.us (aA ds) tj0 (fun _ h=>h) tO).1.ok
 have hl:(aA ds).length=ds.length:=S9 ..
 rw[hl]at c1 c2 c3 hok
 obtain⟨G,hGd⟩:∃G,(comps (dP ds) ds.length (aA ds) tj0).grs=G:=⟨_,rfl⟩
 rw[hGd]at c1 c2 c3 hlen hgs
 have hgl:G.length≤1000:=by
  have k1:=hok.gr
  have k2:=hok.ct
  have k3:(aA ds).countP (fun x=>decide ((comps (dP ds) ds.length (aA ds) tj0).num x≠0))≤(aA ds).length:=Uc
  have:=h.len
  rw[hGd]at k1
  omega
 have hrg:RG Y w.heap.size (w.heap.size+11) gv gl G:=⟨hrow,hlen,fun j v l hv hl=>(hgs j v l hv hl).v.mono (by omega)⟩
 obtain⟨A,c,rfl⟩:=bR hrow
 have hUs:UsB w.heap.size ub (dP ds) Y:=UsB.below (by obtain⟨N,g,h1,h2⟩:=hus;exact⟨N,g,h1,h2⟩) hub hb
 have ho:=Cw hUs hub hb.size (by omega) hrg hgl (fun g hg=>⟨by
   have:=uN h.asc (c1 g hg).srt (c1 g hg).sub
   have:=h.len
   omega,fun a ha=>by
   have hm':=(c1 g hg).sub a ha
   refine⟨⟨hG.ok a hm',?_⟩,hG.ul a hm',fun u hu=>hG.ok u (hG.us a hm' u hu)⟩
   obtain⟨x,hx,rfl⟩:=TH.1 hm'
   have:=(h.v x hx).id
   omega⟩) (c2.imp_of_mem fun {a b} ha hb' hab e=>hab _ (head_mem (c1 a ha).ne) (e▸head_mem (c1 b hb').ne))
 refine⟨hb,A,c,_,rfl,ho.mono ?_⟩
 rintro e Z ⟨v,gl',rfl,hbz,hr⟩
 refine⟨v,gl',rfl,hb.trans hbz,fQ hr.row hb.size,?_,?_⟩
 ·have:=hr.len
  unfold bX iK
  rw[hl,hGd]
  exact this
 ·unfold bX iK
  rw[hl,hGd]
  exact hr.gs
theorem oV (label:ByteArray)(uses:List ByteArray)(uA:Option Addr)(uc:Nat)(ds:List Dc)(dA:Option Addr)(dc:Nat)(W:World)(hu:SlS W W.heap.size uA uc uses)(hd:SlD W W.heap.size dA dc ds) :
  Calls Tryz.prog 14 #[.agg #[.string label,.slice uA uses.length uc,.slice dA ds.length dc]] W (rX W (kr label uses ds) (bX ds)):=by
 have hmm:=@run_makeMap Tryz.prog
 obtain⟨W0,hW0⟩:∃W0,W.alloc (.cells #[.string label,.slice uA uses.length uc,.slice dA ds.length dc] 25)=W0:=⟨_,rfl⟩
 have hb0:RowKit.Below W.heap.size W W0:=by subst hW0;exact(Tz _ _).alloc (SA _) _
 have hr0:W0.heap[W.heap.size]?=some (.cells #[.string label,.slice uA uses.length uc,.slice dA ds.length dc] 25 (0,0)):=by subst hW0;exact Sv W _
 have hz0:W.heap.size<W0.heap.size:=by subst hW0;simp
 have iX:=uO label uses uA uc ds dA dc W0 (hu.keep hb0.size fun p hp=>hb0.cell hp) (hd.keep hb0.size fun p hp=>hb0.cell hp)
 have hE:kr label uses ds=if bY label uses ds≠0 then bY label uses ds else if dM ds=true then 21 else 0:=rfl
 have hV0:bY label uses ds=0→MdV label ds:=MdV.of
 obtain⟨C0,HC0⟩:∃C0,Hid (bY label uses ds=C0):=⟨_,Sk rfl⟩
 rw[HC0.out]at iX hE hV0
 obtain⟨E,HE⟩:∃E,Hid (kr label uses ds=E):=⟨_,Sk rfl⟩
 rw[HE.out]at hE ⊢
 obtain⟨N,HN⟩:∃N,Hid (ds.length=N):=⟨_,Sk rfl⟩
 obtain⟨NU,HNU⟩:∃N,Hid (uses.length=N):=⟨_,Sk rfl⟩
 rw[HN.out,HNU.out]at hW0 hr0 iX ⊢
 have t0:=Sq W0 W.heap.size 0 _ _ (0,0) hr0
 have t1:=Sq W0 W.heap.size 1 _ _ (0,0) hr0
 have t2:=Sq W0 W.heap.size 2 _ _ (0,0) hr0
 simp at t0 t1 t2
 have HCK:=Sk iX
 have HD:=Sk hd
 have HB0:=Sk (Sn hb0 (Sn hr0 hz0))
 have hdc:=hd.2.1
 have hdl:=hd.1
 unfold maxLen at hdc
 rw[HN.out]at hdl
 clear hu hd hb0 hr0 hz0 iX
 by_cases h0:C0=0
 rotate_left
 ·have h0':(C0 != 0)=true:=by simpa using h0
  have M8:(C0==0)=false:=by simpa using h0
  have HEE:=Sk (show E=C0 by rw[hE,TY h0])
  clear hE
  go_enter Tryz.func14,Tryz.ntmps14
  go_wp2_with (go_at_call 24;(with_reducible refine TJ HCK.out ?_);rintro e w1 ⟨rfl,hb1⟩;have HB1:=Sk hb1;clear hb1)
  refine Ua (v:=.tuple #[.slice none 0 0,.int .i64 C0]) (by simp[results,Tryz.results14,go_sem]) rfl ?_
  rw[HEE.out]
  exact⟨_,[],rfl,HB0.out.1.trans (HB1.out.mono HB0.out.1.size),.inr ⟨h0,rfl⟩⟩
 subst h0
 have HV:=Sk (hV0 rfl)
 have hE':E=if dM ds=true then 21 else 0:=by rw[hE,TW (by simp)]
 have HEE:=Sk hE'
 have iN:(aA ds).length=N:=by rw[←HN.out];exact S9 ..
 have KW:N≤100:=by rw[←HN.out];exact HV.out.len
 have HIL:=Sk iN
 obtain⟨mo,Hmo⟩:∃mo:Array Value,Hid (mo=#[.string label,.slice uA NU uc,.slice dA N dc]):=⟨_,Sk rfl⟩
 clear hE hV0 hE' iN
 go_enter Tryz.func14,Tryz.ntmps14
 go_wp2_with (go_at_call 24;(with_reducible refine TJ HCK.out ?_);rintro e w1 ⟨rfl,hb1⟩;have s2:=(hb1.cell (p:=⟨W.heap.size,2,none⟩) HB0.out.2.2).trans t2;have hz1:=SB HB0.out.2.2 hb1.size;have HB1:=Sk hb1;clear hb1)
 have HG0:=Sk (show GuI W w1.heap.size mo (aA ds) (dP ds) 0 (w1.alloc (.map #[] 0))from⟨(HB0.out.1.trans (HB1.out.mono HB0.out.1.size)).alloc (SE HB0.out.1.size HB1.out.size) _,(Tt _ _ _ (SB HB0.out.2.2 HB1.out.size)).trans ((HB1.out.block _ HB0.out.2.2).trans (by rw[Hmo.out];exact HB0.out.2.1)),SB HB0.out.2.2 HB1.out.size,_,aQ.made aH w1,fun a=>⟨none,0,by simp[jS],by simp[jS],SC _,fun h=>absurd (by simp[jS]) h⟩⟩)
 go_loopg [7,24] N (fun g _ ct w=>∃j:Nat,g=N-j∧j≤N∧ct=.int .i64 j∧GuI W w1.heap.size mo (aA ds) (dP ds) j w)
 case atStart=>exact⟨0,rfl,SC _,rfl,HG0.out⟩
 case round =>
  obtain⟨j,hg,hj,rfl,hI⟩:=hrel
  have hbW:=hI.bl
  by_cases hlt:j<N
  ·have hlt':j<ds.length:=by rw[HN.out];exact hlt
   obtain⟨x,hx⟩:∃x,ds[j]?=some x:=⟨_,Sw hlt'⟩
   have hxv:=HV.out.v x (SV hx)
   have hxu:=oW HV.out.asc hx
   have hxj:(aA ds)[j]?=some x.id:=by unfold aA;rw[Tk,hx];rfl
   have hd:=HD.out.keepW hbW
   obtain⟨b,o,rfl,hb,hall⟩:=hd.2.2 (by intro e;rw[e]at hlt';simp at hlt')
   obtain⟨hcs,iq⟩:=hall j x hx
   obtain⟨xid,bD,bS,xnA,xnc,aK,aY,xk,xn,xm,xi,xd,xA,xc,xs⟩:=x
   obtain⟨d0,d1,d2,d3,d4,d5,d6,d7,d8,d9,d10⟩:=dcs hcs
   simp only at hxu hxj
   obtain⟨W3,hW3⟩:∃W3,wr.alloc (.cells #[.int .i64 xid,.int .i64 bD,.bool bS,.slice xnA aK.length xnc,.bool aY,.int .i64 xk,.string xn,.string xm,.int .i64 xi,.int .i64 xd,.slice xA xs.len xc] 46)=W3:=⟨_,rfl⟩
   have hb3:RowKit.Below wr.heap.size wr W3:=by subst hW3;exact(Tz _ _).alloc (SA _) _
   have hr3:W3.heap[wr.heap.size]?=some (.cells #[.int .i64 xid,.int .i64 bD,.bool bS,.slice xnA aK.length xnc,.bool aY,.int .i64 xk,.string xn,.string xm,.int .i64 xi,.int .i64 xd,.slice xA xs.len xc] 46 (0,0)):=by subst hW3;exact Sv wr _
   have hwz:wr.heap.size<W3.heap.size:=by subst hW3;simp
   have Eo:RowKit.Below wr.heap.size wr W3.drew:=hb3.drew
   have hsl:xs.Sl W3.drew W3.drew.heap.size xA xc:=iq.2.keep (by have:=hbW.size;have:=Eo.size;omega) fun p hp=>Eo.cell (by have:=hbW.size;omega)
   have HC:=Sk (GD ⟨xid,bD,bS,xnA,xnc,aK,aY,xk,xn,xm,xi,xd,xA,xc,xs⟩ hsl (by have:=hxv.cnt;simp only at this ⊢;omega))
   have HA:=Sk (show ∀e Y,Ep (Dc.us ⟨xid,bD,bS,xnA,xnc,aK,aY,xk,xn,xm,xi,xd,xA,xc,xs⟩) W3.drew e Y→∃A L c,e=.returned (.slice A L c)∧Y.cell? ⟨wr.heap.size,0,none⟩=some (.int .i64 xid)∧∃Z,(Instr.mapUpdate 77 (.map (some w1.heap.size)) (.int .i64 xid) (.slice A L c)).run Tryz.prog Y=.ok () Z∧GuI W w1.heap.size mo (aA ds) (dP ds) (j+1) Z from fun e Y hu=>by
    obtain⟨v,rfl,hrow,hb4⟩:=hu
    obtain⟨A,c,rfl,hi⟩:=zO hrow
    rw[←hxu]at hi ⊢
    have hI4:=(hI.below Eo).below hb4
    obtain⟨Z,hrun,hI5⟩:=hI4.put hxj (jL HV.out.asc) (lq hxv.id) (by unfold maxLen;omega) hi
    exact⟨A,_,c,rfl,(SN ((hb4.block _ hwz))).trans (Sq W3 wr.heap.size 0 _ _ (0,0) hr3),Z,hrun,hI5⟩)
   have e0:=Sq W3 wr.heap.size 0 _ _ (0,0) hr3
   have e1:=Sq W3 wr.heap.size 1 _ _ (0,0) hr3
   have e2:=Sq W3 wr.heap.size 2 _ _ (0,0) hr3
   have e3:=Sq W3 wr.heap.size 3 _ _ (0,0) hr3
   have e4:=Sq W3 wr.heap.size 4 _ _ (0,0) hr3
   have e5:=Sq W3 wr.heap.size 5 _ _ (0,0) hr3
   have e6:=Sq W3 wr.heap.size 6 _ _ (0,0) hr3
   have e7:=Sq W3 wr.heap.size 7 _ _ (0,0) hr3
   have e8:=Sq W3 wr.heap.size 8 _ _ (0,0) hr3
   have e9:=Sq W3 wr.heap.size 9 _ _ (0,0) hr3
   have e10:=Sq W3 wr.heap.size 10 _ _ (0,0) hr3
   simp at e0 e1 e2 e3 e4 e5 e6 e7 e8 e9 e10
   have HK:=Sk hg
   obtain⟨nl,hnl⟩:∃nl,Hid (aK.length=nl):=⟨_,Sk rfl⟩
   obtain⟨sl,mF⟩:∃sl,Hid (xs.len=sl):=⟨_,Sk rfl⟩
   rw[hnl.out,mF.out]at HC hW3
   rw[hnl.out]at d3 e3
   rw[mF.out]at d10 e10
   clear hI hbW hd hall hcs iq hx hxv hxu hxj hb3 Eo hr3 hsl hg hlt'
   go_upto_region 8 with fail
   try rw[hW3]
   go_region_law (first
    | (go_simp;go_at_call 43;(with_reducible refine TJ HC.out ?_);intro e w2 hu;obtain⟨rA,rL,rc,he,u5,Z,hrun,hI2⟩:=HA.out e w2 hu;clear hu;subst he;have HM3:=Sk hI2;clear hI2)
    | fail)
   all_goals (
    go_wp2
    go_roundg (N-(j+1))
    case measure=>have:=HK.out;omega
    case rel=>exact⟨j+1,rfl,by omega,by go_num,HM3.out⟩)
  ·have hjN:N=j:=by omega
   subst hjN
   have i1:decide ((N:Int)<(N:Int))=false:=SH (by omega)
   have i2:decide (N<N)=false:=SH (by omega)
   obtain⟨ub,hub⟩:∃ub,w1.heap.size=ub:=⟨_,rfl⟩
   rw[hub]at hI
   have hwz:W.heap.size<wr.heap.size:=lt_of_block hI.box
   have s2':wr.cell? ⟨W.heap.size,2,none⟩=some (.slice dA N dc):=by
    have:=hI.box
    rw[Hmo.out]at this
    have:=Sq wr W.heap.size 2 _ _ (0,0) this
    simpa using this
   have hT0:GuT W ub wr.heap.size mo (aA ds) (dP ds) 0 (wr.alloc (.map #[] 0)):=by
    obtain⟨g,hm,_⟩:=hI.um
    refine⟨?_,hm.lt,(aQ.made aH wr).eG fun a _=>by simp⟩
    have h1:=hI.below ((Tz _ _).alloc (SA _) (.map #[] 0))
    rw[HIL.out]
    exact h1
   have HT0:=Sk hT0
   clear hI hbW hg hT0 s2 hz1
   rw[hub]
   clear hub
   go_wp2
   obtain⟨tb,htb⟩:∃tb,wr.heap.size=tb:=⟨_,rfl⟩
   rw[htb]at HT0 ⊢
   clear htb hwz s2'
   go_loopg [10,38] N (fun g _ ct w=>∃j:Nat,g=N-j∧j≤N∧ct=.int .i64 j∧GuT W ub tb mo (aA ds) (dP ds) j w)
   case atStart=>exact⟨0,rfl,SC _,rfl,HT0.out⟩
   case round =>
    obtain⟨j,hg,hj,rfl,hI⟩:=hrel
    by_cases hlt:j<N
    ·have hlt':j<ds.length:=by rw[HN.out];exact hlt
     obtain⟨x,hx⟩:∃x,ds[j]?=some x:=⟨_,Sw hlt'⟩
     have hxv:=(HV.out.v x (SV hx)).id
     have hxj:(aA ds)[j]?=some x.id:=by unfold aA;rw[Tk,hx];rfl
     have hd:=HD.out.keepW hI.i.bl
     obtain⟨b,o,rfl,hb,hall⟩:=hd.2.2 (by intro e;rw[e]at hlt';simp at hlt')
     obtain⟨hcs,_⟩:=hall j x hx
     obtain⟨xid,bD,bS,xnA,xnc,aK,aY,xk,xn,xm,xi,xd,xA,xc,xs⟩:=x
     obtain⟨d0,d1,d2,d3,d4,d5,d6,d7,d8,d9,d10⟩:=dcs hcs
     simp only at hxj hxv
     obtain⟨W3,hW3⟩:∃W3,wr.alloc (.cells #[.int .i64 xid,.int .i64 bD,.bool bS,.slice xnA aK.length xnc,.bool aY,.int .i64 xk,.string xn,.string xm,.int .i64 xi,.int .i64 xd,.slice xA xs.len xc] 46)=W3:=⟨_,rfl⟩
     have hb3:RowKit.Below wr.heap.size wr W3:=by subst hW3;exact(Tz _ _).alloc (SA _) _
     have hr3:W3.heap[wr.heap.size]?=some (.cells #[.int .i64 xid,.int .i64 bD,.bool bS,.slice xnA aK.length xnc,.bool aY,.int .i64 xk,.string xn,.string xm,.int .i64 xi,.int .i64 xd,.slice xA xs.len xc] 46 (0,0)):=by subst hW3;exact Sv wr _
     have e0:=Sq W3 wr.heap.size 0 _ _ (0,0) hr3
     simp at e0
     obtain⟨Z,hrun,hI2⟩:=(hI.below hb3).put hxj (lq hxv) (by unfold maxLen;omega)
     have HI2:=Sk (Sn hg hI2)
     clear hI hd hall hcs hx hxv hxj hb3 hr3 hg hlt' hI2
     go_upto_region 14 with fail
     try rw[hW3]
     go_wp2
     go_roundg (N-(j+1))
     case measure=>have:=HI2.out.1;omega
     case rel=>exact⟨j+1,rfl,by omega,by go_num,HI2.out.2⟩
    ·have hjN:N=j:=by omega
     subst hjN
     have i1:decide ((N:Int)<(N:Int))=false:=SH (by omega)
     have i2:decide (N<N)=false:=SH (by omega)
     have s3:wr.cell? ⟨W.heap.size,2,none⟩=some (.slice dA N dc):=by
      have:=hI.i.box
      rw[Hmo.out]at this
      have:=Sq wr W.heap.size 2 _ _ (0,0) this
      simpa using this
     rw[←HIL.out]at hI
     have HI:=Sk hI
     clear hI hg
     go_wp2
     go_loopg [12,49] N (fun g _ ct w=>∃j:Nat,g=N-j∧j≤N∧ct=.int .i64 j∧GuT W ub tb mo (aA ds) (dP ds) (aA ds).length w∧∀x∈ds.take j,∀u∈x.us,u∈aA ds)
     case atStart=>exact⟨0,rfl,SC _,rfl,HI.out,by simp⟩
     case round =>
      obtain⟨j,hg,hj,rfl,hI,hin⟩:=hrel
      by_cases hlt:j<N
      ·have hlt':j<ds.length:=by rw[HN.out];exact hlt
       obtain⟨x,hx⟩:∃x,ds[j]?=some x:=⟨_,Sw hlt'⟩
       have hxm:=SV hx
       have hxv:=HV.out.v x hxm
       have hxu:=oW HV.out.asc hx
       have htk:ds.take (j+1)=ds.take j++[x]:=by rw[Tn,hx];rfl
       obtain⟨US,hUS⟩:∃US,x.us=US:=⟨_,rfl⟩
       have hok:=hxv.KX
       rw[hUS]at hxu hok
       have hXI:=hxv.id
       have hd:=HD.out.keepW hI.i.bl
       obtain⟨b,o,rfl,hb,hall⟩:=hd.2.2 (by intro e;rw[e]at hlt';simp at hlt')
       obtain⟨hcs,_⟩:=hall j x hx
       obtain⟨xid,bD,bS,xnA,xnc,aK,aY,xk,xn,xm,xi,xd,xA,xc,xs⟩:=x
       obtain⟨d0,d1,d2,d3,d4,d5,d6,d7,d8,d9,d10⟩:=dcs hcs
       simp only at hxu hXI
       obtain⟨W3,hW3⟩:∃W3,wr.alloc (.cells #[.int .i64 xid,.int .i64 bD,.bool bS,.slice xnA aK.length xnc,.bool aY,.int .i64 xk,.string xn,.string xm,.int .i64 xi,.int .i64 xd,.slice xA xs.len xc] 46)=W3:=⟨_,rfl⟩
       have hb3:RowKit.Below wr.heap.size wr W3:=by subst hW3;exact(Tz _ _).alloc (SA _) _
       have hr3:W3.heap[wr.heap.size]?=some (.cells #[.int .i64 xid,.int .i64 bD,.bool bS,.slice xnA aK.length xnc,.bool aY,.int .i64 xk,.string xn,.string xm,.int .i64 xi,.int .i64 xd,.slice xA xs.len xc] 46 (0,0)):=by subst hW3;exact Sv wr _
       have e0:=Sq W3 wr.heap.size 0 _ _ (0,0) hr3
       simp at e0
       have hI3:=hI.below hb3
       obtain⟨⟨uA,uc,lku,hui⟩,_⟩:=hI3.looks (fun a ha=>oQ ha) (lq hXI)
       rw[hxu]at lku hui
       have hlk:∀u∈US,(Instr.lookup 79 (.map (some tb)) (.int .i64 u) false).run Tryz.prog W3=.ok (.bool (decide (u∈aA ds))) W3:=fun u hu=>(hI3.looks (fun a ha=>oQ ha) (lq (hok.2 u hu))).2
       obtain⟨M,HM⟩:∃M,Hid (US.length=M):=⟨_,Sk rfl⟩
       have hM:M≤1000:=by rw[←HM.out];exact hok.1
       rw[HM.out]at lku
       have huc:M≤uc∧uc≤9223372036854775807:=by rw[←HM.out];have:=hui.2.1;unfold maxLen at this;exact⟨hui.1,by omega⟩
       have HJ:=Sk (Sn hg (Sn hI3 (Sn hui (Sn hlk (Sn hin (Sn htk (Sn hUS hxm)))))))
       clear hI hd hall hcs hx hxv hxu hb3 hr3 hg hlt' hI3 hui hlk hin htk hok hUS hxm
       go_upto_region 19 with fail
       try rw[hW3]
       go_wp2
       go_loopg [14,58] M (fun g _ ct w=>∃q:Nat,g=M-q∧q≤M∧ct=.int .i64 q∧W3=w∧∀u∈US.take q,u∈aA ds)
       case atStart=>exact⟨0,rfl,SC _,rfl,rfl,by simp⟩
       case round =>
        obtain⟨q,hg,hq,rfl,hWw,hin⟩:=hrel
        subst hWw
        by_cases hlq:q<M
        ·obtain⟨u,hu⟩:∃u,US[q]?=some u:=⟨_,Sw (by rw[HM.out];exact hlq)⟩
         obtain⟨gb,go,rfl,_,hgc⟩:=HJ.out.2.2.1.2.2 (by intro e;rw[e]at hu;simp at hu)
         have eu:=hgc q u hu
         have hum:=SV hu
         have lkt:=HJ.out.2.2.2.1 u hum
         have htk:US.take (q+1)=US.take q++[u]:=by rw[Tn,hu];rfl
         by_cases hd:u∈aA ds
         ·rw[SI hd]at lkt
          have HQ:=Sk (Sn hg (show ∀z∈US.take (q+1),z∈aA ds by
           intro z hz
           rw[htk,Td,Te]at hz
           rcases hz with hz|rfl
           ·exact hin z hz
           ·exact hd))
          clear hgc hu hum htk hin hg hd
          go_wp2
          go_roundg (M-(q+1))
          case measure=>have:=HQ.out.1;omega
          case rel=>exact⟨q+1,rfl,by omega,by go_num,rfl,HQ.out.2⟩
         ·rw[SH hd]at lkt
          have HQ:=Sk (show E=21 by
           rw[HEE.out,TY]
           unfold dM
           rw[TF]
           refine⟨_,HJ.out.2.2.2.2.2.2.2,?_⟩
           rw[TF]
           refine⟨u,by rw[HJ.out.2.2.2.2.2.2.1];exact hum,by simpa using hd⟩)
          clear hgc hu hum htk hin hg hd
          go_wp2
          refine Ua (v:=.tuple #[.slice none 0 0,.int .i64 21]) (by simp[results,Tryz.results14,go_sem]) rfl ?_
          rw[HQ.out]
          exact⟨_,[],rfl,HJ.out.2.1.i.bl,.inr ⟨by decide,rfl⟩⟩
        ·have hqM:M=q:=by omega
         subst hqM
         have i1:decide ((M:Int)<(M:Int))=false:=SH (by omega)
         have i2:decide (M<M)=false:=SH (by omega)
         rw[Tm (by rw[HM.out];exact SA _)]at hin
         have HQ:=Sk hin
         clear hin hg
         go_wp2
         go_roundg (N-(j+1))
         case measure=>have:=HJ.out.1;omega
         case rel =>
          refine⟨j+1,rfl,by omega,by go_num,HJ.out.2.1,fun z hz=>?_⟩
          rw[HJ.out.2.2.2.2.2.1,Td,Te]at hz
          rcases hz with hz|rfl
          ·exact HJ.out.2.2.2.2.1 z hz
          ·rw[HJ.out.2.2.2.2.2.2.1]
           exact HQ.out
      ·have hjN:N=j:=by omega
       subst hjN
       have i1:decide ((N:Int)<(N:Int))=false:=SH (by omega)
       have i2:decide (N<N)=false:=SH (by omega)
       rw[Tm (by rw[HN.out];exact SA _)]at hin
       have hmf:dM ds=false:=by
        unfold dM
        rw[TG]
        intro x hx
        rw[Uf,TG]
        intro u hu
        simpa using hin x hx u hu
       have hE0:E=0:=by rw[HEE.out,TW (by rw[hmf];simp)]
       have hbx:=hI.i.box
       rw[Hmo.out]at hbx
       have b0:=Sq wr W.heap.size 0 _ _ (0,0) hbx
       have b1:=Sq wr W.heap.size 1 _ _ (0,0) hbx
       have b2:=Sq wr W.heap.size 2 _ _ (0,0) hbx
       simp at b0 b1 b2
       have hus:=hI.i.done fun a ha=>oQ ha
       have KY:ub<wr.heap.size:=by obtain⟨g,hm,_⟩:=hI.i.um;exact hm.lt
       have hC:=GH (label:=label) (uA:=uA) (un:=NU) (uc:=uc) (dA:=dA) (dc:=dc) (HV.out.gr hmf) ((HD.out.keepW hI.i.bl).keep hI.i.bl.size fun _ _=>rfl) hus KY
       rw[HN.out]at hC
       have HC:=Sk hC
       have HO:=Sk (show ∀e Y,zN wr (comps (dP ds) ds.length (aA ds) tj0).grs e Y→_ from fun e Y hc=>GA HV.out hmf hus KY hc)
       rw[HN.out]at HO
       have HI2:=Sk (Sn hI.i.bl hE0)
       clear hI hin hbx hus hC hg hmf hE0
       go_wp2_with (go_at_call 45;(with_reducible refine TJ HC.out ?_);intro e Y hc;obtain⟨hbY,cA,cc,cn,he,M9⟩:=HO.out e Y hc;have HR:=Sk M9;clear hc M9 hbY;subst he)
       with_reducible refine TJ HR.out ?_
       rintro e Z ⟨v,gl,rfl,hbZ,hrg⟩
       have HZ:=Sk (Sn hbZ hrg)
       clear hbZ hrg
       go_wp2
       refine Ua (v:=.tuple #[v,.int .i64 0]) (by simp[results,Tryz.results14,go_sem]) rfl ?_
       rw[HI2.out.2]
       have hs:=HI2.out.1.size
       exact⟨_,gl,rfl,HI2.out.1.trans (HZ.out.1.mono hs),.inl ⟨rfl,fQ HZ.out.2.row hs,HZ.out.2.len,fun j v l h1 h2=>(HZ.out.2.gs j v l h1 h2).mono hs⟩⟩
end Go.Proofs.Q
