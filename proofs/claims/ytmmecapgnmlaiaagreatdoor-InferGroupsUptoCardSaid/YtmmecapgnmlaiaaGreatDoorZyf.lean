/- helper lemmas -/
import Derived.Test.YtmmecapgnmlaiaaGreatDoorTuw
import Derived.Test.YtmmecapgnmlaiaaGreatDoorZye
set_option maxRecDepth 100000
set_option maxHeartbeats 16000000
namespace Go.Proofs.Q
open Go Go.RowKit Go.Proofs Go.Proofs.Scc
def plc (ds:List Dc)(id:Int):Int:=fIdx ((aA ds).findIdx? fun a=>a==id)
theorem Mx (ds:List Dc)(id:Int):decide (plc ds id<0)=!(decide (id∈aA ds)):=by
 unfold plc
 cases h:(aA ds).findIdx? fun a=>a==id with
 | none =>
  rw[Uh]at h
  have:id∉aA ds:=fun hm=>by
   have:=h id hm
   simp at this
  simp[fIdx,this]
 | some k =>
  rw[Ug]at h
  obtain⟨hk,h1,_⟩:=h
  have e:(aA ds)[k]=id:=by simpa using h1
  have:id∈aA ds:=e▸Ul hk
  rw[SI this]
  exact SH (by show ¬((k:Int)<0);omega)
theorem iU {w w':World}{b b':Nat}{e e':TypeId}{s s':Nat}{v v':Value}{n n':Nat}{xs xs':List Value}(h:w.ownsRow b e s v n xs)(h':w.ownsRow b' e' s' v' n' xs')(he:e≠e')(hg:w.grownBy w' v.ownBlock):w'.ownsRow b' e' s' v' n' xs':=
 bQ h' fun k hk=>hg.block k (h'.lt k hk).2 fun hk'=>by
  obtain⟨c,fz,h1⟩:=Lib.ownsRow_kind h k hk'.symm
  obtain⟨c',fz',h2⟩:=Lib.ownsRow_kind h' k hk
  rw[h1]at h2
  cases h2
  exact he rfl
theorem Dl (label:ByteArray)(uses:List ByteArray)(uA:Option Addr)(uc:Nat)(ds:List Dc)(dA:Option Addr)(dc:Nat)(id:Int)(W:World)(hd:SlD W W.heap.size dA dc ds) :
  Calls Tryz.prog 68 #[.agg #[.string label,.slice uA uses.length uc,.slice dA ds.length dc],.int .i64 id] W fun e Y=>e=.returned (.int .i64 (plc ds id))∧RowKit.Below W.heap.size W Y:=by
 obtain⟨W0,hW0⟩:∃W0,W.alloc (.cells #[.string label,.slice uA uses.length uc,.slice dA ds.length dc] 25)=W0:=⟨_,rfl⟩
 have hb0:RowKit.Below W.heap.size W W0:=by subst hW0;exact(Tz _ _).alloc (SA _) _
 have hr0:W0.heap[W.heap.size]?=some (.cells #[.string label,.slice uA uses.length uc,.slice dA ds.length dc] 25 (0,0)):=by subst hW0;exact Sv W _
 obtain⟨R,HR⟩:∃R,Hid (plc ds id=R):=⟨_,Sk rfl⟩
 rw[HR.out]
 obtain⟨N,HN⟩:∃N,Hid (ds.length=N):=⟨_,Sk rfl⟩
 obtain⟨NU,HNU⟩:∃N,Hid (uses.length=N):=⟨_,Sk rfl⟩
 have hdc:=hd.2.1
 have hdl:=hd.1
 unfold maxLen at hdc
 rw[HN.out,HNU.out]at hW0 hr0 ⊢
 rw[HN.out]at hdl
 have t2:=Sq W0 W.heap.size 2 _ _ (0,0) hr0
 simp at t2
 have HD:=Sk (hd.keep hb0.size fun p hp=>hb0.cell hp)
 have HB0:=Sk hb0
 clear hd hb0 hr0
 go_enter Tryz.func68,Tryz.ntmps68
 go_upto_region 1 with fail
 try rw[hW0]
 go_wp2
 go_loopg [5] N (fun g ct w=>∃j:Nat,g=N-j∧j≤N∧ct=.int .i64 j∧w=W0∧∀a∈(aA ds).take j,a≠id)
 case atStart=>exact⟨0,rfl,SC _,rfl,rfl,by simp⟩
 case round =>
  obtain⟨j,hg,hj,rfl,rfl,hn⟩:=hrel
  by_cases hlt:j<N
  ·have hlt':j<ds.length:=by rw[HN.out];exact hlt
   obtain⟨x,hx⟩:∃x,ds[j]?=some x:=⟨_,Sw hlt'⟩
   obtain⟨b,o,rfl,hb,hall⟩:=HD.out.2.2 (by intro e;rw[e]at hlt';simp at hlt')
   obtain⟨hcs,_⟩:=hall j x hx
   have d0:wr.cell? ⟨b,o+j*11,none⟩=some (.int .i64 x.id):=hcs 0 _ rfl
   have hix:(aA ds)[j]?=some x.id:=by unfold aA;rw[Tk,hx];rfl
   have htk:(aA ds).take (j+1)=(aA ds).take j++[x.id]:=by rw[Tn,hix];rfl
   obtain⟨xi,hxi⟩:∃xi,x.id=xi:=⟨_,rfl⟩
   rw[hxi]at d0 hix htk
   have HJ:=Sk (Sn hg (Sn hn (Sn hix htk)))
   clear hcs hall hx hxi hg hn hix htk hlt' hb
   by_cases he:xi=id
   ·subst he
    have HV:=Sk (show R=(j:Int) by
     rw[←HR.out]
     unfold plc
     have:(aA ds).findIdx? (fun a=>a==xi)=some j:=by
      obtain⟨hjl,e⟩:=Sy.1 HJ.out.2.2.1
      rw[Ug]
      refine⟨hjl,by rw[e];simp,fun q hq=>?_⟩
      have:=HJ.out.2.1 ((aA ds)[q]'(by omega)) (List.mem_iff_getElem?.2 ⟨q,by rw[List.getElem?_take_of_lt hq];exact Sw _⟩)
      simpa using this
     rw[this]
     rfl)
    go_wp2
    go_ret
    exact⟨by rw[HV.out];rfl,HB0.out⟩
   ·have he':(xi==id)=false:=by simpa using he
    go_wp2
    go_roundg (N-(j+1))
    case measure=>have:=HJ.out.1;omega
    case rel =>
     refine⟨j+1,rfl,by omega,by go_num,rfl,fun a ha=>?_⟩
     rw[HJ.out.2.2.2]at ha
     rcases Td.1 ha with ha|ha
     ·exact HJ.out.2.1 a ha
     ·rw[Te.1 ha]
      exact he
  ·have HV:=Sk (show R=-1 by
    rw[←HR.out]
    unfold plc
    have:(aA ds).findIdx? (fun a=>a==id)=none:=by
     rw[Uh]
     intro a ha
     have hl:(aA ds).length=ds.length:=S9 ..
     rw[Tm (by rw[hl,HN.out];omega)]at hn
     simpa using hn a ha
    rw[this]
    rfl)
   clear hn hg
   go_wp2
   go_ret
   exact⟨by rw[HV.out];rfl,HB0.out⟩
theorem vX (x:Dc){w:World}(hs:x.s.Sl w w.heap.size x.A x.c)(hcnt:x.s.count≤100000) :
  Calls Tryz.prog 90 #[.agg #[.int .i64 x.id,.int .i64 x.kind,.bool x.pub,.slice x.nA x.names.length x.nc,.bool x.doubt,.int .i64 x.k,.string x.n,.string x.m,.int .i64 x.i,.int .i64 x.d,.slice x.A x.s.len x.c]] w (Ep x.us w):=by
 have hlen:x.refs.length≤1000000:=by
  have h1:x.refs.length≤x.body.vis.length:=jK
  rw[Fo.fB]at h1
  simp only[Dc.body,Fo.count]at h1
  omega
 have hus:usL x.refs=x.us:=rfl
 have hrf:fO x.k x.n x.i x.s []=x.refs:=F4 x.k x.n x.m x.i x.d x.A x.c x.s
 obtain⟨id,kind,pub,nA,nc,names,doubt,k,n,m,i,d,A,c,s⟩:=x
 obtain⟨W0,hW0⟩:∃W0,w.alloc (.cells #[.int .i64 id,.int .i64 kind,.bool pub,.slice nA names.length nc,.bool doubt,.int .i64 k,.string n,.string m,.int .i64 i,.int .i64 d,.slice A s.len c] 46)=W0:=⟨_,rfl⟩
 have hb0:RowKit.Below w.heap.size w W0:=by subst hW0;exact(TA _ _).alloc (SA _) _
 have hr0:W0.heap[w.heap.size]?=some (.cells #[.int .i64 id,.int .i64 kind,.bool pub,.slice nA names.length nc,.bool doubt,.int .i64 k,.string n,.string m,.int .i64 i,.int .i64 d,.slice A s.len c] 46 (0,0)):=by subst hW0;exact Sv w _
 have hz0:W0.heap.size=w.heap.size+1:=by rw[←hW0];simp
 have e5:=Sq W0 w.heap.size 5 _ _ (0,0) hr0
 have e6:=Sq W0 w.heap.size 6 _ _ (0,0) hr0
 have e7:=Sq W0 w.heap.size 7 _ _ (0,0) hr0
 have e8:=Sq W0 w.heap.size 8 _ _ (0,0) hr0
 have e9:=Sq W0 w.heap.size 9 _ _ (0,0) hr0
 have e10:=Sq W0 w.heap.size 10 _ _ (0,0) hr0
 simp at e5 e6 e7 e8 e9 e10
 obtain⟨W1,hW1⟩:∃W1,W0.alloc (.cells #[] 3)=W1:=⟨_,rfl⟩
 have hb1:RowKit.Below W0.heap.size W0 W1:=by subst hW1;exact(Tz _ _).alloc (SA _) _
 have hown1:W1.ownsRow W0.heap.size 3 1 (.slice (some ⟨W0.heap.size,0,none⟩) 0 0) 0 []:=by
  subst hW1
  exact⟨rfl,.inr ⟨W0.heap.size,0,#[],rfl,SA _,Sv _ _,SA _,by decide,rfl,rfl⟩⟩
 have hB1:RowKit.Below w.heap.size w W1:=hb0.trans (hb1.mono hb0.size)
 have HC:=Sk (F3 k n m i d A c s W1 (hs.keep hB1.size fun p hp=>hB1.cell hp) hcnt)
 obtain⟨RF,HRF⟩:∃RF,RF=fO k n i s []:=⟨_,rfl⟩
 simp only at hrf
 rw[←HRF]at HC hrf
 rw[←hrf]at hus hlen
 rw[←hus]
 have f5:=(hb1.cell (p:=⟨w.heap.size,5,none⟩) (by simp;omega)).trans e5
 have f6:=(hb1.cell (p:=⟨w.heap.size,6,none⟩) (by simp;omega)).trans e6
 have f7:=(hb1.cell (p:=⟨w.heap.size,7,none⟩) (by simp;omega)).trans e7
 have f8:=(hb1.cell (p:=⟨w.heap.size,8,none⟩) (by simp;omega)).trans e8
 have f9:=(hb1.cell (p:=⟨w.heap.size,9,none⟩) (by simp;omega)).trans e9
 have f10:=(hb1.cell (p:=⟨w.heap.size,10,none⟩) (by simp;omega)).trans e10
 obtain⟨L,HL⟩:∃L,Hid (RF.length=L):=⟨_,Sk rfl⟩
 rw[HL.out]at hlen
 obtain⟨nl,hnl⟩:∃nl,Hid (names.length=nl):=⟨_,Sk rfl⟩
 rw[hnl.out]at hW0 ⊢
 obtain⟨sl,hsl⟩:∃sl,Hid (s.len=sl):=⟨_,Sk rfl⟩
 rw[hsl.out]at hW0 HC f10 ⊢
 have HB:=Sk (Sn hB1 (Sn hown1 (Sn hb0 hb1)))
 clear hs hcnt hr0 hb0 HRF hrf hus hb1 hown1 hB1 e5 e6 e7 e8 e9 e10 hz0
 go_enter Tryz.func90,Tryz.ntmps90
 go_upto_region 1 with fail
 try rw[hW0]
 go_upto_region 2 with fail
 try rw[hW1]
 go_wp2_with (go_at_call 103;(with_reducible refine TJ HC.out ?_);rintro e w2 ⟨vA,vc,rfl,hrow,hb2⟩;have HR2:=Sk (Sn hrow hb2);clear hrow hb2;rw[HL.out])
 go_loopg [3,5] L (fun g lv ct wr=>∃j:Nat,g=L-j∧j≤L∧ct=.int .i64 j∧wr.ownsRow W0.heap.size 3 1 lv (usL (RF.take j)).length ((usL (RF.take j)).map (.int .i64))∧RowKit.Below W0.heap.size W0 wr∧wr.ownsRow 0 102 2 (.slice vA RF.length vc) RF.length (aL RF))
 case atStart=>exact⟨0,rfl,SC _,rfl,bQ HB.out.2.1 fun g hg=>HR2.out.2.block g (HB.out.2.1.lt g hg).2,HB.out.2.2.2.trans (HR2.out.2.mono HB.out.2.2.2.size),HR2.out.1⟩
 case round =>
  obtain⟨j,hg,hj,rfl,hlv,hB,hN⟩:=hrel
  obtain⟨lA,lc,rfl⟩:=bR hlv
  obtain⟨q,hq⟩:∃q,Hid ((usL (RF.take j)).length=q):=⟨_,Sk rfl⟩
  have hqj:q≤1000000:=by
   rw[←hq.out]
   have:=rG (RF.take j)
   rw[Um]at this
   omega
  by_cases hlt:j<L
  ·have hlt':j<RF.length:=by rw[HL.out];exact hlt
   obtain⟨x,hx⟩:∃x,RF[j]?=some x:=⟨_,Sw hlt'⟩
   obtain⟨n0,n1⟩:=fC x RF j hx
   obtain⟨b,rfl⟩:∃b,vA=some ⟨b,0,none⟩:=by
    rcases hN.2 with⟨e,e'⟩|⟨g',cap',cur,e,_⟩
    ·omega
    ·cases e;exact⟨_,rfl⟩
   have c0:wr.cell? ⟨b,j*2,none⟩=some (.string x.1):=(hN.cellAt _ (by omega)).trans n0
   have c1:wr.cell? ⟨b,j*2+1,none⟩=some (.int .i64 x.2):=(hN.cellAt _ (by omega)).trans n1
   have hvc:L≤vc∧vc≤9223372036854775807:=by
    rcases hN.2 with⟨e,e'⟩|⟨g',cap',cur,e,q2,q3,q4,q5,_⟩
    ·omega
    ·cases e;unfold maxLen at q5;rw[HL.out]at q4;exact⟨q4,q5⟩
   have htk:RF.take (j+1)=RF.take j++[x]:=by rw[Tn,hx];rfl
   have hsn:=BI (RF.take j) x
   rw[←htk]at hsn
   obtain⟨xn,xi⟩:=x
   simp only at c0 c1 hsn
   rw[hq.out]at hlv ⊢
   by_cases he:xn=⟨#[]⟩
   ·subst he
    rw[TY rfl]at hsn
    obtain⟨i1',hi',hz0',hz1',hz2'⟩:=info_parts Tryz.oz
    have hrl:(wr.alloc (.cells #[.int .i64 xi] 3)).ownsRow W0.heap.size 3 1 (.slice lA q lc) q ((usL (RF.take j)).map (.int .i64)):=hlv.alloc _
    have HI3:=Sk (Sn hrl (Sn (show W0.heap.size≤(wr.alloc (.cells #[.int .i64 xi] 3)).heap.size by have:=hB.size;simp;omega) (Sn hB (Sn hsn (Sn hg (hN.alloc (.cells #[.int .i64 xi] 3)))))))
    clear hlv hrl hB hx n0 n1 htk hsn hg hlt' hN
    go_wp2_with (at_builtin;refine wpList_append_own_at _ rfl _ _ 39 rfl W0.heap.size 3 i1' _ 1 8 Tryz.lX hi' hz0' hz1' hz2' rfl (by decide) (.slice lA q lc) q _ rfl HI3.out.1 ⟨wr.heap.size,0,none⟩ 1 1 [.int .i64 xi] rfl rfl (ji wr _ _) (by simp[Value.oneCell']) (by unfold maxLen;omega) (by omega) HI3.out.2.1 ?_;intro lv6 Z6 hown6 dh _ _;have HZ6:=Sk (Sn hown6 dh);clear hown6 dh)
    go_roundg (L-(j+1))
    case measure=>have:=HI3.out.2.2.2.2.1;omega
    case rel =>
     refine⟨j+1,rfl,by omega,by go_num,?_,?_,?_⟩
     ·rw[HI3.out.2.2.2.1,SX,Tp,SY,hq.out]
      exact HZ6.out.1
     ·have h1:=HI3.out.2.2.1
      exact h1.trans (((Tz _ _).alloc h1.size (.cells #[.int .i64 xi] 3)).trans (cu HZ6.out.2 HI3.out.2.1 fun k e=>(HI3.out.1.lt k e).1))
     ·exact iU HI3.out.1 HI3.out.2.2.2.2.2 (by decide) HZ6.out.2
   ·rw[TW he]at hsn
    have he':xn.toList.isEmpty=false:=tN he
    have HI3:=Sk (Sn hlv (Sn hB (Sn hsn (Sn hg hN))))
    clear hlv hB hx n0 n1 htk hsn hg hlt' hN
    go_wp2
    go_roundg (L-(j+1))
    case measure=>have:=HI3.out.2.2.2.1;omega
    case rel =>
     refine⟨j+1,rfl,by omega,by go_num,?_,HI3.out.2.1,HI3.out.2.2.2.2⟩
     rw[HI3.out.2.2.1,hq.out]
     exact HI3.out.1
  ·obtain rfl:j=L:=by omega
   have i1:decide ((j:Int)<(j:Int))=false:=SH (by omega)
   have i2:decide (j<j)=false:=SH (by omega)
   have htk:RF.take j=RF:=Tm (by rw[HL.out];exact SA _)
   rw[htk]at hlv hq
   have HI3:=Sk (Sn hlv hB)
   rw[htk]
   clear hlv hB hg hN
   go_wp2
   go_ret
   have h3:=HB.out.2.2.1
   exact⟨_,rfl,fQ HI3.out.1 h3.size,h3.trans (HI3.out.2.mono h3.size)⟩
def rQ (ds:List Dc)(x:Dc):Bool:=x.us.any fun u=>!(decide (u∈aA ds))
theorem yV (label:ByteArray)(uses:List ByteArray)(uA:Option Addr)(uc:Nat)(ds:List Dc)(dA:Option Addr)(dc:Nat)(x:Dc)(W:World)(hd:SlD W W.heap.size dA dc ds)(hs:x.s.Sl W W.heap.size x.A x.c)(hcnt:x.s.count≤100000) :
  Calls Tryz.prog 47 #[.agg #[.string label,.slice uA uses.length uc,.slice dA ds.length dc],.agg #[.int .i64 x.id,.int .i64 x.kind,.bool x.pub,.slice x.nA x.names.length x.nc,.bool x.doubt,.int .i64 x.k,.string x.n,.string x.m,.int .i64 x.i,.int .i64 x.d,.slice x.A x.s.len x.c]] W fun e Y=>e=.returned (.bool (rQ ds x))∧RowKit.Below W.heap.size W Y:=by
 obtain⟨W0,hW0⟩:∃W0,(W.alloc (.cells #[.string label,.slice uA uses.length uc,.slice dA ds.length dc] 25)).alloc (.cells #[.int .i64 x.id,.int .i64 x.kind,.bool x.pub,.slice x.nA x.names.length x.nc,.bool x.doubt,.int .i64 x.k,.string x.n,.string x.m,.int .i64 x.i,.int .i64 x.d,.slice x.A x.s.len x.c] 46)=W0:=⟨_,rfl⟩
 have hb0:RowKit.Below W.heap.size W W0:=by subst hW0;exact((Tz _ _).alloc (SA _) _).alloc (by simp) _
 have hz0:W0.heap.size=W.heap.size+2:=by rw[←hW0];simp
 have hm0:W0.heap[W.heap.size]?=some (.cells #[.string label,.slice uA uses.length uc,.slice dA ds.length dc] 25 (0,0)):=by rw[←hW0];exact(Tt _ _ _ (by simp)).trans (Sv W _)
 have hx0:W0.heap[W.heap.size+1]?=some (.cells #[.int .i64 x.id,.int .i64 x.kind,.bool x.pub,.slice x.nA x.names.length x.nc,.bool x.doubt,.int .i64 x.k,.string x.n,.string x.m,.int .i64 x.i,.int .i64 x.d,.slice x.A x.s.len x.c] 46 (0,0)):=by
  have h:=Sv (W.alloc (.cells #[.string label,.slice uA uses.length uc,.slice dA ds.length dc] 25)) (.cells #[.int .i64 x.id,.int .i64 x.kind,.bool x.pub,.slice x.nA x.names.length x.nc,.bool x.doubt,.int .i64 x.k,.string x.n,.string x.m,.int .i64 x.i,.int .i64 x.d,.slice x.A x.s.len x.c] 46)
  rw[hW0]at h
  simpa using h
 have HP:=Sk (show ∀Y id,RowKit.Below W.heap.size W Y→Calls Tryz.prog 68 #[.agg #[.string label,.slice uA uses.length uc,.slice dA ds.length dc],.int .i64 id] Y fun e Z=>e=.returned (.int .i64 (plc ds id))∧RowKit.Below Y.heap.size Y Z from fun Y id hY=>Dl label uses uA uc ds dA dc id Y (hd.keep hY.size fun p hp=>hY.cell hp))
 have HU:=Sk (vX x (w:=W0) (hs.keep hb0.size fun p hp=>hb0.cell hp) hcnt)
 have hul:x.us.length≤1000000:=by
  have h1:x.refs.length≤x.body.vis.length:=jK
  have h2:x.us.length≤x.refs.length:=rG _
  rw[Fo.fB]at h1
  simp only[Dc.body,Fo.count]at h1
  omega
 obtain⟨R,HR⟩:∃R,Hid (rQ ds x=R):=⟨_,Sk rfl⟩
 rw[HR.out]
 unfold rQ at HR
 obtain⟨US,HUS⟩:∃q,Hid (x.us=q):=⟨_,Sk rfl⟩
 rw[HUS.out]at HU HR hul
 obtain⟨N,HN⟩:∃N,Hid (ds.length=N):=⟨_,Sk rfl⟩
 obtain⟨NU,HNU⟩:∃N,Hid (uses.length=N):=⟨_,Sk rfl⟩
 obtain⟨L,HL⟩:∃L,Hid (US.length=L):=⟨_,Sk rfl⟩
 rw[HL.out]at hul
 obtain⟨xid,bD,bS,xnA,xnc,aK,aY,xk,xn,xm,xi,xd,xA,xc,xs⟩:=x
 obtain⟨nl,hnl⟩:∃nl,Hid (aK.length=nl):=⟨_,Sk rfl⟩
 obtain⟨sl,hsl⟩:∃sl,Hid (xs.len=sl):=⟨_,Sk rfl⟩
 simp only[HN.out,HNU.out,hnl.out,hsl.out]at hW0 hm0 hx0 HP HU ⊢
 have HBX:=Sk (show ∀Y,RowKit.Below W0.heap.size W0 Y→(Y.cell? ⟨W.heap.size,0,none⟩=some (.string label)∧Y.cell? ⟨W.heap.size,1,none⟩=some (.slice uA NU uc)∧Y.cell? ⟨W.heap.size,2,none⟩=some (.slice dA N dc))from fun Y hY=>by
  have h:=(hY.block _ (by omega)).trans hm0
  exact⟨Sq Y _ 0 _ _ (0,0) h,Sq Y _ 1 _ _ (0,0) h,Sq Y _ 2 _ _ (0,0) h⟩)
 have e0:=Sq W0 _ 0 _ _ (0,0) hx0
 have e1:=Sq W0 _ 1 _ _ (0,0) hx0
 have e2:=Sq W0 _ 2 _ _ (0,0) hx0
 have e3:=Sq W0 _ 3 _ _ (0,0) hx0
 have e4:=Sq W0 _ 4 _ _ (0,0) hx0
 have e5:=Sq W0 _ 5 _ _ (0,0) hx0
 have e6:=Sq W0 _ 6 _ _ (0,0) hx0
 have e7:=Sq W0 _ 7 _ _ (0,0) hx0
 have e8:=Sq W0 _ 8 _ _ (0,0) hx0
 have e9:=Sq W0 _ 9 _ _ (0,0) hx0
 have e10:=Sq W0 _ 10 _ _ (0,0) hx0
 simp at e0 e1 e2 e3 e4 e5 e6 e7 e8 e9 e10
 have HB0:=Sk hb0
 clear hd hs hcnt hb0 hm0 hx0 hz0
 go_enter Tryz.func47,Tryz.ntmps47
 go_upto_region 1 with fail
 try rw[hW0]
 go_wp2_with (go_at_call 90;(with_reducible refine TJ HU.out ?_);rintro e w2 ⟨v,rfl,hrow,hb2⟩;obtain⟨vA,vc,rfl⟩:=bR hrow;have HR2:=Sk (Sn hrow hb2);clear hrow hb2;rw[HL.out])
 clear e0 e1 e2 e3 e4 e5 e6 e7 e8 e9 e10
 go_loopg [6] L (fun g ct wr=>∃j:Nat,g=L-j∧j≤L∧ct=.int .i64 j∧RowKit.Below w2.heap.size w2 wr∧∀u∈US.take j,u∈aA ds)
 case atStart=>exact⟨0,rfl,SC _,rfl,Tz _ _,by simp⟩
 case round =>
  obtain⟨j,hg,hj,rfl,hB,hn⟩:=hrel
  have hWr:RowKit.Below W0.heap.size W0 wr:=HR2.out.2.trans (hB.mono HR2.out.2.size)
  have hWW:RowKit.Below W.heap.size W wr:=HB0.out.trans (hWr.mono HB0.out.size)
  by_cases hlt:j<L
  ·have hlt':j<US.length:=by rw[HL.out];exact hlt
   obtain⟨u,hu⟩:∃u,US[j]?=some u:=⟨_,Sw hlt'⟩
   obtain⟨b,rfl⟩:∃b,vA=some ⟨b,0,none⟩:=by
    rcases HR2.out.1.2 with⟨e,e'⟩|⟨g',cap',cur,e,_⟩
    ·omega
    ·cases e;exact⟨_,rfl⟩
   have hbz:=(HR2.out.1.lt b rfl).2
   have hvc:L≤vc∧vc≤9223372036854775807:=by
    rcases HR2.out.1.2 with⟨e,e'⟩|⟨g',cap',cur,e,q2,q3,q4,q5,_⟩
    ·omega
    ·cases e;unfold maxLen at q5;rw[HL.out]at q4;exact⟨q4,q5⟩
   have c0':w2.cell? ⟨b,j,none⟩=some (.int .i64 u):=(HR2.out.1.cellAt j (by omega)).trans (by rw[Tk,hu];rfl)
   have htk:US.take (j+1)=US.take j++[u]:=by rw[Tn,hu];rfl
   have hC:=HP.out wr.drew u (HB0.out.trans ((hWr.trans (Tz _ _).drew).mono HB0.out.size))
   obtain⟨p,Hp⟩:∃p,Hid (plc ds u=p):=⟨_,Sk rfl⟩
   have hpn:=Mx ds u
   rw[Hp.out]at hC hpn
   have HC:=Sk hC
   have HS:=Sk (show ∀Y,RowKit.Below wr.heap.size wr Y→Y.cell? ⟨W.heap.size,0,none⟩=some (.string label)∧Y.cell? ⟨W.heap.size,1,none⟩=some (.slice uA NU uc)∧Y.cell? ⟨W.heap.size,2,none⟩=some (.slice dA N dc)∧Y.cell? ⟨b,j,none⟩=some (.int .i64 u)from fun Y hY=>by
    have h1:=hB.trans (hY.mono hB.size)
    obtain⟨m0,m1,m2⟩:=HBX.out Y (hWr.trans (hY.mono hWr.size))
    exact⟨m0,m1,m2,(h1.cell (p:=⟨b,j,none⟩) hbz).trans c0'⟩)
   have HWb:=Sk (show ∀Y,RowKit.Below wr.heap.size wr Y→RowKit.Below W.heap.size W Y∧RowKit.Below w2.heap.size w2 Y from fun Y hY=>⟨hWW.trans (hY.mono hWW.size),hB.trans (hY.mono hB.size)⟩)
   have HJ:=Sk (Sn hg (Sn hn (Sn hu (Sn htk hB))))
   clear hg hn htk hB c0' hC hWr hWW hlt' hbz
   cases hm:decide (u∈aA ds)with
   | true =>
    rw[hm]at hpn
    have QL:decide (p<0)=false:=hpn
    go_upto_region 5 with fail
    go_region_held3 (fun Y=>Y.cell? ⟨W.heap.size,0,none⟩=some (.string label)∧Y.cell? ⟨W.heap.size,1,none⟩=some (.slice uA NU uc)∧Y.cell? ⟨W.heap.size,2,none⟩=some (.slice dA N dc)∧Y.cell? ⟨b,j,none⟩=some (.int .i64 u))
     (first|exact HS.out _ HB5.out|exact HS.out _ (Tz _ _).drew|exact HS.out _ (Tz _ _))
     ((go_at_call 68;(with_reducible refine TJ HC.out ?_);rintro e w5 ⟨rfl,hb5⟩;have HB5:=Sk (show RowKit.Below wr.heap.size wr w5 from (Tz _ _).drew.trans hb5);clear hb5))
    go_wp2
    go_roundg (L-(j+1))
    case measure=>have:=HJ.out.1;omega
    case rel =>
     refine⟨j+1,rfl,by omega,by go_num,(HWb.out _ HB5.out).2,fun v hv=>?_⟩
     rw[HJ.out.2.2.2.1]at hv
     rcases Td.1 hv with hv|hv
     ·exact HJ.out.2.1 v hv
     ·rw[Te.1 hv]
      exact SK hm
   | false =>
    rw[hm]at hpn
    have QL:decide (p<0)=true:=hpn
    have HV:=Sk (show R=true by
     rw[←HR.out,TF]
     exact⟨u,SV HJ.out.2.2.1,by rw[hm];rfl⟩)
    go_upto_region 5 with fail
    go_region_held3 (fun Y=>Y.cell? ⟨W.heap.size,0,none⟩=some (.string label)∧Y.cell? ⟨W.heap.size,1,none⟩=some (.slice uA NU uc)∧Y.cell? ⟨W.heap.size,2,none⟩=some (.slice dA N dc)∧Y.cell? ⟨b,j,none⟩=some (.int .i64 u))
     (first|exact HS.out _ HB5.out|exact HS.out _ (Tz _ _).drew|exact HS.out _ (Tz _ _))
     ((go_at_call 68;(with_reducible refine TJ HC.out ?_);rintro e w5 ⟨rfl,hb5⟩;have HB5:=Sk (show RowKit.Below wr.heap.size wr w5 from (Tz _ _).drew.trans hb5);clear hb5))
    go_wp2
    go_ret
    exact⟨by rw[HV.out];rfl,(HWb.out _ HB5.out).1⟩
  ·have HV:=Sk (show R=false by
    rw[←HR.out,TG]
    intro u hu
    have:=hn u (by rw[Tm (by rw[HL.out];omega)];exact hu)
    simpa using this)
   have HWW:=Sk hWW
   clear hn hg hB hWr hWW
   go_wp2
   go_ret
   exact⟨by rw[HV.out];rfl,HWW.out⟩
theorem Tryz.zI:Tryz.prog.underlying 138=some (.slice 4):=by kernel_rfl
theorem Tryz.IJ:Tryz.prog.underlying 136=some (.slice 138):=by kernel_rfl
theorem Tryz.zH:(Tryz.prog.info? 4).map (fun i=>(i.zero,i.size,i.bytes))=some (some (.bool false),1,1):=by kernel_rfl
theorem Tryz.IK:(Tryz.prog.info? 138).map (fun i=>(i.zero,i.size,i.bytes))=some (some (.slice none 0 0),1,24):=by kernel_rfl
def bln (n:Nat)(f:Nat→Bool):List Value:=(List.range n).map fun j=>.bool (f j)
theorem sJ (n:Nat)(f:Nat→Bool):(bln n f).length=n:=by simp[bln]
theorem ow {n:Nat}(f:Nat→Bool){j:Nat}(hj:j<n):(bln n f)[j]?=some (.bool (f j)):=by
 unfold bln
 rw[Tk,List.getElem?_range hj]
 rfl
theorem j6 {n:Nat}{f g:Nat→Bool}(h:∀j,j<n→f j=g j):bln n f=bln n g:=by
 unfold bln
 exact List.map_congr_left fun j hj=>by rw[h j (List.mem_range.1 hj)]
theorem zJ (n:Nat)(f:Nat→Bool):bln (n+1) f=bln n f++[.bool (f n)]:=by
 unfold bln
 rw[List.range_succ,Tp]
 rfl
theorem Dx (n:Nat)(f:Nat→Bool)(j:Nat)(b:Bool):(bln n f).set j (.bool b)=bln n fun k=>if k=j then b else f k:=by
 apply List.ext_getElem?
 intro k
 rw[List.getElem?_set]
 by_cases hk:k<n
 ·rw[ow _ hk,ow _ hk,sJ]
  by_cases e:j=k
  ·subst e
   rw[TY rfl,TY hk,TY rfl]
  ·rw[TW e,TW (fun h=>e h.symm)]
 ·rw[Ui (by rw[sJ];omega),Ui (by rw[sJ];omega),sJ]
  split
  ·rw[TW (by omega)]
  ·rfl
structure BT (X:World)(rb:Nat)(ov:Value)(m n:Nat)(vl:List Value)(r:Nat→Nat→Bool):Prop where
 row:X.ownsRow rb 138 1 ov m vl
 rs:∀(i:Nat) (v:Value),vl[i]?=some v→X.ownsRow rb 4 1 v n (bln n (r i))
 dj:∀(i j:Nat) (v v':Value),i<j→vl[i]?=some v→vl[j]?=some v'→∀k,v.ownBlock=some k→v'.ownBlock≠some k
section
variable {X Y:World} {rb m n:Nat} {ov:Value} {vl:List Value} {r:Nat→Nat→Bool}
theorem BT.len (h:BT X rb ov m n vl r):vl.length=m:=by rw[h.row.1,Nat.mul_one]
theorem BT.get (h:BT X rb ov m n vl r){i:Nat}(hi:i<m)(hn:0<n):∃g c,vl[i]?=some (.slice (some ⟨g,0,none⟩) n c)∧rb≤g∧g<X.heap.size∧n≤c∧c≤maxLen∧∃cur,X.heap[g]?=some (.cells cur 4 (0,0)):=by
 have hv:=Sw (l:=vl) (i:=i) (by rw[h.len];exact hi)
 rcases (h.rs i _ hv).2 with⟨_,e⟩|⟨g,c,cur,e,e2,e3,e4,e5,_⟩
 ·omega
 ·exact⟨g,c,by rw[hv,e],e2,lt_of_block e3,e4,e5,cur,e3⟩
theorem BT.out (h:BT X rb ov m n vl r)(hm:0<m):∃g c,ov=.slice (some ⟨g,0,none⟩) m c∧rb≤g∧g<X.heap.size∧m≤c∧c≤maxLen:=by
 rcases h.row.2 with⟨_,e⟩|⟨g,c,cur,e,e2,e3,e4,e5,_⟩
 ·omega
 ·exact⟨g,c,e,e2,lt_of_block e3,e4,e5⟩
theorem BT.rowAt {g c:Nat}(h:BT X rb (.slice (some ⟨g,0,none⟩) m c) m n vl r){i:Nat}{v:Value}(hv:vl[i]?=some v):X.cell? ⟨g,i,none⟩=some v:=by
 have hi:=(Sy.1 hv).1
 rw[h.len]at hi
 exact(h.row.cellAt i (by omega)).trans hv
theorem BT.at (h:BT X rb ov m n vl r){i j g c:Nat}(hv:vl[i]?=some (.slice (some ⟨g,0,none⟩) n c))(hj:j<n):X.cell? ⟨g,j,none⟩=some (.bool (r i j)):=
 ((h.rs i _ hv).cellAt j (by omega)).trans (ow _ hj)
theorem BT.keep (h:BT X rb ov m n vl r)(hk:∀k,rb≤k→k<X.heap.size→Y.heap[k]?=X.heap[k]?):BT Y rb ov m n vl r:=
 ⟨bQ h.row fun g hg=>hk g (h.row.lt g hg).1 (h.row.lt g hg).2,fun i v hv=>bQ (h.rs i v hv) fun g hg=>hk g ((h.rs i v hv).lt g hg).1 ((h.rs i v hv).lt g hg).2,h.dj⟩
theorem BT.below (h:BT X rb ov m n vl r)(hb:RowKit.Below X.heap.size X Y):BT Y rb ov m n vl r:=h.keep fun k _ hk=>hb.block k hk
theorem BT.eG (h:BT X rb ov m n vl r){r':Nat→Nat→Bool}(e:∀i j,i<m→j<n→r i j=r' i j):BT X rb ov m n vl r':=
 ⟨h.row,fun i v hv=>by
  have hi:=(Sy.1 hv).1
  rw[h.len]at hi
  rw[←j6 fun j hj=>e i j hi hj]
  exact h.rs i v hv,h.dj⟩
theorem BT.set (h:BT X rb ov m n vl r){i j g c:Nat}(hv:vl[i]?=some (.slice (some ⟨g,0,none⟩) n c))(b:Bool) :
  BT (X.setCell ⟨g,j,none⟩ (.bool b)) rb ov m n vl (fun x y=>if x=i∧y=j then b else r x y)∧RowKit.Below rb X (X.setCell ⟨g,j,none⟩ (.bool b)):=by
 obtain⟨h1,hg⟩:=(h.rs i _ hv).stored j (.bool b)
 refine⟨⟨iU (h.rs i _ hv) h.row (by decide) hg,fun p v hp=>?_,h.dj⟩,cu hg ?_ fun k e=>?_⟩
 ·by_cases e:p=i
  ·subst e
   rw[hv]at hp
   cases hp
   rw[Dx]at h1
   simpa using h1
  ·have e2:bln n (fun y=>if p=i∧y=j then b else r p y)=bln n (r p):=j6 fun y _=>by rw[TW fun h=>e h.1]
   show World.ownsRow _ _ _ _ _ _ (bln n (fun y=>if p=i∧y=j then b else r p y))
   rw[e2]
   refine bQ (h.rs p v hp) fun k hk=>hg.block k ((h.rs p v hp).lt k hk).2 fun e3=>?_
   cases e3
   rcases Nat.lt_or_gt_of_ne e with h3|h3
   ·exact h.dj p i v _ h3 hp hv g hk rfl
   ·exact h.dj i p _ v h3 hv hp g rfl hk
 ·have:=(h.rs i _ hv).lt g rfl
  omega
 ·have:=(h.rs i _ hv).lt k e
  exact this.1
theorem BT.push (h:BT X rb ov m n vl r){s:Nat}{rv ov':Value}{f:Nat→Bool}(hr:X.ownsRow s 4 1 rv n (bln n f))(hs:rb≤s)(hl:∀v∈vl,∀k,v.ownBlock=some k→k<s)(ho:Y.ownsRow rb 138 1 ov' (m+1) (vl++[rv]))(hg:X.grownBy Y ov.ownBlock) :
  BT Y rb ov' (m+1) n (vl++[rv]) fun i j=>if i=m then f j else r i j:=by
 have hlen:=h.len
 refine⟨ho,fun i v hv=>?_,fun i j v v' hij hv hv' k hk hk'=>?_⟩
 ·rcases Nat.lt_trichotomy i m with hi|hi|hi
  ·rw[Tg (by omega)]at hv
   have e2:bln n (fun y=>if i=m then f y else r i y)=bln n (r i):=j6 fun y _=>by rw[TW (by omega)]
   show World.ownsRow _ _ _ _ _ _ (bln n (fun y=>if i=m then f y else r i y))
   rw[e2]
   exact iU h.row (h.rs i v hv) (by decide) hg
  ·subst hi
   rw[Ti (by omega)]at hv
   rw[hlen,Nat.sub_self]at hv
   cases hv
   have e2:bln n (fun y=>if i=i then f y else r i y)=bln n f:=j6 fun y _=>by rw[TY rfl]
   show World.ownsRow _ _ _ _ _ _ (bln n (fun y=>if i=i then f y else r i y))
   rw[e2]
   exact fQ (iU h.row hr (by decide) hg) hs
  ·rw[Ui (by rw[SX,SY];omega)]at hv
   cases hv
 ·have hj:=(Sy.1 hv').1
  rw[SX,SY]at hj
  rw[Tg (by omega)]at hv
  by_cases hjm:j<m
  ·rw[Tg (by omega)]at hv'
   exact h.dj i j v v' hij hv hv' k hk hk'
  ·rw[Ti (by omega),show j-vl.length=0 by omega]at hv'
   cases hv'
   have h1:=hl v (SV hv) k hk
   have h2:=(hr.lt k hk').1
   omega
end
end Go.Proofs.Q
namespace Go.Proofs.Q
open Go Go.RowKit Go.Proofs Go.Proofs.Scc
def dT (ds:List Dc)(i j:Nat):Bool:=match ds[i]?,ds[j]? with
 | some x,some y=>decide (y.id∈x.us)
 | _,_=>false
theorem Ll {ds:List Dc}{i j:Nat}{x y:Dc}(hx:ds[i]?=some x)(hy:ds[j]?=some y):dT ds i j=decide (y.id∈x.us):=by
 unfold dT
 rw[hx,hy]
theorem Ox {x:Dc}(h:x.s.count≤100000):x.us.length≤1000000:=by
 have h1:x.refs.length≤x.body.vis.length:=jK
 have h2:x.us.length≤x.refs.length:=rG _
 rw[Fo.fB]at h1
 simp only[Dc.body,Fo.count]at h1
 omega
theorem kP (w:World)(t:TypeId)(s:Nat):(w.alloc (.cells #[] t)).ownsRow w.heap.size t s (.slice (some ⟨w.heap.size,0,none⟩) 0 0) 0 []:=
 ⟨by simp,.inr ⟨w.heap.size,0,#[],rfl,SA _,Sv _ _,SA _,by decide,by simp,by simp⟩⟩
theorem BT.empty (w:World)(n:Nat)(r:Nat→Nat→Bool):BT (w.alloc (.cells #[] 138)) w.heap.size (.slice (some ⟨w.heap.size,0,none⟩) 0 0) 0 n [] r:=
 ⟨kP w _ 1,fun i v hv=>by simp at hv,fun i j v v' _ hv=>by simp at hv⟩
theorem BT.mono {X:World}{rb rb' m n:Nat}{ov:Value}{vl:List Value}{r:Nat→Nat→Bool}(h:BT X rb ov m n vl r)(hb:rb'≤rb):BT X rb' ov m n vl r:=
 ⟨fQ h.row hb,fun i v hv=>fQ (h.rs i v hv) hb,h.dj⟩
theorem BT.lt {X:World}{rb m n:Nat}{ov:Value}{vl:List Value}{r:Nat→Nat→Bool}(h:BT X rb ov m n vl r):∀v∈vl,∀k,v.ownBlock=some k→k<X.heap.size:=fun v hv k hk=>by
 obtain⟨i,hi⟩:=List.mem_iff_getElem?.1 hv
 exact((h.rs i v hi).lt k hk).2
theorem Cq (label:ByteArray)(uses:List ByteArray)(uA:Option Addr)(uc:Nat)(ds:List Dc)(dA:Option Addr)(dc:Nat)(W:World)(hd:SlD W W.heap.size dA dc ds)(hcn:∀x∈ds,x.s.count≤100000)(hlen:ds.length≤1000) :
  Calls Tryz.prog 91 #[.agg #[.string label,.slice uA uses.length uc,.slice dA ds.length dc]] W fun e Y=>∃v vl,e=.returned v∧BT Y W.heap.size v ds.length ds.length vl (dL (dT ds) ds.length)∧RowKit.Below W.heap.size W Y:=by
 obtain⟨W0,hW0⟩:∃W0,W.alloc (.cells #[.string label,.slice uA uses.length uc,.slice dA ds.length dc] 25)=W0:=⟨_,rfl⟩
 have hb0:RowKit.Below W.heap.size W W0:=by subst hW0;exact(Tz _ _).alloc (SA _) _
 have hr0:W0.heap[W.heap.size]?=some (.cells #[.string label,.slice uA uses.length uc,.slice dA ds.length dc] 25 (0,0)):=by subst hW0;exact Sv W _
 obtain⟨N,HN⟩:∃N,Hid (ds.length=N):=⟨_,Sk rfl⟩
 obtain⟨NU,HNU⟩:∃N,Hid (uses.length=N):=⟨_,Sk rfl⟩
 have hdc:=hd.2.1
 have hdl:=hd.1
 unfold maxLen at hdc
 rw[HN.out,HNU.out]at hW0 hr0
 rw[HN.out,HNU.out]
 rw[HN.out]at hdl hlen
 have t2:=Sq W0 W.heap.size 2 _ _ (0,0) hr0
 simp at t2
 have HD:=Sk (Sn hd hcn)
 have HB0:=Sk (Sn hb0 (Sn hr0 (lt_of_block hr0)))
 obtain⟨T,hT⟩:∃T,T=dT ds:=⟨_,rfl⟩
 have HT:=Sk hT
 rw[←hT]
 clear hd hcn hb0 hr0 hT
 go_enter Tryz.func91,Tryz.ntmps91
 go_upto_region 1 with fail
 try rw[hW0]
 go_wp2
 clear t2
 go_loopg [4,5,6,7] N (fun g ov ct _ _ wr=>∃(i:Nat) (vl:List Value),g=N-i∧i≤N∧ct=.int .i64 i∧BT wr W0.heap.size ov i N vl T∧RowKit.Below W0.heap.size W0 wr)
 case atStart=>exact⟨0,[],rfl,SC _,rfl,BT.empty _ _ _,(Tz _ _).alloc (SA _) _⟩
 case round =>
  obtain⟨i,vl,hg,hi,rfl,hbt,hB⟩:=hrel
  obtain⟨w7,rfl⟩:∃w7:World,w7=wr:=⟨_,rfl⟩
  obtain⟨oA,oc,rfl⟩:=bR hbt.row
  by_cases hlt:i<N
  ·have hlt':i<ds.length:=by rw[HN.out];exact hlt
   obtain⟨x,hx⟩:∃x,ds[i]?=some x:=⟨_,Sw hlt'⟩
   have HB1:=Sk (Sn hg (Sn hbt hB))
   clear hg hbt hB
   obtain⟨w8,hw8⟩:∃w8:World,w7.alloc (.cells #[] 4)=w8:=⟨_,rfl⟩
   have HW8:=Sk hw8
   go_upto_region 7 with fail
   try rw[hw8]
   go_wp2
   go_loopg [6,7] N (fun g rv ct wr=>∃k:Nat,g=N-k∧k≤N∧ct=.int .i64 k∧wr.ownsRow w7.heap.size 4 1 rv k (bln k (T i))∧RowKit.Below w7.heap.size w7 wr)
   case atStart =>
    have e:=HW8.out
    subst e
    exact⟨0,rfl,SC _,rfl,kP _ _ _,(Tz _ _).alloc (SA _) _⟩
   case round =>
    obtain⟨k,hgk,hk,rfl,hrow,hB⟩:=hrel
    obtain⟨rA,rc,rfl⟩:=bR hrow
    have hWr:RowKit.Below W0.heap.size W0 wr:=HB1.out.2.2.trans (hB.mono HB1.out.2.2.size)
    have hWW:RowKit.Below W.heap.size W wr:=HB0.out.1.trans (hWr.mono HB0.out.1.size)
    by_cases hlk:k<N
    ·have F5:k<ds.length:=by rw[HN.out];exact hlk
     obtain⟨y,hy⟩:∃y,ds[k]?=some y:=⟨_,Sw F5⟩
     have hTv:T i k=decide (y.id∈x.us):=by rw[HT.out];exact Ll hx hy
     obtain⟨b,o,rfl,hb,hall⟩:=HD.out.1.2.2 (by intro e;rw[e]at F5;simp at F5)
     obtain⟨hcs,iq⟩:=hall i x hx
     have hyc:W.cell? ⟨b,o+k*11,none⟩=some (.int .i64 y.id):=(hall k y hy).1 0 _ rfl
     have hcx:=HD.out.2 x (SV hx)
     have hul:=Ox hcx
     have hcall:=fun X (hX:RowKit.Below W.heap.size W X)=>vX x (w:=X) (iq.2.keep hX.size fun p hp=>hX.cell hp) hcx
     obtain⟨us,Hus⟩:∃us,Hid (x.us=us):=⟨_,Sk rfl⟩
     rw[Hus.out]at hTv hul
     simp only[Hus.out]at hcall
     obtain⟨yid,Oy⟩:∃q,y.id=q:=⟨_,rfl⟩
     rw[Oy]at hTv hyc
     obtain⟨tv,Htv⟩:∃q,Hid (T i k=q):=⟨_,Sk rfl⟩
     rw[Htv.out]at hTv
     obtain⟨xid,bD,bS,xnA,xnc,aK,aY,xk,xn,xm,xi,xd,xA,xc,xs⟩:=x
     obtain⟨d0,d1,d2,d3,d4,d5,d6,d7,d8,d9,d10⟩:=dcs hcs
     have yz:W.cell? ⟨b,o+k*11,none⟩=some (.int .i64 yid):=hyc
     obtain⟨sl,Hsl⟩:∃sl,Hid (xs.len=sl):=⟨_,Sk rfl⟩
     obtain⟨nl,Hnl⟩:∃nl,Hid (aK.length=nl):=⟨_,Sk rfl⟩
     rw[Hsl.out]at d10
     rw[Hnl.out]at d3
     simp only[Hsl.out,Hnl.out]at hcall
     have HC:=Sk hcall
     have HS:=Sk (show ∀Y,RowKit.Below W0.heap.size W0 Y→Y.cell? ⟨W.heap.size,2,none⟩=some (.slice (some ⟨b,o,none⟩) N dc)∧Y.cell? ⟨b,o+i*11,none⟩=some (.int .i64 xid)∧Y.cell? ⟨b,o+i*11+1,none⟩=some (.int .i64 bD)∧Y.cell? ⟨b,o+i*11+2,none⟩=some (.bool bS)∧Y.cell? ⟨b,o+i*11+3,none⟩=some (.slice xnA nl xnc)∧Y.cell? ⟨b,o+i*11+4,none⟩=some (.bool aY)∧Y.cell? ⟨b,o+i*11+5,none⟩=some (.int .i64 xk)∧Y.cell? ⟨b,o+i*11+6,none⟩=some (.string xn)∧Y.cell? ⟨b,o+i*11+7,none⟩=some (.string xm)∧Y.cell? ⟨b,o+i*11+8,none⟩=some (.int .i64 xi)∧Y.cell? ⟨b,o+i*11+9,none⟩=some (.int .i64 xd)∧Y.cell? ⟨b,o+i*11+10,none⟩=some (.slice xA sl xc)∧Y.cell? ⟨b,o+k*11,none⟩=some (.int .i64 yid)from fun Y hY=>by
      have hX:=HB0.out.1.trans (hY.mono HB0.out.1.size)
      exact⟨Sq Y _ 2 _ _ (0,0) ((hY.block _ HB0.out.2.2).trans HB0.out.2.1),(hX.cell hb).trans d0,(hX.cell hb).trans d1,(hX.cell hb).trans d2,(hX.cell hb).trans d3,(hX.cell hb).trans d4,(hX.cell hb).trans d5,(hX.cell hb).trans d6,(hX.cell hb).trans d7,(hX.cell hb).trans d8,(hX.cell hb).trans d9,(hX.cell hb).trans d10,(hX.cell hb).trans yz⟩)
     have QM:=Sk (show ∀X A c,dF X X.heap.size A c us→Calls Tryz.prog 20 #[.slice A us.length c,.int .i64 yid] X fun e Z=>e=.returned (.bool tv)∧X=Z from fun X A c h=>by
      rw[hTv]
      exact IC us yid A c X h)
     have HX:=Sk (show ∀Y,RowKit.Below W0.heap.size W0 Y→RowKit.Below W.heap.size W Y from fun Y hY=>HB0.out.1.trans (hY.mono HB0.out.1.size))
     have HRW:=Sk (Sn hgk (Sn hrow (Sn hB hWr)))
     have hsz:W0.heap.size≤w7.heap.size:=HB1.out.2.2.size
     have hsw:=hB.size
     obtain⟨i1',hi',hz0',hz1',hz2'⟩:=info_parts Tryz.zH
     clear hcs iq hyc hcx hcall hTv hall hb d0 d1 d2 d3 d4 d5 d6 d7 d8 d9 d10 yz Oy hx hy F5 hlt' hgk hrow hB hWr hWW hw8
     go_upto_region 10 with fail
     go_region_held3 (fun Y=>Y.cell? ⟨W.heap.size,2,none⟩=some (.slice (some ⟨b,o,none⟩) N dc)∧Y.cell? ⟨b,o+i*11,none⟩=some (.int .i64 xid)∧Y.cell? ⟨b,o+i*11+1,none⟩=some (.int .i64 bD)∧Y.cell? ⟨b,o+i*11+2,none⟩=some (.bool bS)∧Y.cell? ⟨b,o+i*11+3,none⟩=some (.slice xnA nl xnc)∧Y.cell? ⟨b,o+i*11+4,none⟩=some (.bool aY)∧Y.cell? ⟨b,o+i*11+5,none⟩=some (.int .i64 xk)∧Y.cell? ⟨b,o+i*11+6,none⟩=some (.string xn)∧Y.cell? ⟨b,o+i*11+7,none⟩=some (.string xm)∧Y.cell? ⟨b,o+i*11+8,none⟩=some (.int .i64 xi)∧Y.cell? ⟨b,o+i*11+9,none⟩=some (.int .i64 xd)∧Y.cell? ⟨b,o+i*11+10,none⟩=some (.slice xA sl xc)∧Y.cell? ⟨b,o+k*11,none⟩=some (.int .i64 yid))
      (first|exact HS.out _ HZ6.out.2.2|exact HS.out _ (HI5.out.1.alloc HI5.out.1.size _)|exact HS.out _ HI5.out.1|exact HS.out _ HRW.out.2.2.2.drew)
      (first
       | (go_at_call 90;(with_reducible refine TJ (HC.out _ (HX.out _ HRW.out.2.2.2.drew)) ?_);rintro e w5 ⟨v5,rfl,sH,hb5⟩;obtain⟨A5,c5,rfl,hi5⟩:=zO sH;have KC:=(Tz wr.heap.size wr).drew.trans hb5;have HI5:=Sk (Sn (HRW.out.2.2.2.trans (KC.mono HRW.out.2.2.2.size)) (Sn hi5 KC));clear hi5 hb5 sH KC)
       | (go_at_call 20;(with_reducible refine TJ (QM.out _ _ _ HI5.out.2.1) ?_);rintro e _ ⟨rfl,rfl⟩;have iw:True:=trivial)
       | (have _t:=iw;refine step_append_lies _ rfl (.tmp 26) (.tmp 40) 138 rfl w7.heap.size 4 i1' _ 1 1 Tryz.zI hi' hz0' hz1' hz2' rfl (by decide) (.slice rA k rc) k (bln k (T i)) rfl ((bQ HRW.out.2.1 fun g hg=>HI5.out.2.2.block g (HRW.out.2.1.lt g hg).2).alloc _) ⟨w5.heap.size,0,none⟩ 1 1 [.bool tv] rfl rfl (World.news_of_block (cs:=#[.bool tv]) (t:=4) (fr:=(0,0)) (Sv _ _)) (by simp[Value.oneCell']) (by omega) (by unfold maxLen;omega) (by omega) (by have:=HI5.out.2.2.size;simp;omega) _ rfl ?_;intro gg cap w6 hown6 dh _ _;have hq6:=(HRW.out.2.2.1.trans (HI5.out.2.2.mono hsw)).trans (((Tz _ _).alloc (SE hsw HI5.out.2.2.size) (.cells #[.bool tv] 4)).trans (cu dh (by have:=HI5.out.2.2.size;simp;omega) fun q e=>(HRW.out.2.1.lt q e).1));have HZ6:=Sk (Sn hown6 (Sn hq6 (HB1.out.2.2.trans (hq6.mono hsz))));clear hown6 dh hq6)
       | fail)
     go_wp2
     go_roundg (N-(k+1))
     case measure=>have:=HRW.out.1;omega
     case rel=>exact⟨k+1,rfl,by omega,by go_num,by rw[zJ,Htv.out];exact HZ6.out.1,HZ6.out.2.1⟩
    ·obtain rfl:k=N:=by omega
     have KD:=HB1.out.2.1.below hB
     have hlt2:=HB1.out.2.1.lt
     have Rw:=HB1.out.2.1.len
     have hsz:W0.heap.size≤w7.heap.size:=HB1.out.2.2.size
     have hsw:=hB.size
     obtain⟨i1',hi',hz0',hz1',hz2'⟩:=info_parts Tryz.IK
     have HRL:=Sk (KD.row.alloc (.cells #[.slice rA k rc] 138))
     have HY:=Sk (Sn hrow (Sn KD (Sn hlt2 (Sn hWr hgk))))
     clear hrow KD hlt2 hWr hgk hWW hB hw8
     go_wp2_with (at_builtin;refine wpList_append_own_at _ rfl _ _ 136 rfl W0.heap.size 138 i1' _ 1 24 Tryz.IJ hi' hz0' hz1' hz2' rfl (by decide) (.slice oA i oc) i vl rfl HRL.out ⟨wr.heap.size,0,none⟩ 1 1 [.slice rA k rc] rfl rfl (ji wr _ _) (by simp[Value.oneCell']) (by unfold maxLen;omega) (by omega) (by simp;omega) ?_;intro lv6 Z6 hown6 dh _ _;have HZ6:=Sk (Sn hown6 dh);clear hown6 dh)
     go_roundg (k-(i+1))
     case measure=>have:=HB1.out.1;omega
     case rel =>
      refine⟨i+1,vl++[.slice rA k rc],rfl,by omega,by go_num,?_,?_⟩
      ·have h1:=(HY.out.2.1.below ((Tz _ _).alloc (SA _) (.cells #[.slice rA k rc] 138))).push (HY.out.1.alloc _) hsz HY.out.2.2.1 HZ6.out.1 HZ6.out.2
       exact h1.eG fun a b _ _=>by
        by_cases e:a=i
        ·rw[TY e,e]
        ·rw[TW e]
      ·have h1:=HY.out.2.2.2.1
       exact h1.trans (((Tz _ _).alloc h1.size (.cells #[.slice rA k rc] 138)).trans (cu HZ6.out.2 (by simp;omega) fun q e=>(HRL.out.lt q e).1))
  ·obtain rfl:i=N:=by omega
   clear hg HD
   go_wp2
   have HBT:=Sk (show BT w7 W0.heap.size (.slice oA i oc) i i vl (dL T 0)from hbt)
   have hB7:=hB
   clear hbt hB
   go_loopg [8,9,10] i (fun g kt _ _ wr=>∃k:Nat,g=i-k∧k≤i∧kt=.int .i64 k∧BT wr W0.heap.size (.slice oA i oc) i i vl (dL T k)∧RowKit.Below W0.heap.size W0 wr)
   case atStart=>exact⟨0,rfl,SC _,rfl,HBT.out,hB7⟩
   case round =>
    obtain⟨k,hgk,hk,rfl,hbt,hB⟩:=hrel
    obtain⟨w8,rfl⟩:∃w8:World,w8=wr:=⟨_,rfl⟩
    by_cases hlk:k<i
    ·obtain⟨R,HR⟩:∃R,Hid (dL T k=R):=⟨_,Sk rfl⟩
     rw[HR.out]at hbt
     have HK:=Sk (Sn hgk (Sn hbt hB))
     clear hgk hbt hB hB7
     go_wp2
     go_loopg [9,10] i (fun g at' _ wr=>∃a:Nat,g=i-a∧a≤i∧at'=.int .i64 a∧BT wr W0.heap.size (.slice oA i oc) i i vl (stg R k a 0)∧RowKit.Below W0.heap.size W0 wr)
     case atStart=>exact⟨0,rfl,SC _,rfl,HK.out.2.1.eG fun a b _ _=>(Kt R k a b).symm,HK.out.2.2⟩
     case round =>
      obtain⟨a,hga,ha,rfl,hbt,hB⟩:=hrel
      obtain⟨w9,rfl⟩:∃w9:World,w9=wr:=⟨_,rfl⟩
      by_cases hla:a<i
      ·have HA:=Sk (Sn hga (Sn hbt hB))
       clear hga hbt hB
       go_wp2
       go_loopg [10] i (fun g jt wr=>∃j:Nat,g=i-j∧j≤i∧jt=.int .i64 j∧BT wr W0.heap.size (.slice oA i oc) i i vl (stg R k a j)∧RowKit.Below W0.heap.size W0 wr)
       case atStart=>exact⟨0,rfl,SC _,rfl,HA.out.2.1,HA.out.2.2⟩
       case round =>
        obtain⟨j,hgj,hj,rfl,hbt,hB⟩:=hrel
        by_cases hlj:j<i
        ·have hpos:0<i:=by omega
         obtain⟨ga,ca,va,ga1,ga2,ga3,ga4,cur,ga5⟩:=hbt.get hla hpos
         obtain⟨gk,ck,vk,gk1,gk2,gk3,gk4,_⟩:=hbt.get hlk hpos
         obtain⟨ob,oc',eo,ob1,ob2,ob3,ob4⟩:=hbt.out hpos
         cases eo
         have o1:=hbt.rowAt va
         have o2:=hbt.rowAt vk
         have q1:=hbt.at va hlj
         have q2:=hbt.at va hlk
         have q3:=hbt.at vk hlj
         have fz:wr.frozen? ⟨ga,j,none⟩=false:=by simp[World.frozen?,ga5]
         have hval:=Mk R k a j
         unfold maxLen at ga4 gk4 ob4
         have Oz:=Sk (show BT (wr.setCell ⟨ga,j,none⟩ (.bool (rnd R k a j))).drew W0.heap.size (.slice (some ⟨ob,0,none⟩) i oc) i i vl (stg R k a (j+1))∧RowKit.Below W0.heap.size W0 (wr.setCell ⟨ga,j,none⟩ (.bool (rnd R k a j))).drew from by
          obtain⟨h1,h2⟩:=hbt.set (j:=j) va (rnd R k a j)
          exact⟨(h1.eG fun x y _ _=>Ml R k a j x y).below (Tz _ _).drew,(hB.trans h2).drew⟩)
         generalize stg R k a j a j=b1 at q1 hval
         generalize stg R k a j a k=b2 at q2 hval
         generalize stg R k a j k j=b3 at q3 hval
         generalize rnd R k a j=bv at hval Oz
         have HG:=Sk hgj
         clear hgj hbt hB va vk ga5 ga1 ga2 gk1 gk2 ob1 ob2
         have hend:(b1=true∧bv=true)∨(b1=false∧b2=false∧bv=false)∨(b1=false∧b2=true∧bv=b3):=by
          subst hval
          cases b1 <;> cases b2 <;> simp
         clear hval
         rcases hend with⟨rfl,rfl⟩|⟨rfl,rfl,rfl⟩|⟨rfl,rfl,rfl⟩
         all_goals (
          go_upto_region 21 with fail
          go_region
          go_wp2
          go_roundg (i-(j+1))
          case measure=>have:=HG.out;omega
          case rel=>exact⟨j+1,rfl,by omega,by go_num,Oz.out⟩)
        ·obtain rfl:j=i:=by omega
         have HJ:=Sk (Sn hbt hB)
         clear hbt hB hgj
         go_wp2
         go_roundg (j-(a+1))
         case measure=>have:=HA.out.1;omega
         case rel=>exact⟨a+1,rfl,by omega,by go_num,HJ.out.1.eG fun x y _ hy=>Kr R k a x y j hy,HJ.out.2⟩
      ·obtain rfl:a=i:=by omega
       have HJ:=Sk (Sn hbt hB)
       clear hbt hB hga
       go_wp2
       go_roundg (a-(k+1))
       case measure=>have:=HK.out.1;omega
       case rel=>exact⟨k+1,rfl,by omega,by go_num,HJ.out.1.eG fun x y hx _=>by rw[Mq R k x y a hx,←HR.out];rfl,HJ.out.2⟩
    ·obtain rfl:k=i:=by omega
     have HJ:=Sk (Sn hbt hB)
     clear hbt hB hgk
     go_wp2
     go_ret
     have h1:=HB0.out.1
     exact⟨_,vl,rfl,HJ.out.1.mono h1.size,h1.trans (HJ.out.2.mono h1.size)⟩
theorem KE {n:Nat}{r:Nat→Nat→Bool}{c:Nat→Bool}{i:Nat}(h:∀q,q<n→(r i q&&!r q i&&!c q)=false):jw n r c i=true:=by
 unfold jw
 rw[List.all_eq_true]
 intro q hq
 rw[h q (List.mem_range.1 hq)]
 rfl
theorem MB {n:Nat}{r:Nat→Nat→Bool}{c:Nat→Bool}{i q:Nat}(hq:q<n)(h:(r i q&&!r q i&&!c q)=true):jw n r c i=false:=by
 unfold jw
 rw[List.all_eq_false]
 exact⟨q,List.mem_range.2 hq,by rw[h];simp⟩
theorem Cr {w:World}{rb cb n:Nat}{ov cv:Value}{vl:List Value}{r:Nat→Nat→Bool}{c:Nat→Bool}(h:BT w rb ov n n vl r)(hc:w.ownsRow cb 4 1 cv n (bln n c)){i:Nat}(hi:i<n) :
  Calls Tryz.prog 92 #[ov,cv,.int .i64 i] w fun e w'=>e=.returned (.bool (jw n r c i))∧w'=w:=by
 have hpos:0<n:=by omega
 obtain⟨ob,oc,rfl,ob1,ob2,ob3,ob4⟩:=h.out hpos
 obtain⟨cb',cc,rfl,cb3,cb4⟩:∃g q,cv=.slice (some ⟨g,0,none⟩) n q∧n≤q∧q≤maxLen:=by
  rcases hc.2 with⟨_,e⟩|⟨g,q,cur,e,e2,e3,e4,e5,_⟩
  ·omega
  ·exact⟨g,q,e,e4,e5⟩
 obtain⟨gi,ci,vi,gi1,gi2,gi3,gi4,_⟩:=h.get hi hpos
 have o1:=h.rowAt vi
 unfold maxLen at ob4 cb4 gi4
 obtain⟨R,HR⟩:∃R,Hid (jw n r c i=R):=⟨_,Sk rfl⟩
 rw[HR.out]
 have HH:=Sk (Sn h (Sn hc vi))
 clear h hc vi
 go_enter Tryz.func92,Tryz.ntmps92
 go_wp2
 go_loopg [7] n (fun g ct wr=>∃k:Nat,g=n-k∧k≤n∧ct=.int .i64 k∧wr=w∧∀q,q<k→(r i q&&!r q i&&!c q)=false)
 case atStart=>exact⟨0,rfl,SC _,rfl,rfl,fun q hq=>absurd hq (Nat.not_lt_zero _)⟩
 case round =>
  obtain⟨k,hg,hk,rfl,rfl,hn⟩:=hrel
  by_cases hlk:k<n
  ·obtain⟨gk,ck,vk,gk1,gk2,gk3,gk4,_⟩:=HH.out.1.get hlk hpos
   have o2:=HH.out.1.rowAt vk
   have q1:=HH.out.1.at HH.out.2.2 hlk
   have q2:=HH.out.1.at vk hi
   have q3:wr.cell? ⟨cb',k,none⟩=some (.bool (c k)):=(HH.out.2.1.cellAt k (by omega)).trans (ow _ hlk)
   unfold maxLen at gk4
   have hno:=fun hb=>MB (r:=r) (c:=c) (i:=i) hlk hb
   have hyes:(r i k&&!r k i&&!c k)=false→∀q,q<k+1→(r i q&&!r q i&&!c q)=false:=fun hb q hq=>by
    rcases Nat.lt_succ_iff_lt_or_eq.1 hq with h'|h'
    ·exact hn q h'
    ·rw[h'];exact hb
   generalize r i k=b1 at q1 hno hyes
   generalize r k i=b2 at q2 hno hyes
   generalize c k=b3 at q3 hno hyes
   have HY:=Sk (Sn hg (Sn hno hyes))
   clear hg hno hyes hn vk
   have hend:b1=false∨(b1=true∧b2=true)∨(b1=true∧b2=false∧b3=true)∨(b1=true∧b2=false∧b3=false):=by
    cases b1 <;> cases b2 <;> cases b3 <;> simp
   rcases hend with rfl|⟨rfl,rfl⟩|⟨rfl,rfl,rfl⟩|⟨rfl,rfl,rfl⟩
   ·go_wp2
    go_roundg (n-(k+1))
    case measure=>have:=HY.out.1;omega
    case rel=>exact⟨k+1,rfl,by omega,by go_num,rfl,HY.out.2.2 (by simp)⟩
   ·go_wp2
    go_roundg (n-(k+1))
    case measure=>have:=HY.out.1;omega
    case rel=>exact⟨k+1,rfl,by omega,by go_num,rfl,HY.out.2.2 (by simp)⟩
   ·go_wp2
    go_roundg (n-(k+1))
    case measure=>have:=HY.out.1;omega
    case rel=>exact⟨k+1,rfl,by omega,by go_num,rfl,HY.out.2.2 (by simp)⟩
   ·have HV:=Sk (show R=false from HR.out.symm.trans (HY.out.2.1 (by simp)))
    go_wp2
    go_ret
    exact⟨by rw[HV.out];rfl,rfl⟩
  ·have HV:=Sk (show R=true by
    rw[←HR.out]
    exact KE fun q hq=>hn q (by omega))
   clear hn hg
   go_wp2
   go_ret
   exact⟨by rw[HV.out];rfl,rfl⟩
end Go.Proofs.Q
