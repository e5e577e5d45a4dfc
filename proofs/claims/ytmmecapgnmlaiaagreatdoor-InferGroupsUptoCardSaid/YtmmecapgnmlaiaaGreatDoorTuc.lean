/- helper lemmas -/
import Derived.Test.YtmmecapgnmlaiaaGreatDoorTuw
set_option maxRecDepth 100000
set_option maxHeartbeats 16000000
namespace Go.Proofs.Q
open Go Go.RowKit Go.Proofs Go.Proofs.Scc
def lg (ids:List Int)(sch:ByteArray×Int→Bool)(r:ByteArray×Int):Bool:=if r.1=⟨#[]⟩then decide (r.2∈ids)else sch r
def lT (met:List ByteArray)(x:Dc):Bool:=x.names.length != 1||x.doubt||(x.k==15||x.s.sum)||ko met (nameOf x)
def eB (ids:List Int)(sch:ByteArray×Int→Bool):List ByteArray→List Dc→Int×Int
 | _,[]=>(0,0)
 | met,x::l=>if lT met x=true then (x.id,17)else if (x.refs.all (lg ids sch))=false then (x.id,21)else eB ids sch (met++[nameOf x]) l
theorem Tryz.Dz:Tryz.prog.underlying 140=some (.map 9 4):=by kernel_rfl
structure CdI (W:World)(tb:Nat)(mo:Array Value)(ids:List Int)(j:Nat)(w:World):Prop where
 bl:RowKit.Below W.heap.size W w
 box:w.heap[W.heap.size]?=some (.cells mo 25 (0,0))
 lt:W.heap.size<tb
 tm:aQ aH w tb j (fun a=>if a∈ids.take j then some (.bool true)else none)
section
variable {W w w':World} {tb mb j:Nat} {mo:Array Value} {ids:List Int} {met:List ByteArray}
theorem CdI.below (h:CdI W tb mo ids j w)(hb:RowKit.Below w.heap.size w w'):CdI W tb mo ids j w':=⟨h.bl.trans (hb.mono h.bl.size),(hb.block _ (lt_of_block h.box)).trans h.box,h.lt,h.tm.keep (hb.block tb h.tm.lt)⟩
theorem CdI.put (h:CdI W tb mo ids j w){a:Int}(hj:ids[j]?=some a)(ha:aH.ok a)(hjm:j<maxLen) :
  ∃Y,(Instr.mapUpdate 79 (.map (some tb)) (.int .i64 a) (.bool true)).run Tryz.prog w=.ok () Y∧CdI W tb mo ids (j+1) Y:=by
 obtain⟨Y,hr,hm2,hgr⟩:=h.tm.put (t:=79) Tryz.iW hjm ha (.bool true)
 have htk:ids.take (j+1)=ids.take j++[a]:=by rw[Tn,hj];rfl
 have hlt:=h.lt
 refine⟨Y,hr,h.bl.trans (cu hgr h.bl.size (fun k e=>by have:=TL e;omega)),(hgr.block _ (lt_of_block h.box) (fun e=>by have:=TL e;omega)).trans h.box,hlt,hm2.eG fun x _=>?_⟩
 rw[htk]
 by_cases e:x=a
 ·subst e;simp
 ·simp[e]
theorem CdI.look (h:CdI W tb mo ids ids.length w){a:Int}(ha:aH.ok a):(Instr.lookup 79 (.map (some tb)) (.int .i64 a) false).run Tryz.prog w=.ok (.bool (decide (a∈ids))) w:=by
 have:=h.tm.look false (t:=79) Tryz.iW (kQ w) ha
 simp only[TN,if_false,aH]at this
 have e:(if a∈ids.take ids.length then some (Value.bool true)else none).getD (.bool false)=.bool (decide (a∈ids)):=by
  rw[List.take_length]
  by_cases e:a∈ids
  ·rw[TY e,SI e];rfl
  ·rw[TW e,SH e];rfl
 rw[e]at this
 exact this
structure CdM (W:World)(tb mb:Nat)(mo:Array Value)(ids:List Int)(met:List ByteArray)(w:World):Prop where
 i:CdI W tb mo ids ids.length w
 ne:tb<mb
 mm:aQ Jb w mb met.length (fun a=>if ko met a=true then some (.bool true)else none)
theorem CdM.below (h:CdM W tb mb mo ids met w)(hb:RowKit.Below w.heap.size w w'):CdM W tb mb mo ids met w':=⟨h.i.below hb,h.ne,h.mm.keep (hb.block mb h.mm.lt)⟩
theorem CdM.put (h:CdM W tb mb mo ids met w){a:ByteArray}(ha:a.size≤maxLen)(hl:met.length<maxLen) :
  ∃Y,(Instr.mapUpdate 140 (.map (some mb)) (.string a) (.bool true)).run Tryz.prog w=.ok () Y∧CdM W tb mb mo ids (met++[a]) Y∧(∀k,k<w.heap.size→k≠mb→Y.heap[k]?=w.heap[k]?)∧w.heap.size≤Y.heap.size:=by
 obtain⟨Y,hr,hm2,hgr⟩:=h.mm.put (t:=140) Tryz.Dz hl ha (.bool true)
 have hlt:=h.i.lt
 have hne:=h.ne
 have hs:∀k,k<w.heap.size→k≠mb→Y.heap[k]?=w.heap[k]?:=fun k hk hne=>hgr.block k hk (fun e=>hne (TL e))
 refine⟨Y,hr,⟨⟨h.i.bl.trans (cu hgr h.i.bl.size (fun k e=>by have:=TL e;omega)),(hs _ (lt_of_block h.i.box) (by omega)).trans h.i.box,hlt,h.i.tm.keep (hs tb h.i.tm.lt (by omega))⟩,hne,?_⟩,hs,hgr.size⟩
 rw[SX,SY]
 refine hm2.eG fun x _=>?_
 have e2:ko (met++[a]) x=(ko met x||(a.data.toList==x.data.toList)):=by simp[ko]
 rw[e2]
 by_cases e:x=a
 ·subst e;simp
 ·have:(a.data.toList==x.data.toList)=false:=by
   rw[beq_eq_false_iff_ne]
   intro h'
   exact e (by cases x;cases a;exact congrArg ByteArray.mk (Array.ext' h'.symm))
  rw[TW e,this,Bool.or_false]
theorem CdM.look (h:CdM W tb mb mo ids met w){a:ByteArray}(ha:a.size≤maxLen):(Instr.lookup 140 (.map (some mb)) (.string a) false).run Tryz.prog w=.ok (.bool (ko met a)) w:=by
 have:=h.mm.look false (t:=140) Tryz.Dz (kQ w) ha
 simp only[TN,if_false,Jb]at this
 have e:(if ko met a=true then some (Value.bool true)else none).getD (.bool false)=.bool (ko met a):=by cases ko met a <;> rfl
 rw[e]at this
 exact this
end
def M4 (W:World)(mv kv:Value)(ds:List Dc)(sch:ByteArray×Int→Bool):Prop:=∀x∈ds,∀r∈x.refs,r.1≠⟨#[]⟩→∀X,RowKit.Below W.heap.size W X→Calls Tryz.prog 94 #[mv,kv,.agg #[.string r.1,.int .i64 r.2]] X fun e Y=>∃sv,e=.returned (.tuple #[sv,.bool (sch r)])∧RowKit.Below X.heap.size X Y
theorem wE (label:ByteArray)(uses:List ByteArray)(uA:Option Addr)(uc:Nat)(ds:List Dc)(dA:Option Addr)(dc:Nat)(kA:Option Addr)(kn kc:Nat)(W:World)(hd:SlD W W.heap.size dA dc ds)(hV:MdV label ds)(hst:Jc ds)
  (sch:ByteArray×Int→Bool)(hs:M4 W (.agg #[.string label,.slice uA uses.length uc,.slice dA ds.length dc]) (.slice kA kn kc) ds sch) :
  Calls Tryz.prog 49 #[.agg #[.string label,.slice uA uses.length uc,.slice dA ds.length dc],.slice kA kn kc] W fun e Y=>e=.returned (.tuple #[.int .i64 (eB (aA ds) sch [] ds).1,.int .i64 (eB (aA ds) sch [] ds).2])∧RowKit.Below W.heap.size W Y:=by
 have hmm:=@run_makeMap Tryz.prog
 obtain⟨W0,hW0⟩:∃W0,W.alloc (.cells #[.string label,.slice uA uses.length uc,.slice dA ds.length dc] 25)=W0:=⟨_,rfl⟩
 have hb0:RowKit.Below W.heap.size W W0:=by subst hW0;exact(Tz _ _).alloc (SA _) _
 have hr0:W0.heap[W.heap.size]?=some (.cells #[.string label,.slice uA uses.length uc,.slice dA ds.length dc] 25 (0,0)):=by subst hW0;exact Sv W _
 have hz0:W.heap.size<W0.heap.size:=by subst hW0;simp
 obtain⟨R,HR⟩:∃R,Hid (eB (aA ds) sch [] ds=R):=⟨_,Sk rfl⟩
 rw[HR.out]
 obtain⟨N,HN⟩:∃N,Hid (ds.length=N):=⟨_,Sk rfl⟩
 obtain⟨NU,HNU⟩:∃N,Hid (uses.length=N):=⟨_,Sk rfl⟩
 rw[HN.out,HNU.out]at hW0 hr0 hs ⊢
 have t2:=Sq W0 W.heap.size 2 _ _ (0,0) hr0
 simp at t2
 have iN:(aA ds).length=N:=by rw[←HN.out];exact S9 ..
 have KW:N≤100:=by rw[←HN.out];exact hV.len
 have HIL:=Sk iN
 have hdc:=hd.2.1
 have hdl:=hd.1
 unfold maxLen at hdc
 rw[HN.out]at hdl
 have HD:=Sk (Sn hd (Sn hV (Sn hst hs)))
 have HB0:=Sk (Sn hb0 (Sn hr0 hz0))
 obtain⟨mo,Hmo⟩:∃mo:Array Value,Hid (mo=#[.string label,.slice uA NU uc,.slice dA N dc]):=⟨_,Sk rfl⟩
 obtain⟨tb,Htb⟩:∃tb,Hid (W0.heap.size=tb):=⟨_,Sk rfl⟩
 have hT0:CdI W tb mo (aA ds) 0 (W0.alloc (.map #[] 0)):=by
  refine⟨hb0.alloc hb0.size _,(Tt _ _ _ hz0).trans (by rw[Hmo.out];exact hr0),by rw[←Htb.out];exact hz0,?_⟩
  rw[←Htb.out]
  exact(aQ.made aH W0).eG fun a _=>by simp
 have HT0:=Sk hT0
 clear hd hb0 hr0 hV hst hs iN hT0
 go_enter Tryz.func49,Tryz.ntmps49
 go_upto_region 1 with fail
 try rw[hW0]
 go_wp2
 rw[Htb.out]
 go_loopg [8,19] N (fun g _ ct w=>∃j:Nat,g=N-j∧j≤N∧ct=.int .i64 j∧CdI W tb mo (aA ds) j w)
 case atStart=>exact⟨0,rfl,SC _,rfl,HT0.out⟩
 case round =>
  obtain⟨j,hg,hj,rfl,hI⟩:=hrel
  by_cases hlt:j<N
  ·have hlt':j<ds.length:=by rw[HN.out];exact hlt
   obtain⟨x,hx⟩:∃x,ds[j]?=some x:=⟨_,Sw hlt'⟩
   have hxv:=(HD.out.2.1.v x (SV hx)).id
   have hxj:(aA ds)[j]?=some x.id:=by unfold aA;rw[Tk,hx];rfl
   have hd:=HD.out.1.keepW hI.bl
   obtain⟨b,o,rfl,hb,hall⟩:=hd.2.2 (by intro e;rw[e]at hlt';simp at hlt')
   obtain⟨hcs,iq⟩:=hall j x hx
   obtain⟨xid,bD,bS,xnA,xnc,aK,aY,xk,xn,xm,xi,xd,xA,xc,xs⟩:=x
   obtain⟨d0,d1,d2,d3,d4,d5,d6,d7,d8,d9,d10⟩:=dcs hcs
   simp only at hxj hxv
   obtain⟨W3,hW3⟩:∃W3,wr.alloc (.cells #[.int .i64 xid,.int .i64 bD,.bool bS,.slice xnA aK.length xnc,.bool aY,.int .i64 xk,.string xn,.string xm,.int .i64 xi,.int .i64 xd,.slice xA xs.len xc] 46)=W3:=⟨_,rfl⟩
   have hb3:RowKit.Below wr.heap.size wr W3:=by subst hW3;exact(Tz _ _).alloc (SA _) _
   have hr3:W3.heap[wr.heap.size]?=some (.cells #[.int .i64 xid,.int .i64 bD,.bool bS,.slice xnA aK.length xnc,.bool aY,.int .i64 xk,.string xn,.string xm,.int .i64 xi,.int .i64 xd,.slice xA xs.len xc] 46 (0,0)):=by subst hW3;exact Sv wr _
   have e0:=Sq W3 wr.heap.size 0 _ _ (0,0) hr3
   simp at e0
   obtain⟨Z,hrun,hI2⟩:=(hI.below hb3).put hxj (lq hxv) (by unfold maxLen;omega)
   have HI2:=Sk (Sn hg hI2)
   clear hI hd hall hcs hx hxv hxj hb3 hr3 hg hlt' hI2 iq
   go_upto_region 5 with fail
   try rw[hW3]
   go_wp2
   go_roundg (N-(j+1))
   case measure=>have:=HI2.out.1;omega
   case rel=>exact⟨j+1,rfl,by omega,by go_num,HI2.out.2⟩
  ·have hjN:N=j:=by omega
   subst hjN
   have i1:decide ((N:Int)<(N:Int))=false:=SH (by omega)
   have i2:decide (N<N)=false:=SH (by omega)
   have s3:wr.cell? ⟨W.heap.size,2,none⟩=some (.slice dA N dc):=by
    have:=hI.box
    rw[Hmo.out]at this
    have:=Sq wr W.heap.size 2 _ _ (0,0) this
    simpa using this
   have hwz:=lt_of_block hI.box
   rw[←HIL.out]at hI
   obtain⟨mb,Hmb⟩:∃mb,Hid (wr.heap.size=mb):=⟨_,Sk rfl⟩
   have hM0:CdM W tb mb mo (aA ds) [] (wr.alloc (.map #[] 0)):=by
    refine⟨hI.below ((Tz _ _).alloc (SA _) _),by rw[←Hmb.out];exact hI.tm.lt,?_⟩
    rw[←Hmb.out]
    exact(aQ.made Jb wr).eG fun a _=>by simp[ko]
   have HM0:=Sk hM0
   clear hI hg hM0
   go_wp2
   rw[Hmb.out]
   clear hwz
   go_loopg [11,31] N (fun g _ ct w=>∃(j:Nat) (met:List ByteArray),g=N-j∧j≤N∧ct=.int .i64 j∧CdM W tb mb mo (aA ds) met w∧met.length=j∧R=eB (aA ds) sch met (ds.drop j))
   case atStart=>exact⟨0,[],rfl,SC _,rfl,HM0.out,rfl,HR.out.symm⟩
   case round =>
    obtain⟨j,met,hg,hj,rfl,hI,hml,hR⟩:=hrel
    by_cases hlt:j<N
    ·have hlt':j<ds.length:=by rw[HN.out];exact hlt
     obtain⟨x,hx⟩:∃x,ds[j]?=some x:=⟨_,Sw hlt'⟩
     have hxm:=SV hx
     have hxv:=HD.out.2.1.v x hxm
     have hxs:=HD.out.2.2.1 x hxm
     have hdr:ds.drop j=x::ds.drop (j+1):=by
      have h1:=Sy.1 hx
      rw[TQ h1.1,h1.2]
     rw[hdr]at hR
     have PN:=Sk (show ∀Y,RowKit.Below W.heap.size W Y→x.s.Sl Y Y.heap.size x.A x.c from fun Y hY=>by
      obtain⟨b',o',_,_,OU⟩:=(HD.out.1.keepW hY).2.2 (by intro e;rw[e]at hlt';simp at hlt')
      exact(OU j x hx).2.2.keep hY.size fun _ _=>rfl)
     have HWZ:=Sk hI.i.bl.size
     have hrf:x.refs=refsOf (Fo.cons x.k x.n x.m x.i x.d x.A x.c x.s .nil).vis:=rfl
     obtain⟨RF,HRF⟩:∃RF,Hid (x.refs=RF):=⟨_,Sk rfl⟩
     have hxr:=hxv.refs
     have mq:=hxv.id
     have hcnt:=hxv.cnt
     have iX:eB (aA ds) sch met (x::ds.drop (j+1))=if lT met x=true then (x.id,17)else if (x.refs.all (lg (aA ds) sch))=false then (x.id,21)else eB (aA ds) sch (met++[nameOf x]) (ds.drop (j+1)):=rfl
     rw[iX]at hR
     have hsc:=HD.out.2.2.2 x hxm
     rw[HRF.out]at hrf hxr hR hsc
     have hcf:lT met x=(x.names.length != 1||x.doubt||(x.k==15||x.s.sum)||ko met (nameOf x)):=rfl
     have hd:=HD.out.1.keepW hI.i.bl
     obtain⟨b,o,rfl,hb,hall⟩:=hd.2.2 (by intro e;rw[e]at hlt';simp at hlt')
     obtain⟨hcs,iq⟩:=hall j x hx
     obtain⟨xid,bD,bS,xnA,xnc,aK,aY,xk,xn,xm,xi,xd,xA,xc,xs⟩:=x
     obtain⟨d0,d1,d2,d3,d4,d5,d6,d7,d8,d9,d10⟩:=dcs hcs
     simp only at hrf mq hcnt hR hxs hcf
     obtain⟨W3,hW3⟩:∃W3,wr.alloc (.cells #[.int .i64 xid,.int .i64 bD,.bool bS,.slice xnA aK.length xnc,.bool aY,.int .i64 xk,.string xn,.string xm,.int .i64 xi,.int .i64 xd,.slice xA xs.len xc] 46)=W3:=⟨_,rfl⟩
     have hb3:RowKit.Below wr.heap.size wr W3:=by subst hW3;exact(Tz _ _).alloc (SA _) _
     have hr3:W3.heap[wr.heap.size]?=some (.cells #[.int .i64 xid,.int .i64 bD,.bool bS,.slice xnA aK.length xnc,.bool aY,.int .i64 xk,.string xn,.string xm,.int .i64 xi,.int .i64 xd,.slice xA xs.len xc] 46 (0,0)):=by subst hW3;exact Sv wr _
     have e0:=Sq W3 wr.heap.size 0 _ _ (0,0) hr3
     have e1:=Sq W3 wr.heap.size 1 _ _ (0,0) hr3
     have e2:=Sq W3 wr.heap.size 2 _ _ (0,0) hr3
     have e3:=Sq W3 wr.heap.size 3 _ _ (0,0) hr3
     have e4:=Sq W3 wr.heap.size 4 _ _ (0,0) hr3
     have e5:=Sq W3 wr.heap.size 5 _ _ (0,0) hr3
     have e6:=Sq W3 wr.heap.size 6 _ _ (0,0) hr3
     have e7:=Sq W3 wr.heap.size 7 _ _ (0,0) hr3
     have e8:=Sq W3 wr.heap.size 8 _ _ (0,0) hr3
     have e9:=Sq W3 wr.heap.size 9 _ _ (0,0) hr3
     have e10:=Sq W3 wr.heap.size 10 _ _ (0,0) hr3
     simp at e0 e1 e2 e3 e4 e5 e6 e7 e8 e9 e10
     have hI3:=hI.below hb3
     have hsl:xs.Sl W3 W3.heap.size xA xc:=iq.2.keep (by have:=hI.i.bl.size;have:=hb3.size;omega) fun p hp=>hb3.cell (by have:=hI.i.bl.size;omega)
     have hnl:=iq.1
     have hBW:RowKit.Below W.heap.size W W3:=hI3.i.bl
     obtain⟨sl,mF⟩:∃sl,Hid (xs.len=sl):=⟨_,Sk rfl⟩
     have HSM:=Sk (Cv xs xk xn xm xi xd xA xc W3 hsl)
     obtain⟨sm,Hsm⟩:∃sm,Hid ((xk==15||xs.sum)=sm):=⟨_,Sk rfl⟩
     rw[Hsm.out]at HSM hcf
     obtain⟨cf,Hcf⟩:∃cf,Hid (lT met ⟨xid,bD,bS,xnA,xnc,aK,aY,xk,xn,xm,xi,xd,xA,xc,xs⟩=cf):=⟨_,Sk rfl⟩
     rw[Hcf.out]at hR hcf
     rw[mF.out]at HSM hW3 d10 e10
     have HJ:=Sk (Sn hg (Sn hI3 (Sn hml (Sn hR (Sn hrf (Sn hxr (Sn mq (Sn hcnt (Sn hxs (Sn hsl (Sn hnl (Sn hb3 (Sn hr3 (Sn hBW hsc))))))))))))))
     clear hg hI hml hR hd hall hcs iq hx hxm hxv hxs hdr hrf hxr mq hcnt iX hlt' hb3 hr3 hI3 hsl hnl hBW hsc
     by_cases hn1:aK.length=1
     rotate_left
     ·have hn1':((aK.length:Int) != 1)=true:=by simp;omega
      have HV:=Sk (show R=(xid,17) by rw[HJ.out.2.2.2.1,TY (by rw[hcf];simp[hn1])])
      clear hn1
      go_upto_region 11 with fail
      try rw[hW3]
      go_wp2
      refine Ua (v:=.tuple #[.int .i64 xid,.int .i64 17]) (by simp[results,Tryz.results49,go_sem]) rfl ?_
      exact⟨by rw[HV.out],HJ.out.2.1.i.bl⟩
     obtain⟨nm,rfl⟩:∃nm,aK=[nm]:=List.length_eq_one_iff.1 hn1
     cases aY
     rotate_left
     ·have HV:=Sk (show R=(xid,17) by rw[HJ.out.2.2.2.1,TY (by rw[hcf];simp)])
      simp only[SY]at d3 e3 hW3
      clear hn1
      go_upto_region 11 with fail
      try rw[hW3]
      go_wp2
      refine Ua (v:=.tuple #[.int .i64 xid,.int .i64 17]) (by simp[results,Tryz.results49,go_sem]) rfl ?_
      exact⟨by rw[HV.out],HJ.out.2.1.i.bl⟩
     obtain⟨nb,no,rfl,hnb,mG⟩:=HJ.out.2.2.2.2.2.2.2.2.2.2.1.at_ (j:=0) (by simp)
     have Jd:=HJ.out.2.2.2.2.2.2.2.2.2.2.1.1
     have Je:=HJ.out.2.2.2.2.2.2.2.2.2.2.1.2.1
     unfold maxLen at Je
     simp only[SY,List.getElem_cons_zero,Nat.add_zero]at mG Jd d3 e3 hW3 hcf
     have hns:nm.size≤maxLen:=HJ.out.2.2.2.2.2.2.2.2.1 nm (by simp)
     have HNS:=Sk hns
     have M5:cf=(sm||ko met nm):=by rw[hcf];simp[nameOf]
     have M6:∀Y,RowKit.Below W3.heap.size W3 Y→Y.cell? ⟨nb,no,none⟩=some (.string nm):=fun Y hb=>(hb.cell (p:=⟨nb,no,none⟩) (by have:=HJ.out.2.2.2.2.2.2.2.2.2.2.2.2.2.1.size;simp;omega)).trans ((HJ.out.2.2.2.2.2.2.2.2.2.2.2.1.cell (p:=⟨nb,no,none⟩) (by have:=HWZ.out;show nb<wr.heap.size;omega)).trans mG)
     have HNC:=Sk M6
     have HCF:=Sk M5
     have HF:=Sk (show ∀Y:World,Y.heap[wr.heap.size]?=W3.heap[wr.heap.size]?→Y.cell? ⟨wr.heap.size,0,none⟩=some (.int .i64 xid)∧Y.cell? ⟨wr.heap.size,3,none⟩=some (.slice (some ⟨nb,no,none⟩) 1 xnc)∧Y.cell? ⟨wr.heap.size,5,none⟩=some (.int .i64 xk)∧Y.cell? ⟨wr.heap.size,6,none⟩=some (.string xn)∧Y.cell? ⟨wr.heap.size,7,none⟩=some (.string xm)∧Y.cell? ⟨wr.heap.size,8,none⟩=some (.int .i64 xi)∧Y.cell? ⟨wr.heap.size,9,none⟩=some (.int .i64 xd)∧Y.cell? ⟨wr.heap.size,10,none⟩=some (.slice xA sl xc)from fun Y hY=>by
      have h:=hY.trans HJ.out.2.2.2.2.2.2.2.2.2.2.2.2.1
      rw[mF.out]at h
      exact⟨Sq Y _ 0 _ _ (0,0) h,Sq Y _ 3 _ _ (0,0) h,Sq Y _ 5 _ _ (0,0) h,Sq Y _ 6 _ _ (0,0) h,Sq Y _ 7 _ _ (0,0) h,Sq Y _ 8 _ _ (0,0) h,Sq Y _ 9 _ _ (0,0) h,Sq Y _ 10 _ _ (0,0) h⟩)
     have HZ3:=Sk (show wr.heap.size<W3.heap.size from lt_of_block HJ.out.2.2.2.2.2.2.2.2.2.2.2.2.1)
     clear hcf M5 M6 mG hns hn1 hnb
     go_upto_region 11 with fail
     try rw[hW3]
     go_wp2_with fail
     with_reducible refine TJ HSM.out ?_
     rintro e w4 ⟨rfl,hb4⟩
     obtain⟨g0,g3,g5,g6,g7,g8,g9,g10⟩:=HF.out w4 (hb4.block _ HZ3.out)
     have nc4:=HNC.out w4 hb4
     have hI4:=HJ.out.2.1.below hb4
     have hlk:=hI4.look HNS.out
     have HB4:=Sk (Sn hb4 hI4)
     clear hb4 hI4 d0 d1 d2 d3 d4 d5 d6 d7 d8 d9 d10 e0 e1 e2 e3 e4 e5 e6 e7 e8 e9 e10 hW3
     cases sm with
     | true =>
      have HV:=Sk (show R=(xid,17) by rw[HJ.out.2.2.2.1,TY (by rw[HCF.out];rfl)])
      go_wp2
      refine Ua (v:=.tuple #[.int .i64 xid,.int .i64 17]) (by simp[results,Tryz.results49,go_sem]) rfl ?_
      exact⟨by rw[HV.out],HB4.out.2.i.bl⟩
     | false =>
      cases hm:ko met nm with
      | true =>
       rw[hm]at hlk
       have HV:=Sk (show R=(xid,17) by rw[HJ.out.2.2.2.1,TY (by rw[HCF.out,hm];rfl)])
       clear hm
       go_wp2
       refine Ua (v:=.tuple #[.int .i64 xid,.int .i64 17]) (by simp[results,Tryz.results49,go_sem]) rfl ?_
       exact⟨by rw[HV.out],HB4.out.2.i.bl⟩
      | false =>
       rw[hm]at hlk
       obtain⟨Z,hrun,hIZ,hsZ,hzZ⟩:=HB4.out.2.put HNS.out (by have:=HJ.out.2.2.1;unfold maxLen;omega)
       have hR2:R=if (RF.all (lg (aA ds) sch))=false then (xid,21)else eB (aA ds) sch (met++[nm]) (ds.drop (j+1)):=by
        rw[HJ.out.2.2.2.1,TW (by rw[HCF.out,hm];simp)]
        rfl
       have hwm:wr.heap.size≠mb:=fun e=>by
        obtain⟨_,_,⟨es,cl,h1,_⟩,_⟩:=HJ.out.2.1.mm
        have h2:=HJ.out.2.2.2.2.2.2.2.2.2.2.2.2.1
        rw[e,h1]at h2
        cases h2
       obtain⟨z0,z3,z5,z6,z7,z8,z9,z10⟩:=HF.out Z ((hsZ _ (SB HZ3.out HB4.out.1.size) hwm).trans (HB4.out.1.block _ HZ3.out))
       have hRF:=zK xk xn xm xi xd xA xc xs Z (PN.out Z hIZ.i.bl) (by have:=HJ.out.2.2.2.2.2.2.2.1;omega)
       rw[←HJ.out.2.2.2.2.1,mF.out]at hRF
       have PO:=Sk hRF
       have HZ:=Sk (Sn hIZ (Sn hR2 (show wr.heap.size<Z.heap.size from SB HZ3.out (SE HB4.out.1.size hzZ))))
       have hzI:=(show Z.heap[wr.heap.size]?=W3.heap[wr.heap.size]? from (hsZ _ (SB HZ3.out HB4.out.1.size) hwm).trans (HB4.out.1.block _ HZ3.out))
       have HZI:=Sk hzI
       obtain⟨LR,HLR⟩:∃LR,Hid (RF.length=LR):=⟨_,Sk rfl⟩
       have Ry:LR≤1000:=by
        rw[←HLR.out,HJ.out.2.2.2.2.1]
        refine SE jK ?_
        rw[Fo.fB]
        simp only[Fo.count]
        have:=HJ.out.2.2.2.2.2.2.2.1
        omega
       clear hm hIZ hR2 hsZ hzZ hRF hwm hzI
       go_wp2_with (go_at_call 54;(with_reducible refine TJ PO.out ?_);rintro e w6 ⟨rv,rfl,El,hb6⟩;obtain⟨rA,rc,rfl⟩:=bR El;have HR6:=Sk (Sn El hb6);clear El hb6;rw[HLR.out])
       go_loopg [13,14,67] LR (fun g _ _ ct w=>∃q:Nat,g=LR-q∧q≤LR∧ct=.int .i64 q∧RowKit.Below w6.heap.size w6 w∧∀r∈RF.take q,lg (aA ds) sch r=true)
       case atStart=>exact⟨0,rfl,SC _,rfl,Tz _ _,by simp⟩
       case round =>
        obtain⟨q,hg,hq,rfl,hB7,hin⟩:=hrel
        have hZ7:RowKit.Below Z.heap.size Z wr:=HR6.out.2.trans (hB7.mono HR6.out.2.size)
        by_cases hlq:q<LR
        ·have qC:q<RF.length:=by rw[HLR.out];exact hlq
         obtain⟨r,hr⟩:∃r,RF[q]?=some r:=⟨_,Sw qC⟩
         have hrm:=SV hr
         obtain⟨n0,n1⟩:=fC r RF q hr
         obtain⟨rb,rfl⟩:∃rb,rA=some ⟨rb,0,none⟩:=by
          rcases HR6.out.1.2 with⟨e,e'⟩|⟨g',cap',cur,e,_⟩
          ·omega
          ·cases e;exact⟨_,rfl⟩
         have M7:=(HR6.out.1.lt rb rfl).2
         have hrow':=HR6.out.1
         have c0:wr.cell? ⟨rb,q*2,none⟩=some (.string r.1):=(hB7.cell (p:=⟨rb,q*2,none⟩) M7).trans ((hrow'.cellAt _ (by omega)).trans n0)
         have c1:wr.cell? ⟨rb,q*2+1,none⟩=some (.int .i64 r.2):=(hB7.cell (p:=⟨rb,q*2+1,none⟩) M7).trans ((hrow'.cellAt _ (by omega)).trans n1)
         have htk:RF.take (q+1)=RF.take q++[r]:=by rw[Tn,hr];rfl
         have Em:=HJ.out.2.2.2.2.2.1 r hrm
         have En:=HJ.out.2.2.2.2.2.2.2.2.2.2.2.2.2.2 r hrm
         have hnext:lg (aA ds) sch r=true→∀z∈RF.take (q+1),lg (aA ds) sch z=true:=fun h z hz=>by
          rw[htk,Td,Te]at hz
          rcases hz with hz|rfl
          ·exact hin z hz
          ·exact h
         have hbad:lg (aA ds) sch r=false→R=(xid,21):=fun h=>by
          rw[HZ.out.2.1,TY]
          rw[List.all_eq_false]
          exact⟨r,hrm,by rw[h];simp⟩
         obtain⟨rn,ri⟩:=r
         simp only at c0 c1 Em En
         obtain⟨W7,hW7⟩:∃W7,wr.alloc (.cells #[.string rn,.int .i64 ri] 102)=W7:=⟨_,rfl⟩
         have hb7:RowKit.Below wr.heap.size wr W7:=by subst hW7;exact(Tz _ _).alloc (SA _) _
         have hr7:W7.heap[wr.heap.size]?=some (.cells #[.string rn,.int .i64 ri] 102 (0,0)):=by subst hW7;exact Sv wr _
         have f0:=Sq W7 wr.heap.size 0 _ _ (0,0) hr7
         have f1:=Sq W7 wr.heap.size 1 _ _ (0,0) hr7
         simp at f0 f1
         have hZ8:RowKit.Below Z.heap.size Z W7:=hZ7.trans (hb7.mono hZ7.size)
         have hI7:=HZ.out.1.below hZ8
         have hlk:=hI7.i.look (lq Em.2)
         have wF:=hI7.i.box
         rw[Hmo.out]at wF
         have b0:=Sq W7 W.heap.size 0 _ _ (0,0) wF
         have b1:=Sq W7 W.heap.size 1 _ _ (0,0) wF
         have b2:=Sq W7 W.heap.size 2 _ _ (0,0) wF
         simp at b0 b1 b2
         have HX:=Sk (Sn hg (Sn (show RowKit.Below w6.heap.size w6 W7 from hB7.trans (hb7.mono hB7.size)) (Sn hnext (Sn hbad (show RowKit.Below W.heap.size W W7 from hI7.i.bl)))))
         by_cases he:rn=⟨#[]⟩
         ·subst he
          have hrf:lg (aA ds) sch (⟨#[]⟩,ri)=decide (ri∈aA ds):=rfl
          obtain⟨ok,Hok⟩:∃ok,Hid (decide (ri∈aA ds)=ok):=⟨_,Sk rfl⟩
          rw[Hok.out]at hlk hrf
          have zL:=Sk hrf
          obtain⟨z0',_⟩:=HF.out W7 ((hZ8.block _ HZ.out.2.2).trans HZI.out)
          clear hg hB7 hin hZ7 hr hrm n0 n1 hrow' htk Em En hnext hbad hb7 hr7 hZ8 hI7 wF qC hrf
          cases ok with
          | true =>
           go_upto_region 17 with fail
           try rw[hW7]
           go_wp2
           go_roundg (LR-(q+1))
           case measure=>have:=HX.out.1;omega
           case rel=>exact⟨q+1,rfl,by omega,by go_num,HX.out.2.1,HX.out.2.2.1 zL.out⟩
          | false =>
           have HV:=Sk (HX.out.2.2.2.1 zL.out)
           go_upto_region 17 with fail
           try rw[hW7]
           go_wp2
           refine Ua (v:=.tuple #[.int .i64 xid,.int .i64 21]) (by simp[results,Tryz.results49,go_sem]) rfl ?_
           exact⟨by rw[HV.out],HX.out.2.2.2.2⟩
         ·have he':rn.toList.isEmpty=false:=tN he
          have hrf:lg (aA ds) sch (rn,ri)=sch (rn,ri):=by unfold lg;rw[TW he]
          have HSC:=Sk (En he W7 hI7.i.bl)
          obtain⟨ok,Hok⟩:∃ok,Hid (sch (rn,ri)=ok):=⟨_,Sk rfl⟩
          rw[Hok.out]at HSC hrf
          have zL:=Sk hrf
          have HZ0:=Sk (show ∀Y,RowKit.Below W7.heap.size W7 Y→Y.cell? ⟨wr.heap.size,0,none⟩=W7.cell? ⟨wr.heap.size,0,none⟩from fun Y hY=>hY.cell (lt_of_block hr7))
          have HZ8:=Sk hZ8
          clear hg hB7 hin hZ7 hr hrm n0 n1 hrow' htk Em En hnext hbad hb7 hr7 hZ8 hI7 wF qC hrf he
          go_upto_region 17 with fail
          try rw[hW7]
          go_wp2_with fail
          with_reducible refine TJ HSC.out ?_
          rintro e w8 ⟨sv,rfl,hb8⟩
          have hZ9:RowKit.Below Z.heap.size Z w8:=HZ8.out.trans (hb8.mono HZ8.out.size)
          obtain⟨z0',_⟩:=HF.out w8 ((hZ9.block _ HZ.out.2.2).trans HZI.out)
          have HB8:=Sk hb8
          clear hb8 hZ9
          cases ok with
          | true =>
           go_wp2
           go_roundg (LR-(q+1))
           case measure=>have:=HX.out.1;omega
           case rel=>exact⟨q+1,rfl,by omega,by go_num,HX.out.2.1.trans (HB8.out.mono HX.out.2.1.size),HX.out.2.2.1 zL.out⟩
          | false =>
           have HV:=Sk (HX.out.2.2.2.1 zL.out)
           go_wp2
           refine Ua (v:=.tuple #[.int .i64 xid,.int .i64 21]) (by simp[results,Tryz.results49,go_sem]) rfl ?_
           exact⟨by rw[HV.out],HX.out.2.2.2.2.trans (HB8.out.mono HX.out.2.2.2.2.size)⟩
        ·have hqM:LR=q:=by omega
         subst hqM
         have i1:decide ((LR:Int)<(LR:Int))=false:=SH (by omega)
         have i2:decide (LR<LR)=false:=SH (by omega)
         rw[Tm (by rw[HLR.out];exact SA _)]at hin
         have HQ:=Sk (Sn (HZ.out.1.below hZ7) (show R=eB (aA ds) sch (met++[nm]) (ds.drop (j+1)) by
          rw[HZ.out.2.1,TW]
          rw[Bool.not_eq_false,List.all_eq_true]
          exact hin))
         clear hin hg hB7 hZ7
         go_wp2
         go_roundg (N-(j+1))
         case measure=>have:=HJ.out.1;omega
         case rel=>exact⟨j+1,met++[nm],rfl,by omega,by go_num,HQ.out.1,by rw[SX,HJ.out.2.2.1];rfl,HQ.out.2⟩
    ·have hjN:N=j:=by omega
     subst hjN
     have i1:decide ((N:Int)<(N:Int))=false:=SH (by omega)
     have i2:decide (N<N)=false:=SH (by omega)
     rw[List.drop_of_length_le (by rw[HN.out];exact SA _)]at hR
     have HQ:=Sk (Sn hI.i.bl (show R=(0,0)from hR))
     clear hI hR hg hml
     go_wp2
     refine Ua (v:=.tuple #[.int .i64 0,.int .i64 0]) (by simp[results,Tryz.results49,go_sem]) rfl ?_
     exact⟨by rw[HQ.out.2],HQ.out.1⟩
end Go.Proofs.Q
