/- ref25.groups -/
import Derived.Test.YtmmecapgnmlaiaaGreatDoorZyf
set_option maxRecDepth 100000
set_option maxHeartbeats 16000000
namespace Go.Proofs.Q
open Go Go.RowKit Go.Proofs Go.Proofs.Scc
theorem Cn {w w1 w2:World}{b:Option Nat}(h:w.grownBy w1 b)(g:w1.grownBy w2 b):w.grownBy w2 b:=
 ⟨g.os.trans h.os,g.tape.trans h.tape,g.output.trans h.output,SE h.size g.size,fun k hk hne=>(g.block k (SB hk h.size) hne).trans (h.block k hk hne)⟩
theorem Gt {w w':World}{b:Option Nat}(h:RowKit.Below w.heap.size w w'):w.grownBy w' b:=⟨h.os,h.tape,h.output,h.size,fun k hk _=>h.block k hk⟩
theorem Co {w w1 w2:World}{b:Option Nat}(h:w.grownBy w1 b)(g:RowKit.Below w.heap.size w1 w2):w.grownBy w2 b:=
 ⟨g.os.trans h.os,g.tape.trans h.tape,g.output.trans h.output,SE h.size g.size,fun k hk hne=>(g.block k hk).trans (h.block k hk hne)⟩
theorem GrV.MX {w:World}{base s:Nat}{v:Value}{l:List Int}(h:w.ownsRow s 3 1 v l.length (l.map (.int .i64)))(hb:base≤s)(hl:l≠[]):GrV w base v l:=by
 have hpos:=List.length_pos_iff.2 hl
 rcases h.2 with⟨_,e⟩|⟨g,c,cur,rfl,e2,e3,e4,e5,_⟩
 ·omega
 ·exact⟨g,c,cur,(0,0),rfl,by omega,e3,fun j i hj=>(h.cellAt j (by have:=(Sy.1 hj).1;omega)).trans (by rw[Tk,hj];rfl),hl,e4,e5⟩
def nk (n:Nat)(r:Nat→Nat→Bool)(c:Nat→Bool)(i:Nat):Option Nat:=(List.range i).find? fun a=>!c a&&jw n r c a
theorem Ei (n:Nat)(r:Nat→Nat→Bool)(c:Nat→Bool)(i:Nat):nk n r c (i+1)=match nk n r c i with
  | some f=>some f
  | none=>if (!c i&&jw n r c i)=true then some i else none:=by
 unfold nk
 rw[List.range_succ,List.find?_append]
 cases (List.range i).find? fun a=>!c a&&jw n r c a with
 | some f=>rfl
 | none =>
  by_cases h:(!c i&&jw n r c i)=true
  ·rw[TY h];simp[h]
  ·rw[TW h];simp only[Option.none_or,List.find?_singleton];simp[h]
theorem IY {n:Nat}{r:Nat→Nat→Bool}{c:Nat→Bool}{i f:Nat}(h:nk n r c i=some f):f<i:=by
 have:=List.mem_of_find?_eq_some h
 exact List.mem_range.1 this
def iQ (V:List Int)(r:Nat→Nat→Bool)(f i:Nat):List Int:=((List.range i).filter (inR r f)).map fun a=>V.getD a 0
theorem Gu (V:List Int)(r:Nat→Nat→Bool){f i:Nat}(h:inR r f i=true):iQ V r f (i+1)=iQ V r f i++[V.getD i 0]:=by
 unfold iQ
 rw[List.range_succ,List.filter_append,Tp]
 simp[h]
theorem IZ (V:List Int)(r:Nat→Nat→Bool){f i:Nat}(h:inR r f i=false):iQ V r f (i+1)=iQ V r f i:=by
 unfold iQ
 rw[List.range_succ,List.filter_append,Tp]
 simp[h]
theorem Gv (V:List Int)(r:Nat→Nat→Bool)(f i:Nat):(iQ V r f i).length≤i:=by
 unfold iQ
 rw[S9]
 exact SE (List.length_filter_le _ _) (by simp)
theorem Lu (V:List Int)(r:Nat→Nat→Bool){f:Nat}(h:f<V.length):mg V r f≠[]:=by
 unfold mg
 intro e
 rw[List.map_eq_nil_iff,List.filter_eq_nil_iff]at e
 exact e f (List.mem_range.2 h) (by simp[inR])
def mh (c:Nat→Bool)(r:Nat→Nat→Bool)(f i:Nat):Nat→Bool:=fun a=>c a||(decide (a<i)&&inR r f a)
theorem Gw (c:Nat→Bool)(r:Nat→Nat→Bool)(f:Nat):mh c r f 0=c:=by
 funext a
 simp[mh]
theorem Lv {c:Nat→Bool}{r:Nat→Nat→Bool}{f i:Nat}(h:inR r f i=false):mh c r f (i+1)=mh c r f i:=by
 funext a
 unfold mh
 by_cases e:a=i
 ·subst e
  simp[h]
 ·have:decide (a<i+1)=decide (a<i):=by rw[Bool.eq_iff_iff,decide_eq_true_eq,decide_eq_true_eq];omega
  rw[this]
theorem I4 {c:Nat→Bool}{r:Nat→Nat→Bool}{f i:Nat}(h:inR r f i=true)(a:Nat):(if a=i then true else mh c r f i a)=mh c r f (i+1) a:=by
 unfold mh
 by_cases e:a=i
 ·subst e
  simp[h]
 ·have:decide (a<i+1)=decide (a<i):=by rw[Bool.eq_iff_iff,decide_eq_true_eq,decide_eq_true_eq];omega
  rw[TW e,this]
theorem I5 (c:Nat→Bool)(r:Nat→Nat→Bool)(f n a:Nat)(h:a<n):mh c r f n a=(c a||inR r f a):=by
 unfold mh
 rw[SI h,Bool.true_and]
theorem Gx {V:List Int}{r:Nat→Nat→Bool}{c:Nat→Bool}(h:nO V.length r c=none):∀m,ig V r m c=[]
 | 0=>rfl
 | m+1=>by
  unfold ig
  rw[h]
theorem Gy {V:List Int}{r:Nat→Nat→Bool}{c:Nat→Bool}{f:Nat}(h:nO V.length r c=some f)(m:Nat):ig V r (m+1) c=mg V r f::ig V r m fun i=>c i||inR r f i:=by
 rw[ig,h]
theorem RG.push {w w':World}{base rb:Nat}{v gv gv':Value}{l:List Int}{gl:List Value}{grs:List (List Int)}(h:RG w base rb gv gl grs)(hv:GrV w base v l)(hr:w'.ownsRow rb 39 1 gv' (gl.length+1) (gl++[v]))(hg:w.grownBy w' gv.ownBlock):RG w' base rb gv' (gl++[v]) (grs++[l]):=by
 have hk:∀k cur fz,w.heap[k]?=some (.cells cur 3 fz)→base≤k→w'.heap[k]?=w.heap[k]?:=fun k cur fz hc _=>hg.block k (lt_of_block hc) fun e=>by
  obtain⟨_,_,c,fz',h3⟩:=h.blk e.symm
  rw[hc]at h3
  cases h3
 refine⟨by rw[SX,SY];exact hr,by rw[SX,SX,h.len];rfl,fun j u m hu hm=>?_⟩
 by_cases hj:j<gl.length
 ·rw[Tg hj]at hu
  rw[Tg (by rw[←h.len];exact hj)]at hm
  exact(h.gs j u m hu hm).keep hk
 ·have hl:=(Sy.1 hu).1
  rw[SX,SY]at hl
  rw[Ti (by omega),show j-gl.length=0 by omega]at hu
  rw[Ti (by rw[←h.len];omega),show j-grs.length=0 by rw[←h.len];omega]at hm
  cases hu
  cases hm
  exact hv.keep hk
theorem I6 {X:World}{cb b n cc:Nat}{f:Nat→Bool}(h:X.ownsRow b 4 1 (.slice (some ⟨cb,0,none⟩) n cc) n (bln n f))(q:Nat) :
  (X.setCell ⟨cb,q,none⟩ (.bool true)).ownsRow b 4 1 (.slice (some ⟨cb,0,none⟩) n cc) n (bln n fun a=>if a=q then true else f a)∧X.grownBy (X.setCell ⟨cb,q,none⟩ (.bool true)) (some cb)∧(q<n→X.cell? ⟨cb,q,none⟩=some (.bool (f q)))∧X.frozen? ⟨cb,q,none⟩=false:=by
 obtain⟨h1,h2⟩:=h.stored q (.bool true)
 rw[Dx]at h1
 refine⟨h1,h2,fun hq=>(h.cellAt q (by omega)).trans (ow _ hq),?_⟩
 rcases h.2 with⟨e,_⟩|⟨g,c,cur,e,_,e3,_⟩
 ·cases e
 ·cases e
  simp[World.frozen?,e3]
theorem RG.grown {w w':World}{base rb b cb n m:Nat}{gv cv:Value}{gl xs:List Value}{grs:List (List Int)}(h:RG w base rb gv gl grs)(hc:w.ownsRow b 4 m cv n xs)(hcv:cv.ownBlock=some cb)(hg:w.grownBy w' (some cb)):RG w' base rb gv gl grs:=by
 obtain⟨c,fz,h1⟩:=Lib.ownsRow_kind hc cb hcv
 refine h.keep (fun g hg'=>?_) fun k cur fz' hk _=>hg.block k (lt_of_block hk) fun e=>?_
 ·obtain⟨_,h2,c',fz',h3⟩:=h.blk hg'
  refine hg.block g h2 fun e=>?_
  cases e
  rw[h1]at h3
  cases h3
 ·cases e
  rw[h1]at hk
  cases hk
theorem RG.mono {w:World}{base base' rb rb':Nat}{gv:Value}{gl:List Value}{grs:List (List Int)}(h:RG w base rb gv gl grs)(hb:base'≤base)(hr:rb'≤rb):RG w base' rb' gv gl grs:=
 ⟨fQ h.row hr,h.len,fun j v l hv hl=>(h.gs j v l hv hl).mono hb⟩
theorem zG (label:ByteArray)(uses:List ByteArray)(uA:Option Addr)(uc:Nat)(ds:List Dc)(dA:Option Addr)(dc:Nat)(W:World)(hd:SlD W W.heap.size dA dc ds)(hcn:∀x∈ds,x.s.count≤100000)(hlen:ds.length≤1000) :
  Calls Tryz.prog 48 #[.agg #[.string label,.slice uA uses.length uc,.slice dA ds.length dc]] W fun e Y=>∃v gl,e=.returned v∧RG Y W.heap.size W.heap.size v gl (ig (aA ds) (dL (dT ds) ds.length) ds.length fun _=>false)∧RowKit.Below W.heap.size W Y:=by
 obtain⟨W0,hW0⟩:∃W0,W.alloc (.cells #[.string label,.slice uA uses.length uc,.slice dA ds.length dc] 25)=W0:=⟨_,rfl⟩
 have hb0:RowKit.Below W.heap.size W W0:=by subst hW0;exact(Tz _ _).alloc (SA _) _
 have hr0:W0.heap[W.heap.size]?=some (.cells #[.string label,.slice uA uses.length uc,.slice dA ds.length dc] 25 (0,0)):=by subst hW0;exact Sv W _
 have HRC:=Sk (Cq label uses uA uc ds dA dc W0 (hd.keep hb0.size fun p hp=>hb0.cell hp) hcn hlen)
 obtain⟨r,hr⟩:∃r,Hid (dL (dT ds) ds.length=r):=⟨_,Sk rfl⟩
 have hVl:(aA ds).length=ds.length:=S9 ..
 have iN:∀(i:Nat) (x:Dc),ds[i]?=some x→(aA ds).getD i 0=x.id:=fun i x hx=>by
  unfold aA
  rw[TM,Tk,hx]
  rfl
 obtain⟨V,hV⟩:∃V,Hid (aA ds=V):=⟨_,Sk rfl⟩
 obtain⟨G,hG⟩:∃G,Hid (ig (aA ds) (dL (dT ds) ds.length) ds.length (fun _=>false)=G):=⟨_,Sk rfl⟩
 rw[hG.out]
 have hGG:=hG.out
 rw[hr.out]at HRC hGG
 rw[hV.out]at hVl iN hGG
 obtain⟨N,HN⟩:∃N,Hid (ds.length=N):=⟨_,Sk rfl⟩
 obtain⟨NU,HNU⟩:∃N,Hid (uses.length=N):=⟨_,Sk rfl⟩
 have hdc:=hd.2.1
 have hdl:=hd.1
 unfold maxLen at hdc
 simp only[HN.out,HNU.out]at hW0 hr0 HRC hVl hGG hdl hlen ⊢
 have t0:=Sq W0 W.heap.size 0 _ _ (0,0) hr0
 have t1:=Sq W0 W.heap.size 1 _ _ (0,0) hr0
 have t2:=Sq W0 W.heap.size 2 _ _ (0,0) hr0
 simp at t0 t1 t2
 have HD:=Sk (Sn hd iN)
 have HB0:=Sk (Sn hb0 (Sn hr0 (lt_of_block hr0)))
 have HV:=Sk (Sn hVl hGG)
 clear hd hcn hb0 hr0 iN hVl hGG hG
 go_enter Tryz.func48,Tryz.ntmps48
 go_upto_region 1 with fail
 try rw[hW0]
 go_wp2_with (go_at_call 91;(with_reducible refine TJ HRC.out ?_);rintro e w1 ⟨ov,vl,rfl,MZ,hb1⟩;have HR1:=Sk (Sn MZ hb1);clear MZ hb1)
 clear t0 t1 t2
 have HT2:=Sk (show ∀Y,RowKit.Below w1.heap.size w1 Y→Y.cell? ⟨W.heap.size,2,none⟩=some (.slice dA N dc)from fun Y hY =>
  Sq Y _ 2 _ _ (0,0) (((HR1.out.2.trans (hY.mono HR1.out.2.size)).block _ HB0.out.2.2).trans HB0.out.2.1))
 go_loopg [4,5] N (fun g cv ct wr=>∃i:Nat,g=N-i∧i≤N∧ct=.int .i64 i∧wr.ownsRow w1.heap.size 4 1 cv i (bln i fun _=>false)∧RowKit.Below w1.heap.size w1 wr)
 case atStart=>exact⟨0,rfl,SC _,rfl,kP _ _ _,(Tz _ _).alloc (SA _) _⟩
 case round =>
  obtain⟨i,hg,hi,rfl,hrow,hB⟩:=hrel
  obtain⟨w7,rfl⟩:∃w7:World,w7=wr:=⟨_,rfl⟩
  obtain⟨cA,cc,rfl⟩:=bR hrow
  have t2:=HT2.out w7 hB
  by_cases hlt:i<N
  ·obtain⟨i1',hi',hz0',hz1',hz2'⟩:=info_parts Tryz.zH
   have hsz:=hB.size
   have HRL:=Sk (Sn (hrow.alloc (.cells #[.bool false] 4)) (Sn hB hg))
   clear hrow hB hg
   go_wp2_with (at_builtin;refine wpList_append_own_at _ rfl _ _ 138 rfl w1.heap.size 4 i1' _ 1 1 Tryz.zI hi' hz0' hz1' hz2' rfl (by decide) (.slice cA i cc) i _ rfl HRL.out.1 ⟨w7.heap.size,0,none⟩ 1 1 [.bool false] rfl rfl (ji w7 _ _) (by simp[Value.oneCell']) (by unfold maxLen;omega) (by omega) (by simp;omega) ?_;intro lv6 Z6 hown6 dh _ _;have HZ6:=Sk (Sn hown6 dh);clear hown6 dh)
   go_roundg (N-(i+1))
   case measure=>have:=HRL.out.2.2;omega
   case rel =>
    have h1:=HRL.out.2.1
    exact⟨i+1,rfl,by omega,by go_num,by rw[zJ];exact HZ6.out.1,h1.trans (((Tz _ _).alloc h1.size (.cells #[.bool false] 4)).trans (cu HZ6.out.2 (by simp;omega) fun q e=>(HRL.out.1.lt q e).1))⟩
  ·obtain rfl:i=N:=by omega
   have HCR:=Sk (Sn hrow hB)
   clear hrow hB hg
   go_wp2
   have hsz:=HCR.out.2.size
   go_loopg [6,7,8,9,10,11] i (fun g gv ct _ _ _ _ wr=>∃(p:Nat) (gl:List Value) (done:List (List Int)) (come:Nat→Bool),g=i-p∧p≤i∧ct=.int .i64 p∧RG wr w1.heap.size w1.heap.size gv gl done∧gl.length=p∧wr.ownsRow w1.heap.size 4 1 (.slice cA i cc) i (bln i come)∧RowKit.Below w1.heap.size w1 wr∧done++ig V r (i-p) come=G)
   case atStart=>exact⟨0,[],[],fun _=>false,rfl,SC _,rfl,⟨fQ (kP _ _ _) hsz,rfl,fun j v l hv=>by simp at hv⟩,rfl,HCR.out.1.alloc _,HCR.out.2.alloc hsz _,HV.out.2⟩
   case round =>
    obtain⟨p,gl,done,come,hg,hp,rfl,hrg,hgl,hcr,hB,hG⟩:=hrel
    obtain⟨w8,rfl⟩:∃w8:World,w8=wr:=⟨_,rfl⟩
    obtain⟨gA,gc,rfl⟩:=bR hrg.row
    have HGL:=Sk hgl
    have Rx:gl.length≤1000:=by omega
    clear hgl
    have t2:=HT2.out w8 hB
    have hbt:=HR1.out.1.below hB
    have hWf:=HB0.out.1.trans (HR1.out.2.mono HB0.out.1.size)
    by_cases hlt:p<i
    ·obtain⟨cb,rfl⟩:∃g,cA=some ⟨g,0,none⟩:=by
      rcases hcr.2 with⟨_,e⟩|⟨g,q,cur,e,_⟩
      ·omega
      ·cases e;exact⟨_,rfl⟩
     have hcc:i≤cc∧cc≤9223372036854775807:=by
      rcases hcr.2 with⟨_,e⟩|⟨g,q,cur,e,e2,e3,e4,e5,_⟩
      ·omega
      ·cases e;exact⟨e4,e5⟩
     have hcb:=(hcr.lt cb rfl).1
     have HH:=Sk (Sn hg (Sn hrg (Sn hcr (Sn hB (Sn hG hbt)))))
     have HWf:=Sk hWf
     clear hg hrg hcr hB hG hbt hWf
     have HRD:=Sk (show ∀a:Nat,a<i→Calls Tryz.prog 92 #[ov,.slice (some ⟨cb,0,none⟩) i cc,.int .i64 a] w8 fun e Z=>e=.returned (.bool (jw i r come a))∧Z=w8 from fun a ha=>Cr HH.out.2.2.2.2.2 HH.out.2.2.1 ha)
     go_wp2
     go_loopg [8,9] i (fun g ft ct wr=>∃a:Nat,g=i-a∧a≤i∧ct=.int .i64 a∧ft=.int .i64 (fIdx (nk i r come a))∧wr=w8)
     case atStart=>exact⟨0,rfl,SC _,rfl,rfl,rfl⟩
     case round =>
      obtain⟨a,hga,ha,rfl,rfl,rfl⟩:=hrel
      by_cases hla:a<i
      ·have hsucc:=Ei i r come a
       have q3:wr.cell? ⟨cb,a,none⟩=some (.bool (come a)):=(HH.out.2.2.1.cellAt a (by omega)).trans (ow _ hla)
       have HC:=Sk (HRD.out a hla)
       cases hf:nk i r come a with
       | some f =>
        rw[hf]at hsucc
        have hneg:decide ((f:Int)<0)=false:=SH (by omega)
        have HY:=Sk (Sn hga hsucc)
        clear hga hsucc HC
        simp only[fIdx]
        go_wp2
        go_roundg (i-(a+1))
        case measure=>have:=HY.out.1;omega
        case rel=>exact⟨a+1,rfl,by omega,by go_num,by rw[HY.out.2];rfl,rfl⟩
       | none =>
        rw[hf]at hsucc
        simp only at hsucc
        generalize jw i r come a=rb at HC hsucc
        generalize come a=cb at q3 hsucc
        have HY:=Sk (Sn hga hsucc)
        clear hga hsucc
        have hneg:decide ((-1:Int)<0)=true:=rfl
        simp only[fIdx]
        cases cb with
        | true =>
         go_wp2
         go_roundg (i-(a+1))
         case measure=>have:=HY.out.1;omega
         case rel=>exact⟨a+1,rfl,by omega,by go_num,by rw[HY.out.2];simp[fIdx],rfl⟩
        | false =>
         cases rb with
         | true =>
          go_wp2_with (go_at_call 92;(with_reducible refine TJ HC.out ?_);rintro e _ ⟨rfl,rfl⟩)
          go_roundg (i-(a+1))
          case measure=>have:=HY.out.1;omega
          case rel=>exact⟨a+1,rfl,by omega,by go_num,by rw[HY.out.2];simp[fIdx],rfl⟩
         | false =>
          go_wp2_with (go_at_call 92;(with_reducible refine TJ HC.out ?_);rintro e _ ⟨rfl,rfl⟩)
          go_roundg (i-(a+1))
          case measure=>have:=HY.out.1;omega
          case rel=>exact⟨a+1,rfl,by omega,by go_num,by rw[HY.out.2];simp[fIdx],rfl⟩
      ·obtain rfl:a=i:=by omega
       clear hga
       have hVN:=HV.out.1
       have wD:nk a r come a=nO V.length r come:=by rw[hVN];rfl
       cases hf:nk a r come a with
       | none =>
        rw[hf]at wD
        have HF:=Sk (show done=G by
         have h1:=HH.out.2.2.2.2.1
         rw[Gx wD.symm,TV]at h1
         exact h1)
        have hneg:decide ((-1:Int)<0)=true:=rfl
        have HFin:=Sk (Sn (HH.out.2.1.mono HWf.out.size HWf.out.size) (HWf.out.trans (HH.out.2.2.2.1.mono HWf.out.size)))
        simp only[fIdx]
        clear wD hf HRD
        go_wp2
        go_ret
        refine⟨_,gl,rfl,?_,HFin.out.2⟩
        rw[←HF.out]
        exact HFin.out.1
       | some f =>
        obtain⟨w3,rfl⟩:∃w3:World,w3=wr:=⟨_,rfl⟩
        rw[hf]at wD
        have hfl:=IY hf
        have hneg:decide ((f:Int)<0)=false:=SH (by omega)
        have HF:=Sk (show (done++[mg V r f])++ig V r (a-(p+1)) (fun x=>come x||inR r f x)=G by
         have h1:=HH.out.2.2.2.2.1
         rw[show a-p=a-(p+1)+1 by omega,Gy wD.symm]at h1
         rw[←h1,TR]
         rfl)
        simp only[fIdx]
        clear wD hf HRD
        go_wp2
        go_loopg [10,11] a (fun g gv ct wz=>∃q:Nat,g=a-q∧q≤a∧ct=.int .i64 q∧wz.ownsRow w3.heap.size 3 1 gv (iQ V r f q).length ((iQ V r f q).map (.int .i64))∧wz.ownsRow w1.heap.size 4 1 (.slice (some ⟨cb,0,none⟩) a cc) a (bln a (mh come r f q))∧w3.grownBy wz (some cb))
        case atStart=>exact⟨0,rfl,SC _,rfl,kP _ _ _,by rw[Gw];exact HH.out.2.2.1.alloc _,Gt ((Tz _ _).alloc (SA _) _)⟩
        case round =>
         obtain⟨q,hgq,hq,rfl,hgr,hcr,hgb⟩:=hrel
         obtain⟨gv',gc',rfl⟩:=bR hgr
         have hB3:RowKit.Below w1.heap.size w1 w3:=HH.out.2.2.2.1
         have hBw:RowKit.Below w1.heap.size w1 wr:=hB3.trans (cu hgb hB3.size fun k e=>by cases e;exact hcb)
         have t2:=HT2.out wr hBw
         have hWr:RowKit.Below W.heap.size W wr:=HWf.out.trans (hBw.mono HWf.out.size)
         have hs3:=hB3.size
         have hsr:=hgb.size
         have PK:=Gv V r f q
         obtain⟨gn,Hgn⟩:∃z,Hid ((iQ V r f q).length=z):=⟨_,Sk rfl⟩
         rw[Hgn.out]at hgr PK ⊢
         by_cases hlq:q<a
         ·have hpos:0<a:=by omega
          have hbt:=HR1.out.1.below hBw
          have qC:q<ds.length:=by rw[HN.out];exact hlq
          obtain⟨x,hx⟩:∃x,ds[q]?=some x:=⟨_,Sw qC⟩
          obtain⟨b,o,rfl,hb,hall⟩:=HD.out.1.2.2 (by intro e;rw[e]at qC;simp at qC)
          have hcx:W.cell? ⟨b,o+q*11,none⟩=some (.int .i64 x.id):=(hall q x hx).1 0 _ rfl
          obtain⟨xid,mq⟩:∃z,V.getD q 0=z:=⟨_,rfl⟩
          have dq:wr.cell? ⟨b,o+q*11,none⟩=some (.int .i64 xid):=(hWr.cell hb).trans (by rw[←mq,HD.out.2 q x hx];exact hcx)
          obtain⟨ob,oc,rfl,_,_,ob3,ob4⟩:=HR1.out.1.out hpos
          obtain⟨gf,cf,vf,_,_,gf3,gf4,_⟩:=hbt.get hfl hpos
          obtain⟨gq,cq,vq,_,_,gq3,gq4,_⟩:=hbt.get hlq hpos
          have o1:=hbt.rowAt vf
          have o2:=hbt.rowAt vq
          have q1:=hbt.at vq hfl
          have q2:=hbt.at vf hlq
          unfold maxLen at ob4 gf4 gq4
          have hend:(inR r f q=true∧(((q:Int)==(f:Int))=true∨(((q:Int)==(f:Int))=false∧r q f=true∧r f q=true)))∨(inR r f q=false∧((q:Int)==(f:Int))=false∧(r q f=false∨(r q f=true∧r f q=false))):=by
           by_cases e:q=f
           ·subst e
            exact .inl ⟨by simp[inR],.inl (by simp)⟩
           ·have e':((q:Int)==(f:Int))=false:=by
             rw[beq_eq_false_iff_ne]
             omega
            unfold inR
            rw[SH e,e']
            cases r q f <;> cases r f q <;> simp
          generalize hb1:r q f=b1 at q1 hend
          generalize hb2:r f q=b2 at q2 hend
          have HJ:=Sk (Sn hgq (Sn hgr (Sn hcr hgb)))
          clear hgq hgr hcr hgb hbt hx hall hcx vf vq hb hb1 hb2 qC hB3
          rcases hend with⟨hin,hend⟩|⟨hin,e1,hend⟩
          ·have hsn:=Gu V r hin
           rw[mq]at hsn
           obtain⟨i1',hi',hz0',hz1',hz2'⟩:=info_parts Tryz.oz
           have HRL:=Sk (Sn (HJ.out.2.1.alloc (.cells #[.int .i64 xid] 3)) (HJ.out.2.2.1.alloc (.cells #[.int .i64 xid] 3)))
           have HIN:=Sk (Sn hin hsn)
           clear hin hsn mq
           rcases hend with e1|⟨e1,rfl,rfl⟩
           all_goals (
            go_wp2_with (at_builtin;refine wpList_append_own_at _ rfl _ _ 39 rfl w3.heap.size 3 i1' _ 1 8 Tryz.lX hi' hz0' hz1' hz2' rfl (by decide) (.slice gv' gn gc') gn _ rfl HRL.out.1 ⟨wr.heap.size,0,none⟩ 1 1 [.int .i64 xid] rfl rfl (ji wr _ _) (by simp[Value.oneCell']) (by unfold maxLen;omega) (by omega) (by simp;omega) ?_;intro lv6 Z6 hown6 dh _ _;have hap:=iU HRL.out.1 HRL.out.2 (by decide) dh;obtain⟨p1,p2,p3,p4⟩:=I6 hap q;have p3':=p3 hlq;have HZ6:=Sk (Sn hown6 (Sn dh (Sn p1 (Sn p2 hap))));clear hown6 dh p1 p2 p3 hap)
            go_roundg (a-(q+1))
            case measure=>have:=HJ.out.1;omega
            case rel =>
             refine⟨q+1,rfl,by omega,by go_num,?_,?_,?_⟩
             ·rw[HIN.out.2,SX,Tp,SY,Hgn.out]
              exact iU HZ6.out.2.2.2.2 HZ6.out.1 (by decide) HZ6.out.2.2.2.1
             ·rw[←j6 fun x _=>I4 HIN.out.1 x]
              exact HZ6.out.2.2.1
             ·have h1:=HJ.out.2.2.2
              have h2:w3.grownBy Z6 (some cb):=Co h1 (((Tz w3.heap.size wr).alloc hsr (.cells #[.int .i64 xid] 3)).trans (cu HZ6.out.2.1 (by simp;omega) fun k e=>(HRL.out.1.lt k e).1))
              exact Cn h2 HZ6.out.2.2.2.1)
          ·have hsn:=IZ V r hin
           have hcn:=Lv (c:=come) hin
           have HIN:=Sk (Sn hsn hcn)
           clear hin hsn hcn mq
           rcases hend with rfl|⟨rfl,rfl⟩
           all_goals (
            go_wp2
            go_roundg (a-(q+1))
            case measure=>have:=HJ.out.1;omega
            case rel=>exact⟨q+1,rfl,by omega,by go_num,by rw[HIN.out.1,Hgn.out];exact HJ.out.2.1,by rw[HIN.out.2];exact HJ.out.2.2.1,HJ.out.2.2.2⟩)
         ·obtain rfl:q=a:=by omega
          have hgR:iQ V r f q=mg V r f:=by
           unfold iQ mg
           rw[hVN]
          have hne:=Lu V r (f:=f) (by rw[hVN];exact hfl)
          have hrg:=HH.out.2.1.grown HH.out.2.2.1 rfl hgb
          obtain⟨i1',hi',hz0',hz1',hz2'⟩:=info_parts Tryz.oP
          have PL:=HH.out.2.1.len
          have HRL:=Sk (Sn (hrg.row.alloc (.cells #[.slice gv' gn gc'] 39)) (Sn hrg (Sn hgr (Sn hcr (Sn hBw (Sn hgR hne))))))
          clear hrg hgr hcr hBw hgR hne hgq hgb hB3 PL
          go_wp2_with (at_builtin;refine wpList_append_own_at _ rfl _ _ 28 rfl w1.heap.size 39 i1' _ 1 24 Tryz.mD hi' hz0' hz1' hz2' rfl (by decide) (.slice gA gl.length gc) gl.length gl rfl HRL.out.1 ⟨wr.heap.size,0,none⟩ 1 1 [.slice gv' gn gc'] rfl rfl (ji wr _ _) (by simp[Value.oneCell']) (by unfold maxLen;omega) (by omega) (by simp;omega) ?_;intro lv6 Z6 hown6 dh _ _;have HZ6:=Sk (Sn hown6 dh);clear hown6 dh)
          go_roundg (q-(p+1))
          case measure=>have:=HH.out.1;omega
          case rel =>
           have hba:RowKit.Below wr.heap.size wr (wr.alloc (.cells #[.slice gv' gn gc'] 39)):=(Tz _ _).alloc (SA _) _
           refine⟨p+1,gl++[.slice gv' gn gc'],done++[mg V r f],fun x=>come x||inR r f x,rfl,by omega,by go_num,?_,by rw[SX,HGL.out];rfl,?_,?_,HF.out⟩
           ·have hv:GrV wr w1.heap.size (.slice gv' gn gc') (iQ V r f q):=GrV.MX (s:=w3.heap.size) (by rw[Hgn.out];exact HRL.out.2.2.1) hs3 (by rw[HRL.out.2.2.2.2.2.1];exact HRL.out.2.2.2.2.2.2)
            rw[HRL.out.2.2.2.2.2.1]at hv
            have h1:=HRL.out.2.1.below hba
            exact h1.push (hv.keep fun k _ _ hk _=>hba.block k (lt_of_block hk)) HZ6.out.1 HZ6.out.2
           ·rw[←j6 fun x hx=>I5 come r f q x hx]
            exact iU HRL.out.1 (HRL.out.2.2.2.1.alloc _) (by decide) HZ6.out.2
           ·have h1:=HRL.out.2.2.2.2.1
            exact h1.trans (((Tz _ _).alloc h1.size (.cells #[.slice gv' gn gc'] 39)).trans (cu HZ6.out.2 (by have:=h1.size;simp;omega) fun k e=>(HRL.out.1.lt k e).1))
    ·obtain rfl:p=i:=by omega
     have HF:=Sk (show done=G by
      rw[Nat.sub_self]at hG
      simpa [ig]using hG)
     have HFin:=Sk (Sn (hrg.mono hWf.size hWf.size) (hWf.trans (hB.mono hWf.size)))
     clear hrg hG hWf hB hbt hcr hg
     go_wp2
     go_ret
     refine⟨_,gl,rfl,?_,HFin.out.2⟩
     rw[←HF.out]
     exact HFin.out.1
end Go.Proofs.Q
