/- strings.SplitSeq at one byte: its iterator's contract -/
import Derived.Test.YtmmecapgnmlaiaaGreatDoorZxa
import Derived.Test.YtmmecapgnmlaiaaGreatDoorRng
import Derived.Shelf.Abstract
import Derived.TacticsInMore
import Derived.LoopNIn
import Derived.LoopIn
import Derived.Lib.IndexBytes
set_option maxRecDepth 100000
set_option maxHeartbeats 16000000
namespace Go.Proofs.Q
open Go.RowKit Go.Proofs Go.Shelf
attribute [local go_sem] Oper.semAt_some oD jR
def jV (c:UInt8):List UInt8→List (List UInt8)
 | []=>[[]]
 | b::r=>if b==c then []::jV c r else match jV c r with|p::ps=>(b::p)::ps|[]=>[[b]]
def dU (c:UInt8)(s:ByteArray):List ByteArray:=(jV c s.data.toList).map fun l=>⟨l.toArray⟩
theorem sV (c:UInt8):∀l:List UInt8,Lib.indexByte l c=-1→jV c l=[l]
 | [],_=>rfl
 | b::r,h=>by
  unfold Lib.indexByte at h
  by_cases hb:b==c
  ·simp[hb]at h
  ·have hr:Lib.indexByte r c=-1:=by
    have:=Lib.indexByte_ge r c
    simp only[hb]at h
    by_cases e:Lib.indexByte r c==-1
    ·simpa using e
    ·simp[e]at h;omega
   unfold jV
   simp[hb,sV c r hr]
theorem sW (c:UInt8):∀(l:List UInt8)(o:Nat),Lib.indexByte l c=o→o<l.length∧jV c l=l.take o::jV c (l.drop (o+1))
 | [],o,h=>by simp[Lib.indexByte]at h
 | b::r,o,h=>by
  unfold Lib.indexByte at h
  by_cases hb:b==c
  ·simp[hb]at h
   obtain rfl:o=0:=by omega
   exact⟨by simp,by simp[jV,hb]⟩
  ·simp only[hb]at h
   by_cases e:Lib.indexByte r c==-1
   ·simp[e]at h
   ·simp[e]at h
    have hg:=Lib.indexByte_ge r c
    have e':Lib.indexByte r c≠-1:=by simpa using e
    obtain⟨o',ho'⟩:∃o':Nat,Lib.indexByte r c=o':=⟨(Lib.indexByte r c).toNat,by omega⟩
    obtain rfl:o=o'+1:=by omega
    obtain⟨h1,h2⟩:=sW c r o' ho'
    refine⟨by simp;omega,?_⟩
    rw[jV,TW hb,h2]
    simp
theorem EI (s:ByteArray)(i:Nat):s.extract 0 i=⟨(s.data.toList.take i).toArray⟩:=by
 apply Go.WideShapes.bytes_inj
 simp[ByteArray.data_extract]
theorem sZ (c:UInt8)(s:ByteArray)(h:Lib.indexByte s.data.toList c=-1):dU c s=[s]:=by
 unfold dU
 rw[sV c _ h]
 simp
theorem tq (c:UInt8)(s:ByteArray)(o:Nat)(h:Lib.indexByte s.data.toList c=o):o<s.size∧dU c s=s.extract 0 o::dU c (s.extract (o+1) s.size):=by
 obtain⟨h1,h2⟩:=sW c _ o h
 have hsz:s.data.toList.length=s.size:=by simp
 refine⟨by omega,?_⟩
 unfold dU
 rw[h2,EI]
 simp only[List.map_cons,List.cons.injEq,true_and]
 congr 2
 simp[ByteArray.data_extract]
 rw[Tm (by simp)]
def EJ:Option Value→Nat
 | some (.string s)=>s.size
 | _=>0
theorem wL (c:UInt8)(s:ByteArray)(sb sp sv:Nat)(w:World)(h1:w.cell? ⟨sb,0,none⟩=some (.string s))(h2:w.cell? ⟨sp,0,none⟩=some (.string ⟨#[c]⟩))(h3:w.cell? ⟨sv,0,none⟩=some (.int .i64 0))
  (hf:w.frozen? ⟨sb,0,none⟩=false)(hd1:sb≠sp)(hd2:sb≠sv)(hsz:s.size≤1000) :
  Iter Tryz.prog 228 #[.pointer (some ⟨sp,0,none⟩),.pointer (some ⟨sb,0,none⟩),.pointer (some ⟨sv,0,none⟩)] (fun p:ByteArray=>#[.string p]) (fun k=>k=sb∨k=sp∨k=sv) 0 (fun _=>True) (dU c s) w:=by
 intro l J Jx W hW hJ hJx _ hY h0
 have k1:=hW.cell (p:=⟨sb,0,none⟩) trivial h1
 have k2:=hW.cell (p:=⟨sp,0,none⟩) trivial h2
 have k3:=hW.cell (p:=⟨sv,0,none⟩) trivial h3
 have kf:W.frozen? ⟨sb,0,none⟩=false:=(hW.frozen (p:=⟨sb,0,none⟩) (SS w ⟨sb,0,none⟩ h1) trivial).trans hf
 have HW:=Sk (Sn hJ (Sn hJx hY))
 clear hJ hJx hY h1 h2 h3 hf hW
 refine callsIn_of_wp Tryz.func228 rfl trivial ?_ rfl
 simp only[Tryz.ntmps228,List.size_toArray,TS,List.length_nil,Nat.reduceAdd,Nat.reduceSub,Array.replicate_succ,Array.replicate_zero,List.push_toArray,List.append_toArray,List.nil_append,TU]
 gi_wp2
 gi_loopw [7,8] (fun i f wr=>∃(pre:List ByteArray) (cur:ByteArray),pre++dU c cur=dU c s∧cur.size≤s.size∧J pre wr∧W.heap.size≤wr.heap.size ∧
   wr.cell? ⟨sb,0,none⟩=some (.string cur)∧wr.cell? ⟨sp,0,none⟩=some (.string ⟨#[c]⟩)∧wr.cell? ⟨sv,0,none⟩=some (.int .i64 0)∧wr.frozen? ⟨sb,0,none⟩=false)
  (fun _ _ wr=>EJ (wr.cell? ⟨sb,0,none⟩))
 case atStart=>exact⟨[],s,rfl,SA _,h0,SA _,k1,k2,k3,kf⟩
 case round =>
  obtain⟨pre,cur,hpc,hcs,hJ,hsz',c1,c2,c3,cf⟩:=hrel
  have HP:=Sk hpc
  clear hpc
  by_cases hi:Lib.indexByte cur.data.toList c=-1
  ·have hpart:=sZ c cur hi
   have hi':Lib.indexByte cur.data.toList c<0:=by omega
   clear hi
   obtain⟨fn,tmps,assign,body,hy,hR⟩:=HW.out.2.2 pre cur wr (by rw[←HP.out,hpart];exact List.prefix_rfl) hJ hsz'
   have HF:=Sk (show pre++[cur]=dU c s by rw[←HP.out,hpart])
   clear hpart
   gi_wp2_with (gi_at_call 230;refine(callsIn_wide.2 (index_one _ _ _)).mono ?_;rintro e w' ⟨rfl,rfl⟩)
   refine hR.mono ?_
   rintro e Y (⟨rfl,hJ',hk⟩|⟨rfl,hJ'⟩)
   ·gi_wp2
    go_end0
    exact⟨⟨_,rfl⟩,.inl (by rw[←HF.out];exact hJ')⟩
   ·gi_wp2
    go_end0
    exact⟨⟨_,rfl⟩,.inr ⟨_,by rw[←HF.out];exact List.prefix_rfl,hJ'⟩⟩
  ·obtain⟨o,ho⟩:∃o:Nat,Lib.indexByte cur.data.toList c=o:=⟨(Lib.indexByte cur.data.toList c).toNat,by have:=Lib.indexByte_ge cur.data.toList c;omega⟩
   obtain⟨hlt,hpart⟩:=tq c cur o ho
   clear hi
   obtain⟨fn,tmps,assign,body,hy,hR⟩:=HW.out.2.2 pre (cur.extract 0 o) wr (by rw[←HP.out,hpart];exact⟨_,by rw[TR];rfl⟩) hJ hsz'
   have HF:=Sk (show (pre++[cur.extract 0 o])++dU c (cur.extract (o+1) cur.size)=dU c s by rw[←HP.out,hpart,TR];rfl)
   clear hpart
   gi_wp2_with (gi_at_call 230;refine(callsIn_wide.2 (index_one _ _ _)).mono ?_;rintro e w' ⟨rfl,rfl⟩;rw[ho])
   refine hR.mono ?_
   rintro e Y (⟨rfl,hJ',hk⟩|⟨rfl,hJ'⟩)
   ·have d1:=hk.cell (p:=⟨sb,0,none⟩) (.inl (.inl rfl)) c1
    have d2:=hk.cell (p:=⟨sp,0,none⟩) (.inl (.inr (.inl rfl))) c2
    have d3:=hk.cell (p:=⟨sv,0,none⟩) (.inl (.inr (.inr rfl))) c3
    have df:Y.frozen? ⟨sb,0,none⟩=false:=(hk.frozen (p:=⟨sb,0,none⟩) (SS wr ⟨sb,0,none⟩ c1) (.inl (.inl rfl))).trans cf
    have hj:=HW.out.1 _ _ _ hJ' ((Keeps.refl _ Y).setCell (p:=⟨sb,0,none⟩) (by simp) (.string (cur.extract (o+1) cur.size)))
    have hs2:=hk.size
    have C1:=Sk (congrArg EJ c1)
    have D1:=Sk (Sn d1 (Sn d2 (Sn d3 df)))
    clear c1 c2 c3 cf hk hJ hR hy
    gi_wp2
    obtain⟨d1,d2,d3,df⟩:=D1.out
    have hsame:(Y.setCell { block:=sb,off:=0 } (Value.string (cur.extract (o+1) cur.size))).cell? ⟨sb,0,none⟩=some (.string (cur.extract (o+1) cur.size)):=World.cell?_setCell_same' _ _ _ (by rw[d1];rfl)
    have hle:(cur.extract (o+1) cur.size).size=cur.size-(o+1):=by simp
    refine⟨⟨_,_,HF.out,by omega,hj,by simp[World.setCell];omega,hsame,?_,?_,?_⟩,?_⟩
    ·exact(Uk _ _ _ _ (fun h=>hd1 (by injection h))).trans d2
    ·exact(Uk _ _ _ _ (fun h=>hd2 (by injection h))).trans d3
    ·rw[World.frozen?_setCell];exact df
    ·rw[hsame,C1.out]
     simp only[EJ]
     omega
   ·gi_wp2
    refine Ua (results_none rfl _ _ _) rfl ?_
    exact⟨⟨_,rfl⟩,.inr ⟨_,⟨_,HF.out⟩,hJ'⟩⟩
end Go.Proofs.Q
namespace Go.Proofs.Q
open Go.RowKit Go.Proofs Go.Shelf
attribute [local go_sem] Oper.semAt_some oD jR
def fV (p:ByteArray):Bool:=decide (p.size≤20)&&iB p
def bN (s:ByteArray):Bool:=decide (s.size≤90)&&(dU 47 s).all fV
theorem Ad (s sep:ByteArray)(w:World):Calls Tryz.prog 119 #[.string s,.string sep] w fun e w' =>
  e=.returned (.func (.func 228) #[] #[.pointer (some ⟨w.heap.size+1,0,none⟩),.pointer (some ⟨w.heap.size,0,none⟩),.pointer (some ⟨w.heap.size+2,0,none⟩)]) ∧
  ((w.alloc (.cells #[.string s] 9)).alloc (.cells #[.string sep] 9)).alloc (.cells #[.int .i64 0] 3)=w':=by
 have hmf:∀(fn:Fn) (first cap:Array Value) (w:World),(Instr.makeFunc fn first cap).run Tryz.prog w=.ok (.func fn first cap) w:=fun _ _ _ _=>rfl
 go_enter Tryz.func119,Tryz.ntmps119
 go_wp2
 go_ret
 exact⟨rfl,rfl⟩
theorem CJ (s:ByteArray)(w:World)(h90:s.size≤90):Calls Tryz.prog 55 #[.string s] w fun e w'=>e=.returned (.bool ((dU 47 s).all fV))∧Below w.heap.size w w':=by
 have e2:decide (90<(s.size:Int))=false:=by simp;omega
 refine(callsIn_wide (n:=0)).1 ?_
 refine callsIn_of_wp_marks Tryz.func55 rfl trivial ?_ rfl
 simp only[Tryz.ntmps55,List.size_toArray,TS,List.length_nil,Nat.reduceAdd,Nat.reduceSub,Array.replicate_succ,Array.replicate_zero,List.push_toArray,List.append_toArray,List.nil_append,TU]
 gi_wp2_with (gi_at_call 119;refine(callsIn_wide.2 (Ad _ _ _)).mono ?_;rintro e w' ⟨rfl,rfl⟩)
 obtain⟨W0,hW0⟩:∃W0,(((w.alloc (.cells #[.bool false] 4)).alloc (.cells #[.string s] 9)).alloc (.cells #[.string ⟨#[47]⟩] 9)).alloc (.cells #[.int .i64 0] 3)=W0:=⟨_,rfl⟩
 have z0:W0.heap.size=w.heap.size+4:=by subst hW0;simp
 have b0:W0.cell? ⟨w.heap.size,0,none⟩=some (.bool false):=by subst hW0;go_simp
 have b1:W0.cell? ⟨w.heap.size+1,0,none⟩=some (.string s):=by subst hW0;go_simp
 have b2:W0.cell? ⟨w.heap.size+1+1,0,none⟩=some (.string ⟨#[47]⟩):=by subst hW0;go_simp
 have b3:W0.cell? ⟨w.heap.size+1+2,0,none⟩=some (.int .i64 0):=by subst hW0;go_simp
 have f0:W0.frozen? ⟨w.heap.size,0,none⟩=false:=by subst hW0;go_simp
 have f1:W0.frozen? ⟨w.heap.size+1,0,none⟩=false:=by subst hW0;go_simp
 have hB0:Below w.heap.size w W0:=by rw[←hW0];exact((((TA _ _).alloc (SA _) _).alloc (by simp) _).alloc (by simp;omega) _).alloc (by simp;omega) _
 rw[hW0]
 clear hW0
 have hit:=wL 47 s (w.heap.size+1) (w.heap.size+1+1) (w.heap.size+1+2) W0 b1 b2 b3 f1 (by omega) (by omega) (by omega)
 refine uM (P:=Tryz.prog) (w0:=W0) (gf:=228) rfl (fun args w=>Tryz.call228 args w) hit (Keeps.refl _ _) (fun _=>rfl) (SC _) (by rintro k (rfl|rfl|rfl) <;> omega)
  (fun pre W=>W.cell? ⟨w.heap.size,0,none⟩=some (.bool false)∧W.frozen? ⟨w.heap.size,0,none⟩=false∧pre.all fV=true∧Below w.heap.size w W)
  (fun c pre W=>c=.ret∧W.cell? ⟨w.heap.size,0,none⟩=some (.bool false)∧(dU 47 s).all fV=false∧Below w.heap.size w W)
  ?EK ?EL (fun _ _ _=>trivial) ⟨b0,f0,rfl,hB0⟩
  (fun x=>{ tmps:=#[.string s,undef,.pointer (some ⟨w.heap.size,0,none⟩),.string x,.string s,.int .i64 s.size,.bool false,.string s,.func (.func 228) #[] #[.pointer (some ⟨w.heap.size+1+1,0,none⟩),.pointer (some ⟨w.heap.size+1,0,none⟩),.pointer (some ⟨w.heap.size+1+2,0,none⟩)],.string x,undef,undef,undef,undef,undef,undef,undef,undef],defers:=[] })
  ?assign ?body ?done ?stop
 case EK =>
  intro pre X Y ⟨h1,h2,h3,h4⟩ hk
  have hl:w.heap.size<X.heap.size:=SS X ⟨w.heap.size,0,none⟩ h1
  refine⟨hk.cell (p:=⟨w.heap.size,0,none⟩) ⟨by simp;omega,by simp;omega⟩ h1,(hk.frozen (p:=⟨w.heap.size,0,none⟩) hl ⟨by simp;omega,by simp;omega⟩).trans h2,h3,h4.trans (hk.dX (by omega) fun k hk=>⟨by omega,by omega⟩)⟩
 case EL =>
  intro c pre X Y ⟨h0,h1,h3,h4⟩ hk
  have hl:w.heap.size<X.heap.size:=SS X ⟨w.heap.size,0,none⟩ h1
  refine⟨h0,hk.cell (p:=⟨w.heap.size,0,none⟩) ⟨by simp;omega,by simp;omega⟩ h1,h3,h4.trans (hk.dX (by omega) fun k hk=>⟨by omega,by omega⟩)⟩
 case assign =>
  intro l x W K hK
  gi_wp2
  exact hK
 case body =>
  rintro l pre x W hpre ⟨h1,h2,h3,h4⟩ hsz
  have stop:fV x=false→(dU 47 s).all fV=false:=by
   intro h
   obtain⟨r,hr⟩:=hpre
   rw[←hr,List.all_append,List.all_append]
   simp[h]
  have goes:fV x=true→(pre++[x]).all fV=true:=fun h=>by simp[List.all_append,h3,h]
  have HH:=Sk (Sn stop (Sn goes h3))
  have HS:=Sk h4
  clear stop goes h3 hpre hit b0 b1 b2 b3 f0 f1 hB0 h4
  by_cases h20:20<x.size
  ·have hd:decide (20<(x.size:Int))=true:=by simp;omega
   have hp:=Sk (HH.out.1 (by simp[fV];omega))
   gi_wp2
   exact⟨(Keeps.refl _ _).setCell (by simp;omega) _,rfl,World.cell?_setCell_same' _ _ _ (by rw[h1];rfl),hp.out,HS.out.setCell (SA _) _⟩
  ·have hd:decide (20<(x.size:Int))=false:=by simp;omega
   by_cases hw:iB x=true
   ·have hp:=Sk (HH.out.2.1 (by simp[fV,hw];omega))
    gi_wp2_with (gi_at_call 120;refine(CallsIn.inRound l (callsIn_wide.2 (uh _ _))).mono ?_;rintro e w' ⟨rfl,hb⟩)
    exact⟨Keeps.whole hb _,(hb.cell (p:=⟨w.heap.size,0,none⟩) (by simp;omega)).trans h1,(hb.frozen (p:=⟨w.heap.size,0,none⟩) (by simp;omega)).trans h2,hp.out,HS.out.trans (hb.mono (by omega))⟩
   ·have hw':iB x=false:=by simpa using hw
    have hp:=Sk (HH.out.1 (by simp[fV,hw']))
    clear hw
    gi_wp2_with (gi_at_call 120;refine(CallsIn.inRound l (callsIn_wide.2 (uh _ _))).mono ?_;rintro e w' ⟨rfl,hb⟩;have k1:=(hb.cell (p:=⟨w.heap.size,0,none⟩) (by simp;omega)).trans h1;have k2:=(hb.frozen (p:=⟨w.heap.size,0,none⟩) (by simp;omega)).trans h2)
    exact⟨(Keeps.whole hb _).setCell (by simp;omega) _,rfl,World.cell?_setCell_same' _ _ _ (by rw[k1];rfl),hp.out,(HS.out.trans (hb.mono (by omega))).setCell (SA _) _⟩
 case done =>
  rintro D W hD ⟨h1,h2,h3,h4⟩ hK
  have H3:=Sk h3
  clear h3
  gi_wp2
  have hs:(W.setCell ⟨w.heap.size,0,none⟩ (.bool true)).cell? ⟨w.heap.size,0,none⟩=some (.bool true):=World.cell?_setCell_same' _ _ _ (by rw[h1];rfl)
  have hK':(W.setCell ⟨w.heap.size,0,none⟩ (.bool true)).heap[D]?=some (.deferred (some [])):=(Tx _ _ _ _ (by simp;omega)).trans hK
  have hc:=gI (o':=.deferred none) hK' rfl hs
  refine mE (v:=.bool true) hK' ?_ ⟨by rw[H3.out],fT (h4.setCell (SA _) _) (by omega) _⟩
  simp[results,Tryz.results55,go_sem,hc]
 case stop =>
  rintro D c pre W hD hpre ⟨rfl,h1,h3,h4⟩ hK
  have H3:=Sk h3
  clear h3
  gi_wp2
  have hc:=gI (o':=.deferred none) hK rfl h1
  refine mE (v:=.bool false) hK ?_ ⟨by rw[H3.out],fT h4 (by omega) _⟩
  simp[results,Tryz.results55,go_sem,hc]
theorem dQ (s:ByteArray)(w:World):Calls Tryz.prog 55 #[.string s] w fun e w'=>e=.returned (.bool (bN s))∧Below w.heap.size w w':=by
 by_cases h90:s.size≤90
 ·exact(CJ s w h90).mono fun e w' ⟨h1,h2⟩=>⟨by simp[h1,bN,h90],h2⟩
 ·have e2:decide (90<(s.size:Int))=true:=by simp;omega
  have e3:=Sk (show bN s=false by simp[bN,h90])
  go_enter Tryz.func55,Tryz.ntmps55
  go_wp2
  refine Ua (v:=.bool false) (by simp[results,Tryz.results55,go_sem]) rfl ⟨by rw[e3.out],?_⟩
  exact(TA _ _).alloc (SA _) _
end Go.Proofs.Q
namespace Go.Proofs.Q
open Go.RowKit Go.Proofs
def reserved:List (List UInt8):=[[99,97,115,101],[99,104,97,110,99,101],[99,111,110,102,108,105,99,116],[101,108,115,101],[102,97,108,115,101],[102,108,97,107,121],[102,117,110],[105,102],[105,110],
 [108,101,116],[110,105,108],[111,102],[112,117,98],[116,101,115,116],[116,104,101,110],[116,114,117,101],[117,115,101]]
def Ae (l:List UInt8):Bool:=reserved.any fun r=>l==r
def aT (s:ByteArray):Bool:=!Ae s.toList&&iB s
theorem eX (s:ByteArray)(w:World):Calls Tryz.prog 231 #[.string s] w fun e w'=>e=.returned (.bool (aT s))∧Below w.heap.size w w':=by
 go_enter Tryz.func231,Tryz.ntmps231
 go_wp2_with (go_at_call 120;refine(uh _ _).mono ?_;rintro e w' ⟨rfl,hb⟩)
 all_goals go_ret
 all_goals first
  | (exfalso;simp_all;done)
  | (refine⟨?_,TA _ _⟩;simp[aT,Ae,reserved, *];done)
  | (refine⟨?_,by assumption⟩;simp[aT,Ae,reserved, *];done)
def opB (n:ByteArray):Bool:=decide (n.size=1)&&decide (0≤Lib.indexByte [43,45,42,61,60] (n.data.toList.headD 0))
def nmB (k:Int)(n:ByteArray)(names:Int):Bool:=
 if k=5 then n.toList.isEmpty||bN n else if k=10 then opB n else if 1≤names then aT n else true
def ah (k:Int)(n m:ByteArray)(names:Int):Int:=
 if nmB k n names=false∨(names=2∧aT m=false)then 6 else if k=13∧(n.toList==m.toList)=true then 7 else 0
theorem ay {w:World}{o:Obj}{w1:World}(h:Below (w.alloc o).heap.size (w.alloc o) w1):Below w.heap.size w w1∧w.heap.size<w1.heap.size:=
 ⟨((TA _ _).alloc (SA _) o).trans (h.mono (by simp)),by have:=h.size;simp at this;omega⟩
theorem fF (k:Int)(hk:k=1∨k=2∨k=7∨k=12∨k=9∨k=15∨k=11∨k=14)(n m:ByteArray)(i d:Int)(v:Value)(w:World):Calls Tryz.prog 234 #[.agg #[.int .i64 k,.string n,.string m,.int .i64 i,.int .i64 d,v],.int .i64 0] w fun e w' =>
  e=.returned (.int .i64 (ah k n m 0))∧Below w.heap.size w w':=by
 have HB:=Sk (fun o=>(TA w.heap.size w).alloc (SA _) o)
 have iO:True:=trivial
 rcases hk with rfl|rfl|rfl|rfl|rfl|rfl|rfl|rfl
 all_goals
  go_enter Tryz.func234,Tryz.ntmps234
  go_wp2_with (first|(go_at_call 55;refine(dQ _ _).mono ?_;rintro e w1 ⟨rfl,hb1⟩;obtain⟨hc1,hf1⟩:=aN hb1;obtain⟨hB1,hz1⟩:=ay hb1)|(go_at_call 260;refine(contains_one _ _ _).mono ?_;rintro e w1 ⟨rfl,rfl⟩)|(go_at_call 231;have _t:=iO;refine(eX _ _).mono ?_;rintro e w1 ⟨rfl,hb1⟩;obtain⟨hc1,hf1⟩:=aN hb1;obtain⟨hB1,hz1⟩:=ay hb1;clear iO _t)|(go_at_call 231;refine(eX _ _).mono ?_;rintro e w2 ⟨rfl,hb2⟩;obtain⟨hc2,hf2⟩:=aN hb2;have hB2:=hB1.trans (hb2.mono (by omega))))
  go_ret
  refine⟨gB ?_,by first|exact HB.out _|exact hB2|exact hB1⟩
  simp[ah,nmB]
theorem mO (k:Int)(hk:k=3∨k=6∨k=8)(n m:ByteArray)(i d:Int)(v:Value)(w:World):Calls Tryz.prog 234 #[.agg #[.int .i64 k,.string n,.string m,.int .i64 i,.int .i64 d,v],.int .i64 1] w fun e w' =>
  e=.returned (.int .i64 (ah k n m 1))∧Below w.heap.size w w':=by
 have HB:=Sk (fun o=>(TA w.heap.size w).alloc (SA _) o)
 have iO:True:=trivial
 rcases hk with rfl|rfl|rfl <;> cases h1:aT n
 all_goals
  go_enter Tryz.func234,Tryz.ntmps234
  go_wp2_with (first|(go_at_call 55;refine(dQ _ _).mono ?_;rintro e w1 ⟨rfl,hb1⟩;obtain⟨hc1,hf1⟩:=aN hb1;obtain⟨hB1,hz1⟩:=ay hb1)|(go_at_call 260;refine(contains_one _ _ _).mono ?_;rintro e w1 ⟨rfl,rfl⟩)|(go_at_call 231;have _t:=iO;refine(eX _ _).mono ?_;rintro e w1 ⟨rfl,hb1⟩;obtain⟨hc1,hf1⟩:=aN hb1;obtain⟨hB1,hz1⟩:=ay hb1;clear iO _t)|(go_at_call 231;refine(eX _ _).mono ?_;rintro e w2 ⟨rfl,hb2⟩;obtain⟨hc2,hf2⟩:=aN hb2;have hB2:=hB1.trans (hb2.mono (by omega))))
  go_ret
  refine⟨gB ?_,by first|exact HB.out _|exact hB2|exact hB1⟩
  simp[ah,nmB,h1]
theorem qM (k:Int)(hk:k=4∨k=13)(n m:ByteArray)(i d:Int)(v:Value)(w:World):Calls Tryz.prog 234 #[.agg #[.int .i64 k,.string n,.string m,.int .i64 i,.int .i64 d,v],.int .i64 2] w fun e w' =>
  e=.returned (.int .i64 (ah k n m 2))∧Below w.heap.size w w':=by
 have HB:=Sk (fun o=>(TA w.heap.size w).alloc (SA _) o)
 have iO:True:=trivial
 have key:aT n=false∨(aT n=true∧aT m=false)∨(aT n=true∧aT m=true∧(n.toList==m.toList)=false)∨(aT n=true∧aT m=true∧(n.toList==m.toList)=true):=by
  cases aT n <;> cases aT m <;> cases n.toList==m.toList <;> simp
 rcases hk with rfl|rfl <;> rcases key with h1|⟨h1,h2⟩|⟨h1,h2,h3⟩|⟨h1,h2,h3⟩
 all_goals
  go_enter Tryz.func234,Tryz.ntmps234
  go_wp2_with (first|(go_at_call 55;refine(dQ _ _).mono ?_;rintro e w1 ⟨rfl,hb1⟩;obtain⟨hc1,hf1⟩:=aN hb1;obtain⟨hB1,hz1⟩:=ay hb1)|(go_at_call 260;refine(contains_one _ _ _).mono ?_;rintro e w1 ⟨rfl,rfl⟩)|(go_at_call 231;have _t:=iO;refine(eX _ _).mono ?_;rintro e w1 ⟨rfl,hb1⟩;obtain⟨hc1,hf1⟩:=aN hb1;obtain⟨hB1,hz1⟩:=ay hb1;clear iO _t)|(go_at_call 231;refine(eX _ _).mono ?_;rintro e w2 ⟨rfl,hb2⟩;obtain⟨hc2,hf2⟩:=aN hb2;have hB2:=hB1.trans (hb2.mono (by omega))))
  go_ret
  refine⟨gB ?_,by first|exact HB.out _|exact hB2|exact hB1⟩
  first|(simp[ah,nmB,h1];done)|(simp[ah,nmB,h1,h2];done)|(simp[ah,nmB,h1,h2,h3];done)
theorem Af (n m:ByteArray)(i d:Int)(v:Value)(w:World):Calls Tryz.prog 234 #[.agg #[.int .i64 5,.string n,.string m,.int .i64 i,.int .i64 d,v],.int .i64 1] w fun e w' =>
  e=.returned (.int .i64 (ah 5 n m 1))∧Below w.heap.size w w':=by
 have HB:=Sk (fun o=>(TA w.heap.size w).alloc (SA _) o)
 have iO:True:=trivial
 by_cases h0:n.toList=[]
 ·go_enter Tryz.func234,Tryz.ntmps234
  go_wp2_with (first|(go_at_call 55;refine(dQ _ _).mono ?_;rintro e w1 ⟨rfl,hb1⟩;obtain⟨hc1,hf1⟩:=aN hb1;obtain⟨hB1,hz1⟩:=ay hb1)|(go_at_call 260;refine(contains_one _ _ _).mono ?_;rintro e w1 ⟨rfl,rfl⟩)|(go_at_call 231;have _t:=iO;refine(eX _ _).mono ?_;rintro e w1 ⟨rfl,hb1⟩;obtain⟨hc1,hf1⟩:=aN hb1;obtain⟨hB1,hz1⟩:=ay hb1;clear iO _t)|(go_at_call 231;refine(eX _ _).mono ?_;rintro e w2 ⟨rfl,hb2⟩;obtain⟨hc2,hf2⟩:=aN hb2;have hB2:=hB1.trans (hb2.mono (by omega))))
  go_ret
  refine⟨gB ?_,by first|exact HB.out _|exact hB2|exact hB1⟩
  simp[ah,nmB,h0]
 ·have h1:n.toList.isEmpty=false:=by simpa using h0
  have h2:(n.toList==[])=false:=by simpa using h0
  cases h3:bN n
  all_goals
   go_enter Tryz.func234,Tryz.ntmps234
   go_wp2_with (first|(go_at_call 55;refine(dQ _ _).mono ?_;rintro e w1 ⟨rfl,hb1⟩;obtain⟨hc1,hf1⟩:=aN hb1;obtain⟨hB1,hz1⟩:=ay hb1)|(go_at_call 260;refine(contains_one _ _ _).mono ?_;rintro e w1 ⟨rfl,rfl⟩)|(go_at_call 231;have _t:=iO;refine(eX _ _).mono ?_;rintro e w1 ⟨rfl,hb1⟩;obtain⟨hc1,hf1⟩:=aN hb1;obtain⟨hB1,hz1⟩:=ay hb1;clear iO _t)|(go_at_call 231;refine(eX _ _).mono ?_;rintro e w2 ⟨rfl,hb2⟩;obtain⟨hc2,hf2⟩:=aN hb2;have hB2:=hB1.trans (hb2.mono (by omega))))
   go_ret
   refine⟨gB ?_,by first|exact HB.out _|exact hB2|exact hB1⟩
   simp[ah,nmB,h0,h3]
theorem yO (n m:ByteArray)(i d:Int)(v:Value)(w:World):Calls Tryz.prog 234 #[.agg #[.int .i64 10,.string n,.string m,.int .i64 i,.int .i64 d,v],.int .i64 1] w fun e w' =>
  e=.returned (.int .i64 (ah 10 n m 1))∧Below w.heap.size w w':=by
 have HB:=Sk (fun o=>(TA w.heap.size w).alloc (SA _) o)
 have iO:True:=trivial
 by_cases h0:n.size=1
 ·obtain⟨c,rfl⟩:=Jk h0
  clear h0
  by_cases h1:0≤Lib.indexByte [43,45,42,61,60] c
  ·have h2:decide (0≤Lib.indexByte [43,45,42,61,60] c)=true:=by simpa using h1
   go_enter Tryz.func234,Tryz.ntmps234
   go_wp2_with (first|(go_at_call 55;refine(dQ _ _).mono ?_;rintro e w1 ⟨rfl,hb1⟩;obtain⟨hc1,hf1⟩:=aN hb1;obtain⟨hB1,hz1⟩:=ay hb1)|(go_at_call 260;refine(contains_one _ _ _).mono ?_;rintro e w1 ⟨rfl,rfl⟩)|(go_at_call 231;have _t:=iO;refine(eX _ _).mono ?_;rintro e w1 ⟨rfl,hb1⟩;obtain⟨hc1,hf1⟩:=aN hb1;obtain⟨hB1,hz1⟩:=ay hb1;clear iO _t)|(go_at_call 231;refine(eX _ _).mono ?_;rintro e w2 ⟨rfl,hb2⟩;obtain⟨hc2,hf2⟩:=aN hb2;have hB2:=hB1.trans (hb2.mono (by omega))))
   go_ret
   refine⟨gB ?_,by first|exact HB.out _|exact hB2|exact hB1⟩
   simp[ah,nmB,opB,h1,ByteArray.size]
  ·have h2:decide (0≤Lib.indexByte [43,45,42,61,60] c)=false:=by simpa using h1
   go_enter Tryz.func234,Tryz.ntmps234
   go_wp2_with (first|(go_at_call 55;refine(dQ _ _).mono ?_;rintro e w1 ⟨rfl,hb1⟩;obtain⟨hc1,hf1⟩:=aN hb1;obtain⟨hB1,hz1⟩:=ay hb1)|(go_at_call 260;refine(contains_one _ _ _).mono ?_;rintro e w1 ⟨rfl,rfl⟩)|(go_at_call 231;have _t:=iO;refine(eX _ _).mono ?_;rintro e w1 ⟨rfl,hb1⟩;obtain⟨hc1,hf1⟩:=aN hb1;obtain⟨hB1,hz1⟩:=ay hb1;clear iO _t)|(go_at_call 231;refine(eX _ _).mono ?_;rintro e w2 ⟨rfl,hb2⟩;obtain⟨hc2,hf2⟩:=aN hb2;have hB2:=hB1.trans (hb2.mono (by omega))))
   go_ret
   refine⟨gB ?_,by first|exact HB.out _|exact hB2|exact hB1⟩
   simp[ah,nmB,opB,h2,ByteArray.size]
 ·have h1:((n.size:Int)==1)=false:=by simp;omega
  have H0:=Sk h0
  clear h0
  go_enter Tryz.func234,Tryz.ntmps234
  go_wp2
  go_ret
  refine⟨gB ?_,HB.out _⟩
  simp[ah,nmB,opB,H0.out]
theorem bI (k a b c:Int)(n m:ByteArray)(i d:Int)(v:Value)(w:World)(hk:bB k=(a,b,c,true)):Calls Tryz.prog 234 #[.agg #[.int .i64 k,.string n,.string m,.int .i64 i,.int .i64 d,v],.int .i64 a] w fun e w' =>
  e=.returned (.int .i64 (ah k n m a))∧Below w.heap.size w w':=by
 by_cases h:eU k
 ·unfold eU at h
  rcases h with rfl|rfl|rfl|rfl|rfl|rfl|rfl|rfl|rfl|rfl|rfl|rfl|rfl|rfl|rfl
  all_goals
   simp only[bB,Int.reduceEq,if_true,if_false,Prod.mk.injEq]at hk
   obtain⟨rfl,rfl,rfl,_⟩:=hk
  ·exact fF 1 (by simp) n m i d v w
  ·exact fF 2 (by simp) n m i d v w
  ·exact mO 3 (by simp) n m i d v w
  ·exact qM 4 (by simp) n m i d v w
  ·exact Af n m i d v w
  ·exact mO 6 (by simp) n m i d v w
  ·exact fF 7 (by simp) n m i d v w
  ·exact fF 12 (by simp) n m i d v w
  ·exact mO 8 (by simp) n m i d v w
  ·exact yO n m i d v w
  ·exact fF 9 (by simp) n m i d v w
  ·exact fF 15 (by simp) n m i d v w
  ·exact fF 11 (by simp) n m i d v w
  ·exact qM 13 (by simp) n m i d v w
  ·exact fF 14 (by simp) n m i d v w
 ·rw[iZ h]at hk
  simp at hk
end Go.Proofs.Q
