/- syntax.addFree: a node that binds nothing -/
import Derived.Test.YtmmecapgnmlaiaaGreatDoorZxb
import Derived.Deep.RegionHeld3
import Derived.Deep.AppendLies
set_option maxRecDepth 100000
set_option maxHeartbeats 16000000
namespace Go.Proofs.Q
open Go.RowKit Go.Proofs Go.Shelf
theorem sU {w:World}{b:Nat}{es:Array MapEntry}{cl:Nat}(h:w.heap[b]?=some (.map es cl))(p:Addr)(hp:p.block=b):w.cell? p=none:=by
 subst hp
 simp[World.cell?,h]
theorem aW.cell {w w':World}{b q q':Nat}{fb fb':Bool}(h:aW w b q fb)(h':aW w' b q' fb')(hk:Keeps (fun k=>k≠b) w w')(p:Addr)(hp:p.block<w.heap.size):w'.cell? p=w.cell? p:=by
 by_cases hb:p.block=b
 ·obtain⟨_,_,⟨_,_,h,_⟩,_⟩:=h
  obtain⟨_,_,⟨_,_,h',_⟩,_⟩:=h'
  rw[sU h p hb,sU h' p hb]
 ·exact SN (hk.block p.block hp hb)
theorem LM (s:Fo)(ih:s.All mM)(k:Int)(n m:ByteArray)(i d:Int)(A:Option Addr)(c:Nat)(bd:List ByteArray)(B:Option Addr)(cB b q:Nat)(fb:Bool)(w:World)
  (h3:(k==3)=false)(h6:(k==6)=false)(h8:(k==8)=false)(h13:(k==13)=false)
  (hs:s.Sl w w.heap.size A c)(hv:s.Vld)(hB:SlS w w.heap.size B cB bd)(hBn:B=none→cB=0)(hF:aW w b q fb)(hq:q+1+s.count≤1000000)(hbd:bd.length+2*(1+s.count)≤1000000) :
  Calls Tryz.prog 175 #[.agg #[.int .i64 k,.string n,.string m,.int .i64 i,.int .i64 d,.slice A s.len c],.slice B bd.length cB,.map (some b)] w fun e w' =>
   (∃v,e=.returned v)∧aW w' b (q+1+s.count) (fb||aB k n m s bd)∧Keeps (fun k=>k≠b) w w':=by
 obtain⟨E,HE⟩:∃E,Hid (E=(fb||aB k n m s bd)):=⟨_,rfl⟩
 rw[←HE.out]
 have hbn:∀j,dG k n m j=[]:=by
  intro j
  have h6':¬k=6:=by simpa using h6
  have h8':¬k=8:=by simpa using h8
  have Qb:¬k=13:=by simpa using h13
  simp[dG,h6',h8',Qb]
 have HE1:=Sk (HE.out.trans (show (fb||aB k n m s bd)=(fb||s.free (fun _=>bd) 0) by
  have h3':¬k=3:=by simpa using h3
  simp only[aB,TW h3',hbn,TV]))
 clear hbn HE
 have hlt:=hF.lt
 have hcap:s.len≤9223372036854775807:=by have:=hs.1;have:=hs.2.1;unfold maxLen at this;omega
 obtain⟨W0,hW0⟩:∃W0,w.alloc (.cells #[.int .i64 k,.string n,.string m,.int .i64 i,.int .i64 d,.slice A s.len c] 44)=W0:=⟨_,rfl⟩
 have hz0:W0.heap.size=w.heap.size+1:=by subst hW0;simp
 have hx0:W0.cell? ⟨w.heap.size,0,none⟩=some (.int .i64 k):=by subst hW0;go_simp
 have hx5:W0.cell? ⟨w.heap.size,5,none⟩=some (.slice A s.len c):=by subst hW0;go_simp
 have hk0:Keeps (fun _=>True) w W0:=by subst hW0;exact(Keeps.refl _ w).alloc _
 have hcell0:∀p:Addr,p.block<w.heap.size→W0.cell? p=w.cell? p:=fun p hp=>SN (hk0.block p.block hp trivial)
 have hS0:=Sk (hB.keep (w':=W0) (B':=w.heap.size) (SA _) hcell0)
 have hs0:=Sk (hs.keep (w':=W0) (B':=w.heap.size) (SA _) hcell0)
 have HF0:=Sk (hF.keep (hk0.block b hlt trivial))
 have HK0:=Sk (hk0.mono (T:=fun k=>k≠b) fun _ _=>trivial)
 have IH:=Sk (Sn ih (Sn hv hBn))
 clear hk0 hF hB hcell0 ih hv hs hBn
 go_enter Tryz.func175,Tryz.ntmps175
 go_wp2
 clear hW0
 go_loopg [7,88] s.len (fun g _ ct wr=>∃(j:Nat) (r:Fo) (fb':Bool),g=r.len∧j+r.len=s.len∧ct=.int .i64 j∧r.All mM∧r.Vld∧r.count≤s.count ∧
  (r≠.nil→∃b' o',A=some ⟨b',o',none⟩∧b'<w.heap.size∧r.At W0 w.heap.size b' (o'+j*6))∧aW wr b (q+(s.count-r.count)) fb'∧E=(fb'||r.free (fun _=>bd) j)∧Keeps (fun k=>k≠b) W0 wr)
 case atStart =>
  refine⟨0,s,fb,rfl,by omega,rfl,IH.out.1,IH.out.2.1,SA _,fun hne=>?_,HF0.out.mono (by omega),HE1.out,Keeps.refl _ _⟩
  obtain⟨b',o',e,hb',h⟩:=hs0.out.2.2 hne
  exact⟨b',o',e,hb',by rw[Nat.zero_mul,Nat.add_zero];exact h⟩
 case round =>
  obtain⟨j,r,fb',HG,hjr,rfl,HA,HV,hrc,HAt,HF,HEE,HK⟩:=hrel
  have HG':=Sk (Sn HG (Sn HEE (Sn HF HK)))
  clear HG HEE
  have hz:=HK.size
  have hblt:=HF.lt
  have hcl:=HF0.out.cell HF HK
  cases r with
  | nil =>
   have gJ:s.len≤j:=by simp only[Fo.len]at hjr;omega
   have nT:j≤s.len:=by simp only[Fo.len]at hjr;omega
   clear hjr HA HV HAt HF HK hcl
   go_wp2
   go_end0
   refine⟨⟨_,rfl⟩,?_,HK0.out.trans HG'.out.2.2.2⟩
   rw[HG'.out.2.1]
   simpa [Fo.free]using HG'.out.2.2.1.mono (q':=q+1+s.count) (by omega)
  | cons rk rn rm ri rd A' c' rs rr =>
   have gJ:j<s.len:=by simp only[Fo.len]at hjr;omega
   obtain⟨b',o',rfl,hb',hat⟩:=HAt (by simp)
   obtain⟨h0,h1,h2,h3',h4,⟨h5,hc',hm',hs'⟩,hr'⟩:=hat
   have t0:=(hcl ⟨b',o'+j*6,none⟩ (by simp;omega)).trans h0
   have t1:=(hcl ⟨b',o'+j*6+1,none⟩ (by simp;omega)).trans h1
   have t2:=(hcl ⟨b',o'+j*6+2,none⟩ (by simp;omega)).trans h2
   have t3:=(hcl ⟨b',o'+j*6+3,none⟩ (by simp;omega)).trans h3'
   have t4:=(hcl ⟨b',o'+j*6+4,none⟩ (by simp;omega)).trans h4
   have t5:=(hcl ⟨b',o'+j*6+5,none⟩ (by simp;omega)).trans h5
   obtain⟨W1,hW1⟩:∃W1,wr.alloc (.cells #[.int .i64 rk,.string rn,.string rm,.int .i64 ri,.int .i64 rd,.slice A' rs.len c'] 44)=W1:=⟨_,rfl⟩
   have hk1:Keeps (fun _=>True) wr W1:=by subst hW1;exact(Keeps.refl _ wr).alloc _
   have hz1:W1.heap.size=wr.heap.size+1:=by subst hW1;simp
   have hy0:W1.cell? ⟨wr.heap.size,0,none⟩=some (.int .i64 rk):=by subst hW1;go_simp
   have hy1:W1.cell? ⟨wr.heap.size,1,none⟩=some (.string rn):=by subst hW1;go_simp
   have hy2:W1.cell? ⟨wr.heap.size,2,none⟩=some (.string rm):=by subst hW1;go_simp
   have hy3:W1.cell? ⟨wr.heap.size,3,none⟩=some (.int .i64 ri):=by subst hW1;go_simp
   have hy4:W1.cell? ⟨wr.heap.size,4,none⟩=some (.int .i64 rd):=by subst hW1;go_simp
   have hy5:W1.cell? ⟨wr.heap.size,5,none⟩=some (.slice A' rs.len c'):=by subst hW1;go_simp
   have Jy:∀p:Addr,p.block<w.heap.size→W1.cell? p=W0.cell? p:=fun p hp=>(SN (hk1.block p.block (by omega) trivial)).trans (hcl p (by omega))
   have HF1:=HF.keep (hk1.block b hblt trivial)
   simp only[Fo.count]at hrc
   have HC:=Sk (HA.1 rk rn rm ri rd A' c' bd B cB b (q+(s.count-(Fo.cons rk rn rm ri rd A' c' rs rr).count)) fb' W1
    (Fo.Sl.keep (w:=W0) (B:=w.heap.size) ⟨hc',hm',hs'⟩ (by omega) Jy) HV.1 HV.2.1 (hS0.out.keep (by omega) Jy) IH.out.2.2 HF1 (by simp only[Fo.count];omega) (by omega))
   have HK1:=Sk ((HK.trans (hk1.mono fun _ _=>trivial)))
   have HN:=Sk (Sn HA.2 (Sn HV.2.2 hr'))
   clear h0 h1 h2 h3' h4 h5 hs' hr' HA HV HAt hcl Jy HF HF1 HK hk1
   go_wp2_with fail
   refine HC.out.mono ?_
   rintro e w2 ⟨⟨v,rfl⟩,hF2,hK2⟩
   go_wp2
   go_roundg rr.len
   case measure=>rw[HG'.out.1];simp[Fo.len]
   case rel =>
    refine⟨j+1,rr,_,rfl,by simp only[Fo.len]at hjr;omega,by go_num,HN.out.1,HN.out.2.1,by omega,fun _=>⟨b',o',rfl,hb',?_⟩,hF2.mono (by simp only[Fo.count];omega),?_,HK1.out.trans hK2⟩
    ·rw[show o'+(j+1)*6=o'+j*6+6 by omega];exact HN.out.2.2
    ·rw[HG'.out.2.1,Fo.kS,Bool.or_assoc]
def FrW (W0:World)(b:Nat)(W:World):Prop:=Keeps (fun k=>k≠b) W0 W∧∃q fb,aW W b q fb
section
variable {W0 W W':World} {b q:Nat} {fb:Bool}
theorem FrW.start (h:aW W b q fb)(hk:Keeps (fun k=>k≠b) W0 W):FrW W0 b W:=⟨hk,_,_,h⟩
theorem FrW.cell (h0:aW W0 b q fb)(h:FrW W0 b W)(p:Addr)(hp:p.block<W0.heap.size):W.cell? p=W0.cell? p:=by
 obtain⟨hk,_,_,hf⟩:=h
 exact h0.cell hf hk p hp
theorem FrW.alloc (h:FrW W0 b W)(o:Obj):FrW W0 b (W.alloc o):=by
 obtain⟨hk,_,_,hf⟩:=h
 exact⟨hk.alloc o,_,_,hf.keep (Tt _ _ _ hf.lt)⟩
theorem FrW.sls (h0:aW W0 b q fb)(h:FrW W0 b W){N cB:Nat}{B:Option Addr}{l:List ByteArray}(hs:SlS W0 N B cB l)(hN:N≤W0.heap.size):SlS W W.heap.size B cB l:=
 hs.keep (SE hN h.1.size) fun p hp=>h.cell h0 p (by omega)
theorem FrW.sl (h0:aW W0 b q fb)(h:FrW W0 b W){N c:Nat}{A:Option Addr}{s:Fo}(hs:s.Sl W0 N A c)(hN:N≤W0.heap.size):s.Sl W W.heap.size A c:=
 hs.keep (SE hN h.1.size) fun p hp=>h.cell h0 p (by omega)
theorem aW.alloc (h:aW W b q fb)(o:Obj):aW (W.alloc o) b q fb:=h.keep (Tt _ _ _ h.lt)
theorem aW.below (h:aW W b q fb)(hb:Below W.heap.size W W'):aW W' b q fb:=h.keep (hb.block b h.lt)
theorem aW.drew (h:aW W b q fb):aW W.drew b q fb:=h
theorem Keeps.uq (h:Keeps (fun k=>k≠b) W0 W)(hb:Below W.heap.size W W'):Keeps (fun k=>k≠b) W0 W':=h.trans (Keeps.whole hb _)
theorem wJ {base n cap g:Nat}{l:List ByteArray}(h:W.ownsRow base 9 1 (.slice (some ⟨g,0,none⟩) n cap) n (l.map Value.string))(hn:l.length=n):SlS W W.heap.size (some ⟨g,0,none⟩) cap l:=by
 subst hn
 have hlt:=(h.lt g rfl).2
 have hcap:l.length≤cap∧cap≤maxLen:=by
  rcases h.2 with⟨h,_⟩|⟨g',cap',cur,h,_,_,hle,hmx,_⟩
  ·cases h
  ·cases h;exact⟨hle,hmx⟩
 refine⟨hcap.1,hcap.2,fun _=>⟨g,0,rfl,hlt,fun j s hj=>?_⟩⟩
 have hjl:j<l.length:=(Sy.1 hj).1
 rw[Nat.zero_add,h.cellAt j (by omega),Tk,hj]
 rfl
theorem jM {base n:Nat}{v:Value}{xs:List Value}(hk:Keeps (fun k=>k≠b) W0 W)(hF:aW W b q fb)(ho:W.ownsRow base 9 1 v n xs)(hb:b<W0.heap.size)(hbase:W0.heap.size≤base)(hg:W.grownBy W' v.ownBlock) :
  Keeps (fun k=>k≠b) W0 W'∧aW W' b q fb:=by
 have hne:∀k,v.ownBlock=some k→k≠b:=fun k hk e=>by have:=(ho.lt k hk).1;omega
 refine⟨?_,hF.keep (hg.block b hF.lt fun e=>hne b e.symm rfl)⟩
 refine⟨hg.os.trans hk.os,hg.tape.trans hk.tape,hg.output.trans hk.output,SE hk.size hg.size,fun k hlt hkb=>?_⟩
 by_cases e:v.ownBlock=some k
 ·have:=(ho.lt k e).1
  omega
 ·exact(hg.block k (SB hlt hk.size) fun h=>e h.symm).trans (hk.block k hlt hkb)
end
theorem Np (tk:Int)(tn tm:ByteArray)(ti td:Int)(tA:Option Addr)(tc:Nat)(ts:Fo)(ih:mM ts)(n m:ByteArray)(i d:Int)(A:Option Addr)(c:Nat)(bd:List ByteArray)(B:Option Addr)(cB b q:Nat)(fb:Bool)(w:World)
  (hs:(Fo.cons tk tn tm ti td tA tc ts .nil).Sl w w.heap.size A c)(hv:(Fo.cons tk tn tm ti td tA tc ts .nil).Vld)(hB:SlS w w.heap.size B cB bd)(hBn:B=none→cB=0)(hF:aW w b q fb)(hq:q+1+(ts.count+1)≤1000000)(hbd:bd.length+2*(1+(ts.count+1))≤1000000) :
  Calls Tryz.prog 175 #[.agg #[.int .i64 6,.string n,.string m,.int .i64 i,.int .i64 d,.slice A 1 c],.slice B bd.length cB,.map (some b)] w fun e w' =>
   (∃v,e=.returned v)∧aW w' b (q+1+(ts.count+1)) (fb||aB 6 n m (Fo.cons tk tn tm ti td tA tc ts .nil) bd)∧Keeps (fun k=>k≠b) w w':=by
 obtain⟨i0,hi,hz0,hz1,hz2⟩:=info_parts Tryz.iD
 obtain⟨E,HE⟩:∃E,Hid (E=(fb||aB 6 n m (Fo.cons tk tn tm ti td tA tc ts .nil) bd)):=⟨_,rfl⟩
 rw[←HE.out]
 have HE1:=Sk (HE.out.trans (show (fb||aB 6 n m (Fo.cons tk tn tm ti td tA tc ts .nil) bd)=(fb||aB tk tn tm ts (bd++[n])) by
  rw[aB,TW (by decide),Fo.kS];simp[Fo.free,dG]))
 clear HE
 have hlt:=hF.lt
 obtain⟨W0,hW0⟩:∃W0,w.alloc (.cells #[.int .i64 6,.string n,.string m,.int .i64 i,.int .i64 d,.slice A 1 c] 44)=W0:=⟨_,rfl⟩
 have hzw:W0.heap.size=w.heap.size+1:=by subst hW0;simp
 have hx0:W0.cell? ⟨w.heap.size,0,none⟩=some (.int .i64 6):=by subst hW0;go_simp
 have hx1:W0.cell? ⟨w.heap.size,1,none⟩=some (.string n):=by subst hW0;go_simp
 have hx5:W0.cell? ⟨w.heap.size,5,none⟩=some (.slice A 1 c):=by subst hW0;go_simp
 have hk0:Keeps (fun _=>True) w W0:=by subst hW0;exact(Keeps.refl _ w).alloc _
 have hcell0:∀p:Addr,p.block<w.heap.size→W0.cell? p=w.cell? p:=fun p hp=>SN (hk0.block p.block hp trivial)
 have hS0:=Sk (hB.keep (w':=W0) (B':=w.heap.size) (SA _) hcell0)
 have hs0:=hs.keep (w':=W0) (B':=w.heap.size) (SA _) hcell0
 obtain⟨b',o',rfl,hb',h0,h1,h2,h3',h4,⟨h5,hc',hm',hs'⟩,hr'⟩:=hs0.2.2 (by simp)
 have hts:=Sk (show ts.Sl W0 w.heap.size tA tc from⟨hc',hm',hs'⟩)
 have hF0:=hF.keep (hk0.block b hlt trivial)
 have HF0:=Sk hF0
 have HK0:=Sk (hk0.mono (T:=fun k=>k≠b) fun _ _=>trivial)
 have hcells:∀W,FrW W0 b W→(W.cell? ⟨w.heap.size,1,none⟩=some (.string n)∧W.cell? ⟨w.heap.size,5,none⟩=some (.slice (some ⟨b',o',none⟩) 1 c)∧W.cell? ⟨b',o',none⟩=some (.int .i64 tk)∧W.cell? ⟨b',o'+1,none⟩=some (.string tn) ∧
   W.cell? ⟨b',o'+2,none⟩=some (.string tm)∧W.cell? ⟨b',o'+3,none⟩=some (.int .i64 ti)∧W.cell? ⟨b',o'+4,none⟩=some (.int .i64 td)∧W.cell? ⟨b',o'+5,none⟩=some (.slice tA ts.len tc))∧FrW W0 b W:=fun W hW =>
  ⟨⟨(hW.cell hF0 ⟨w.heap.size,1,none⟩ (by simp;omega)).trans hx1,(hW.cell hF0 ⟨w.heap.size,5,none⟩ (by simp;omega)).trans hx5,(hW.cell hF0 ⟨b',o',none⟩ (by simp;omega)).trans h0,(hW.cell hF0 ⟨b',o'+1,none⟩ (by simp;omega)).trans h1,
   (hW.cell hF0 ⟨b',o'+2,none⟩ (by simp;omega)).trans h2,(hW.cell hF0 ⟨b',o'+3,none⟩ (by simp;omega)).trans h3',(hW.cell hF0 ⟨b',o'+4,none⟩ (by simp;omega)).trans h4,(hW.cell hF0 ⟨b',o'+5,none⟩ (by simp;omega)).trans h5⟩,hW⟩
 have HC:=Sk hcells
 have HR:Hid (∀(gg cap base:Nat) (X:World),aW X b q fb→Keeps (fun k=>k≠b) W0 X→X.ownsRow base 9 1 (.slice (some ⟨gg,0,none⟩) (bd.length+1) cap) (bd.length+1) (bd.map .string++[.string n]) →
   Calls Tryz.prog 175 #[.agg #[.int .i64 tk,.string tn,.string tm,.int .i64 ti,.int .i64 td,.slice tA ts.len tc],.slice (some ⟨gg,0,none⟩) (bd.length+1) cap,.map (some b)] X fun e w' =>
   (∃v,e=.returned v)∧aW w' b (q+1+ts.count) (fb||aB tk tn tm ts (bd++[n]))∧Keeps (fun k=>k≠b) X w'):=by
  intro gg cap base X hFX hKX hoX
  have h:=ih tk tn tm ti td tA tc (bd++[n]) (some ⟨gg,0,none⟩) cap b q fb X (FrW.sl hF0 (FrW.start hFX hKX) hts.out (by omega)) hv.1 hv.2.1 (wJ (by simpa using hoX) (by simp)) (by simp) hFX (by omega) (by simp;omega)
  rw[show (bd++[n]).length=bd.length+1 by simp]at h
  exact h
 have zZ:=Sk (show (W0.alloc (.cells #[.string n] 9)).heap[w.heap.size+1]?=some (.cells #[.string n] 9 (0,0)) by rw[←hzw];exact Sv W0 _)
 have gV:=Sk (FrW.start (W0:=W0) hF0.drew ((Keeps.refl _ W0).drew))
 clear hk0 hF hB hcell0 hs hs0 h0 h1 h2 h3' h4 h5 hs' hr' hF0 hcells hv ih hc' hm'
 go_enter Tryz.func175,Tryz.ntmps175
 go_wp2_with fail
 clear hW0
 go_region_held3 (fun W=>(W.cell? ⟨w.heap.size,1,none⟩=some (.string n)∧W.cell? ⟨w.heap.size,5,none⟩=some (.slice (some ⟨b',o',none⟩) 1 c)∧W.cell? ⟨b',o',none⟩=some (.int .i64 tk)∧W.cell? ⟨b',o'+1,none⟩=some (.string tn) ∧
   W.cell? ⟨b',o'+2,none⟩=some (.string tm)∧W.cell? ⟨b',o'+3,none⟩=some (.int .i64 ti)∧W.cell? ⟨b',o'+4,none⟩=some (.int .i64 td)∧W.cell? ⟨b',o'+5,none⟩=some (.slice tA ts.len tc))∧FrW W0 b W)
  (first|exact HC.out _ gV.out|exact HC.out _ (FrW.start hF3 hK3)|exact HC.out _ (FrW.start hF2 hK2)|exact HC.out _ (FrW.start (aW.alloc hF1 _) (Keeps.alloc hK1 _))|exact HC.out _ (FrW.start hF1 hK1)|exact HC.out _ (FrW.alloc gV.out _))
  (first
   | (go_at_call 236;refine(mK bd B cB _ (FrW.sls HF0.out (by first|exact gV.out|exact FrW.alloc gV.out _) hS0.out (by omega)) hBn (by omega)).mono ?_;rintro e w1 ⟨v1,rfl,hown1,gF⟩;have hF1:aW w1 b q fb:=aW.below (by first|exact HF0.out.drew|exact HF0.out.drew.alloc _) gF;have hK1:Keeps (fun k=>k≠b) W0 w1:=Keeps.uq (by first|exact gV.out.1|exact gV.out.1.alloc _) gF)
   | (go_at_call 175;refine(HR.out gg cap _ _ hF2 hK2 hown2).mono ?_;rintro e w3 ⟨⟨v3,rfl⟩,hF3,Aa⟩;have hK3:=hK2.trans Aa)
   | (refine step_append_lies _ rfl (.tmp 27) (.tmp 30) 22 rfl _ 9 i0 _ 1 16 Tryz.underlying22 hi hz0 hz1 hz2 rfl (by omega) v1 bd.length (bd.map .string) rfl (hown1.alloc _) ⟨w1.heap.size,0,none⟩ 1 1 [.string n] rfl rfl (World.news_of_block (cs:=#[.string n]) (t:=9) (fr:=(0,0)) (Sv w1 _)) (by simp[Value.oneCell']) (by omega) (by unfold maxLen;omega) (by omega) (by have:=gF.size;simp at this ⊢;omega) _ rfl ?_;intro gg cap w2 hown2 hgrow2 kD hlt2;obtain⟨hK2,hF2⟩:=jM (hK1.alloc _) (hF1.alloc _) (hown1.alloc _) (by omega) (by simp) hgrow2)
   | (refine step_append_lies _ rfl (.tmp 27) (.tmp 30) 22 rfl _ 9 i0 _ 1 16 Tryz.underlying22 hi hz0 hz1 hz2 rfl (by omega) v1 bd.length (bd.map .string) rfl hown1 ⟨w.heap.size+1,0,none⟩ 1 1 [.string n] rfl rfl (World.news_of_block (cs:=#[.string n]) (t:=9) (fr:=(0,0)) ((gF.block (w.heap.size+1) (by simp;omega)).trans zZ.out)) (by simp[Value.oneCell']) (by omega) (by unfold maxLen;omega) (by omega) (by have:=gF.size;simp at this ⊢;omega) _ rfl ?_;intro gg cap w2 hown2 hgrow2 kD hlt2;obtain⟨hK2,hF2⟩:=jM hK1 hF1 hown1 (by omega) (by simp) hgrow2))
 all_goals (
  go_wp2
  refine Ua (results_none rfl _ _ _) rfl ?_
  refine⟨⟨_,rfl⟩,?_,HK0.out.trans hK3⟩
  rw[HE1.out]
  exact hF3.mono (by omega))
end Go.Proofs.Q
namespace Go.Proofs.Q
open Go.RowKit Go.Proofs Go.Shelf
theorem LK (xk:Int)(xn xm:ByteArray)(xi xd:Int)(xA:Option Addr)(xc:Nat)(xs:Fo)(ihx:mM xs)(yk:Int)(yn ym:ByteArray)(yi yd:Int)(yA:Option Addr)(yc:Nat)(ys:Fo)(ihy:mM ys)(zk:Int)(zn zm:ByteArray)(zi zd:Int)(zA:Option Addr)(zc:Nat)(zs:Fo)(ihz:mM zs)(n m:ByteArray)(i d:Int)(A:Option Addr)(c:Nat)(bd:List ByteArray)(B:Option Addr)(cB b q:Nat)(fb:Bool)(w:World)
  (hs:(Fo.cons xk xn xm xi xd xA xc xs (.cons yk yn ym yi yd yA yc ys (.cons zk zn zm zi zd zA zc zs .nil))).Sl w w.heap.size A c)(hv:(Fo.cons xk xn xm xi xd xA xc xs (.cons yk yn ym yi yd yA yc ys (.cons zk zn zm zi zd zA zc zs .nil))).Vld)(hB:SlS w w.heap.size B cB bd)(hBn:B=none→cB=0)(hF:aW w b q fb)(hq:q+1+(Fo.cons xk xn xm xi xd xA xc xs (.cons yk yn ym yi yd yA yc ys (.cons zk zn zm zi zd zA zc zs .nil))).count≤1000000)(hbd:bd.length+2*(1+(Fo.cons xk xn xm xi xd xA xc xs (.cons yk yn ym yi yd yA yc ys (.cons zk zn zm zi zd zA zc zs .nil))).count)≤1000000) :
  Calls Tryz.prog 175 #[.agg #[.int .i64 13,.string n,.string m,.int .i64 i,.int .i64 d,.slice A 3 c],.slice B bd.length cB,.map (some b)] w fun e w' =>
   (∃v,e=.returned v)∧aW w' b (q+1+(Fo.cons xk xn xm xi xd xA xc xs (.cons yk yn ym yi yd yA yc ys (.cons zk zn zm zi zd zA zc zs .nil))).count) (fb||aB 13 n m (Fo.cons xk xn xm xi xd xA xc xs (.cons yk yn ym yi yd yA yc ys (.cons zk zn zm zi zd zA zc zs .nil))) bd)∧Keeps (fun k=>k≠b) w w':=by
 obtain⟨i0,hi,hz0,hz1,hz2⟩:=info_parts Tryz.iD
 obtain⟨E,HE⟩:∃E,Hid (E=(fb||aB 13 n m (Fo.cons xk xn xm xi xd xA xc xs (.cons yk yn ym yi yd yA yc ys (.cons zk zn zm zi zd zA zc zs .nil))) bd)):=⟨_,rfl⟩
 rw[←HE.out]
 have HE1:=Sk (HE.out.trans (show (fb||aB 13 n m (Fo.cons xk xn xm xi xd xA xc xs (.cons yk yn ym yi yd yA yc ys (.cons zk zn zm zi zd zA zc zs .nil))) bd)=(((fb||aB xk xn xm xs bd)||aB yk yn ym ys bd)||aB zk zn zm zs (bd++[n,m])) by
  rw[aB,TW (by decide)];simp only[Fo.kS];simp[Fo.free,dG,Bool.or_assoc]))
 clear HE
 have hcnt:(Fo.cons xk xn xm xi xd xA xc xs (.cons yk yn ym yi yd yA yc ys (.cons zk zn zm zi zd zA zc zs .nil))).count=(xs.count+1)+(ys.count+1)+(zs.count+1):=by simp only[Fo.count] <;> omega
 rw[hcnt]at hq hbd ⊢
 clear hcnt
 have hlt:=hF.lt
 obtain⟨W0,hW0⟩:∃W0,w.alloc (.cells #[.int .i64 13,.string n,.string m,.int .i64 i,.int .i64 d,.slice A 3 c] 44)=W0:=⟨_,rfl⟩
 have hzw:w.heap.size<W0.heap.size:=by subst hW0;simp
 have hx0:W0.cell? ⟨w.heap.size,0,none⟩=some (.int .i64 13):=by subst hW0;go_simp
 have hx1:W0.cell? ⟨w.heap.size,1,none⟩=some (.string n):=by subst hW0;go_simp
 have hx2:W0.cell? ⟨w.heap.size,2,none⟩=some (.string m):=by subst hW0;go_simp
 have hx5:W0.cell? ⟨w.heap.size,5,none⟩=some (.slice A 3 c):=by subst hW0;go_simp
 have hk0:Keeps (fun _=>True) w W0:=by subst hW0;exact(Keeps.refl _ w).alloc _
 have hcell0:∀p:Addr,p.block<w.heap.size→W0.cell? p=w.cell? p:=fun p hp=>SN (hk0.block p.block hp trivial)
 have hS0:=Sk (hB.keep (w':=W0) (B':=w.heap.size) (SA _) hcell0)
 have hs0:=hs.keep (w':=W0) (B':=w.heap.size) (SA _) hcell0
 obtain⟨b',o',rfl,hb',xh0,xh1,xh2,xh3,xh4,⟨xh5,xhc,xhm,xhs⟩,yh0,yh1,yh2,yh3,yh4,⟨yh5,yhc,yhm,yhs⟩,zh0,zh1,zh2,zh3,zh4,⟨zh5,zhc,zhm,zhs⟩,_⟩:=hs0.2.2 (by simp)
 have xsl:=Sk (show xs.Sl W0 w.heap.size xA xc from⟨xhc,xhm,xhs⟩)
 have ysl:=Sk (show ys.Sl W0 w.heap.size yA yc from⟨yhc,yhm,yhs⟩)
 have zsl:=Sk (show zs.Sl W0 w.heap.size zA zc from⟨zhc,zhm,zhs⟩)
 have hF0:=hF.keep (hk0.block b hlt trivial)
 have HF0:=Sk hF0
 have HK0:=Sk (hk0.mono (T:=fun k=>k≠b) fun _ _=>trivial)
 have hcells:∀W,FrW W0 b W→(W.cell? ⟨w.heap.size,1,none⟩=some (.string n)∧W.cell? ⟨w.heap.size,2,none⟩=some (.string m)∧W.cell? ⟨w.heap.size,5,none⟩=some (.slice (some ⟨b',o',none⟩) 3 c)∧W.cell? ⟨b',o'+12,none⟩=some (.int .i64 zk)∧W.cell? ⟨b',o'+13,none⟩=some (.string zn)∧W.cell? ⟨b',o'+14,none⟩=some (.string zm)∧W.cell? ⟨b',o'+15,none⟩=some (.int .i64 zi)∧W.cell? ⟨b',o'+16,none⟩=some (.int .i64 zd)∧W.cell? ⟨b',o'+17,none⟩=some (.slice zA zs.len zc))∧FrW W0 b W:=fun W hW =>
  ⟨⟨(hW.cell hF0 ⟨w.heap.size,1,none⟩ (by simp;omega)).trans hx1,(hW.cell hF0 ⟨w.heap.size,2,none⟩ (by simp;omega)).trans hx2,(hW.cell hF0 ⟨w.heap.size,5,none⟩ (by simp;omega)).trans hx5,(hW.cell hF0 ⟨b',o'+12,none⟩ (by simp;omega)).trans zh0,(hW.cell hF0 ⟨b',o'+13,none⟩ (by simp;omega)).trans zh1,(hW.cell hF0 ⟨b',o'+14,none⟩ (by simp;omega)).trans zh2,(hW.cell hF0 ⟨b',o'+15,none⟩ (by simp;omega)).trans zh3,(hW.cell hF0 ⟨b',o'+16,none⟩ (by simp;omega)).trans zh4,(hW.cell hF0 ⟨b',o'+17,none⟩ (by simp;omega)).trans zh5⟩,hW⟩
 have HC:=Sk hcells
 have uT:Hid (∀W,FrW W0 b W→W.cell? ⟨w.heap.size,5,none⟩=some (.slice (some ⟨b',o',none⟩) 3 c)∧W.cell? ⟨b',o',none⟩=some (.int .i64 xk)∧W.cell? ⟨b',o'+1,none⟩=some (.string xn)∧W.cell? ⟨b',o'+2,none⟩=some (.string xm)∧W.cell? ⟨b',o'+3,none⟩=some (.int .i64 xi)∧W.cell? ⟨b',o'+4,none⟩=some (.int .i64 xd)∧W.cell? ⟨b',o'+5,none⟩=some (.slice xA xs.len xc)):=fun W hW =>
  ⟨(hW.cell hF0 ⟨w.heap.size,5,none⟩ (by simp;omega)).trans hx5,(hW.cell hF0 ⟨b',o',none⟩ (by simp;omega)).trans xh0,(hW.cell hF0 ⟨b',o'+1,none⟩ (by simp;omega)).trans xh1,(hW.cell hF0 ⟨b',o'+2,none⟩ (by simp;omega)).trans xh2,(hW.cell hF0 ⟨b',o'+3,none⟩ (by simp;omega)).trans xh3,(hW.cell hF0 ⟨b',o'+4,none⟩ (by simp;omega)).trans xh4,(hW.cell hF0 ⟨b',o'+5,none⟩ (by simp;omega)).trans xh5⟩
 have GZ:Hid (∀W,FrW W0 b W→W.cell? ⟨w.heap.size,5,none⟩=some (.slice (some ⟨b',o',none⟩) 3 c)∧W.cell? ⟨b',o'+6,none⟩=some (.int .i64 yk)∧W.cell? ⟨b',o'+7,none⟩=some (.string yn)∧W.cell? ⟨b',o'+8,none⟩=some (.string ym)∧W.cell? ⟨b',o'+9,none⟩=some (.int .i64 yi)∧W.cell? ⟨b',o'+10,none⟩=some (.int .i64 yd)∧W.cell? ⟨b',o'+11,none⟩=some (.slice yA ys.len yc)):=fun W hW =>
  ⟨(hW.cell hF0 ⟨w.heap.size,5,none⟩ (by simp;omega)).trans hx5,(hW.cell hF0 ⟨b',o'+6,none⟩ (by simp;omega)).trans yh0,(hW.cell hF0 ⟨b',o'+7,none⟩ (by simp;omega)).trans yh1,(hW.cell hF0 ⟨b',o'+8,none⟩ (by simp;omega)).trans yh2,(hW.cell hF0 ⟨b',o'+9,none⟩ (by simp;omega)).trans yh3,(hW.cell hF0 ⟨b',o'+10,none⟩ (by simp;omega)).trans yh4,(hW.cell hF0 ⟨b',o'+11,none⟩ (by simp;omega)).trans yh5⟩
 have xR:Hid (∀X,aW X b (q) fb→Keeps (fun k=>k≠b) W0 X→Calls Tryz.prog 175 #[.agg #[.int .i64 xk,.string xn,.string xm,.int .i64 xi,.int .i64 xd,.slice xA xs.len xc],.slice B bd.length cB,.map (some b)] X fun e w'=>(∃v,e=.returned v)∧aW w' b (q+1+xs.count) (fb||aB xk xn xm xs bd)∧Keeps (fun k=>k≠b) X w'):=by
  intro X hFX hKX
  exact ihx _ _ _ _ _ _ _ bd B cB b _ _ X (FrW.sl hF0 (FrW.start hFX hKX) xsl.out (by omega)) hv.1 hv.2.1 (FrW.sls hF0 (FrW.start hFX hKX) hS0.out (by omega)) hBn hFX (by omega) (by omega)
 have yR:Hid (∀X,aW X b (q+1+xs.count) (fb||aB xk xn xm xs bd)→Keeps (fun k=>k≠b) W0 X→Calls Tryz.prog 175 #[.agg #[.int .i64 yk,.string yn,.string ym,.int .i64 yi,.int .i64 yd,.slice yA ys.len yc],.slice B bd.length cB,.map (some b)] X fun e w'=>(∃v,e=.returned v)∧aW w' b (q+1+xs.count+1+ys.count) ((fb||aB xk xn xm xs bd)||aB yk yn ym ys bd)∧Keeps (fun k=>k≠b) X w'):=by
  intro X hFX hKX
  exact ihy _ _ _ _ _ _ _ bd B cB b _ _ X (FrW.sl hF0 (FrW.start hFX hKX) ysl.out (by omega)) hv.2.2.1 hv.2.2.2.1 (FrW.sls hF0 (FrW.start hFX hKX) hS0.out (by omega)) hBn hFX (by omega) (by omega)
 have HR:Hid (∀(gg cap base:Nat) (X:World),aW X b (q+1+xs.count+1+ys.count) ((fb||aB xk xn xm xs bd)||aB yk yn ym ys bd)→Keeps (fun k=>k≠b) W0 X→X.ownsRow base 9 1 (.slice (some ⟨gg,0,none⟩) (bd.length+2) cap) (bd.length+2) (bd.map .string++[.string n,.string m]) →
   Calls Tryz.prog 175 #[.agg #[.int .i64 zk,.string zn,.string zm,.int .i64 zi,.int .i64 zd,.slice zA zs.len zc],.slice (some ⟨gg,0,none⟩) (bd.length+2) cap,.map (some b)] X fun e w' =>
   (∃v,e=.returned v)∧aW w' b (q+1+xs.count+1+ys.count+1+zs.count) (((fb||aB xk xn xm xs bd)||aB yk yn ym ys bd)||aB zk zn zm zs (bd++[n,m]))∧Keeps (fun k=>k≠b) X w'):=by
  intro gg cap base X hFX hKX hoX
  have h:=ihz zk zn zm zi zd zA zc (bd++[n,m]) (some ⟨gg,0,none⟩) cap b _ _ X (FrW.sl hF0 (FrW.start hFX hKX) zsl.out (by omega)) hv.2.2.2.2.1 hv.2.2.2.2.2.1 (wJ (by simpa using hoX) (by simp)) (by simp) hFX (by omega) (by simp;omega)
  rw[show (bd++[n,m]).length=bd.length+2 by simp]at h
  exact h
 clear hk0 hF hB hcell0 hs hs0 hF0 hcells hv xh0 xh1 xh2 xh3 xh4 xh5 xhc xhm xhs ihx yh0 yh1 yh2 yh3 yh4 yh5 yhc yhm yhs ihy zh0 zh1 zh2 zh3 zh4 zh5 zhc zhm zhs ihz
 have Js:=Sk (FrW.start HF0.out (Keeps.refl (fun k=>k≠b) W0))
 obtain⟨xc5,xc0,xc1,xc2,xc3,xc4,xc6⟩:=uT.out _ (Js.out)
 go_enter Tryz.func175,Tryz.ntmps175
 go_wp2_with fail
 refine(xR.out _ HF0.out (Keeps.refl _ W0)).mono ?_
 rintro e Xx ⟨⟨v,rfl⟩,Fx,Kx'⟩
 have Kx:Keeps (fun k=>k≠b) W0 Xx:=Keeps.trans (Keeps.refl _ W0) Kx'
 clear xc5 xc0 xc1 xc2 xc3 xc4 xc6 hW0 hx0 hx1 hx2 hx5
 have HXx:=Sk (Sn Fx (Sn Kx (FrW.start Fx Kx)))
 have hzx:=Kx.size
 clear Fx Kx Kx'
 obtain⟨yc5,yc0,yc1,yc2,yc3,yc4,yc6⟩:=GZ.out _ (HXx.out.2.2)
 go_wp2_with fail
 refine(yR.out _ HXx.out.1 HXx.out.2.1).mono ?_
 rintro e Xy ⟨⟨v,rfl⟩,Fy,Ky'⟩
 have Ky:Keeps (fun k=>k≠b) W0 Xy:=Keeps.trans HXx.out.2.1 Ky'
 clear yc5 yc0 yc1 yc2 yc3 yc4 yc6
 have HXy:=Sk (Sn Fy (Sn Ky (FrW.start Fy Ky)))
 have hzy:=Ky.size
 clear Fy Ky Ky'
 have gV:=Sk (FrW.start (aW.drew HXy.out.1) (Keeps.drew HXy.out.2.1))
 obtain⟨zc5,zc0,zc1,zc2,zc3,zc4,zc6⟩:=GZ.out _ HXy.out.2.2
 go_wp2_with fail
 clear zc5 zc0 zc1 zc2 zc3 zc4 zc6
 have zZ:=Sk (show (Xy.alloc (.cells #[.string n,.string m] 9)).heap[Xy.heap.size]?=some (.cells #[.string n,.string m] 9 (0,0))from Sv Xy _)
 go_region_held3 (fun W=>(W.cell? ⟨w.heap.size,1,none⟩=some (.string n)∧W.cell? ⟨w.heap.size,2,none⟩=some (.string m)∧W.cell? ⟨w.heap.size,5,none⟩=some (.slice (some ⟨b',o',none⟩) 3 c)∧W.cell? ⟨b',o'+12,none⟩=some (.int .i64 zk)∧W.cell? ⟨b',o'+13,none⟩=some (.string zn)∧W.cell? ⟨b',o'+14,none⟩=some (.string zm)∧W.cell? ⟨b',o'+15,none⟩=some (.int .i64 zi)∧W.cell? ⟨b',o'+16,none⟩=some (.int .i64 zd)∧W.cell? ⟨b',o'+17,none⟩=some (.slice zA zs.len zc))∧FrW W0 b W)
  (first|exact HC.out _ gV.out|exact HC.out _ (FrW.start hF3 hK3)|exact HC.out _ (FrW.start hF2 hK2)|exact HC.out _ (FrW.start (aW.alloc hF1 _) (Keeps.alloc hK1 _))|exact HC.out _ (FrW.start hF1 hK1)|exact HC.out _ (FrW.alloc gV.out _))
  (first
   | (go_at_call 236;refine(mK bd B cB _ (FrW.sls HF0.out (by first|exact gV.out|exact FrW.alloc gV.out _) hS0.out (by omega)) hBn (by omega)).mono ?_;rintro e w1 ⟨v1,rfl,hown1,gF⟩;have hF1:aW w1 b (q+1+xs.count+1+ys.count) ((fb||aB xk xn xm xs bd)||aB yk yn ym ys bd):=aW.below (by first|exact aW.drew HXy.out.1|exact aW.alloc (aW.drew HXy.out.1) _) gF;have hK1:Keeps (fun k=>k≠b) W0 w1:=Keeps.uq (by first|exact gV.out.1|exact gV.out.1.alloc _) gF)
   | (go_at_call 175;refine(HR.out gg cap _ _ hF2 hK2 hown2).mono ?_;rintro e w3 ⟨⟨v3,rfl⟩,hF3,Aa⟩;have hK3:=hK2.trans Aa)
   | (refine step_append_lies _ rfl (.tmp 76) (.tmp 81) 22 rfl _ 9 i0 _ 1 16 Tryz.underlying22 hi hz0 hz1 hz2 rfl (by omega) v1 bd.length (bd.map .string) rfl (hown1.alloc _) ⟨w1.heap.size,0,none⟩ 2 2 [.string n,.string m] rfl rfl (World.news_of_block (cs:=#[.string n,.string m]) (t:=9) (fr:=(0,0)) (Sv w1 _)) (by simp[Value.oneCell']) (by omega) (by unfold maxLen;omega) (by omega) (by have:=gF.size;simp at this ⊢;omega) _ rfl ?_;intro gg cap w2 hown2 hgrow2 kD hlt2;obtain⟨hK2,hF2⟩:=jM (hK1.alloc _) (hF1.alloc _) (hown1.alloc _) (by omega) (by simp;omega) hgrow2)
   | (refine step_append_lies _ rfl (.tmp 76) (.tmp 81) 22 rfl _ 9 i0 _ 1 16 Tryz.underlying22 hi hz0 hz1 hz2 rfl (by omega) v1 bd.length (bd.map .string) rfl hown1 ⟨Xy.heap.size,0,none⟩ 2 2 [.string n,.string m] rfl rfl (World.news_of_block (cs:=#[.string n,.string m]) (t:=9) (fr:=(0,0)) ((gF.block Xy.heap.size (by simp)).trans zZ.out)) (by simp[Value.oneCell']) (by omega) (by unfold maxLen;omega) (by omega) (by have:=gF.size;simp at this ⊢;omega) _ rfl ?_;intro gg cap w2 hown2 hgrow2 kD hlt2;obtain⟨hK2,hF2⟩:=jM hK1 hF1 hown1 (by omega) (by simp;omega) hgrow2))
 all_goals (
  go_wp2
  refine Ua (results_none rfl _ _ _) rfl ?_
  refine⟨⟨_,rfl⟩,?_,HK0.out.trans hK3⟩
  rw[HE1.out]
  exact hF3.mono (by omega))
end Go.Proofs.Q
