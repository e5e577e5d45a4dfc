/- bind.visit: the law of a visit -/
import Derived.Test.YtmmecapgnmlaiaaGreatDoorZxb
import Derived.Deep.RegionHeld3
import Derived.Test.YtmmecapgnmlaiaaGreatDoorLyn
import Derived.Lib.OwnKind
set_option maxRecDepth 100000
set_option maxHeartbeats 16000000
namespace Go.Proofs.Q
open Go.RowKit Go.Proofs Go.Shelf
def Nd.enc (x:Nd):Value:=.agg #[.int .i64 x.k,.string x.n,.string x.m,.int .i64 x.i,.int .i64 x.d,.slice x.A x.len x.c]
def IsE (X:World)(k:Nat):Prop:=∃cur fz,X.heap[k]?=some (.cells cur 44 fz)
theorem IsE.alloc {X:World}{k:Nat}(h:IsE X k)(o:Obj):IsE (X.alloc o) k:=by
 obtain⟨cur,fz,h⟩:=h
 exact⟨cur,fz,(Tt _ _ _ (Sz.1 h).1).trans h⟩
theorem DJ {X:World}{base g n cap:Nat}{xs:List Value}(h:X.ownsRow base 44 6 (.slice (some ⟨g,0,none⟩) n cap) n xs):IsE X g:=by
 rcases h.2 with⟨h,_⟩|⟨g',cap',cur,h,_,hg,_⟩
 ·cases h
 ·cases h;exact⟨cur,(0,0),hg⟩
theorem LQ {X:World}{base g n cap:Nat}{xs:List Value}(h:X.ownsRow base 44 6 (.slice (some ⟨g,0,none⟩) n cap) n xs):IsE X g:=DJ h
def Ar (N:Nat)(J:List Nd→World→Prop):Prop:=∀pre X Y g,J pre X→N≤g→(g<X.heap.size→IsE X g)→Keeps (fun k=>k≠g) X Y→J pre Y
theorem Ar.alloc {N:Nat}{J:List Nd→World→Prop}(h:Ar N J){pre:List Nd}{X:World}(hJ:J pre X)(hX:N≤X.heap.size)(o:Obj):J pre (X.alloc o):=
 h pre X _ X.heap.size hJ hX (fun h=>absurd h (by omega)) ((Keeps.refl _ X).alloc o)
def VsR (xs:List Nd)(J:List Nd→World→Prop)(B n₀:Nat)(g:Nat)(v:Value)(wr:World):Prop:=
 ∃(st:Fo) (pre:List Nd),g=st.count∧pre++st.vis=xs∧J pre wr∧B≤wr.heap.size∧wr.ownsRow B 44 6 v st.len st.cells∧st.gT wr n₀∧st.count≤100001
theorem vo (fid:Nat)(hfn:∀(args:Array Value)(W:World),(callFunc fid args).run Tryz.prog W=.ok (.enter fid args) W)(lb:Array Value)(n₀:Nat)(J Jx:List Nd→World→Prop)(k:Int)(n m:ByteArray)(i d:Int)(A:Option Addr)(c:Nat)(s:Fo)(w:World)
  (hs:s.Sl w n₀ A c)(hn:n₀≤w.heap.size)(hcnt:s.count≤100000)(hJ:Ar w.heap.size J)
  (hF:∀pre x X,pre++[x] <+: (Fo.cons k n m i d A c s .nil).vis→J pre X→w.heap.size≤X.heap.size→Calls Tryz.prog fid (#[x.enc]++lb) X fun e Y =>
   (e=.returned (.bool true)∧J (pre++[x]) Y∧Keeps (fun k=>k<n₀∨(w.heap.size≤k∧IsE X k)) X Y)∨(e=.returned (.bool false)∧Jx (pre++[x]) Y))
  (hJ0:J [] w) :
  Calls Tryz.prog 111 #[.agg #[.int .i64 k,.string n,.string m,.int .i64 i,.int .i64 d,.slice A s.len c],.func (.func fid) #[] lb] w fun e w' =>
   (∃v,e=.returned v)∧(J (Fo.cons k n m i d A c s .nil).vis w'∨∃pre,pre <+: (Fo.cons k n m i d A c s .nil).vis∧Jx pre w'):=by
 obtain⟨i0,hi,hz0,hz1,hz2⟩:=info_parts Tryz.Jq
 have HH:=Sk (Sn hJ (Sn trivial (Sn hF (Sn hs hJ0))))
 clear hJ hF hs hJ0
 obtain⟨xs,Hxs⟩:∃xs,Hid ((Fo.cons k n m i d A c s .nil).vis=xs):=⟨_,rfl⟩
 rw[Hxs.out]at HH ⊢
 go_enter Tryz.func111,Tryz.ntmps111
 go_wp2
 go_loopg [4,5] (s.count+1) (fun g v _ wr=>VsR xs J w.heap.size n₀ g v wr)
 case atStart =>
  refine⟨.cons k n m i d A c s .nil,[],by simp[Fo.count],by simpa using Hxs.out,?_,?_,?_,?_,by simp[Fo.count];omega⟩
  ·exact HH.out.1.alloc (HH.out.1.alloc HH.out.2.2.2.2 (SA _) _) (by simp) _
  ·simp only[World.size_alloc];omega
  ·have h:=World.ownsRow_lit (e:=44) (base:=w.heap.size) (size:=6) (w.alloc (.cells #[.int .i64 k,.string n,.string m,.int .i64 i,.int .i64 d,.slice A s.len c] 44)) #[.int .i64 k,.string n,.string m,.int .i64 i,.int .i64 d,.slice A s.len c] 1 (by simp only[World.size_alloc];omega) (by simp[maxLen]) rfl
   simp only[World.size_alloc]at h
   exact h
  ·refine⟨HH.out.2.2.2.1.keep (SA _) fun p hp=>?_,trivial⟩
   rw[SQ _ _ p (by simp;omega),SQ _ _ p (by omega)]
 case round =>
  obtain⟨st,pre,hg,hpr,hJp,hsz,hown,hst,hct⟩:=hrel
  have HP:=Sk (Sn hg (Sn hpr (Sn hst hJp)))
  clear hg hpr hst hJp
  rcases st.snoc with rfl|⟨g,tk,tn,tm,ti,td,tA,tc,ts,rfl⟩
  ·obtain⟨o3,c3,rfl⟩:∃(o3:Option Addr) (c3:Nat),u4=.slice o3 0 c3:=by
    rcases hown.2 with⟨rfl,_⟩|⟨g',cap',cur,rfl,_⟩
    ·exact⟨_,_,rfl⟩
    ·exact⟨_,_,rfl⟩
   clear hown
   go_wp2
   go_end0
   refine⟨⟨_,rfl⟩,.inl ?_⟩
   have:=HP.out.2.1
   simp only[Fo.vis,TV]at this
   rw[←this]
   exact HP.out.2.2.2
  ·rw[Fo.wI,Fo.qI]at hown
   simp only[Fo.len,Fo.cells,Nat.zero_add,TV]at hown
   obtain⟨gb,cap,rfl⟩:=ownsRow_succ hown
   have hcap:g.len+1≤cap∧cap≤9223372036854775807:=by
    rcases hown.2 with⟨h,_⟩|⟨g',cap',cur,h,_,_,hle,hmx,_⟩
    ·cases h
    ·cases h;unfold maxLen at hmx;omega
   have hcl:=g.mJ
   have htop:∀j:Nat,j<6→wr.cell? ⟨gb,g.len*6+j,none⟩=([.int .i64 tk,.string tn,.string tm,.int .i64 ti,.int .i64 td,.slice tA ts.len tc]:List Value)[j]?:=by
    intro j hj
    rw[hown.cellAt (g.len*6+j) (by omega),Ti (by omega),hcl]
    congr 1
    omega
   have t0:wr.cell? ⟨gb,g.len*6,none⟩=some (.int .i64 tk):=htop 0 (by omega)
   have t1:wr.cell? ⟨gb,g.len*6+1,none⟩=some (.string tn):=htop 1 (by omega)
   have t2:wr.cell? ⟨gb,g.len*6+2,none⟩=some (.string tm):=htop 2 (by omega)
   have t3:wr.cell? ⟨gb,g.len*6+3,none⟩=some (.int .i64 ti):=htop 3 (by omega)
   have t4:wr.cell? ⟨gb,g.len*6+4,none⟩=some (.int .i64 td):=htop 4 (by omega)
   have t5:wr.cell? ⟨gb,g.len*6+5,none⟩=some (.slice tA ts.len tc):=htop 5 (by omega)
   have hgb:=(hown.lt gb rfl).1
   have HGE:=Sk (LQ hown)
   have JA:=Sk (ownsRow_pop (by rw[hcl]) hown)
   have HC:=Sk (Sn hct hcl)
   clear hown htop hct hcl
   have hsub:=HP.out.2.2.1.split
   have HX:Hid (pre++[⟨0,tk,tn,tm,ti,td,tA,ts.len,tc⟩] <+: xs):=by
    show _ <+: _
    rw[←HP.out.2.1,Fo.sw]
    exact⟨ts.vis++g.vis,by simp[Fo.vis]⟩
   have hz1':wr.heap.size<(wr.alloc (.cells #[.int .i64 tk,.string tn,.string tm,.int .i64 ti,.int .i64 td,.slice tA ts.len tc] 44)).heap.size:=by simp
   have hJ1:=HH.out.1.alloc HP.out.2.2.2 hsz (.cells #[.int .i64 tk,.string tn,.string tm,.int .i64 ti,.int .i64 td,.slice tA ts.len tc] 44)
   have HF:=Sk (HH.out.2.2.1 pre ⟨0,tk,tn,tm,ti,td,tA,ts.len,tc⟩ _ HX.out hJ1 (by omega))
   go_wp2_with fail
   refine HF.out.mono ?_
   rintro e Y (⟨rfl,hJ2,hk2⟩|⟨rfl,hJ2⟩)
   ·have hyz:=hk2.size
    have hbx:=Sk (hk2.cell (p:=⟨wr.heap.size,5,none⟩) (v:=.slice tA ts.len tc) (.inr ⟨by simp;omega,_,_,Sv wr _⟩) (by go_simp))
    have b5:=hbx.out
    have K5:=Sk (hk2.ownsRow (JA.out.alloc _) (fun g' hg'=>by simp only[Value.ownBlock,TK]at hg';subst hg';exact .inr ⟨hgb,HGE.out.alloc _⟩))
    have hcell:∀p:Addr,p.block<n₀→Y.cell? p=wr.cell? p:=fun p hp =>
     (SN (hk2.block p.block (by omega) (.inl hp))).trans (SQ wr _ p (by omega))
    have hts:=hsub.2.1.keep (SA _) hcell
    have hgs:=hsub.1.keep (SA _) hcell
    have HT:=Sk (Sn hts hgs)
    have hcount:g.count+(ts.count+1)≤100001:=by have:=HC.out.1;rw[Fo.kR]at this;simpa [Fo.count]using this
    have hl1:=g.qJ
    have hl2:=ts.qJ
    have Qe:=Sk (DJ K5.out)
    clear hts hgs hsub hcell hk2 HF t0 t1 t2 t3 t4 t5 hJ1
    have hcase:tA=none→ts.len=0:=by
     intro h
     cases ts with
     | nil=>rfl
     | cons=>obtain⟨b',o',e,_⟩:=HT.out.1.2.2 (by simp);rw[h]at e;cases e
    have hnews:∀ad,tA=some ad→∀j u,ts.cells[j]?=some u→Y.cell? (ad.add j)=some u:=by
     intro ad had j u hu
     cases ts with
     | nil=>simp[Fo.cells]at hu
     | cons =>
      obtain⟨b',o',e,_,hat⟩:=HT.out.1.2.2 (by simp)
      rw[had]at e
      cases e
      have:=hat.cells j u hu
      cases j <;> simpa [Addr.add]using this
    have HN:=Sk (Sn hcase hnews)
    clear hcase hnews
    go_wp2_with (at_builtin;refine aC _ rfl _ _ 42 rfl w.heap.size 44 i0 _ 6 80 Tryz.underlying42 hi hz0 hz1 hz2 rfl (by decide) _ _ _ rfl K5.out tA ts.len tc ts.cells rfl (Fo.mJ ts) HN.out.1 HN.out.2 (Fo.cells_one ts) (by unfold maxLen;omega) (by omega) (by omega) ?_;intro v' w1 hown' hgrow)
    go_roundg (g.count+ts.count)
    case measure =>
     rw[HP.out.1,Fo.kR]
     simp[Fo.count]
    case rel =>
     refine⟨g.app ts,_,(Fo.kR _ _).symm,?_,HH.out.1 _ _ _ gb hJ2 hgb (fun _=>Qe.out) ((Keeps.refl _ _).grown hgrow (by rintro k hk;cases hk;simp)),by have:=hgrow.size;omega,?_,?_,by rw[Fo.kR];omega⟩
     ·rw[←HP.out.2.1,Fo.sw,Fo.sw];simp[Fo.vis]
     ·rw[Fo.wI,Fo.qI];exact hown'
     ·have hcell:∀p:Addr,p.block<n₀→w1.cell? p=Y.cell? p:=fun p hp =>
       SN (hgrow.block p.block (by omega) (by intro e;have e':p.block=gb:=TL e;omega))
      exact Fo.gT.app (HT.out.1.subs.keep (SA _) hcell) (HT.out.2.keep (SA _) hcell)
   ·go_wp2
    refine Ua (results_none rfl _ _ _) rfl ?_
    exact⟨⟨_,rfl⟩,.inr ⟨_,HX.out,hJ2⟩⟩
theorem G6 (fid:Nat)(hfn:∀(args:Array Value)(W:World),(callFunc fid args).run Tryz.prog W=.ok (.enter fid args) W)(lb:Array Value)(n₀:Nat)(J Jx:List Nd→World→Prop)(k:Int)(n m:ByteArray)(i d:Int)(A:Option Addr)(c:Nat)(s:Fo)(w:World)
  (hs:s.Sl w n₀ A c)(hn:n₀≤w.heap.size)(hcnt:s.count≤100000)(hJ:Told (fun k=>k<w.heap.size) J)
  (hF:∀pre x X,pre++[x] <+: (Fo.cons k n m i d A c s .nil).vis→J pre X→w.heap.size≤X.heap.size→Calls Tryz.prog fid (#[x.enc]++lb) X fun e Y =>
   (e=.returned (.bool true)∧J (pre++[x]) Y∧Keeps (fun k=>w.heap.size≤k∨k<n₀) X Y)∨(e=.returned (.bool false)∧Jx (pre++[x]) Y))
  (hJ0:J [] w) :
  Calls Tryz.prog 111 #[.agg #[.int .i64 k,.string n,.string m,.int .i64 i,.int .i64 d,.slice A s.len c],.func (.func fid) #[] lb] w fun e w' =>
   (∃v,e=.returned v)∧(J (Fo.cons k n m i d A c s .nil).vis w'∨∃pre,pre <+: (Fo.cons k n m i d A c s .nil).vis∧Jx pre w'):=
 vo fid hfn lb n₀ J Jx k n m i d A c s w hs hn hcnt (fun pre X Y g hJX hg _ hk=>hJ pre X Y hJX (hk.mono fun k hk=>by omega))
  (fun pre x X hpx hJX hX=>(hF pre x X hpx hJX hX).mono fun e Y h=>h.elim (fun ⟨h1,h2,h3⟩=>.inl ⟨h1,h2,h3.mono fun k hk=>by rcases hk with h|h;exact .inr h;exact .inl h.1⟩) .inr) hJ0
theorem jO {fid : Nat} {fn : Func} {body : Code} (h : Tryz.prog.funcs[fid]? = some fn) (hn : (fn.name == "runtime.NumGoroutine") = false) (hb : fn.body = some body) (args : Array Value) (W : World) : (callFunc fid args).run Tryz.prog W = .ok (.enter fid args) W := by
 have hn' : fn.name ≠ "runtime.NumGoroutine" := by simpa using hn
 simp[callFunc,h,hb,hn']
theorem yP (gid:Nat)(hgn:∀(args:Array Value)(W:World),(callFunc gid args).run Tryz.prog W=.ok (.enter gid args) W)(gb:Array Value)(bf bd:Nat)(x:Nd)(q:Bool)(X:World)
  (hf:X.cell? ⟨bf,0,none⟩=some (.func (.func gid) #[] gb))(hd:X.heap[bd]?=some (.cells #[.bool false] 4 (0,0)))
  (hG:∀Z,Below X.heap.size X Z→Calls Tryz.prog gid (#[x.enc]++gb) Z fun e Y=>e=.returned (.bool q)∧Below Z.heap.size Z Y) :
  Calls Tryz.prog 174 #[x.enc,.pointer (some ⟨bf,0,none⟩),.pointer (some ⟨bd,0,none⟩)] X fun e Y=>e=.returned (.bool (!q))∧Y.heap[bd]?=some (.cells #[.bool q] 4 (0,0))∧Keeps (fun k=>k≠bd) X Y:=by
 have hbd:bd<X.heap.size:=lt_of_block hd
 have hbf:bf<X.heap.size:=SS X ⟨bf,0,none⟩ hf
 obtain⟨dp,k,n,m,i,d,A,len,c⟩:=x
 simp only[Nd.enc]at hG ⊢
 have HG:=Sk hG
 clear hG
 have hf1:(X.alloc (.cells #[.int .i64 k,.string n,.string m,.int .i64 i,.int .i64 d,.slice A len c] 44)).cell? ⟨bf,0,none⟩=some (.func (.func gid) #[] gb):=(SQ X _ _ hbf).trans hf
 have hbe:=(TA X.heap.size X).alloc (SA _) (.cells #[.int .i64 k,.string n,.string m,.int .i64 i,.int .i64 d,.slice A len c] 44)
 have HB:=Sk hbe
 have HD:=Sk hd
 clear hbe hf hd
 go_enter Tryz.func174,Tryz.ntmps174
 go_wp2_with fail
 refine(HG.out _ HB.out).mono ?_
 rintro e Y ⟨rfl,hY⟩
 have hYd:Y.heap[bd]?=some (.cells #[.bool false] 4 (0,0)):=(hY.block bd (by simp;omega)).trans ((HB.out.block bd hbd).trans HD.out)
 have hc:=cell_of_one hYd
 have hfr:=free_of_one hYd
 have hY2:=one_setCell (u:=.bool q) hYd
 have hc2:=cell_of_one hY2
 have HK:Keeps (fun k=>k≠bd) X (Y.setCell ⟨bd,0,none⟩ (.bool q)):=(((Keeps.refl _ X).alloc _).trans (Keeps.whole hY _)).setCell (by simp) _
 have HF:=Sk (Sn hY2 HK)
 clear hY2 HK hYd hY
 cases q <;> (
  go_wp2
  go_ret
  exact⟨rfl,HF.out⟩)
theorem EN {α:Type}{p:α→Bool}{a b:List α}(h:a <+: b)(ha:a.any p=true):b.any p=true:=by
 obtain⟨c,rfl⟩:=h
 rw[List.any_append,ha]
 rfl
theorem qL (gid:Nat)(hgn:∀(args:Array Value)(W:World),(callFunc gid args).run Tryz.prog W=.ok (.enter gid args) W)(gb:Array Value)(p:Nd→Bool)
  (k:Int)(n m:ByteArray)(i d:Int)(A:Option Addr)(c:Nat)(s:Fo)(w:World)(hs:s.Sl w w.heap.size A c)(hcnt:s.count≤100000)
  (hG:∀(x:Nd) Z,Below w.heap.size w Z→Calls Tryz.prog gid (#[x.enc]++gb) Z fun e Y=>e=.returned (.bool (p x))∧Below Z.heap.size Z Y) :
  Calls Tryz.prog 125 #[.agg #[.int .i64 k,.string n,.string m,.int .i64 i,.int .i64 d,.slice A s.len c],.func (.func gid) #[] gb] w fun e w' =>
   e=.returned (.bool ((Fo.cons k n m i d A c s .nil).vis.any p))∧Below w.heap.size w w':=by
 obtain⟨xs,Hxs⟩:∃xs,Hid ((Fo.cons k n m i d A c s .nil).vis=xs):=⟨_,rfl⟩
 have HS:=Sk (Sn hs hG)
 clear hs hG
 rw[Hxs.out]
 have EH:=jO (fid:=174) rfl rfl rfl
 go_enter Tryz.func125,Tryz.ntmps125
 go_wp2_with fail
 obtain⟨W0,hW0⟩:∃W0,((w.alloc (.cells #[.int .i64 k,.string n,.string m,.int .i64 i,.int .i64 d,.slice A s.len c] 44)).alloc (.cells #[.func (.func gid) #[] gb] 141)).alloc (.cells #[.bool false] 4)=W0:=⟨_,rfl⟩
 have hB0:Below w.heap.size w W0:=by subst hW0;exact(((TA _ _).alloc (SA _) _).alloc (by simp) _).alloc (by simp;omega) _
 have hz0:W0.heap.size=w.heap.size+3:=by subst hW0;simp
 have hx0:W0.cell? ⟨w.heap.size+1,0,none⟩=some (.func (.func gid) #[] gb):=by subst hW0;go_simp
 have hx1:W0.heap[w.heap.size+1+1]?=some (.cells #[.bool false] 4 (0,0)):=by
  have h:=World.alloc_heap_new ((w.alloc (.cells #[.int .i64 k,.string n,.string m,.int .i64 i,.int .i64 d,.slice A s.len c] 44)).alloc (.cells #[.func (.func gid) #[] gb] 141)) (.cells #[.bool false] 4)
  rw[hW0]at h
  simpa using h
 rw[hW0]
 clear hW0
 refine(G6 174 EH _ w.heap.size
  (fun pre X=>Below w.heap.size w X∧w.heap.size+3≤X.heap.size∧X.cell? ⟨w.heap.size+1,0,none⟩=some (.func (.func gid) #[] gb)∧X.heap[w.heap.size+1+1]?=some (.cells #[.bool false] 4 (0,0))∧pre.any p=false)
  (fun pre X=>Below w.heap.size w X∧w.heap.size+3≤X.heap.size∧X.heap[w.heap.size+1+1]?=some (.cells #[.bool true] 4 (0,0))∧pre.any p=true)
  k n m i d A c s W0 (HS.out.1.below hB0) hB0.size hcnt ?_ ?_ ⟨hB0,by omega,hx0,hx1,rfl⟩).mono ?_
 ·rintro pre X Y ⟨h1,h2,h3,h4,h5⟩ hk
  have:=hk.size
  refine⟨h1.trans (hk.dX (by omega) fun k hk=>by omega),by omega,hk.cell (p:=⟨w.heap.size+1,0,none⟩) (by simp;omega) h3,(hk.block _ (by omega) (by omega)).trans h4,h5⟩
 ·rintro pre x X hpx ⟨h1,h2,h3,h4,h5⟩ hX
  have hc:=yP gid hgn gb (w.heap.size+1) (w.heap.size+1+1) x (p x) X h3 h4 (fun Z hZ=>HS.out.2 x Z (h1.trans (hZ.mono h1.size)))
  refine hc.mono ?_
  rintro e Y ⟨rfl,hd,hk⟩
  have:=hk.size
  have hb:=h1.trans (hk.dX (B:=w.heap.size) (by omega) fun k hk=>by omega)
  cases hp:p x
  ·rw[hp]at hd
   exact .inl ⟨rfl,⟨hb,by omega,hk.cell (p:=⟨w.heap.size+1,0,none⟩) (by simp) h3,hd,by simp[h5,hp]⟩,hk.mono fun k hk=>by omega⟩
  ·rw[hp]at hd
   exact .inr ⟨rfl,hb,by omega,hd,by simp[hp]⟩
 ·rintro e w' ⟨⟨v,rfl⟩,hpost⟩
  rw[Hxs.out]at hpost
  have hfin:w'.cell? ⟨w.heap.size+1+1,0,none⟩=some (.bool (xs.any p))∧Below w.heap.size w w':=by
   rcases hpost with⟨h1,h2,h3,h4,h5⟩|⟨pre,hpre,h1,h2,h4,h5⟩
   ·rw[h5];exact⟨cell_of_one h4,h1⟩
   ·rw[EN hpre h5];exact⟨cell_of_one h4,h1⟩
  obtain⟨hf1,hf2⟩:=hfin
  clear hpost
  go_wp2
  go_ret
  exact⟨rfl,hf2⟩
theorem Tryz.tZ:(Tryz.prog.info? 102).map (fun i=>(i.zero,i.size,i.bytes))=some (some (.agg #[.string ⟨#[]⟩,.int .i64 0]),2,24):=by kernel_rfl
def pI (l:List Nd):List Value:=l.flatMap fun x=>if x.k=5 then [.string x.n,.int .i64 x.i]else []
def lF (l:List Nd):Nat:=(l.filter fun x=>x.k=5).length
def RfJ (w:World)(n₀ lb base:Nat)(pre:List Nd)(X:World):Prop:=
 Below n₀ w X∧base≤X.heap.size∧∃v,X.heap[lb]?=some (.cells #[v] 99 (0,0))∧X.ownsRow base 102 2 v (lF pre) (pI pre)
theorem qy (w:World)(a b:Value)(t:TypeId):∀j u,([a,b]:List Value)[j]?=some u→(w.alloc (.cells #[a,b] t)).cell? ((⟨w.heap.size,0,none⟩:Addr).add j)=some u:=by
 intro j u hu
 have h:=Sv w (.cells #[a,b] t)
 have hadd:(⟨w.heap.size,0,none⟩:Addr).add j=⟨w.heap.size,j,none⟩:=by unfold Addr.add;split <;> simp_all
 rw[hadd,Sq _ _ _ _ _ _ h]
 simpa using hu
theorem G7 (x:Nd)(lb base nn:Nat)(v:Value)(xs:List Value)(X:World)(hb:X.heap[lb]?=some (.cells #[v] 99 (0,0)))(hown:X.ownsRow base 102 2 v nn xs)(hlb:lb<base)(hsz:base≤X.heap.size)(hn:nn≤1000000) :
  Calls Tryz.prog 112 (#[x.enc] ++ #[.pointer (some ⟨lb,0,none⟩)]) X fun e Y=>e=.returned (.bool true)∧∃v',Y.heap[lb]?=some (.cells #[v'] 99 (0,0)) ∧
   Y.ownsRow base 102 2 v' (if x.k=5 then nn+1 else nn) (xs++if x.k=5 then [.string x.n,.int .i64 x.i]else [])∧Keeps (fun k=>k≠lb∧v.ownBlock≠some k) X Y:=by
 obtain⟨i0,hi,hz0,hz1,hz2⟩:=info_parts Tryz.tZ
 obtain⟨dp,k,n,m,i,d,A,len,c⟩:=x
 simp only[Nd.enc,List.append_toArray,TU,List.nil_append]
 obtain⟨W0,hW0⟩:∃W0,X.alloc (.cells #[.int .i64 k,.string n,.string m,.int .i64 i,.int .i64 d,.slice A len c] 44)=W0:=⟨_,rfl⟩
 have hzw:X.heap.size<W0.heap.size:=by subst hW0;simp
 have h0:W0.cell? ⟨X.heap.size,0,none⟩=some (.int .i64 k):=by subst hW0;go_simp
 have h1:W0.cell? ⟨X.heap.size,1,none⟩=some (.string n):=by subst hW0;go_simp
 have h3:W0.cell? ⟨X.heap.size,3,none⟩=some (.int .i64 i):=by subst hW0;go_simp
 have HK0:=Sk (show Keeps (fun _=>True) X W0 by subst hW0;exact(Keeps.refl _ X).alloc _)
 have hb0:W0.heap[lb]?=some (.cells #[v] 99 (0,0)):=(HK0.out.block lb (by omega) trivial).trans hb
 have hown0:=Sk (show W0.ownsRow base 102 2 v nn xs by subst hW0;exact hown.alloc _)
 have hlc:=cell_of_one hb0
 have HB0:=Sk hb0
 clear hb hown hb0
 by_cases hk:k=5
 ·subst hk
  have hne:∀q,v.ownBlock=some q→lb≠q:=fun q hq e=>by have:=(hown0.out.lt q hq).1;omega
  have HNE:=Sk hne
  clear hne
  go_enter Tryz.func112,Tryz.ntmps112
  go_wp2_with (at_builtin;refine wpList_append_own _ rfl _ _ 99 rfl base 102 i0 _ 2 24 Tryz.underlying99 hi hz0 hz1 hz2 rfl (by decide) _ _ _ rfl (hown0.out.alloc _) ⟨W0.heap.size,0,none⟩ 1 1 [.string n,.int .i64 i] rfl rfl (qy _ _ _ _) (by simp[Value.oneCell']) (by unfold maxLen;omega) (by omega) (by simp;omega) ?_;intro v' w1 hown1 hg1 _;have hb1:w1.heap[lb]?=some (.cells #[v] 99 (0,0)):=(hg1.block lb (by simp;omega) (fun e=>HNE.out lb e.symm rfl)).trans ((Tt _ _ _ (by omega)).trans HB0.out);have hc1:=cell_of_one hb1;have hf1:=free_of_one hb1;obtain⟨gg,cc,rfl⟩:=ownsRow_succ hown1)
  go_ret
  refine⟨rfl,_,one_setCell hb1,?_,?_⟩
  ·refine ownsRow_setCell_other hown1 ?_ _
   have:=(hown1.lt gg rfl).1
   simp[Value.ownBlock]
   omega
  ·exact(((HK0.out.mono fun _ _=>trivial).alloc _).grown hg1 (by rintro k hk ⟨_,h⟩;exact h hk)).setCell (by simp) _
 ·have hk':(k==5)=false:=by simpa using hk
  go_enter Tryz.func112,Tryz.ntmps112
  go_wp2
  go_ret
  exact⟨rfl,v,HB0.out,by simpa [hk]using hown0.out,HK0.out.mono fun _ _=>trivial⟩
theorem G8 (pre:List Nd)(x:Nd):pI (pre++[x])=pI pre++if x.k=5 then [.string x.n,.int .i64 x.i]else []:=by simp[pI]
theorem G9 (pre:List Nd)(x:Nd):lF (pre++[x])=if x.k=5 then lF pre+1 else lF pre:=by
 unfold lF
 rw[List.filter_append,SX]
 by_cases h:x.k=5 <;> simp[h]
theorem DK (l:List Nd):lF l≤l.length:=List.length_filter_le _ _
theorem Fo.fB:∀f:Fo,f.vis.length=f.count
 | .nil=>rfl
 | .cons _ _ _ _ _ _ _ s r=>by simp[Fo.vis,Fo.count,s.fB,r.fB];omega
theorem EO (k:Int)(n m:ByteArray)(i d:Int)(A:Option Addr)(c:Nat)(s:Fo)(w:World)(n₀ lb:Nat)(hs:s.Sl w n₀ A c)(hn:n₀≤lb)(hcnt:s.count≤100000)
  (hb:w.heap[lb]?=some (.cells #[.slice none 0 0] 99 (0,0))) :
  Calls Tryz.prog 111 #[.agg #[.int .i64 k,.string n,.string m,.int .i64 i,.int .i64 d,.slice A s.len c],.func (.func 112) #[] #[.pointer (some ⟨lb,0,none⟩)]] w fun e w' =>
   (∃v,e=.returned v)∧RfJ w n₀ lb w.heap.size (Fo.cons k n m i d A c s .nil).vis w':=by
 have hlb:=lt_of_block hb
 have hfn:=jO (fid:=112) rfl rfl rfl
 refine(vo 112 hfn #[.pointer (some ⟨lb,0,none⟩)] n₀ (RfJ w n₀ lb w.heap.size) (fun _ _=>False) k n m i d A c s w hs (by omega) hcnt ?_ ?_ ?_).mono ?_
 ·rintro pre X Y g ⟨h1,h2,v,h3,h4⟩ hg hE hk
  have hsz:=hk.size
  refine⟨h1.trans (hk.dX (by omega) fun k hk=>by omega),by omega,v,(hk.block lb (by omega) (by omega)).trans h3,?_⟩
  refine hk.ownsRow h4 fun q hq e=>?_
  subst e
  obtain⟨hq1,hq2⟩:=h4.lt _ hq
  obtain⟨cur,fz,hc⟩:=hE hq2
  rcases h4.2 with⟨rfl,_⟩|⟨g',cap',cur',rfl,_,hg',_⟩
  ·simp[Value.ownBlock]at hq
  ·simp only[Value.ownBlock,TK]at hq
   subst hq
   rw[hc]at hg'
   simp at hg'
 ·rintro pre x X hpx ⟨h1,h2,v,h3,h4⟩ hX
  have hlen:lF pre≤1000000:=by
   have:=DK pre
   have hp:=hpx.length_le
   rw[Fo.fB,SX]at hp
   simp[Fo.count]at hp
   omega
  refine(G7 x lb w.heap.size (lF pre) v (pI pre) X h3 h4 hlb h2 hlen).mono ?_
  rintro e Y ⟨rfl,v',h5,h6,h7⟩
  have hsz:=h7.size
  have hkeep:Keeps (fun k=>k<n₀∨(w.heap.size≤k∧IsE X k)) X Y:=h7.mono fun q hq=>by
   rcases hq with hq|⟨hq,cur,fz,hc⟩
   ·exact⟨by omega,fun e=>by have:=(h4.lt q e).1;omega⟩
   ·refine⟨by omega,fun e=>?_⟩
    rcases h4.2 with⟨rfl,_⟩|⟨g',cap',cur',rfl,_,hg',_⟩
    ·simp[Value.ownBlock]at e
    ·simp only[Value.ownBlock,TK]at e
     subst e
     rw[hc]at hg'
     simp at hg'
  refine .inl ⟨rfl,⟨h1.trans (hkeep.dX (by have:=h1.size;omega) fun q hq=>.inl hq),by omega,v',h5,?_⟩,hkeep⟩
  rw[G8,G9]
  exact h6
 ·exact⟨TA _ _,SA _,_,hb,by simpa [lF,pI]using TD w w.heap.size 102 2⟩
 ·rintro e w' ⟨hv,h|⟨_,_,h⟩⟩
  ·exact⟨hv,h⟩
  ·exact h.elim
theorem pJ (s:ByteArray)(w:World):Calls Tryz.prog 165 #[.string s] w fun e w'=>e=.returned (.bool false)∧w=w':=by
 have h:(s.toList==s.toList)=true:=by simp
 go_enter Tryz.func165,Tryz.ntmps165
 go_wp2
 go_ret
 exact⟨by simp,rfl⟩
theorem pK (i:Int)(w:World):Calls Tryz.prog 166 #[.int .i64 i] w fun e w'=>e=.returned (.bool false)∧w=w':=by
 go_enter Tryz.func166,Tryz.ntmps166
 go_wp2
 go_ret
 exact⟨by simp,rfl⟩
def qN (a b:ByteArray):Int:=if Op.bytesLess a.toList b.toList=true then -1 else if (a.toList==b.toList)=true then 0 else 1
def qO (a b:Int):Int:=if a<b then -1 else if b<a then 1 else 0
theorem JB (a b:ByteArray)(w:World):Calls Tryz.prog 116 #[.string a,.string b] w fun e w'=>e=.returned (.int .i64 (qN a b))∧w=w':=by
 obtain⟨E,HE⟩:∃E,Hid (E=qN a b):=⟨_,rfl⟩
 rw[←HE.out]
 cases h1:Op.bytesLess a.toList b.toList
 ·cases h2:(a.toList==b.toList)
  ·have HR:=Sk (show E=1 by rw[HE.out,qN,h1,h2];rfl)
   go_enter Tryz.func116,Tryz.ntmps116
   go_wp2_with (go_at_call 165;refine(pJ _ _).mono ?_;rintro e w1 ⟨rfl,rfl⟩)
   go_ret
   exact⟨by rw[HR.out];rfl,rfl⟩
  ·have HR:=Sk (show E=0 by rw[HE.out,qN,h1,h2];rfl)
   go_enter Tryz.func116,Tryz.ntmps116
   go_wp2_with (go_at_call 165;refine(pJ _ _).mono ?_;rintro e w1 ⟨rfl,rfl⟩)
   go_ret
   exact⟨by rw[HR.out];rfl,rfl⟩
 ·have HR:=Sk (show E=-1 by rw[HE.out,qN,h1];rfl)
  go_enter Tryz.func116,Tryz.ntmps116
  go_wp2_with (go_at_call 165;refine(pJ _ _).mono ?_;rintro e w1 ⟨rfl,rfl⟩)
  go_ret
  exact⟨by rw[HR.out];rfl,rfl⟩
theorem JC (a b:Int)(w:World):Calls Tryz.prog 117 #[.int .i64 a,.int .i64 b] w fun e w'=>e=.returned (.int .i64 (qO a b))∧w=w':=by
 obtain⟨E,HE⟩:∃E,Hid (E=qO a b):=⟨_,rfl⟩
 rw[←HE.out]
 by_cases h1:a<b
 ·have HR:=Sk (show E=-1 by rw[HE.out,qO,TY h1])
  go_enter Tryz.func117,Tryz.ntmps117
  go_wp2_with (go_at_call 166;refine(pK _ _).mono ?_;rintro e w1 ⟨rfl,rfl⟩)
  go_ret
  exact⟨by rw[HR.out];rfl,rfl⟩
 ·have h1':decide (a<b)=false:=by simpa using h1
  by_cases h2:b<a
  ·have HR:=Sk (show E=1 by rw[HE.out,qO,TW h1,TY h2])
   clear h1
   go_enter Tryz.func117,Tryz.ntmps117
   go_wp2_with (go_at_call 166;refine(pK _ _).mono ?_;rintro e w1 ⟨rfl,rfl⟩)
   go_ret
   exact⟨by rw[HR.out];rfl,rfl⟩
  ·have h2':decide (b<a)=false:=by simpa using h2
   have HR:=Sk (show E=0 by rw[HE.out,qO,TW h1,TW h2])
   clear h1 h2
   go_enter Tryz.func117,Tryz.ntmps117
   go_wp2_with (go_at_call 166;refine(pK _ _).mono ?_;rintro e w1 ⟨rfl,rfl⟩)
   go_ret
   exact⟨by rw[HR.out];rfl,rfl⟩
def orZ (x y:Int):Int:=if x=0 then y else x
theorem He (b:Nat)(x y:Int)(w:World)(hx:w.cell? ⟨b,0,none⟩=some (.int .i64 x))(hy:w.cell? ⟨b,1,none⟩=some (.int .i64 y)) :
  Calls Tryz.prog 115 #[.slice (some ⟨b,0,none⟩) 2 2] w fun e w'=>e=.returned (.int .i64 (orZ x y))∧w=w':=by
 obtain⟨E,HE⟩:∃E,Hid (E=orZ x y):=⟨_,rfl⟩
 rw[←HE.out]
 go_enter Tryz.func115,Tryz.ntmps115
 go_wp2
 go_loopg [5,8] 2 (fun g _ ct wr=>∃j:Nat,g=2-j∧j≤2∧ct=.int .i64 j∧(0<j→x=0)∧(1<j→y=0)∧wr=w)
 case atStart=>exact⟨0,rfl,by omega,rfl,by omega,by omega,rfl⟩
 case round =>
  obtain⟨j,HG,hj,rfl,H1,H2,rfl⟩:=hrel
  have HG':=Sk (Sn HG (Sn H1 H2))
  clear HG H1 H2
  match j,hj,HG' with
  | 0,_,HG' =>
   by_cases h:x=0
   ·have HX:=Sk h
    have h':(x != 0)=false:=by simp[h]
    clear h
    go_wp2
    go_roundg 1
    case measure=>rw[HG'.out.1];omega
    case rel=>exact⟨1,rfl,by omega,by go_num,fun _=>HX.out,by omega,rfl⟩
   ·have HR:=Sk (show E=x by rw[HE.out,orZ,TW h])
    have h':(x != 0)=true:=by simpa using h
    go_wp2
    go_ret
    exact⟨by rw[HR.out];rfl,rfl⟩
  | 1,_,HG' =>
   by_cases h:y=0
   ·have HX:=Sk h
    have h':(y != 0)=false:=by simp[h]
    clear h
    go_wp2
    go_roundg 0
    case measure=>rw[HG'.out.1];omega
    case rel=>exact⟨2,rfl,by omega,by go_num,fun _=>HG'.out.2.1 (by omega),fun _=>HX.out,rfl⟩
   ·have HR:=Sk (show E=y by rw[HE.out,orZ,TY (HG'.out.2.1 (by omega))])
    have h':(y != 0)=true:=by simpa using h
    go_wp2
    go_ret
    exact⟨by rw[HR.out];rfl,rfl⟩
  | 2,_,HG' =>
   have HR:=Sk (show E=0 by rw[HE.out,orZ,TY (HG'.out.2.1 (by omega)),HG'.out.2.2 (by omega)])
   go_wp2
   go_ret
   exact⟨by rw[HR.out];rfl,rfl⟩
def lG (a:ByteArray)(i:Int)(b:ByteArray)(j:Int):Int:=orZ (qN a b) (qO i j)
theorem Hf (a b:ByteArray)(i j:Int)(w:World):Calls Tryz.prog 114 #[.agg #[.string a,.int .i64 i],.agg #[.string b,.int .i64 j]] w fun e w'=>e=.returned (.int .i64 (lG a i b j))∧∃q os,w'=Sort.grow (w.drewN q) os:=by
 obtain⟨p,Hp⟩:∃p,Hid (qN a b=p):=⟨_,rfl⟩
 obtain⟨r,Hr⟩:∃r,Hid (qO i j=r):=⟨_,rfl⟩
 have HE:=Sk (show lG a i b j=orZ p r by rw[lG,Hp.out,Hr.out])
 rw[HE.out]
 obtain⟨W0,hW0⟩:∃W0,(w.alloc (.cells #[.string a,.int .i64 i] 102)).alloc (.cells #[.string b,.int .i64 j] 102)=W0:=⟨_,rfl⟩
 have hz:w.heap.size+1<W0.heap.size:=by subst hW0;simp
 have HB0:=Sk (show Below w.heap.size w W0 by subst hW0;exact((TA _ _).alloc (SA _) _).alloc (by simp) _)
 have HG0:Hid (W0=Sort.grow w (#[.cells #[.string a,.int .i64 i] 102] ++ #[.cells #[.string b,.int .i64 j] 102])):=by
  show _=_
  rw[←hW0,Sort.alloc_eq_grow,Sort.alloc_eq_grow,Sort.grow_grow]
 have h0:W0.cell? ⟨w.heap.size,0,none⟩=some (.string a):=by subst hW0;go_simp
 have h1:W0.cell? ⟨w.heap.size,1,none⟩=some (.int .i64 i):=by subst hW0;go_simp
 have h2:W0.cell? ⟨w.heap.size+1,0,none⟩=some (.string b):=by subst hW0;go_simp
 have h3:W0.cell? ⟨w.heap.size+1,1,none⟩=some (.int .i64 j):=by subst hW0;go_simp
 have HC:=Sk (Sn h0 (Sn h1 (Sn h2 h3)))
 have HN:=Sk (show (W0.drew.alloc (.cells #[.int .i64 p,.int .i64 r] 3)).cell? ⟨w.heap.size,0,none⟩=some (.string a)∧(W0.drew.alloc (.cells #[.int .i64 p,.int .i64 r] 3)).cell? ⟨w.heap.size,1,none⟩=some (.int .i64 i)∧(W0.drew.alloc (.cells #[.int .i64 p,.int .i64 r] 3)).cell? ⟨w.heap.size+1,0,none⟩=some (.string b)∧(W0.drew.alloc (.cells #[.int .i64 p,.int .i64 r] 3)).cell? ⟨w.heap.size+1,1,none⟩=some (.int .i64 j)from
  ⟨(SQ _ _ _ (show w.heap.size<W0.heap.size by omega)).trans h0,(SQ _ _ _ (show w.heap.size<W0.heap.size by omega)).trans h1,(SQ _ _ _ hz).trans h2,(SQ _ _ _ hz).trans h3⟩)
 clear h0 h1 h2 h3
 have HB1:=Sk (HB0.out.alloc (show w.heap.size≤W0.heap.size by omega) (.cells #[.int .i64 p,.int .i64 r] 3))
 go_enter Tryz.func114,Tryz.ntmps114
 go_wp2_with fail
 clear hW0
 go_region_held3 (fun W=>W.cell? ⟨w.heap.size,0,none⟩=some (.string a)∧W.cell? ⟨w.heap.size,1,none⟩=some (.int .i64 i)∧W.cell? ⟨w.heap.size+1,0,none⟩=some (.string b)∧W.cell? ⟨w.heap.size+1,1,none⟩=some (.int .i64 j))
  (first|exact HC.out|exact HN.out)
  (first
   | (go_at_call 116;refine(JB a b _).mono ?_;rintro e w1 ⟨rfl,rfl⟩;rw[Hp.out])
   | (go_at_call 117;refine(JC i j _).mono ?_;rintro e w1 ⟨rfl,rfl⟩;rw[Hr.out])
   | (go_at_call 115;refine(He W0.heap.size p r _ (by go_simp) (by go_simp)).mono ?_;rintro e w1 ⟨rfl,rfl⟩))
 all_goals (
  go_wp2
  go_ret
  refine⟨rfl,1,#[.cells #[.string a,.int .i64 i] 102] ++ #[.cells #[.string b,.int .i64 j] 102] ++ #[.cells #[.int .i64 p,.int .i64 r] 3],?_⟩
  show (W0.alloc (.cells #[.int .i64 p,.int .i64 r] 3)).drew=_
  rw[Sort.alloc_eq_grow,HG0.out,Sort.grow_grow]
  rfl)
open Go.Sort
def dY (x:ByteArray×Int):List Value:=[.string x.1,.int .i64 x.2]
def aL:List (ByteArray×Int)→List Value
 | []=>[]
 | x::r=>dY x++aL r
theorem eZ (l:List (ByteArray×Int)):(aL l).length=l.length*2:=by
 induction l with
 | nil=>rfl
 | cons x l ih=>simp[aL,dY,ih];omega
theorem lD (l m:List (ByteArray×Int)):aL (l++m)=aL l++aL m:=by
 induction l with
 | nil=>rfl
 | cons x l ih=>simp[aL,ih]
theorem fC (x:ByteArray×Int):∀(l:List (ByteArray×Int))(j:Nat),l[j]?=some x→(aL l)[j*2]?=some (.string x.1)∧(aL l)[j*2+1]?=some (.int .i64 x.2)
 | [],j,h=>by simp at h
 | y::l,0,h=>by simp at h;subst h;simp[aL,dY]
 | y::l,j+1,h=>by
  have ih:=fC x l j (by simpa using h)
  rw[show (j+1)*2=j*2+1+1 by omega,show j*2+1+1+1=j*2+1+1+1 from rfl]
  simpa [aL,dY]using ih
theorem vv (l:List (ByteArray×Int)):(flatK dY 2 l.toArray).toList=aL l:=by
 apply List.ext_getElem?
 intro t
 by_cases ht:t<l.length*2
 ·have h2:t / 2<l.length:=by omega
  obtain⟨x,hxe⟩:∃x,l[t / 2]=x:=⟨_,rfl⟩
  have hx:l[t / 2]?=some x:=by rw[Sw h2,hxe]
  obtain⟨h0,h1⟩:=fC _ l (t / 2) hx
  have e:(flatK dY 2 l.toArray).toList[t]?=some ((dY x)[t % 2]!):=by
   have hs:t<(flatK dY 2 l.toArray).size:=by simpa using ht
   rw[Array.getElem?_toList,Array.getElem?_eq_getElem hs]
   have:=get_flatK dY 2 l.toArray t (by simpa using ht)
   rw[getElem!_pos (flatK dY 2 l.toArray) t hs]at this
   rw[this]
   simp[h2,hxe]
  rw[e]
  rcases (show t % 2=0∨t % 2=1 by omega)with h|h
  ·rw[show t / 2*2=t by omega]at h0;rw[h0,h];simp[dY]
  ·rw[show t / 2*2+1=t by omega]at h1;rw[h1,h];simp[dY]
 ·rw[Ui (by simp;omega),Ui (by rw[eZ];omega)]
theorem Nu {w:World}{base g cap:Nat}{l:List (ByteArray×Int)}(h:w.ownsRow base 102 2 (.slice (some ⟨g,0,none⟩) l.length cap) l.length (aL l)):HoldsK dY 2 w g 0 l.toArray:=by
 intro j hj
 have hj':j<l.length*2:=by simpa using hj
 rw[Nat.zero_add]
 refine⟨?_,h.frozenAt j⟩
 rw[h.cellAt j hj',←vv,Array.getElem?_toList,Array.getElem?_eq_getElem hj,getElem!_pos _ j hj]
 rfl
theorem Nv {w:World}{g n:Nat}{os:Array Obj}(d:Array (ByteArray×Int)):w.grownBy (sortWorldK dY 2 w g 0 n d os) (some g):=by
 refine⟨rfl,rfl,rfl,by simp[sortWorldK,putRowK],fun k hk hne=>?_⟩
 have:g≠k:=fun e=>hne (by rw[e])
 simp only[sortWorldK,putRowK]
 rw[heap_grow_old _ _ (by simpa using hk)]
 simp[putRow,mapBlock,Sort.ahead,Uj,this]
theorem O5 {w:World}{base g cap n:Nat}{os:Array Obj}{l m:List (ByteArray×Int)}(h:w.ownsRow base 102 2 (.slice (some ⟨g,0,none⟩) l.length cap) l.length (aL l))(hm:m.length=l.length) :
  (sortWorldK dY 2 w g 0 n m.toArray os).ownsRow base 102 2 (.slice (some ⟨g,0,none⟩) m.length cap) m.length (aL m):=by
 rcases h.2 with⟨h',_⟩|⟨g',cap',cur,h',hb,hg,h1,h2,h3,h4⟩
 ·simp at h'
 ·simp only[Value.slice.injEq,TK,Addr.mk.injEq,and_true,true_and]at h'
  obtain⟨rfl,rfl⟩:=h'
  have hgl:=(Sz.1 hg).1
  refine⟨eZ m,.inr ⟨g,cap,putCells id 0 (flatK dY 2 m.toArray) cur,rfl,hb,?_,by omega,h2,by simp[putCells,h3],?_⟩⟩
  ·simp only[sortWorldK,putRowK]
   rw[heap_grow_old _ _ (by simpa using hgl)]
   simp[putRow,mapBlock,Sort.ahead,Uj,hg,onCells]
  ·rw[←vv]
   apply List.ext_getElem?
   intro j
   by_cases hj:j<m.length*2
   ·have hs:j<(flatK dY 2 m.toArray).size:=by simpa using hj
    have hc:j<cur.size:=by rw[h3];omega
    rw[List.getElem?_take_of_lt hj,Array.getElem?_toList,Array.getElem?_toList]
    simp only[putCells]
    rw[Array.getElem?_eq_getElem (by simpa using hc),Array.getElem?_eq_getElem hs]
    simp[show j<m.length*2 from hj]
   ·rw[List.getElem?_take_eq_none (by omega),Ui (by simp;omega)]
def ltN (x y:ByteArray×Int):Prop:=x.1.data.toList<y.1.data.toList∨(x.1.data.toList=y.1.data.toList∧x.2<y.2)
instance (x y:ByteArray×Int):Decidable (ltN x y):=inferInstanceAs (Decidable (_∨_))
theorem LU (x y:ByteArray×Int):lG x.1 x.2 y.1 y.2<0↔ltN x y:=by
 unfold lG qN qO orZ ltN
 rw[bytesLess_eq,Lib.toList_data,Lib.toList_data]
 by_cases h1:x.1.data.toList<y.1.data.toList
 ·simp[h1]
 ·by_cases h2:x.1.data.toList=y.1.data.toList
  ·by_cases h3:x.2<y.2
   ·simp[h2,h3]
   ·by_cases h4:y.2<x.2 <;> simp[h2,h3,h4]
  ·have h3:¬x.1.data=y.1.data:=fun e=>h2 (by rw[e])
   simp[h1,h3]
theorem jW (x y:ByteArray×Int):ltOf (fun x y:ByteArray×Int=>lG x.1 x.2 y.1 y.2) x y=decide (ltN x y):=decide_eq_decide.2 (LU x y)
theorem vw (a b:List UInt8):a<b∨a=b∨b<a:=by
 rcases Std.lt_trichotomy a b with h|h|h
 ·exact .inl h
 ·exact .inr (.inl h)
 ·exact .inr (.inr h)
theorem Qf:SWO (ltOf fun x y:ByteArray×Int=>lG x.1 x.2 y.1 y.2) where
 irrefl x:=by rw[jW];exact SH (by simp[ltN,List.lt_irrefl])
 trans x y z h1 h2:=by
  rw[jW]at *
  replace h1:=SK h1
  replace h2:=SK h2
  refine SI ?_
  unfold ltN at *
  rcases h1 with h1|⟨h1,h1'⟩ <;> rcases h2 with h2|⟨h2,h2'⟩
  ·exact .inl (List.lt_trans h1 h2)
  ·exact .inl (h2▸h1)
  ·exact .inl (h1▸h2)
  ·exact .inr ⟨h1.trans h2,by omega⟩
 ntrans x y z h1 h2:=by
  rw[jW]at *
  replace h1:=SL h1
  replace h2:=SL h2
  refine SH ?_
  simp only[ltN,not_or,not_and,Int.not_lt]at *
  have hxy:y.1.data.toList<x.1.data.toList∨x.1.data.toList=y.1.data.toList:=by rcases vw x.1.data.toList y.1.data.toList with h|h|h;exact absurd h h1.1;exact .inr h;exact .inl h
  have hyz:z.1.data.toList<y.1.data.toList∨y.1.data.toList=z.1.data.toList:=by rcases vw y.1.data.toList z.1.data.toList with h|h|h;exact absurd h h2.1;exact .inr h;exact .inl h
  refine⟨fun h=>?_,fun h=>?_⟩
  ·rcases hxy with a|a <;> rcases hyz with b|b
   ·exact List.lt_irrefl _ (List.lt_trans h (List.lt_trans b a))
   ·rw[←b]at h;exact List.lt_irrefl _ (List.lt_trans h a)
   ·rw[a]at h;exact List.lt_irrefl _ (List.lt_trans h b)
   ·rw[a,b]at h;exact List.lt_irrefl _ h
  ·rcases hxy with a|a <;> rcases hyz with b|b
   ·rw[h]at a;exact absurd (List.lt_trans a b) (List.lt_irrefl _)
   ·rw[h,b]at a;exact absurd a (List.lt_irrefl _)
   ·rw[←a,h]at b;exact absurd b (List.lt_irrefl _)
   ·have:=h1.2 a;have:=h2.2 b;omega
theorem Qg (x y:ByteArray×Int)(h1:ltOf (fun x y:ByteArray×Int=>lG x.1 x.2 y.1 y.2) x y=false)(h2:ltOf (fun x y:ByteArray×Int=>lG x.1 x.2 y.1 y.2) y x=false):x=y:=by
 rw[jW]at h1 h2
 replace h1:=SL h1
 replace h2:=SL h2
 simp only[ltN,not_or,not_and,Int.not_lt]at h1 h2
 rcases vw x.1.data.toList y.1.data.toList with h|h|h
 ·exact absurd h h1.1
 ·have e1:=h1.2 h
  have e2:=h2.2 h.symm
  exact Prod.ext (WideShapes.bytes_inj h) (by omega)
 ·exact absurd h h2.1
def cK (l:List (ByteArray×Int)):List (ByteArray×Int):=l.mergeSort fun x y=>!(decide (ltN y x))
theorem Tryz.LV (w:World):(isAgg 102).run Tryz.prog w=.ok true w:=by kernel_rfl
theorem Tryz.JD (w:World):(Go.sizeOf 102).run Tryz.prog w=.ok 2 w:=by kernel_rfl
def K6 (l:List (ByteArray×Int))(base g cap:Nat)(w:World)(e:Ending)(w':World):Prop:=
 (∃v,e=.returned v)∧w'.ownsRow base 102 2 (.slice (some ⟨g,0,none⟩) (cK l).length cap) (cK l).length (aL (cK l))∧w.grownBy w' (some g)
theorem JE (g n:Nat)(w:World):CmpLays Tryz.prog 114 #[] dY 2 (fun x y=>lG x.1 x.2 y.1 y.2) g 0 n w:=by
 intro m os dk _ x y
 have h:=Hf x.1 y.1 x.2 y.2 (sortWorldK dY 2 w g 0 m dk os)
 exact h
theorem Hg (l:List (ByteArray×Int))(base g cap:Nat)(w:World)(h:w.ownsRow base 102 2 (.slice (some ⟨g,0,none⟩) l.length cap) l.length (aL l))(hl:l.length≤1000000) :
  Calls Tryz.prog 113 #[.slice (some ⟨g,0,none⟩) l.length cap,.func (.func 114) #[] #[]] w (K6 l base g cap w):=by
 have eg:=jO (fid:=114) rfl rfl rfl
 have hg:g<w.heap.size:=(h.lt g rfl).2
 have hc:=AnyQ.slices_SortFunc_total Tryz.sortN 2 Tryz.LV Tryz.JD dY (fun _=>rfl) (fun x v hv=>by simp[dY]at hv;rcases hv with rfl|rfl <;> rfl) (fun x y=>lG x.1 x.2 y.1 y.2) Qf 114 #[] g 0 cap l.toArray w eg
  (JE g _ w) (Nu h) hg (by simp;omega) Qg
 have e:(l.mergeSort fun x y=>!(ltOf (fun x y:ByteArray×Int=>lG x.1 x.2 y.1 y.2)) y x)=cK l:=by
  unfold cK
  congr 1
  funext x y
  rw[jW]
 simp only[List.size_toArray]at hc
 rw[e]at hc
 refine TJ hc ?_
 rintro e w' ⟨rfl,n,os,rfl⟩
 exact⟨⟨_,rfl⟩,O5 h (by simp[cK]),Nv _⟩
theorem EP (p:Option Addr)(cap:Nat)(fv:Value)(w:World):Calls Tryz.prog 113 #[.slice p 0 cap,fv] w fun e w'=>(∃v,e=.returned v)∧w=w':=
 (AnyF.slices_SortFunc_none Tryz.sortN p cap fv w).mono fun _ _ h=>⟨⟨_,h.1⟩,h.2.symm⟩
end Go.Proofs.Q
