/- infer.instance -/
import Derived.Test.YtmmecapgnmlaiaaGreatDoorZxo
set_option maxRecDepth 100000
set_option maxHeartbeats 16000000
namespace Go.Proofs.Unify
open Go Go.RowKit Go.Proofs
def Tf.All (P:Tf→Prop):Tf→Prop
 | .nil=>True
 | .cons _ _ s r=>P s∧r.All P
theorem Tf.AX {P:Tf→Prop}(h:∀s,s.All P→P s):∀s:Tf,s.All P
 | .nil=>trivial
 | .cons _ _ s r=>⟨h s (Tf.AX h s),Tf.AX h r⟩
theorem Tf.eT {P:Tf→Prop}(h:∀s,s.All P→P s)(s:Tf):P s:=h s (Tf.AX h s)
def Tf.Ok:Tf→Prop
 | .nil=>True
 | .cons _ v s r=>(Lit.int .i64 v).wf=true∧s.Ok∧r.Ok
end Go.Proofs.Unify
namespace Go.Proofs.Q
open Go Go.RowKit Go.Proofs Go.Proofs.Unify
variable {D:Nat→Prop} {M:Nat→Prop}
theorem StH.Fh {w:World}{ix:List Nat}{S:St}{sz:Nat→Int}(h:StH D M w ix S sz){D':Nat→Prop}(hd:∀b,b∈ix→D' b→D b):StH D' M w ix S sz:=by
 obtain⟨Q,h1,h2⟩:=h
 exact⟨Q,h1,h2.Fh hd⟩
theorem StH.NI {w:World}{ix:List Nat}{S:St}{sz:Nat→Int}(h:StH D M w ix S sz):∀b∈ix,b<w.heap.size∧TgN w b∧¬D b:=by
 obtain⟨Q,h1,h2⟩:=h
 intro b hb
 obtain⟨i,hi,e⟩:=List.getElem_of_mem hb
 have h3:=h2.tg (i:=i) (by rw[←h2.len];exact hi)
 have h4:blk ix i=b:=by unfold blk;rw[TM,Sw hi];exact e
 rw[h4]at h3
 exact⟨h3.lt,h3,h2.base b hb⟩
theorem StH.zh {ar:Int→Nat}{w:World}{ix:List Nat}{S:St}(hw:Wf ar S)(h:StH D M w ix S fun _=>0){b:Nat}(hb0:¬D b)(hbi:b∉ix){k:Int}{l:List Nat}{A:Option Addr}{c:Nat}
  (hn:w.heap[b]?=some (.cells #[.pointer none,.int .i64 k,.slice A l.length c,.int .i64 0] 151 (0,0)))(hlc:l.length≤c)(hc:c≤maxLen)(hs:jm M w ix A l)(hl:∀j∈l,j<S.length) :
  StH D M w (ix++[b]) (S++[⟨none,k,l,0⟩]) fun _=>0:=by
 obtain⟨Q,h1,h2⟩:=h
 refine⟨_,h1.add _ rfl (fun i x j hx hj=>?_),h2.zh hb0 hbi hn hlc hc hs (fun j hj=>by rw[h1.len];exact hl j hj)⟩
 obtain⟨t,n,hr,_⟩:=hw.root i (Sy.1 hx).1
 rcases Root.inv hr with⟨y,e1,e2,_⟩|⟨y,j',m,e1,e2,e3,_⟩
 ·rw[hx]at e1
  cases e1
  rw[hj]at e2
  cases e2
 ·rw[hx]at e1
  cases e1
  rw[hj]at e2
  cases e2
  rcases Root.inv e3 with⟨z,f1,_⟩|⟨z,_,_,f1,_⟩
  ·exact(Sy.1 f1).1
  ·exact(Sy.1 f1).1
theorem Kx.weak {D':Nat→Prop}{E:Nat→Prop}{X Y:World}(h:Kx D' E X Y)(hd:∀k,D k→D' k):Kx D E X Y:=
 ⟨h.os,h.tape,h.output,h.size,fun k hk ht hE=>h.block k hk (ht.imp (hd k) id) hE,h.tg,h.nd⟩
theorem oJ {ix y:List Nat}{i:Nat}(h:i<ix.length):blk (ix++y) i=blk ix i:=by
 unfold blk
 rw[TM,TM,Tg h]
def vsF (ix:List Nat)(vs:List (Int×Nat))(a:Int):Option Value:=(vs.lookup a).map fun i=>nP (blk ix i)
def jX (w:World)(vb:Nat)(ix:List Nat)(vs:List (Int×Nat)):Prop:=aQ aH w vb vs.length (vsF ix vs)
theorem jX.not {w:World}{vb:Nat}{ix:List Nat}{vs:List (Int×Nat)}(h:jX w vb ix vs):vb<w.heap.size∧¬TgN w vb:=by
 refine⟨h.lt,?_⟩
 obtain⟨n,Dd,⟨es,cl,h1,_⟩,_⟩:=h
 exact TgN.vI h1
theorem jX.keep {w w':World}{vb:Nat}{ix:List Nat}{vs:List (Int×Nat)}(h:jX w vb ix vs)(e:w'.heap[vb]?=w.heap[vb]?):jX w' vb ix vs:=aQ.keep h e
theorem sD {ix y:List Nat}{vs:List (Int×Nat)}(hv:∀x∈vs,x.2<ix.length):vsF (ix++y) vs=vsF ix vs:=by
 funext a
 unfold vsF
 cases h:vs.lookup a with
 | none=>rfl
 | some i=>simp only[Option.map_some];rw[oJ (hv _ (gG h))]
theorem DX {ix:List Nat}{vs:List (Int×Nat)}{v:Int}{i:Nat}(h:vs.lookup v=none):(fun x=>if x=v then some (nP (blk ix i))else vsF ix vs x)=vsF ix (vs++[(v,i)]):=by
 funext a
 unfold vsF
 rw[List.lookup_append]
 by_cases e:a=v
 ·subst e
  rw[TY rfl,h]
  simp[List.lookup]
 ·rw[TW e]
  cases h2:vs.lookup a with
  | none =>
   have:(a==v)=false:=by simpa using e
   simp[List.lookup,this]
  | some i=>simp
theorem Tryz.jH:Tryz.prog.underlying 91=some (.map 3 144):=by kernel_rfl
theorem Tryz.yu:Tryz.prog.underlying 92=some (.slice 144):=by kernel_rfl
theorem kV (w:World):(zeroValue 144).run Tryz.prog w=.ok (.pointer none) w:=by kernel_rfl
theorem Tryz.yw:(Tryz.prog.info? 144).map (fun i=>(i.zero,i.size,i.bytes))=some (some (.pointer none),1,8):=by kernel_rfl
def JX (D M:Nat→Prop)(w:World)(ix:List Nat)(vb:Nat)(R:Nat×List (Int×Nat)×St)(e:Ending)(w':World):Prop:=
 ∃ix',e=.returned (nP (blk ix' R.1))∧(∃y,ix'=ix++y)∧StH D M w' ix' R.2.2 (fun _=>0)∧jX w' vb ix' R.2.1∧Kx D (fun k=>k=vb) w w'
def Far (D P:Nat→Prop)(w:World)(vb:Nat):Prop:=∀b,P b→b<w.heap.size∧(D b∨¬TgN w b)∧b≠vb
def zo (ar:Int→Nat)(s:Tf):Prop:=∀(D M P:Nat→Prop)(k v:Int)(vs:List (Int×Nat))(S:St)(ix:List Nat)(w:World)(A:Option Addr)(c vb:Nat),Wf ar S→(k≠5→s.len=ar k)→s.Fit ar→(Lit.int .i64 v).wf=true→s.Ok→(∀x∈vs,x.2<S.length) →
 Far D P w vb→s.Sl w P A c→M vb→(∀b,D b→b<w.heap.size)→StH D M w ix S (fun _=>0)→jX w vb ix vs→vs.length+s.cnt≤1000000 →
 Calls Tryz.prog 251 #[.agg #[.int .i64 k,.int .i64 v,.slice A s.len c],.map (some vb)] w (JX D M w ix vb (gW k v s vs S))
structure InI (D M:Nat→Prop)(w:World)(vb bn:Nat)(kd:Int)(ix0:List Nat)(X:World)(v:Value)(l ix:List Nat)(vs:List (Int×Nat))(S:St):Prop where
 box:X.heap[bn]?=some (.cells #[.pointer none,.int .i64 kd,v,.int .i64 0] 151 (0,0))
 row:X.ownsRow (bn+1) 144 1 v l.length (l.map fun j=>nP (blk ix j))
 st:StH (fun k=>D k∨k=bn) (fun k=>M k∨v.ownBlock=some k) X ix S (fun _=>0)
 vm:jX X vb ix vs
 pre:∃y,ix=ix0++y
 kx:Kx D (fun k=>k=vb) w X
 hm:M vb
 hml:∀k,M k→k<w.heap.size
 hdl:∀k,D k→k<w.heap.size
 hbn:w.heap.size≤bn
 mem:∀j∈l,j<S.length
section
variable {w:World} {vb bn:Nat} {kd:Int} {ix0:List Nat} {X:World} {v:Value} {l ix:List Nat} {vs:List (Int×Nat)} {S:St}
theorem InI.own (h:InI D M w vb bn kd ix0 X v l ix vs S){g:Nat}(hg:v.ownBlock=some g):bn<g∧g<X.heap.size∧¬TgN X g:=by
 have h1:=h.row.lt g hg
 obtain⟨c,fz,h2⟩:=Lib.ownsRow_kind h.row g hg
 exact⟨by omega,h1.2,TgN.not h2 (by decide)⟩
theorem InI.call (h:InI D M w vb bn kd ix0 X v l ix vs S){Y:World}{y:List Nat}{vs':List (Int×Nat)}{S':St}(hst:StH (fun k=>D k∨k=bn) (fun k=>M k∨v.ownBlock=some k) Y (ix++y) S' (fun _=>0))(hvm:jX Y vb (ix++y) vs')(hk:Kx (fun k=>D k∨k=bn) (fun k=>k=vb) X Y)(hS:S.length≤S'.length) :
  InI D M w vb bn kd ix0 Y v l (ix++y) vs' S':=by
 have hbl:=(Sz.1 h.box).1
 have hvb:=h.hml vb h.hm
 have hbn:=h.hbn
 have hlen:=h.st.len
 obtain⟨z,hz⟩:=h.pre
 refine⟨(hk.block bn hbl (.inl (.inr rfl)) (by omega)).trans h.box,?_,hst,hvm,⟨z++y,by rw[hz,TR]⟩,h.kx.trans (hk.weak fun _ h=>.inl h) (fun _ _ e=>e),h.hm,h.hml,h.hdl,hbn,fun j hj=>SB (h.mem j hj) hS⟩
 have e:(l.map fun j=>nP (blk (ix++y) j))=l.map fun j=>nP (blk ix j):=List.map_congr_left fun j hj=>by rw[oJ (by rw[hlen];exact h.mem j hj)]
 rw[e]
 refine⟨h.row.1,?_⟩
 rcases h.row.2 with h'|⟨g,cap,cur,e1,e2,e3,e4⟩
 ·exact .inl h'
 ·have h3:=h.own (g:=g) (by rw[e1];rfl)
  exact .inr ⟨g,cap,cur,e1,e2,(hk.block g h3.2.1 (.inr h3.2.2) (by omega)).trans e3,e4⟩
theorem InI.below (h:InI D M w vb bn kd ix0 X v l ix vs S){Y:World}(hb:Below X.heap.size X Y):InI D M w vb bn kd ix0 Y v l ix vs S:=by
 have:=h.call (y:=[]) (Y:=Y) (vs':=vs) (S':=S) (by rw[TV];exact h.st.keep hb) (by rw[TV];exact h.vm.keep (hb.block vb h.vm.not.1)) ((Kn.below hb).x _) (SA _)
 rw[TV]at this
 exact this
theorem InI.push (h:InI D M w vb bn kd ix0 X v l ix vs S){i:Nat}(hi:i<S.length){O:Obj}{gg cap:Nat}{Y:World}
  (ho:Y.ownsRow (bn+1) 144 1 (.slice (some ⟨gg,0,none⟩) (l.length+1) cap) (l.length+1) ((l.map fun j=>nP (blk ix j))++[nP (blk ix i)]))(hg:(X.alloc O).grownBy Y v.ownBlock)(hgg:v.ownBlock=some gg∨gg=(X.alloc O).heap.size) :
  InI D M w vb bn kd ix0 (Y.setCell ⟨bn,2,none⟩ (.slice (some ⟨gg,0,none⟩) (l.length+1) cap)) (.slice (some ⟨gg,0,none⟩) (l.length+1) cap) (l++[i]) ix vs S:=by
 have hbl:=(Sz.1 h.box).1
 have hvb:=h.hml vb h.hm
 have hbn:=h.hbn
 have hsz:(X.alloc O).heap.size=X.heap.size+1:=by simp
 have hsY:X.heap.size+1≤Y.heap.size:=by rw[←hsz];exact hg.size
 have same:∀k,k<X.heap.size→k≠bn→v.ownBlock≠some k→(Y.setCell ⟨bn,2,none⟩ (.slice (some ⟨gg,0,none⟩) (l.length+1) cap)).heap[k]?=X.heap[k]?:=fun k h1 h2 h3 =>
  (Tx _ _ _ _ h2).trans ((hg.block k (by omega) (fun e=>h3 e.symm)).trans (Tt _ _ _ h1))
 have obn:v.ownBlock≠some bn:=fun e=>by have:=(h.own e).1;omega
 have ggb:bn<gg:=by
  rcases hgg with e|e
  ·exact(h.own e).1
  ·omega
 have pV:Y.heap[bn]?=some (.cells #[.pointer none,.int .i64 kd,v,.int .i64 0] 151 (0,0)):=((hg.block bn (by omega) (fun e=>obn e.symm)).trans (Tt _ _ _ hbl)).trans h.box
 have zq:=heap_set (i:=2) pV (.slice (some ⟨gg,0,none⟩) (l.length+1) cap)
 have hlt:∀k,k<Y.heap.size→k<(Y.setCell ⟨bn,2,none⟩ (.slice (some ⟨gg,0,none⟩) (l.length+1) cap)).heap.size:=fun k hk=>by simpa [World.setCell]using hk
 have hsub:Y.heap.size≤(Y.setCell ⟨bn,2,none⟩ (.slice (some ⟨gg,0,none⟩) (l.length+1) cap)).heap.size:=by simp[World.setCell]
 have Fp:gg<Y.heap.size∧¬TgN Y gg:=by
  obtain⟨c,fz,h2⟩:=Lib.ownsRow_kind ho gg rfl
  exact⟨(Sz.1 h2).1,TgN.not h2 (by decide)⟩
 have hbig:∀k,k<w.heap.size→(Y.setCell ⟨bn,2,none⟩ (.slice (some ⟨gg,0,none⟩) (l.length+1) cap)).heap[k]?=X.heap[k]?:=fun k hk=>same k (by have:=h.kx.size;omega) (by omega) (fun e=>by have:=(h.own e).1;omega)
 refine⟨zq,?_,?_,h.vm.keep (hbig vb hvb),h.pre,?_,h.hm,h.hml,h.hdl,hbn,fun j hj=>?_⟩
 ·rw[SX,SY,Tp,List.map_singleton]
  refine⟨ho.1,?_⟩
  rcases ho.2 with⟨e,_⟩|⟨g,cap',cur,e1,e2,e3,e4⟩
  ·cases e
  ·exact .inr ⟨g,cap',cur,e1,e2,(Tx _ _ _ _ (by show g≠bn;omega)).trans e3,e4⟩
 ·have hst:=h.st
  obtain⟨Q,q1,q2⟩:=hst
  refine⟨Q,q1,q2.len,q2.nodup,q2.base,fun k hk=>?_,fun k hk=>?_,fun i x hx=>?_,q2.cl⟩
  ·rcases hk with hk|hk
   ·have:=h.hml k hk
    have:=h.kx.size
    exact hlt k (by omega)
   ·simp only[Value.ownBlock,TK]at hk
    subst hk
    exact hlt _ Fp.1
  ·rcases hk with hk|hk
   ·exact fun ht=>q2.xn k (.inl hk) ((TgN.congr (hbig k (h.hml k hk))).1 ht)
   ·simp only[Value.ownBlock,TK]at hk
    subst hk
    exact fun ht=>Fp.2 ((TgN.congr (Tx _ _ _ _ (by show gg≠bn;omega))).1 ht)
  ·obtain⟨A,c,h1,h2,h3,h4⟩:=q2.node i x hx
   have hi':=(Sy.1 hx).1
   have hne:blk ix i≠bn:=fun e=>q2.low hi' (.inr e)
   have hno:v.ownBlock≠some (blk ix i):=fun e=>(h.own e).2.2 (q2.tg hi')
   refine⟨A,c,(same _ (q2.tg hi').lt hne hno).trans h1,h2,h3,fun hnn=>?_⟩
   obtain⟨g,o,e,k1,k2,k3,k4⟩:=h4 hnn
   have hgb:g≠bn:=fun e=>by subst e;exact k2 ⟨_,_,h.box⟩
   have hgo:v.ownBlock≠some g:=fun e=>k3 (.inr e)
   refine⟨g,o,e,hlt g (by omega),fun ht=>k2 ((TgN.congr (same g k1 hgb hgo)).1 ht),fun hk=>?_,fun j k hj=>(SN (same g k1 hgb hgo)).trans (k4 j k hj)⟩
   rcases hk with hk|hk
   ·exact k3 (.inl hk)
   ·simp only[Value.ownBlock,TK]at hk
    subst hk
    rcases hgg with e'|e'
    ·exact hgo e'
    ·omega
 ·refine h.kx.new' ⟨hg.os.trans rfl,hg.tape.trans rfl,hg.output.trans rfl,by simp[World.setCell];omega,fun k hk=>hbig k hk⟩
 ·rcases Td.1 hj with h'|h'
  ·exact h.mem j h'
  ·have:j=i:=by simpa using h'
   rw[this]
   exact hi
theorem InI.done {ar:Int→Nat}(hw:Wf ar S)(hvs:∀x∈vs,x.2<S.length)(h:InI D M w vb bn kd ix0 X v l ix vs S):JX D M w ix0 vb (S.length,vs,S++[⟨none,kd,l,0⟩]) (.returned (.pointer (some ⟨bn,0,none⟩))) X:=by
 have hlen:=h.st.len
 have hbi:bn∉ix:=fun e=>(h.st.NI bn e).2.2 (.inr rfl)
 obtain⟨z,hz⟩:=h.pre
 obtain⟨A,c,hv,hc1,hc2,hs⟩:∃A c,v=.slice A l.length c∧l.length≤c∧c≤maxLen∧jm M X ix A l:=by
  have hr:=h.row
  rcases h.row.2 with⟨e,e2⟩|⟨g,cap,cur,e1,e2,e3,e4,e5,_⟩
  ·exact⟨none,0,by rw[e,e2],by omega,SC _,fun hne=>absurd (Tq.1 e2) hne⟩
  ·refine⟨some ⟨g,0,none⟩,cap,e1,e4,e5,fun _=>⟨g,0,rfl,(Sz.1 e3).1,TgN.not e3 (by decide),fun hM=>?_,fun j k hj=>?_⟩⟩
   ·have:=h.hml g hM
    have:=h.hbn
    omega
   ·rw[e1]at hr
    rw[Nat.zero_add,hr.cellAt j (by have:=(Sy.1 hj).1;omega),Tk,hj]
    rfl
 have hbx:=h.box
 rw[hv]at hbx
 have hst:StH D M X ix S fun _=>0:=(h.st.Fh fun b _ hd=>.inl hd).shift (SA _) (fun _ _ _=>rfl) (fun k hk=>.inl (.inl hk)) (fun k hk=>h.st.not k (.inl hk))
 have hdn:¬D bn:=fun hd=>by have:=h.hdl bn hd;have:=h.hbn;omega
 refine⟨ix++[bn],?_,⟨z++[bn],by rw[hz,TR]⟩,hst.zh hw hdn hbi hbx hc1 hc2 hs h.mem,?_,h.kx⟩
 ·simp only
  rw[←hlen,lZ]
  rfl
 ·have hvm:=h.vm
  unfold jX at hvm ⊢
  simp only
  rw[sD (fun x hx=>by rw[hlen];exact hvs x hx)]
  exact hvm
end
theorem Ig (ar:Int→Nat)(har:∀k,ar k≤1000)(h5:ar 5=0)(s:Tf)(ih:s.All (zo ar)):zo ar s:=by
 intro D M P k v vs S ix w A c vb hw hlen hfit hv hok hvs wT hsl hMv hD h hvm hcnt
 obtain⟨b2,Hb2⟩:∃b,w.heap.size=b:=⟨_,rfl⟩
 obtain⟨W0,hW0⟩:∃W0,w.alloc (.cells #[.int .i64 k,.int .i64 v,.slice A s.len c] 53)=W0:=⟨_,rfl⟩
 have hb0:Below w.heap.size w W0:=by subst hW0;exact(TA _ _).alloc (SA _) _
 have hz0:W0.heap.size=b2+1:=by subst hW0 Hb2;simp
 have hr0:W0.heap[b2]?=some (.cells #[.int .i64 k,.int .i64 v,.slice A s.len c] 53 (0,0)):=by subst hW0 Hb2;exact Sv w _
 have h0:=h.keep hb0
 have hvl:=hvm.not
 have pW:=hvm.keep (hb0.block vb hvl.1)
 have p0:=Sq W0 b2 0 _ _ (0,0) hr0
 have p1:=Sq W0 b2 1 _ _ (0,0) hr0
 have p2:=Sq W0 b2 2 _ _ (0,0) hr0
 obtain⟨R,HR⟩:∃R,Hid (gW k v s vs S=R):=⟨_,Sk rfl⟩
 rw[HR.out]
 have H0:=Sk (Sn hw (Sn h0 (Sn pW (Sn hb0 (Sn hr0 (Sn hMv hD))))))
 by_cases e0:k=5
 ·have hl:=pW.look false (t:=91) Tryz.jH (kV W0) (a:=v) hv
  have HG:=Sk (show R=(match vs.lookup v with|some i=>(i,vs,S)|none=>(S.length,vs++[(v,S.length)],S++[⟨none,5,[],0⟩])) by rw[←HR.out];unfold gW;rw[TY e0];cases vs.lookup v <;> rfl)
  cases hlk:vs.lookup v with
  | some i =>
   have hF:vsF ix vs v=some (nP (blk ix i)):=by unfold vsF;rw[hlk];rfl
   rw[hF]at hl
   have HV:=Sk (show R=(i,vs,S) by rw[HG.out,hlk])
   simp only[Option.getD_some,TN,if_false,nP,aH]at hl
   clear hw h0 pW hb0 hr0 h hvm hsl wT hlk hF hlen ih
   subst e0
   go_enter Tryz.func251,Tryz.ntmps251
   try rw[hW0,Hb2]
   go_wp2
   go_ret
   rw[HV.out]
   exact⟨ix,rfl,⟨[],by simp⟩,H0.out.2.1,H0.out.2.2.1,(Kn.below (D:=D) H0.out.2.2.2.1).x _⟩
  | none =>
   have hF:vsF ix vs v=none:=by unfold vsF;rw[hlk];rfl
   rw[hF]at hl
   have HV:=Sk (show R=(S.length,vs++[(v,S.length)],S++[⟨none,5,[],0⟩]) by rw[HG.out,hlk])
   simp only[Option.getD_none,TN,if_false,aH]at hl
   have HC:=Sk (fun (X:World) (hb:Below W0.heap.size W0 X)=>kL hw (h0.keep hb) (fun b hd=>by have h1:=hb.size;have h2:=hb0.size;have h3:=hD b hd;omega))
   have HK:=Sk (show ∀(X w2:World),Below W0.heap.size W0 X→Below X.heap.size X w2→w2.cell? ⟨b2,1,none⟩=some (.int .i64 v)∧jX w2 vb ix vs from fun X w2 h1 h2 =>
    ⟨(h2.cell (p:=⟨b2,1,none⟩) (by have:=h1.size;show b2<X.heap.size;omega)).trans ((h1.cell (p:=⟨b2,1,none⟩) (by show b2<W0.heap.size;omega)).trans p1),(pW.keep (h1.block vb (by have:=pW.not.1;omega))).keep (h2.block vb (by have:=h1.size;have:=pW.not.1;omega))⟩)
   have HE:=Sk (show ∀(w2 w3:World) (b:Nat),StH D M w2 (ix++[b]) (S++[⟨none,5,[],0⟩]) (fun _=>0)→Below W0.heap.size W0 w2→aQ aH w3 vb (vs.length+1) (fun x=>if x=v then some (nP b)else vsF ix vs x)→w2.grownBy w3 (some vb) →
     JX D M w ix vb R (.returned (.pointer (some ⟨b,0,none⟩))) w3∧(Instr.lookup 91 (.map (some vb)) (.int .i64 v) false).run Tryz.prog w3=.ok (.pointer (some ⟨b,0,none⟩)) w3∧w3.cell? ⟨b2,1,none⟩=w2.cell? ⟨b2,1,none⟩from fun w2 w3 b h2 hb2 hm hg=>by
    have hix:ix.length=S.length:=H0.out.2.1.len
    have hm':jX w3 vb (ix++[b]) (vs++[(v,S.length)]):=by
     unfold jX
     rw[SX,SY]
     refine aQ.eG hm fun a _=>?_
     have e1:=DX (ix:=ix++[b]) (i:=S.length) hlk
     rw[←e1]
     simp only
     rw[sD (fun x hx=>by rw[hix];exact hvs x hx),←hix,lZ]
    refine⟨⟨ix++[b],?_,⟨[b],rfl⟩,?_,?_,?_⟩,?_,SN (hg.block b2 (by have:=hb2.size;omega) (fun e=>by cases e;omega))⟩
    ·rw[HV.out]
     simp only
     rw[←hix,lZ]
     rfl
    ·rw[HV.out]
     refine h2.shift hg.size (fun k hk hm=>hg.block k hk fun e=>hm (by cases e;exact hMv)) (fun k hk=>.inl hk) (fun k hk=>?_)
     obtain⟨k1,k2⟩:=h2.not k hk
     refine⟨SB k1 hg.size,?_⟩
     by_cases e:k=vb
     ·subst e;exact hm'.not.2
     ·exact fun ht=>k2 ((TgN.congr (hg.block k k1 (fun e'=>e (by cases e';rfl)))).1 ht)
    ·rw[HV.out]
     exact hm'
    ·refine((Kn.below (D:=D) (hb0.trans (hb2.mono hb0.size))).x (fun k=>k=vb)).trans (Kx.turn (E:=fun k=>k=vb) (b:=vb) hg.os hg.tape hg.output hg.size (fun k hk e=>hg.block k hk (fun e'=>e (by cases e';rfl))) (fun _=>rfl) (fun _=>?_)) (fun _ _ e=>e)
     have:=H0.out.2.2.1.not
     exact fun ht=>this.2 ((TgN.congr (hb2.block vb this.1)).1 ht)
    ·have:=hm.look false (t:=91) Tryz.jH (kV w3) (a:=v) hv
     simp only[TN,if_false,TY,Option.getD_some,aH]at this
     exact this)
   have HN:=Sk (show vs.length<maxLen by unfold maxLen;omega)
   have HVV:=Sk (show aH.ok v from hv)
   clear hw h0 pW hb0 hr0 h hvm hsl wT hlk hF hlen ih hv
   subst e0
   go_enter Tryz.func251,Tryz.ntmps251
   try rw[hW0,Hb2]
   go_upto_region 3 with fail
   go_region_law (first
    | (go_simp;go_at_call 95;(with_reducible refine TJ (HC.out _ (TA _ _).drew) ?_);rintro e w2 ⟨b,rfl,AV,hb2⟩;unfold nP;have u1:=(HK.out _ _ (TA _ _).drew hb2).1;have HM2:=Sk (Sn (HK.out _ _ (TA _ _).drew hb2).2 (Sn AV ((TA W0.heap.size W0).drew.trans hb2)));clear AV hb2;obtain⟨w3,K8,hm3,hg3⟩:=aQ.put HM2.out.1 (t:=91) Tryz.jH HN.out HVV.out (nP b);simp only[aH,nP]at K8;have hE:=HE.out _ _ b HM2.out.2.1 HM2.out.2.2 hm3 hg3;have l3:=hE.2.1;have u3:=hE.2.2.trans u1;have HE3:=Sk hE.1;clear hE hm3 hg3)|fail)
   all_goals (
    go_wp2
    go_ret
    exact HE3.out)
 ·have HG:=Sk (show R=((eF s vs S).2.2.length,(eF s vs S).2.1,(eF s vs S).2.2++[⟨none,k,(eF s vs S).1,0⟩]) by rw[←HR.out];unfold gW;rw[TW e0])
  obtain⟨T,HT⟩:∃T,Hid (eF s vs S=T):=⟨_,Sk rfl⟩
  rw[HT.out]at HG
  have hN:s.len≤1000:=by rw[hlen e0];exact har _
  have Hbn:W0.heap.size=b2+1:=hz0
  obtain⟨W1,hW1⟩:∃W1,W0.alloc (.cells #[.pointer none,.int .i64 k,.slice none 0 0,.int .i64 0] 151)=W1:=⟨_,rfl⟩
  have hb1:Below (b2+1) W0 W1:=by subst hW1;rw[←Hbn];exact(TA _ _).alloc (SA _) _
  have hr1:W1.heap[(b2+1)]?=some (.cells #[.pointer none,.int .i64 k,.slice none 0 0,.int .i64 0] 151 (0,0)):=by subst hW1;rw[←Hbn];exact Sv W0 _
  have hI0:InI D M w vb (b2+1) k ix W1 (.slice none 0 0) [] ix vs S:=by
   refine⟨hr1,TD _ _ _ _,?_,pW.keep (hb1.block vb (by omega)),⟨[],by simp⟩,(Kn.below (hb0.trans (hb1.mono (by omega)))).x _,hMv,fun k hk=>(h.not k hk).1,hD,by omega,by simp⟩
   refine((h0.keep (by rw[Hbn];exact hb1)).Fh fun b hb hd=>?_).shift (SA _) (fun _ _ _=>rfl) (fun k hk=>.inl ?_) (fun k hk=>?_)
   ·rcases hd with hd|hd
    ·exact hd
    ·have:=(h0.NI b hb).1
     omega
   ·rcases hk with hk|hk
    ·exact hk
    ·cases hk
   ·rcases hk with hk|hk
    ·exact(h0.keep (by rw[Hbn];exact hb1)).not k hk
    ·cases hk
  have q0:W1.cell? ⟨b2,2,none⟩=some (.slice A s.len c):=(hb1.cell (p:=⟨b2,2,none⟩) (by show b2<(b2+1);omega)).trans p2
  have HI:=Sk (Sn hI0 (Sn hlen (Sn wT (Sn hsl (Sn hb1 hb0)))))
  obtain⟨N,HN⟩:∃N,Hid (s.len=N):=⟨_,Sk rfl⟩
  have HS:=Sk (Sn hfit (Sn hok (Sn ih (Sn hvs hcnt))))
  rw[HN.out]at p2 q0 hN hW0
  have k5:(k==5)=false:=by simpa using e0
  have HE0:=Sk e0
  clear hw h0 pW hb0 hr0 h hvm hsl wT hlen ih hv hr1 hI0 hb1 e0 hfit hok hvs hcnt hvl hMv hD
  rw[HN.out]
  go_enter Tryz.func251,Tryz.ntmps251
  try rw[hW0,Hb2]
  go_upto_region 6 with fail
  try rw[hW1]
  try rw[Hbn]
  go_wp2
  go_loopg [7,31] N (fun g _ ct wr=>∃(j:Nat) (l ixj:List Nat) (vj:List (Int×Nat)) (Sj:St) (v:Value) (r:Tf),g=N-j∧j≤N∧ct=.int .i64 j∧l.length=j∧r.len+j=N∧T=(l++(eF r vj Sj).1,(eF r vj Sj).2)∧(s≠.nil→∃g o,A=some ⟨g,o,none⟩∧P g∧r.At w P g (o+j*3)) ∧
   r.Fit ar∧r.Ok∧r.All (zo ar)∧(∀x∈vj,x.2<Sj.length)∧vj.length+r.cnt≤1000000∧Wf ar Sj∧InI D M w vb (b2+1) k ix wr v l ixj vj Sj)
  case atStart=>exact⟨0,[],ix,vs,S,.slice none 0 0,s,rfl,SC _,rfl,rfl,by rw[HN.out];omega,by rw[HT.out];rfl,fun hne=>(by obtain⟨g,o,e1,e2,e3⟩:=HI.out.2.2.2.1.2.2 hne;exact⟨g,o,e1,e2,by simpa using e3⟩),HS.out.1,HS.out.2.1,HS.out.2.2.1,HS.out.2.2.2.1,HS.out.2.2.2.2,H0.out.1,HI.out.1⟩
  case round =>
   obtain⟨j,l,ixj,vj,Sj,v,r,hg,hj,rfl,hll,hrl,hT,hat,hrf,hro,hra,hvj,hcj,hwj,hI⟩:=hrel
   clear p0 p1 p2 q0
   by_cases hlt:j<N
   ·cases r with
    | nil=>exact absurd hrl (by show ¬(0+j=N);omega)
    | cons rk rv rs rr =>
     obtain⟨ga,oa,rfl,hPg,a0,a1,⟨rA,rc,a2,a3⟩,a4⟩:=hat (fun e=>by rw[e]at HN;have:=HN.out;simp[Tf.len]at this;omega)
     have hgs:=HI.out.2.2.1 ga hPg
     have hsame:∀q,wr.cell? ⟨ga,q,none⟩=w.cell? ⟨ga,q,none⟩:=fun q=>hI.kx.cell hgs.1 hgs.2.1 hgs.2.2
     have c0:=(hsame _).trans a0
     have c1:=(hsame _).trans a1
     have c2:=(hsame _).trans a2
     obtain⟨W3,hW3⟩:∃W3,wr.alloc (.cells #[.int .i64 rk,.int .i64 rv,.slice rA rs.len rc] 53)=W3:=⟨_,rfl⟩
     have hb3:Below wr.heap.size wr W3:=by subst hW3;exact(TA _ _).alloc (SA _) _
     have hr3:W3.heap[wr.heap.size]?=some (.cells #[.int .i64 rk,.int .i64 rv,.slice rA rs.len rc] 53 (0,0)):=by subst hW3;exact Sv wr _
     have hI3:=hI.below hb3
     have s0:=Sq W3 wr.heap.size 0 _ _ (0,0) hr3
     have s1:=Sq W3 wr.heap.size 1 _ _ (0,0) hr3
     have s2:=Sq W3 wr.heap.size 2 _ _ (0,0) hr3
     obtain⟨x0,x1,x2,x3,f0,f1,f2,f3⟩:=jE hI3.box
     have HC:=Sk (fun (X:World) (hb:Below W3.heap.size W3 X)=>hra.1 (fun k=>D k∨k=b2+1) (fun k=>M k∨v.ownBlock=some k) P rk rv vj Sj ixj X rA rc vb hwj hrf.1 hrf.2.1 hro.1 hro.2.1 hvj
      (fun b hP=>by
       have h1:=HI.out.2.2.1 b hP
       have h2:=(hI3.below hb).kx
       exact⟨SB h1.1 h2.size,h1.2.1.elim (fun h=>.inl (.inl h)) (fun h=>.inr (h2.nt b h1.1 h1.2.2 h)),h1.2.2⟩)
      (Tf.Sl.keep (fun b hP=>by
       have h1:=HI.out.2.2.1 b hP
       exact(hI3.below hb).kx.block b h1.1 h1.2.1 h1.2.2) (fun _ h=>h) a3) (.inl hI.hm)
      (fun b hd=>by
       have h2:=(hI3.below hb).kx.size
       rcases hd with hd|hd
       ·have:=hI.hdl b hd;omega
       ·have h4:b2+1<X.heap.size:=(Sz.1 (hI3.below hb).box).1
        omega) (hI3.below hb).st (hI3.below hb).vm (by have:rs.cnt+rr.cnt+1=(Tf.cons rk rv rs rr).cnt:=rfl;omega))
     have HIW:=Sk (oH h5 (v:=rv) hwj hrf.1 hrf.2.1 hvj)
     rw[yh]at hT
     generalize hq:gW rk rv rs vj Sj=q at HC HIW hT
     obtain⟨qi,qv,qS⟩:=q
     have HI3:=Sk hI3
     have HR3:=Sk (Sn hT (Sn hrf.2.2 (Sn hro.2.2 (Sn hra.2 (Sn hcj (Sn a4 (Sn hll (Sn hg (show rr.len+1+j=N from hrl)))))))))
     have RN:l.length≤1000:=by omega
     clear hg hll hrl hT hat hrf hro hra hvj hcj hwj hI hI3 hb3 hr3 a0 a1 a2 a3 a4 hsame hq
     obtain⟨i0,hi,hz0,hz1,hz2⟩:=info_parts Tryz.yw
     go_upto_region 9 with fail
     try rw[hW3]
     go_region_law (first
      | (go_simp;go_at_call 251;(with_reducible refine TJ (HC.out _ (TA _ _).drew) ?_);rintro e w6 ⟨ix6,rfl,⟨y6,rfl⟩,NJ,NK,wS⟩;unfold nP;have hI6:=(HI3.out.below (TA _ _).drew).call NJ NK wS HIW.out.1.le;obtain⟨u0,u1,u2,u3,v0,v1,v2,v3⟩:=jE hI6.box;have NP:=(Sz.1 hI6.box).1;have u2a:∀o:Obj,(w6.alloc o).cell? ⟨b2+1,2,none⟩=some v:=fun o=>(SN (Tt _ o _ NP)).trans u2;have HI6:=Sk hI6;clear NJ NK wS hI6;have iw:True:=trivial)
      | (have _t:=iw;refine step_append_lies _ rfl (.tmp 39) (.tmp 43) 92 rfl (b2+1+1) 144 i0 _ 1 8 Tryz.yu hi hz0 hz1 hz2 rfl (by omega) v l.length (l.map fun j=>nP (blk (ixj++y6) j)) rfl (qV HI6.out.row _) ⟨w6.heap.size,0,none⟩ 1 1 [.pointer (some ⟨blk (ixj++y6) qi,0,none⟩)] rfl rfl (World.news_of_block (cs:=#[.pointer (some ⟨blk (ixj++y6) qi,0,none⟩)]) (t:=144) (fr:=(0,0)) (Sv _ _)) (by simp[Value.oneCell']) (by omega) (by unfold maxLen;omega) (by omega) (by simp;omega) _ rfl ?_;intro gg cap w7 Fu oI JW Qu;have hIp:=InI.push HI6.out HIW.out.2 Fu oI JW;have hbc:=oI.block (b2+1) (by simp;omega) (fun e=>by have:=(HI6.out.own e.symm).1;omega);have hbd:=(hbc.trans (Tt _ _ _ NP)).trans HI6.out.box;have x2':=Sq w7 (b2+1) 2 _ _ (0,0) hbd;have x2f:=Sr w7 (b2+1) 2 _ _ hbd;have HIP:=Sk hIp;clear hIp hbc hbd))
     all_goals (
      go_wp2
      go_roundg (N-(j+1))
      case measure=>have:=HR3.out.2.2.2.2.2.2.2.1;omega
      case rel =>
       obtain⟨hT,hf,ho,ha,hc,h4,hll,hg,hrl⟩:=HR3.out
       have hw6:=HIW.out.1
       have hc':vj.length+(rs.cnt+rr.cnt+1)≤1000000:=hc
       refine⟨j+1,l++[qi],ixj++y6,qv,qS,_,rr,rfl,by omega,oC (by push_cast;rfl),by simp[hll],by omega,?_,fun _=>⟨ga,oa,rfl,hPg,?_⟩,hf,ho,ha,hw6.all,?_,hw6.wf,HIP.out⟩
       ·rw[hT,TR]
        rfl
       ·rw[show oa+(j+1)*3=oa+j*3+3 by rw[Nat.succ_mul];omega]
        exact h4
       ·have:=hw6.len
        omega)
   ·cases r with
    | cons rk rv rs rr=>exact absurd hrl (by show ¬(rr.len+1+j=N);omega)
    | nil =>
     have HE:=Sk (show T=(l,vj,Sj) by rw[hT];simp[eF])
     have HD:=Sk (hI.done hwj hvj)
     clear hg hll hrl hT hat hrf hro hra hvj hcj hwj hI
     go_wp2
     go_ret
     have hF:R=(Sj.length,vj,Sj++[⟨none,k,l,0⟩]):=by rw[HG.out,HE.out]
     rw[hF]
     exact HD.out
theorem JY (ar:Int→Nat)(har:∀k,ar k≤1000)(h5:ar 5=0)(s:Tf):zo ar s:=Tf.eT (Ig ar har h5) s
end Go.Proofs.Q
namespace Go.Proofs.Unify
open Go Go.RowKit Go.Proofs
namespace Tf
def eqB:Tf→Tf→Bool
 | .nil,.nil=>true
 | .cons k v s r,.cons k' v' s' r'=>(k==k'&&v==v'&&s.eqB s')&&r.eqB r'
 | _,_=>false
theorem DY:∀{a b:Tf},a.eqB b=true→a.len=b.len
 | .nil,.nil,_=>rfl
 | .cons _ _ _ r,.cons _ _ _ r',h=>by
  simp only[eqB,Ue]at h
  simp only[len,DY h.2]
 | .nil,.cons ..,h=>by cases h
 | .cons ..,.nil,h=>by cases h
theorem Sl.bel {s:Tf}{A:Option Addr}{c:Nat}{w w':World}(h:s.Sl w (fun b=>b<w.heap.size) A c)(hb:RowKit.Below w.heap.size w w'):s.Sl w' (fun b=>b<w'.heap.size) A c:=
 h.keep (fun k hk=>hb.block k hk) fun _ hk=>SB hk hb.size
theorem At.bel {s:Tf}{g o:Nat}{w w':World}(h:s.At w (fun b=>b<w.heap.size) g o)(hg:g<w.heap.size)(hb:RowKit.Below w.heap.size w w'):s.At w' (fun b=>b<w'.heap.size) g o:=
 At.keep (fun k hk=>hb.block k hk) (fun _ hk=>SB hk hb.size) hg h
end Tf
def eqT (a b:Int×Int×Tf):Bool:=a.1==b.1&&a.2.1==b.2.1&&a.2.2.eqB b.2.2
end Go.Proofs.Unify
namespace Go.Proofs.Q
open Go Go.RowKit Go.Proofs Go.Proofs.Unify
def vJ (s:Tf):Prop:=∀(k v k' v':Int)(s':Tf)(A A':Option Addr)(c c':Nat)(w:World),s.Sl w (fun b=>b<w.heap.size) A c→s'.Sl w (fun b=>b<w.heap.size) A' c' →
 Calls Tryz.prog 59 #[.agg #[.int .i64 k,.int .i64 v,.slice A s.len c],.agg #[.int .i64 k',.int .i64 v',.slice A' s'.len c']] w fun e w'=>e=.returned (.bool (eqT (k,v,s) (k',v',s')))∧RowKit.Below w.heap.size w w'
theorem Ih (s:Tf)(ih:s.All vJ):vJ s:=by
 intro k v k' v' s' A A' c c' w hs hs'
 obtain⟨R,HR⟩:∃R,Hid (eqT (k,v,s) (k',v',s')=R):=⟨_,Sk rfl⟩
 rw[HR.out]
 obtain⟨N,HN⟩:∃N,Hid (s.len=N):=⟨_,Sk rfl⟩
 obtain⟨N',HN'⟩:∃N,Hid (s'.len=N):=⟨_,Sk rfl⟩
 have hc1:=hs.1
 have hc2:=hs.2.1
 have hc3:=hs'.1
 have hc4:=hs'.2.1
 unfold maxLen at hc2 hc4
 rw[HN.out]at hc1
 rw[HN'.out]at hc3
 rw[HN.out,HN'.out]
 have HH:=Sk (Sn hs (Sn hs' ih))
 clear hs hs' ih
 by_cases h1:k=k'
 rotate_left
 ·have h1':(k != k')=true:=by simpa using h1
  have HV:=Sk (show R=false by rw[←HR.out];unfold eqT;simp[h1])
  clear h1
  go_enter Tryz.func59,Tryz.ntmps59
  go_wp2
  go_ret
  exact⟨by rw[HV.out];rfl,((Tz _ _).alloc (SA _) _).alloc (by simp) _⟩
 subst h1
 by_cases h2:v=v'
 rotate_left
 ·have h2':(v != v')=true:=by simpa using h2
  have HV:=Sk (show R=false by rw[←HR.out];unfold eqT;simp[h2])
  clear h2
  go_enter Tryz.func59,Tryz.ntmps59
  go_wp2
  go_ret
  exact⟨by rw[HV.out];rfl,((Tz _ _).alloc (SA _) _).alloc (by simp) _⟩
 subst h2
 by_cases h3:N=N'
 rotate_left
 ·have h3':((N:Int) != (N':Int))=true:=bne_iff_ne.2 (by omega)
  have HV:=Sk (show R=false by
   rw[←HR.out]
   cases e:eqT (k,v,s) (k,v,s')with
   | false=>rfl
   | true =>
    unfold eqT at e
    simp only[Ue]at e
    exact absurd (Tf.DY e.2) (by rw[HN.out,HN'.out];exact h3))
  clear h3
  go_enter Tryz.func59,Tryz.ntmps59
  go_wp2
  go_ret
  exact⟨by rw[HV.out];rfl,((Tz _ _).alloc (SA _) _).alloc (by simp) _⟩
 subst h3
 have hR:R=s.eqB s':=by rw[←HR.out];unfold eqT;simp
 obtain⟨W0,hW0⟩:∃W0,(w.alloc (.cells #[.int .i64 k,.int .i64 v,.slice A N c] 53)).alloc (.cells #[.int .i64 k,.int .i64 v,.slice A' N c'] 53)=W0:=⟨_,rfl⟩
 have hb0:RowKit.Below w.heap.size w W0:=by subst hW0;exact((Tz _ _).alloc (SA _) _).alloc (by simp) _
 have hr0:W0.heap[w.heap.size]?=some (.cells #[.int .i64 k,.int .i64 v,.slice A N c] 53 (0,0)):=by
  subst hW0
  exact(Tt _ _ _ (by simp)).trans (Sv w _)
 have hr1:W0.heap[w.heap.size+1]?=some (.cells #[.int .i64 k,.int .i64 v,.slice A' N c'] 53 (0,0)):=by
  subst hW0
  have:=Sv (w.alloc (.cells #[.int .i64 k,.int .i64 v,.slice A N c] 53)) (.cells #[.int .i64 k,.int .i64 v,.slice A' N c'] 53)
  simpa using this
 have t2:=Sq W0 w.heap.size 2 _ _ (0,0) hr0
 have t0:=Sq W0 w.heap.size 0 _ _ (0,0) hr0
 have t1:=Sq W0 w.heap.size 1 _ _ (0,0) hr0
 have u0:=Sq W0 (w.heap.size+1) 0 _ _ (0,0) hr1
 have u1:=Sq W0 (w.heap.size+1) 1 _ _ (0,0) hr1
 have u2:=Sq W0 (w.heap.size+1) 2 _ _ (0,0) hr1
 simp at t0 t1 t2 u0 u1 u2
 have HF:=Sk (show ∀Y,RowKit.Below W0.heap.size W0 Y→Y.cell? ⟨w.heap.size,2,none⟩=some (.slice A N c)∧Y.cell? ⟨w.heap.size+1,2,none⟩=some (.slice A' N c')∧RowKit.Below w.heap.size w Y from fun Y hY=>⟨(hY.cell (p:=⟨w.heap.size,2,none⟩) (lt_of_block hr0)).trans t2,(hY.cell (p:=⟨w.heap.size+1,2,none⟩) (lt_of_block hr1)).trans u2,hb0.trans (hY.mono hb0.size)⟩)
 clear hr0 hr1 hb0
 go_enter Tryz.func59,Tryz.ntmps59
 go_upto_region 1 with fail
 try rw[hW0]
 go_wp2
 go_loopg [5] N (fun g ct wr=>∃(j:Nat) (r r':Tf),g=r.len∧j+r.len=N∧r'.len=r.len∧ct=.int .i64 j∧R=r.eqB r'∧r.All vJ∧RowKit.Below W0.heap.size W0 wr ∧
  (r≠.nil→∃b o,A=some ⟨b,o,none⟩∧b<wr.heap.size∧r.At wr (fun q=>q<wr.heap.size) b (o+j*3))∧(r'≠.nil→∃b o,A'=some ⟨b,o,none⟩∧b<wr.heap.size∧r'.At wr (fun q=>q<wr.heap.size) b (o+j*3)))
 case atStart =>
  obtain⟨_,_,hb⟩:=HF.out W0 (Tz _ _)
  have k1:=HH.out.1.bel hb
  have k2:=HH.out.2.1.bel hb
  refine⟨0,s,s',HN.out.symm,by rw[HN.out];omega,by rw[HN.out,HN'.out],rfl,hR,HH.out.2.2,Tz _ _,fun hne=>?_,fun hne=>?_⟩
  ·obtain⟨b,o,e,h1,h2⟩:=k1.2.2 hne
   exact⟨b,o,e,h1,by rw[Nat.zero_mul,Nat.add_zero];exact h2⟩
  ·obtain⟨b,o,e,h1,h2⟩:=k2.2.2 hne
   exact⟨b,o,e,h1,by rw[Nat.zero_mul,Nat.add_zero];exact h2⟩
 case round =>
  obtain⟨j,r,r',hg,hj,hrl,rfl,hRe,Fv,hb,hat,hat'⟩:=hrel
  obtain⟨f1,f2,hbw⟩:=HF.out wr hb
  cases r with
  | nil =>
   have hjN:N=j:=by simp only[Tf.len]at hj;omega
   subst hjN
   have hr':r'=.nil:=by cases r' with|nil=>rfl|cons=>simp[Tf.len]at hrl
   subst hr'
   have i1:decide ((N:Int)<(N:Int))=false:=SH (by omega)
   have i2:decide (N<N)=false:=SH (by omega)
   have HV:=Sk (Sn (show R=true from hRe) hbw)
   clear hg hj hrl hRe Fv hat hat' hb hbw hR t0 t1 t2 u0 u1 u2
   go_wp2
   go_ret
   exact⟨by rw[HV.out.1];rfl,HV.out.2⟩
  | cons rk rv rs rr =>
   cases r' with
   | nil=>simp[Tf.len]at hrl
   | cons rk' rv' rs' rr' =>
    have hlt:j<N:=by simp only[Tf.len]at hj;omega
    have p1:(0:Int)≤(j:Int):=by omega
    have p2:(j:Int)<(N:Int):=by omega
    obtain⟨b,o,rfl,hbl,c0,c1,⟨sA,sc,c2,s1,s2,s3⟩,kD⟩:=hat (by simp)
    obtain⟨b',o',rfl,AY,c0',c1',⟨sA',sc',c2',s1',s2',s3'⟩,K9⟩:=hat' (by simp)
    have hsl:rs.Sl wr.drew (fun q=>q<wr.drew.heap.size) sA sc:=Tf.Sl.bel (w:=wr) ⟨s1,s2,s3⟩ (Tz _ _).drew
    have mF:rs'.Sl wr.drew (fun q=>q<wr.drew.heap.size) sA' sc':=Tf.Sl.bel (w:=wr) ⟨s1',s2',s3'⟩ (Tz _ _).drew
    have hc:=Fv.1 rk rv rk' rv' rs' sA sA' sc sc' wr.drew hsl mF
    obtain⟨q,Hq⟩:∃q,Hid (eqT (rk,rv,rs) (rk',rv',rs')=q):=⟨_,Sk rfl⟩
    obtain⟨L1,HL1⟩:∃q,Hid (rs.len=q):=⟨_,Sk rfl⟩
    obtain⟨L2,HL2⟩:∃q,Hid (rs'.len=q):=⟨_,Sk rfl⟩
    rw[Hq.out,HL1.out,HL2.out]at hc
    rw[HL1.out]at c2
    rw[HL2.out]at c2'
    have NQ:R=(q&&rr.eqB rr'):=by rw[hRe,←Hq.out];rfl
    have HC:=Sk hc
    have HJ:=Sk (Sn hj (Sn hrl (Sn NQ (Sn Fv.2 (Sn hb (Sn kD (Sn K9 (Sn hg (Sn hbl AY)))))))))
    have HS:=Sk (show ∀Y,RowKit.Below wr.heap.size wr Y→Y.cell? ⟨w.heap.size,2,none⟩=some (.slice (some ⟨b,o,none⟩) N c)∧Y.cell? ⟨w.heap.size+1,2,none⟩=some (.slice (some ⟨b',o',none⟩) N c')∧Y.cell? ⟨b,o+j*3,none⟩=some (.int .i64 rk)∧Y.cell? ⟨b,o+j*3+1,none⟩=some (.int .i64 rv)∧Y.cell? ⟨b,o+j*3+2,none⟩=some (.slice sA L1 sc)∧Y.cell? ⟨b',o'+j*3,none⟩=some (.int .i64 rk')∧Y.cell? ⟨b',o'+j*3+1,none⟩=some (.int .i64 rv')∧Y.cell? ⟨b',o'+j*3+2,none⟩=some (.slice sA' L2 sc')from fun Y hY =>
     ⟨(hY.cell (p:=⟨w.heap.size,2,none⟩) (SS wr _ f1)).trans f1,(hY.cell (p:=⟨w.heap.size+1,2,none⟩) (SS wr _ f2)).trans f2,(hY.cell (p:=⟨b,_,none⟩) hbl).trans c0,(hY.cell (p:=⟨b,_,none⟩) hbl).trans c1,(hY.cell (p:=⟨b,_,none⟩) hbl).trans c2,(hY.cell (p:=⟨b',_,none⟩) AY).trans c0',(hY.cell (p:=⟨b',_,none⟩) AY).trans c1',(hY.cell (p:=⟨b',_,none⟩) AY).trans c2'⟩)
    clear hg hj hrl hRe Fv hat hat' hb hbw kD K9 s1 s2 s3 s1' s2' s3' hsl mF hc hR t0 t1 t2 u0 u1 u2 NQ hbl AY
    go_upto_region 6 with fail
    go_region_held3 (fun Y=>Y.cell? ⟨w.heap.size,2,none⟩=some (.slice (some ⟨b,o,none⟩) N c)∧Y.cell? ⟨w.heap.size+1,2,none⟩=some (.slice (some ⟨b',o',none⟩) N c')∧Y.cell? ⟨b,o+j*3,none⟩=some (.int .i64 rk)∧Y.cell? ⟨b,o+j*3+1,none⟩=some (.int .i64 rv)∧Y.cell? ⟨b,o+j*3+2,none⟩=some (.slice sA L1 sc)∧Y.cell? ⟨b',o'+j*3,none⟩=some (.int .i64 rk')∧Y.cell? ⟨b',o'+j*3+1,none⟩=some (.int .i64 rv')∧Y.cell? ⟨b',o'+j*3+2,none⟩=some (.slice sA' L2 sc'))
     (first|exact HS.out _ HB6.out|exact HS.out _ (Tz _ _).drew)
     (first|(go_at_call 59;(with_reducible refine TJ HC.out ?_);rintro e w6 ⟨rfl,hb6⟩;have HB6:=Sk (show RowKit.Below wr.heap.size wr w6 from (Tz _ wr).drew.trans hb6);clear hb6)|fail)
    all_goals (
     cases q with
     | true =>
      have HV:=Sk (show R=rr.eqB rr' by rw[HJ.out.2.2.1];rfl)
      go_wp2
      go_roundg rr.len
      case measure=>have:=HJ.out.2.2.2.2.2.2.2.1;simp only[Tf.len]at this;omega
      case rel =>
       have hlr:=HJ.out.2.1
       have hlj:=HJ.out.1
       simp only[Tf.len]at hlr hlj
       refine⟨j+1,rr,rr',rfl,by omega,by omega,by go_num,HV.out,HJ.out.2.2.2.1,HJ.out.2.2.2.2.1.trans (HB6.out.mono HJ.out.2.2.2.2.1.size),fun _=>⟨b,o,rfl,SB HJ.out.2.2.2.2.2.2.2.2.1 HB6.out.size,?_⟩,fun _=>⟨b',o',rfl,SB HJ.out.2.2.2.2.2.2.2.2.2 HB6.out.size,?_⟩⟩
       ·rw[show o+(j+1)*3=o+j*3+3 by omega]
        exact HJ.out.2.2.2.2.2.1.bel HJ.out.2.2.2.2.2.2.2.2.1 HB6.out
       ·rw[show o'+(j+1)*3=o'+j*3+3 by omega]
        exact HJ.out.2.2.2.2.2.2.1.bel HJ.out.2.2.2.2.2.2.2.2.2 HB6.out
     | false =>
      have HV:=Sk (show R=false by rw[HJ.out.2.2.1];rfl)
      have HBW:=Sk (HF.out _ (HJ.out.2.2.2.2.1.trans (HB6.out.mono HJ.out.2.2.2.2.1.size))).2.2
      go_wp2
      go_ret
      exact⟨by rw[HV.out];rfl,HBW.out⟩)
theorem Fw (s:Tf):vJ s:=Tf.eT Ih s
theorem wU {n n' k v k' v':Int}{s s':Tf}{A A':Option Addr}{c c':Nat}{w:World}(hs:s.Sl w (fun b=>b<w.heap.size) A c)(hs':s'.Sl w (fun b=>b<w.heap.size) A' c') :
  Calls Tryz.prog 25 #[.agg #[.int .i64 n,.int .i64 k,.int .i64 v,.slice A s.len c],.agg #[.int .i64 n',.int .i64 k',.int .i64 v',.slice A' s'.len c']] w fun e w'=>e=.returned (.bool (n==n'&&eqT (k,v,s) (k',v',s')))∧RowKit.Below w.heap.size w w':=by
 obtain⟨R,HR⟩:∃R,Hid (eqT (k,v,s) (k',v',s')=R):=⟨_,Sk rfl⟩
 have hb0:RowKit.Below w.heap.size w ((w.alloc (.cells #[.int .i64 n,.int .i64 k,.int .i64 v,.slice A s.len c] 55)).alloc (.cells #[.int .i64 n',.int .i64 k',.int .i64 v',.slice A' s'.len c'] 55)):=((Tz _ _).alloc (SA _) _).alloc (by simp) _
 have hc:=Fw s k v k' v' s' A A' c c' _ (hs.bel hb0) (hs'.bel hb0)
 obtain⟨L,HL⟩:∃q,Hid (s.len=q):=⟨_,Sk rfl⟩
 obtain⟨L',HL'⟩:∃q,Hid (s'.len=q):=⟨_,Sk rfl⟩
 rw[HL.out,HL'.out]at hb0 hc ⊢
 rw[HR.out]at hc ⊢
 have HC:=Sk (Sn hc hb0)
 clear hs hs' hc hb0
 by_cases h1:n=n'
 ·subst h1
  have h1':(n==n)=true:=by simp
  rw[h1',Bool.true_and]
  go_enter Tryz.func25,Tryz.ntmps25
  go_wp2_with fail
  with_reducible refine TJ HC.out.1 ?_
  rintro e w6 ⟨rfl,hb6⟩
  have HB6:=Sk (HC.out.2.trans (hb6.mono HC.out.2.size))
  clear hb6
  cases R with
  | true =>
   go_wp2
   go_ret
   exact⟨rfl,HB6.out⟩
  | false =>
   go_wp2
   go_ret
   exact⟨rfl,HB6.out⟩
 ·have h1':(n==n')=false:=by simpa using h1
  rw[h1',Bool.false_and]
  clear h1
  go_enter Tryz.func25,Tryz.ntmps25
  go_wp2
  go_ret
  exact⟨rfl,HC.out.2⟩
end Go.Proofs.Q
