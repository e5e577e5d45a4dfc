/- helper lemmas -/
import Derived.Test.YtmmecapgnmlaiaaGreatDoorTuc
set_option maxRecDepth 100000
set_option maxHeartbeats 16000000
namespace Go.Proofs.Unify
def Tf.Vb (n:Nat):Tf→Prop
 | .nil=>True
 | .cons _ v s r=>(0≤v∧v≤n)∧s.Vb n∧r.Vb n
theorem KR {m:List Nat}{a:Nat}:(fu m a).1≤m.length∧m.length≤(fu m a).2.length∧(fu m a).2.length≤m.length+1:=by
 induction m with
 | nil=>simp[fu]
 | cons b m ih =>
  unfold fu
  split
  ·simp
  ·simp only[TS];omega
theorem Tf.Vb.mono {n n':Nat}(h:n≤n'):∀{s:Tf},s.Vb n→s.Vb n'
 | .nil,_=>trivial
 | .cons _ _ _ _,⟨h1,h2,h3⟩=>⟨by omega,Tf.Vb.mono h h2,Tf.Vb.mono h h3⟩
structure BtP (S:St)(sz:Nat→Int)(i:Nat)(m:List Nat)(R:(Int×Int×Tf)×List Nat):Prop where
 t:TOk R.1
 cnt:(R.1.2.2.cnt:Int)+1=sz (rt S i)
 lo:m.length≤R.2.length
 hi:(R.2.length:Int)≤m.length+sz (rt S i)
 v:0≤R.1.2.1∧R.1.2.1≤R.2.length
 vb:R.1.2.2.Vb R.2.length
theorem IU {S:St}{sz:Nat→Int}{g:Nat→List Nat→(Int×Int×Tf)×List Nat}:∀(l m:List Nat),(∀s∈l,∀m,BtP S sz s m (g s m))→(bL g l m).1.len=l.length∧(bL g l m).1.Fit arP∧((bL g l m).1.cnt:Int)=fU S sz l∧m.length≤(bL g l m).2.length∧((bL g l m).2.length:Int)≤m.length+fU S sz l∧(bL g l m).1.Vb (bL g l m).2.length
 | [],m,_=>⟨rfl,trivial,rfl,SA _,by simp[bL,fU],trivial⟩
 | s::l,m,h=>by
  have h1:=h s Ta m
  obtain⟨k1,k2,k3,k4,k5,k6⟩:=IU l (g s m).2 fun z hz=>h z (Tc _ hz)
  have h2:=h1.cnt
  have h3:=h1.lo
  have h4:=h1.hi
  have h5:=h1.v
  refine⟨by simp only[bL,Tf.len,k1,TS],⟨h1.t.1,h1.t.2,k2⟩,?_,?_,?_,?_⟩
  ·simp only[bL,Tf.cnt,fU]
   rw[←k3,←h2]
   omega
  ·simp only[bL];omega
  ·simp only[bL,fU];omega
  ·simp only[bL]
   exact⟨by omega,h1.vb.mono k4,k6⟩
theorem Lm {S:St}{sz:Nat→Int}(hw:Wf arP S)(hd:Dn S sz):∀(f i:Nat)(m:List Nat),i<S.length→0<sz (rt S i)→sz (rt S i)≤f→sz (rt S i)≤200→BtP S sz i m (bT S f i m)
 | 0,i,m,_,h1,h2,_=>by omega
 | f+1,i,m,hi,h1,h2,h3=>by
  obtain⟨x,hx,_⟩:=iV hw hi
  obtain⟨w1,w2⟩:=hw.sub _ x hx
  obtain⟨a1,a2⟩:=hd _ x hx h1
  have e:=a2 h3
  unfold bT
  rw[hx]
  simp only
  split
  ·rename_i hk
   rw[hk,vM]at w1
   have:x.sub=[]:=Tq.1 w1
   rw[this]at e
   simp only[fU]at e
   obtain⟨n1,n2,n3⟩:=KR (m:=m) (a:=rt S i)
   exact⟨⟨fun h=>absurd rfl h,trivial⟩,by simp[Tf.cnt,e],n2,by rw[e];simp only;omega,by simp only;omega,trivial⟩
  ·obtain⟨k1,k2,k3,k4,k5,k6⟩:=IU (S:=S) (sz:=sz) (g:=bT S f) x.sub m fun s hs m=>by
    have h4:=uH a1 hs
    exact Lm hw hd f s m (w2 s hs) (a1 s hs) (by omega) (by omega)
   exact⟨⟨fun _=>by rw[k1];exact w1,k2⟩,by rw[k3,e];omega,k4,by rw[e];simp only;omega,by simp only;omega,k6⟩
structure Jg (x:Int×Int×Int×Int×Tf):Prop where
 t:TOk (x.2.2.1,x.2.2.2.1,x.2.2.2.2)
 cnt:x.2.2.2.2.cnt≤200
 n:0≤x.2.1∧x.2.1≤200
 v:0≤x.2.2.2.1∧x.2.2.2.1≤200
 vb:x.2.2.2.2.Vb 200
theorem KS {sc0:Sc}{ds:List De}{group:List Int}{L:List (Int×Int×Int×Int×Tf)}(hn:group.Nodup)(hd:∀d∈ds,d.Ok ⟨grp group 0,sc0.sch,sc0.frn⟩)(hg:∀a∈group,∃d∈ds,d.id=a)
  (h:iR sc0 ds group=.ok L):L.map (·.1)=group∧∀x∈L,Jg x:=by
 unfold iR at h
 simp only at h
 obtain⟨sc,hsc⟩:∃sc:Sc,sc=⟨grp group 0,sc0.sch,sc0.frn⟩:=⟨_,rfl⟩
 rw[←hsc]at h hd
 have hG:sc.G=grp group 0:=by rw[hsc]
 have hsl:(bG group.length).S.length=group.length:=List.length_replicate
 have hGl:∀x∈sc.G,x.2<(bG group.length).S.length:=fun x hx=>by
  rw[hG]at hx
  have:=(jo hx).2.2
  omega
 obtain⟨k1,k2⟩:=kN hd (mW _) hGl (fun j hj=>by cases hj)
 obtain⟨m1,m2,m3,m4⟩:=Br (S:=(bH sc ds (bG group.length)).S) (bH sc ds (bG group.length)).ns _ (dn0 _) bd0
 split at h
 ·cases h
 rename_i h1
 split at h
 ·cases h
 rename_i h2
 split at h
 ·cases h
 rename_i h3
 cases h
 have iN:∀(l:List Int) (j:Nat),(grp l j).map (·.1)=l:=fun l=>by
  induction l with
  | nil=>exact fun _=>rfl
  | cons a l ih=>exact fun j=>by simp only[grp,List.map_cons,ih]
 refine⟨by rw[List.map_map];exact(List.map_congr_left fun x _=>rfl).trans (iN group 0),fun x hx=>?_⟩
 obtain⟨y,hy,rfl⟩:=TH.1 hx
 have hyl:y.2<(bH sc ds (bG group.length)).S.length:=SB (hGl y (by rw[hG];exact hy)) k1.ref.le
 obtain⟨d,hdm,hde⟩:=hg y.1 (jo hy).1
 obtain⟨n,hnm,e⟩:=k2 d hdm y.2 (by rw[hG,hde];exact kI hn y hy) (by simpa using h1)
 have hp:=m4 (by simpa using h2) n hnm
 have hle:¬(200<(msA (bH sc ds (bG group.length)).S (bH sc ds (bG group.length)).ns fun _=>0).2 (rt (bH sc ds (bG group.length)).S n)):=fun h=>by
  apply h3
  unfold great
  rw[TF]
  exact⟨n,hnm,by simpa using h⟩
 have hb:=Lm k1.wf m1 201 y.2 [] hyl (by rw[e];exact hp) (by rw[e];omega) (by rw[e];omega)
 have c1:=hb.cnt
 have c2:=hb.hi
 have c3:=hb.v
 rw[e]at c1 c2
 simp only[List.length_nil]at c2
 refine⟨hb.t,?_,?_,?_,hb.vb.mono ?_⟩
 ·show (bT _ 201 y.2 []).1.2.2.cnt≤200;omega
 ·show 0≤((bT _ 201 y.2 []).2.length:Int)∧((bT _ 201 y.2 []).2.length:Int)≤200;omega
 ·show 0≤(bT _ 201 y.2 []).1.2.1∧(bT _ 201 y.2 []).1.2.1≤200;omega
 ·omega
abbrev Sm:=Int→Int×Int×Int×Tf
def sm0:Sm:=fun _=>(0,0,0,.nil)
def tQ (s:Sm)(L:List (Int×Int×Int×Int×Tf)):Sm:=fun a=>match L.lookup a with
 | some t=>t
 | none=>s a
inductive Ch where
 | err:Int→Int→Ch
 | ok:Sm→Ch
def lu (frn:ByteArray×Int→Int×Int×Tf)(ds:List De):List (List Int)→Sm→Ch
 | [],s=>.ok s
 | g::l,s=>match iR ⟨[],fun a=>(s a).2,frn⟩ ds g with
  | .err z=>.err (g.headD 0) z
  | .ok L=>lu frn ds l (tQ s L)
structure SmP (s:Sm)(a:Int):Prop where
 t:TOk (s a).2
 cnt:(s a).2.2.2.cnt≤200
 n:0≤(s a).1∧(s a).1≤200
 v:0≤(s a).2.2.1∧(s a).2.2.1≤200
 vb:(s a).2.2.2.Vb 200
theorem Na (a:Int):SmP sm0 a:=⟨⟨fun _=>rfl,trivial⟩,SC _,by simp[sm0],by simp[sm0],trivial⟩
theorem xJ {α:Type}{a:Int}{t:α}:∀{l:List (Int×α)},l.lookup a=some t→(a,t)∈l
 | [],h=>by cases h
 | (b,u)::l,h=>by
  rw[List.lookup_cons]at h
  cases e:(a==b)with
  | true =>
   rw[e]at h
   cases h
   rw[beq_iff_eq]at e
   rw[e]
   exact Ta
  | false =>
   rw[e]at h
   exact Tc _ (xJ h)
end Go.Proofs.Unify
namespace Go.Proofs.Q
open Go Go.RowKit Go.Proofs Go.Proofs.Unify
structure ScM (D:Nat→Prop)(X:World)(sb K:Nat)(s:Sm):Prop where
 m:∃g,aQ aH X sb K g∧∀a,aH.ok a→∃A c,(g a).getD l8=.agg #[.int .i64 (s a).1,.int .i64 (s a).2.1,.int .i64 (s a).2.2.1,.slice A (s a).2.2.2.len c]∧(s a).2.2.2.Sl X (PT D X) A c
def ntC (W:World)(c0 c1 c2 c3:Value)(frn:ByteArray×Int→Int×Int×Tf):TyC:=⟨W.heap.size+3,W.heap.size+1,0,W.heap.size+2,c0,c1,c2,c3,0,⟨[],fun a=>(sm0 a).2,frn⟩⟩
def NtP (W:World)(c0 c1 c2 c3:Value)(frn:ByteArray×Int→Int×Int×Tf)(e:Ending)(Y:World):Prop:=
 e=.returned (.pointer (some ⟨W.heap.size+3,0,none⟩))∧RowKit.Below W.heap.size W Y∧TyR W.heap.size (ntC W c0 c1 c2 c3 frn) W Y 0∧ScM (fun k=>k<W.heap.size) Y (W.heap.size+1) 0 sm0
theorem zP (frn:ByteArray×Int→Int×Int×Tf)(label:ByteArray)(uA dA kA:Option Addr)(un uc dn dc kn kc:Nat)(W:World) :
  Calls Tryz.prog 50 #[.agg #[.string label,.slice uA un uc,.slice dA dn dc],.slice kA kn kc] W (NtP W (.string label) (.slice uA un uc) (.slice dA dn dc) (.slice kA kn kc) frn):=by
 have hmm:=@run_makeMap Tryz.prog
 go_enter Tryz.func50,Tryz.ntmps50
 go_wp2
 simp only[Nat.add_assoc,Nat.reduceAdd]
 go_ret
 obtain⟨Y,hY⟩:∃Y,Y=(((W.alloc (.cells #[.string label,.slice uA un uc,.slice dA dn dc] 25)).alloc (.map #[] 0)).alloc (.map #[] 0)).alloc (.cells #[.string label,.slice uA un uc,.slice dA dn dc,.slice kA kn kc,.map (some (W.heap.size+1)),.map none,.slice none 0 0,.map (some (W.heap.size+2)),.bool false] 95):=⟨_,rfl⟩
 rw[←hY]
 have hb:RowKit.Below W.heap.size W Y:=by
  rw[hY]
  exact((((Tz _ _).alloc (SA _) _).alloc (by simp) _).alloc (by simp;omega) _).alloc (by simp;omega) _
 have hz:Y.heap.size=W.heap.size+4:=by rw[hY];simp
 have h1:Y.heap[W.heap.size+1]?=some (.map #[] 0):=by
  rw[hY]
  refine(bZ _ _ _ (by simp only[bP];omega)).trans ((bZ _ _ _ (by simp only[bP];omega)).trans (bW _ _ _ (by simp only[bP])))
 have h2:Y.heap[W.heap.size+2]?=some (.map #[] 0):=by
  rw[hY]
  refine(bZ _ _ _ (by simp only[bP];omega)).trans (bW _ _ _ (by simp only[bP]))
 have h3:Y.heap[W.heap.size+3]?=some (.cells #[.string label,.slice uA un uc,.slice dA dn dc,.slice kA kn kc,.map (some (W.heap.size+1)),.map none,.slice none 0 0,.map (some (W.heap.size+2)),.bool false] 95 (0,0)):=by
  rw[hY]
  exact bW _ _ _ (by simp only[bP])
 have mk:∀{α:Type} (K:fq α) {b:Nat},Y.heap[b]?=some (.map #[] 0)→aQ K Y b 0 (fun _=>none):=fun K b h =>
  ⟨0,_,⟨#[],0,h,⟨by simp,Go.MapKept.stamped_empty 0,by simp⟩,SA _,rfl⟩,SA _,⟨_,rfl⟩,fun _ _=>Maps.atKey_of_not_has rfl _⟩
 have hsc:∀a,aH.ok a→∃A c,((fun _=>none:Int→Option Value) a).getD l8=.agg #[.int .i64 (sm0 a).1,.int .i64 (sm0 a).2.1,.int .i64 (sm0 a).2.2.1,.slice A (sm0 a).2.2.2.len c]∧(sm0 a).2.2.2.Sl Y (PT (fun k=>k<W.heap.size) Y) A c:=fun a _=>⟨none,0,rfl,by simp[sm0,Tf.Sl,Tf.len]⟩
 refine⟨rfl,hb,⟨⟨_,_,_,h3⟩,⟨0,_,mk aH h1,fun a ha=>?_⟩,⟨_,mk r9 h2,fun _ _=>.inl rfl⟩,fun k hk=>hb.block k hk,hb.size,by simp[ntC],by simp[ntC]⟩,⟨_,mk aH h1,hsc⟩⟩
 obtain⟨A,c,e,hs⟩:=hsc a ha
 exact⟨_,A,c,e,hs⟩
def TyC.sm (C:TyC)(s:Sm):TyC:={ C with sc:=⟨[],fun a=>(s a).2,C.sc.frn⟩ }
section
variable {B:Nat} {C:TyC} {W X Y:World} {nf K:Nat} {s:Sm}
theorem ScM.kx {D E:Nat→Prop}{sb:Nat}(h:ScM D X sb K s)(hk:Kx D E X Y)(hD:∀k,D k→k<X.heap.size)(hE:∀k,k<X.heap.size→E k→¬D k∧¬TgT X k)(hsb:¬E sb):ScM D Y sb K s:=by
 obtain⟨g,hm,hg⟩:=h.m
 have pt:∀k,PT D X k→Y.heap[k]?=X.heap[k]?∧PT D Y k:=fun k hp=>by
  have hl:k<X.heap.size:=hp.elim (fun hd=>hD k hd) (fun ht=>ht.lt)
  have e:=hk.block k hl (hp.imp id fun ht=>ht.not) fun he=>hp.elim (hE k hl he).1 (hE k hl he).2
  exact⟨e,hp.imp id fun ht=>(TgT.congr e).2 ht⟩
 refine⟨g,hm.keep (hk.block sb hm.lt (.inr hm.not.1) hsb),fun a ha=>?_⟩
 obtain⟨A,c,e,hs⟩:=hg a ha
 exact⟨A,c,e,hs.keep (fun k hp=>(pt k hp).1) fun k hp=>(pt k hp).2⟩
theorem ScM.look {D:Nat→Prop}{sb:Nat}(h:ScM D X sb K s){a:Int}(ha:aH.ok a):∃A c,(Instr.lookup 88 (.map (some sb)) (.int .i64 a) false).run Tryz.prog X=.ok (.agg #[.int .i64 (s a).1,.int .i64 (s a).2.1,.int .i64 (s a).2.2.1,.slice A (s a).2.2.2.len c]) X∧(s a).2.2.2.Sl X (PT D X) A c:=by
 obtain⟨g,hm,hg⟩:=h.m
 have:=hm.look false (t:=88) Tryz.jT (o7 X) ha
 simp only[TN,if_false,aH]at this
 obtain⟨A,c,e,hs⟩:=hg a ha
 rw[e]at this
 exact⟨A,c,this,hs⟩
structure MoI (B:Nat)(C:TyC)(W X:World)(nf K:Nat)(s:Sm):Prop where
 r:TyR B (C.sm s) W X nf
 m:ScM (fun k=>k<B) X C.sb K s
 sb:B≤C.sb∧C.sb≠C.fb
theorem MoI.old (h:MoI B C W X nf K s):∀k,k<B→X.heap[k]?=W.heap[k]?:=h.r.old
theorem MoI.sbt (h:MoI B C W X nf K s):C.sb≠C.tb:=fun e=>by
 obtain⟨gv,nv,f,hbx⟩:=h.r.box
 obtain⟨g,⟨_,_,⟨es,cl,h1,_⟩,_⟩,_⟩:=h.m.m
 change X.heap[C.tb]?=_ at hbx
 rw[←e,h1]at hbx
 cases hbx
theorem MoI.found (h:MoI B C W X nf K s){nf':Nat}(hr:TyR B (C.sm s) W Y nf')(hk:Kx (fun k=>k<B) (lK (C.sm s)) X Y):MoI B C W Y nf' K s:=by
 refine⟨hr,h.m.kx hk (fun k hd=>by have:=h.r.bs;omega) (fun k _ he=>?_) (fun he=>?_),h.sb⟩
 ·have h1:=h.r.dt
  have h2:=h.r.df
  rcases he with rfl|rfl
  ·refine⟨by omega,fun ⟨cur,fz,h3⟩=>?_⟩
   obtain⟨gv,nv,f,hbx⟩:=h.r.box
   rw[hbx]at h3
   simp only[TK,Obj.cells.injEq]at h3
   exact absurd h3.2.1 (by decide)
  ·obtain⟨g,hf,_⟩:=h.r.fm
   exact⟨by omega,hf.not.2⟩
 ·rcases he with he|he
  ·exact h.sbt he
  ·exact h.sb.2 he
theorem MoI.below (h:MoI B C W X nf K s)(hb:RowKit.Below X.heap.size X Y):MoI B C W Y nf K s:=
 ⟨h.r.kn (Kn.below hb),h.m.kx ((Kn.below hb).x (fun _=>False)) (fun k hd=>by have:=h.r.bs;omega) (fun _ _ he=>he.elim) (fun he=>he),h.sb⟩
theorem MoI.put (h:MoI B C W X nf K s){a:Int}(ha:aH.ok a)(hK:K<maxLen){t:Int×Int×Int×Tf}{A:Option Addr}{c:Nat}(ht:t.2.2.2.Sl X (PT (fun k=>k<B) X) A c) :
  ∃Y,(Instr.mapUpdate 88 (.map (some C.sb)) (.int .i64 a) (.agg #[.int .i64 t.1,.int .i64 t.2.1,.int .i64 t.2.2.1,.slice A t.2.2.2.len c])).run Tryz.prog X=.ok () Y∧MoI B C W Y nf (K+1) (fun x=>if x=a then t else s x)∧(∀k,k<X.heap.size→k≠C.sb→Y.heap[k]?=X.heap[k]?)∧RowKit.Below C.sb X Y:=by
 obtain⟨g,hm,hg⟩:=h.m.m
 obtain⟨Y,hr,hm2,hgr⟩:=hm.put (t:=88) Tryz.jT hK ha (.agg #[.int .i64 t.1,.int .i64 t.2.1,.int .i64 t.2.2.1,.slice A t.2.2.2.len c])
 have hs:∀k,k<X.heap.size→k≠C.sb→Y.heap[k]?=X.heap[k]?:=fun k hk hne=>hgr.block k hk (fun e=>hne (TL e))
 have hbs:=h.r.bs
 have hsb:=h.sb
 have pt:∀k,PT (fun k=>k<B) X k→Y.heap[k]?=X.heap[k]?∧PT (fun k=>k<B) Y k:=fun k hp=>by
  have hl:k<X.heap.size:=hp.elim (fun hd=>by omega) (fun ht=>ht.lt)
  have hne:k≠C.sb:=fun e=>by
   subst e
   exact hp.elim (fun h'=>by omega) hm.not.2
  have e:=hs k hl hne
  exact⟨e,hp.imp id fun ht=>(TgT.congr e).2 ht⟩
 have hnew:∀x,aH.ok x→∃A' c',((fun x=>if x=a then some (Value.agg #[.int .i64 t.1,.int .i64 t.2.1,.int .i64 t.2.2.1,.slice A t.2.2.2.len c])else g x) x).getD l8=.agg #[.int .i64 ((fun x=>if x=a then t else s x) x).1,.int .i64 ((fun x=>if x=a then t else s x) x).2.1,.int .i64 ((fun x=>if x=a then t else s x) x).2.2.1,.slice A' ((fun x=>if x=a then t else s x) x).2.2.2.len c']∧((fun x=>if x=a then t else s x) x).2.2.2.Sl Y (PT (fun k=>k<B) Y) A' c':=fun x hx=>by
  by_cases e:x=a
  ·simp only[TY e]
   exact⟨A,c,rfl,ht.keep (fun k hp=>(pt k hp).1) fun k hp=>(pt k hp).2⟩
  ·simp only[TW e]
   obtain⟨A',c',e',hs'⟩:=hg x hx
   exact⟨A',c',e',hs'.keep (fun k hp=>(pt k hp).1) fun k hp=>(pt k hp).2⟩
 obtain⟨gv,nv,f,hbx⟩:=h.r.box
 obtain⟨gf,hf1,hf2⟩:=h.r.fm
 have hfl:=hf1.lt
 change X.heap[C.tb]?=_ at hbx
 change aQ r9 X C.fb nf gf at hf1
 refine⟨Y,hr,⟨⟨⟨gv,nv,f,(hs C.tb (lt_of_block hbx) (Ne.symm h.sbt)).trans hbx⟩,⟨_,_,hm2,fun x hx=>?_⟩,⟨gf,hf1.keep (hs C.fb hf1.lt (Ne.symm hsb.2)),fun x hx=>?_⟩,fun k hk=>(hs k (by omega) (by omega)).trans (h.r.old k hk),SE hbs hgr.size,h.r.dt,h.r.df⟩,⟨_,hm2,hnew⟩,hsb⟩,hs,cu hgr (by have:=hm.lt;omega) fun k e=>by have:=TL e;omega⟩
 ·obtain⟨A',c',e',hs'⟩:=hnew x hx
  exact⟨_,A',c',e',hs'⟩
 ·rcases hf2 x hx with e|⟨q,A',c',e,hs'⟩
  ·exact .inl e
  ·exact .inr ⟨q,A',c',e,hs'.keep (fun k hp=>(pt k hp).1) fun k hp=>(pt k hp).2⟩
theorem MoI.sigs (h:MoI B C W X nf K s){b0:Option Nat}(hg:X.grownBy Y b0)(hb:∀k,b0=some k→B≤k∧∃c fz,X.heap[k]?=some (.cells c 57 fz)) :
  MoI B C W Y nf K s∧∀k,PT (fun k=>k<B) X k→Y.heap[k]?=X.heap[k]?∧PT (fun k=>k<B) Y k:=by
 have hs:∀k,k<X.heap.size→(¬∃c fz,X.heap[k]?=some (.cells c 57 fz))→Y.heap[k]?=X.heap[k]?:=fun k hk hn=>hg.block k hk (fun e=>hn (hb k e.symm).2)
 have nm:∀{α:Type} {K:fq α} {b N:Nat} {g:α→Option Value},aQ K X b N g→¬∃c fz,X.heap[b]?=some (.cells c 57 fz):=fun hm ⟨c,fz,e⟩=>hm.cells e rfl
 have hbs:=h.r.bs
 have hlow:∀k,k<B→Y.heap[k]?=X.heap[k]?:=fun k hk=>hg.block k (by omega) (fun e=>by have:=(hb k e.symm).1;omega)
 have pt:∀k,PT (fun k=>k<B) X k→Y.heap[k]?=X.heap[k]?∧PT (fun k=>k<B) Y k:=fun k hp=>by
  rcases hp with hp|hp
  ·exact⟨hlow k hp,.inl hp⟩
  ·have e:=hs k hp.lt fun ⟨c,fz,e⟩=>by
    obtain⟨cur,fz',e'⟩:=hp
    rw[e']at e
    simp only[TK,Obj.cells.injEq]at e
    exact absurd e.2.1 (by decide)
   exact⟨e,.inr ((TgT.congr e).2 hp)⟩
 obtain⟨gv,nv,f,hbx⟩:=h.r.box
 obtain⟨Ns,gs,hs1,hs2⟩:=h.r.sm
 obtain⟨gf,hf1,hf2⟩:=h.r.fm
 obtain⟨g,hm,hg2⟩:=h.m.m
 refine⟨⟨⟨⟨gv,nv,f,(hs _ (lt_of_block hbx) fun ⟨c,fz,e⟩=>?_).trans hbx⟩,⟨Ns,gs,hs1.keep (hs _ hs1.lt (nm hs1)),fun a ha=>?_⟩,⟨gf,hf1.keep (hs _ hf1.lt (nm hf1)),fun a ha=>?_⟩,fun k hk=>(hlow k hk).trans (h.r.old k hk),SE hbs hg.size,h.r.dt,h.r.df⟩,⟨g,hm.keep (hs _ hm.lt (nm hm)),fun a ha=>?_⟩,h.sb⟩,pt⟩
 ·rw[hbx]at e
  simp only[TK,Obj.cells.injEq]at e
  exact absurd e.2.1 (by decide)
 ·obtain⟨q,A,c,e,hsl⟩:=hs2 a ha
  exact⟨q,A,c,e,hsl.keep (fun k hp=>(pt k hp).1) fun k hp=>(pt k hp).2⟩
 ·rcases hf2 a ha with e|⟨q,A,c,e,hsl⟩
  ·exact .inl e
  ·exact .inr ⟨q,A,c,e,hsl.keep (fun k hp=>(pt k hp).1) fun k hp=>(pt k hp).2⟩
 ·obtain⟨A,c,e,hsl⟩:=hg2 a ha
  exact⟨A,c,e,hsl.keep (fun k hp=>(pt k hp).1) fun k hp=>(pt k hp).2⟩
end
end Go.Proofs.Q
namespace Go.Proofs.Q
open Go Go.RowKit Go.Proofs Go.Proofs.Unify Go.Proofs.Scc
def tT (label:ByteArray)(uses:List ByteArray)(ds:List Dc)(sch:ByteArray×Int→Bool)(frn:ByteArray×Int→Int×Int×Tf):Ch:=
 if bY label uses ds≠0 then .err 0 (bY label uses ds)
 else if (eB (aA ds) sch [] ds).2≠0 then .err (eB (aA ds) sch [] ds).1 (eB (aA ds) sch [] ds).2
 else if dM ds=true then .err 0 21
 else lu frn (ds.map Dc.de) (bX ds) sm0
def oZ (s:Sm):List Dc→List (Option Addr×Nat)→List Value
 | x::l,p::m=>[.int .i64 x.id,.string (nameOf x),.int .i64 (s x.id).1,.int .i64 (s x.id).2.1,.int .i64 (s x.id).2.2.1,.slice p.1 (s x.id).2.2.2.len p.2]++oZ s l m
 | _,_=>[]
def PS (W:World)(ds:List Dc)(R:Ch)(e:Ending)(Y:World):Prop:=
 RowKit.Below W.heap.size W Y∧match R with
 | .err i z=>e=.returned (.tuple #[.slice none 0 0,.int .i64 i,.int .i64 z])
 | .ok s=>∃v L,e=.returned (.tuple #[v,.int .i64 0,.int .i64 0])∧L.length=ds.length∧Y.ownsRow W.heap.size 57 6 v ds.length (oZ s ds L)∧∀(j:Nat) (x:Dc) (p:Option Addr×Nat),ds[j]?=some x→L[j]?=some p→(s x.id).2.2.2.Sl Y (fun k=>k<Y.heap.size) p.1 p.2
def RoH (W:World)(c0 c1 c2 c3:Value)(ds:List Dc)(frn:ByteArray×Int→Int×Int×Tf):Prop:=
 ∀(W':World) (C:TyC),RowKit.Below W.heap.size W W'→C.c0=c0→C.c1=c1→C.c2=c2→C.c3=c3→C.sc.frn=frn→(∃s:Sm,C.sc.sch=(fun a=>(s a).2)∧∀a,SmP s a)→∀d∈ds,(d.k=5→kM (fun k=>k<W'.heap.size) C W' d.n d.i)∧d.s.Ro (fun k=>k<W'.heap.size) C W'
theorem Fo.Ci {sc:Sc}(hs:∀a,TOk (sc.sch a))(hf:∀n,TOk (sc.frn n)):∀s:Fo,s.Cok→s.ex.Cok sc
 | .nil,_=>trivial
 | .cons k n m i d A c s r,h=>by
  refine⟨by rw[Fo.ru];exact h.1,fun _=>?_,Fo.Ci hs hf s h.2.1,Fo.Ci hs hf r h.2.2⟩
  split
  ·exact fun _=>hs i
  ·exact hf (n,i)
theorem Ef:∀ds:List Dc,(∀x∈ds,x.s.count≤399)→gy (ds.map Dc.de)≤ds.length*400
 | [],_=>SA _
 | x::l,h=>by
  have h1:=Ef l fun z hz=>h z (Tc _ hz)
  have h2:=h x Ta
  simp only[List.map_cons,gy,TS]
  have h3:x.de.s.cnt=x.s.count:=Fo.iH x.s
  rw[h3]
  omega
theorem MoI.find {label:ByteArray}{ds:List Dc}(hV:MdV label ds){W X:World}{C:TyC}{nf K:Nat}{s:Sm}(h:MoI W.heap.size C W X nf K s)(hs:∀a,SmP s a)(hfr:∀n,TOk (C.sc.frn n)){dA:Option Addr}{dc:Nat}(hd:SlD W W.heap.size dA dc ds)(hc2:C.c2=.slice dA ds.length dc)
  (hro:∀C':TyC,C'.c0=C.c0→C'.c1=C.c1→C'.c2=C.c2→C'.c3=C.c3→C'.sc.frn=C.sc.frn→(∃s:Sm,C'.sc.sch=(fun a=>(s a).2)∧∀a,SmP s a)→∀d∈ds,(d.k=5→kM (fun k=>k<W.heap.size) C' W d.n d.i)∧d.s.Ro (fun k=>k<W.heap.size) C' W)
  {group:List Int} {A:Option Addr} {c:Nat} (hg:dF W W.heap.size A c group) (hgn:group.Nodup) (hgs:∀a∈group,a∈aA ds) :
  Calls Tryz.prog 51 #[.pointer (some ⟨C.tb,0,none⟩),.slice A group.length c] X (Lh W.heap.size (C.sm s) W X nf (gy (ds.map Dc.de)) (iR ⟨[],fun a=>(s a).2,C.sc.frn⟩ (ds.map Dc.de) group)) ∧
  ∀L,iR ⟨[],fun a=>(s a).2,C.sc.frn⟩ (ds.map Dc.de) group=.ok L→L.map (·.1)=group∧∀x∈L,Jg x:=by
 have hgl:group.length≤100:=by
  have h1:group.length≤(aA ds).length:=by
   have:(group.mergeSort leI).length=group.length:=List.length_mergeSort _
   rw[←this]
   exact uN hV.asc (tX hgn) fun x hx=>hgs x (gZ.1 hx)
  have h2:=hV.len
  have h3:(aA ds).length=ds.length:=S9 ..
  omega
 have iN:∀a∈group,∃d∈ds,d.id=a:=fun a ha=>by
  obtain⟨d,hd,e⟩:=TH.1 (hgs a ha)
  exact⟨d,hd,e⟩
 have hok:∀d∈ds,d.de.Ok ⟨grp group 0,fun a=>(s a).2,C.sc.frn⟩:=fun d hd=>by
  have hv:=hV.v d hd
  refine⟨by show okE d.k d.s.ex.len;rw[Fo.ru];exact hv.okc,fun _=>?_,Fo.Ci (sc:=⟨grp group 0,fun a=>(s a).2,C.sc.frn⟩) (fun a=>(hs a).t) hfr _ hv.cok⟩
  split
  ·exact fun _=>(hs _).t
  ·exact hfr _
 have hcnt:=Ef ds fun x hx=>(hV.v x hx).cnt
 have hIA:dF X W.heap.size A c group:=⟨hg.1,hg.2.1,fun hne=>by
  obtain⟨q,o,e,hq,hc⟩:=hg.2.2 hne
  exact⟨q,o,e,hq,fun j i hj=>(SN (h.old q hq)).trans (hc j i hj)⟩⟩
 refine⟨?_,fun L hL=>?_⟩
 ·have:=Kh (C:=C.sm s) h.r hIA hgn (by omega) (fun a ha=>by
   obtain⟨d,hd,e⟩:=iN a ha
   rw[←e]
   exact lq (hV.v d hd).id) hd hc2 iN (fun d hd=>lq (hV.v d hd).id) hok (fun d hd gb n0=>hro ((C.sm s).at_ gb n0 group group.length) rfl rfl rfl rfl rfl ⟨s,rfl,hs⟩ d hd) (by have:=hV.len;omega) (by have:=hV.len;omega)
  exact this
 ·refine KS (sc0:=⟨[],fun a=>(s a).2,C.sc.frn⟩) (ds:=ds.map Dc.de) hgn (fun d hd=>?_) (fun a ha=>?_) hL
  ·obtain⟨x,hx,rfl⟩:=TH.1 hd
   exact hok x hx
  ·obtain⟨d,hd,e⟩:=iN a ha
   exact⟨d.de,TH.2 ⟨d,hd,rfl⟩,e⟩
def aX:ByteArray:=⟨#[120]⟩
def aE:ByteArray:=⟨#[]⟩
def aM:ByteArray:=⟨#[109]⟩
def aV (r:Fo):Fo:=.cons 3 aX aE 0 0 none 0 .nil r
def aR (i:Int)(r:Fo):Fo:=.cons 5 aE aE i 0 none 0 .nil r
def aI (r:Fo):Fo:=.cons 1 aE aE 1 0 none 0 .nil r
def aD (id:Int)(nm:ByteArray)(nA A:Option Addr)(s:Fo):Dc:=⟨id,1,false,nA,1,[nm],false,6,aX,aE,0,0,A,1,s⟩
def aS2 (g:Option Addr):Fo:=.cons 7 aE aE 0 0 g 2 (aR 3 (aV .nil)) .nil
def aS3 (g h:Option Addr):Fo:=.cons 7 aE aE 0 0 g 2 (aR 2 (.cons 10 ⟨#[43]⟩ aE 0 0 h 2 (aV (aI .nil)) .nil)) .nil
def aS4 (g:Option Addr):Fo:=.cons 7 aE aE 0 0 g 2 (aV (aV .nil)) .nil
def aDs (n1 A1 n2 A2 g2 n3 A3 g3 h3:Option Addr):List Dc:=[aD 1 ⟨#[105,100]⟩ n1 A1 (aV .nil),aD 2 ⟨#[102]⟩ n2 A2 (aS2 g2),aD 3 ⟨#[103]⟩ n3 A3 (aS3 g3 h3)]
def iG (n A g:Option Addr):List Dc:=[aD 7 ⟨#[102]⟩ n A (aS4 g)]
section
variable (n1 A1 n2 A2 g2 n3 A3 g3 h3 n A g:Option Addr)
theorem xG:bY aM [] (aDs n1 A1 n2 A2 g2 n3 A3 g3 h3)=0:=by kernel_rfl
theorem Cj:bY aM [] (iG n A g)=0:=by kernel_rfl
theorem Ck {x:Dc}(h:gK x.body.vis=[]):x.refs=[]:=by
 unfold Dc.refs refsOf cK
 rw[h,List.mergeSort_nil]
 rfl
theorem Cm {x:Dc}{r:ByteArray×Int}(h:gK x.body.vis=[r]):x.refs=[r]:=by
 unfold Dc.refs refsOf cK
 rw[h,List.mergeSort_singleton]
 rfl
theorem Gi (nm:ByteArray):(aD 1 nm n1 A1 (aV .nil)).refs=[]:=Ck (by kernel_rfl)
theorem Gj (nm:ByteArray):(aD 2 nm n2 A2 (aS2 g2)).refs=[(aE,3)]:=Cm (by kernel_rfl)
theorem Gl (nm:ByteArray):(aD 3 nm n3 A3 (aS3 g3 h3)).refs=[(aE,2)]:=Cm (by kernel_rfl)
theorem Gm (nm:ByteArray):(aD 7 nm n A (aS4 g)).refs=[]:=Ck (by kernel_rfl)
def zF (a:Int):List Int:=if a=2 then [3]else if a=3 then [2]else []
theorem OL:dP (aDs n1 A1 n2 A2 g2 n3 A3 g3 h3)=zF:=by
 funext a
 unfold dP aDs zF
 have u1:(aD 1 ⟨#[105,100]⟩ n1 A1 (aV .nil)).us=[]:=by unfold Dc.us;rw[Gi];rfl
 have u2:(aD 2 ⟨#[102]⟩ n2 A2 (aS2 g2)).us=[3]:=by unfold Dc.us;rw[Gj];rfl
 have u3:(aD 3 ⟨#[103]⟩ n3 A3 (aS3 g3 h3)).us=[2]:=by unfold Dc.us;rw[Gl];rfl
 simp only[List.find?_cons,List.find?_nil]
 by_cases e1:a=1
 ·subst e1
  show (aD 1 ⟨#[105,100]⟩ n1 A1 (aV .nil)).us=_
  rw[u1];rfl
 ·have f1:((aD 1 ⟨#[105,100]⟩ n1 A1 (aV .nil)).id==a)=false:=by
   rw[beq_eq_false_iff_ne];intro e;exact e1 e.symm
  rw[f1]
  by_cases e2:a=2
  ·subst e2
   show (aD 2 ⟨#[102]⟩ n2 A2 (aS2 g2)).us=_
   rw[u2];rfl
  ·have f2:((aD 2 ⟨#[102]⟩ n2 A2 (aS2 g2)).id==a)=false:=by
    rw[beq_eq_false_iff_ne];intro e;exact e2 e.symm
   rw[f2]
   by_cases e3:a=3
   ·subst e3
    show (aD 3 ⟨#[103]⟩ n3 A3 (aS3 g3 h3)).us=_
    rw[u3];rfl
   ·have f3:((aD 3 ⟨#[103]⟩ n3 A3 (aS3 g3 h3)).id==a)=false:=by
     rw[beq_eq_false_iff_ne];intro e;exact e3 e.symm
    rw[f3,TW e2,TW e3]
theorem IV:dM (aDs n1 A1 n2 A2 g2 n3 A3 g3 h3)=false:=by
 have u1:(aD 1 ⟨#[105,100]⟩ n1 A1 (aV .nil)).us=[]:=by unfold Dc.us;rw[Gi];rfl
 have u2:(aD 2 ⟨#[102]⟩ n2 A2 (aS2 g2)).us=[3]:=by unfold Dc.us;rw[Gj];rfl
 have u3:(aD 3 ⟨#[103]⟩ n3 A3 (aS3 g3 h3)).us=[2]:=by unfold Dc.us;rw[Gl];rfl
 unfold dM aDs
 simp only[List.any_cons,List.any_nil,u1,u2,u3]
 rfl
theorem uJ {l:List Int}(h:l.Pairwise (·≤·)):gN l=l:=List.mergeSort_of_pairwise (h.imp fun h=>by simpa [leI]using h)
theorem IW:bX (aDs n1 A1 n2 A2 g2 n3 A3 g3 h3)=[[1],[2,3]]:=by
 unfold bX iK
 rw[OL]
 have e:(comps zF (aA (aDs n1 A1 n2 A2 g2 n3 A3 g3 h3)).length (aA (aDs n1 A1 n2 A2 g2 n3 A3 g3 h3)) tj0).grs=[gN [1],gN [2,3]]:=by kernel_rfl
 rw[e,uJ (by simp),uJ (by simp)]
 have e2:sortG [[1],[2,3]]=[[1],[2,3]]:=by
  unfold sortG
  exact List.mergeSort_of_pairwise (by simp[bK])
 rw[e2]
 have h:iE zF 2 (fun _=>false) [[1],[2,3]]=[[1],[2,3]]:=by kernel_rfl
 exact h
theorem Po (sch:ByteArray×Int→Bool):eB (aA (aDs n1 A1 n2 A2 g2 n3 A3 g3 h3)) sch [] (aDs n1 A1 n2 A2 g2 n3 A3 g3 h3)=(0,0):=by
 unfold aDs
 have c1:lT [] (aD 1 ⟨#[105,100]⟩ n1 A1 (aV .nil))=false:=by kernel_rfl
 have c2:lT ([]++[nameOf (aD 1 ⟨#[105,100]⟩ n1 A1 (aV .nil))]) (aD 2 ⟨#[102]⟩ n2 A2 (aS2 g2))=false:=by kernel_rfl
 have c3:lT ([]++[nameOf (aD 1 ⟨#[105,100]⟩ n1 A1 (aV .nil))]++[nameOf (aD 2 ⟨#[102]⟩ n2 A2 (aS2 g2))]) (aD 3 ⟨#[103]⟩ n3 A3 (aS3 g3 h3))=false:=by kernel_rfl
 unfold eB
 rw[c1,Gi,TW (by simp),TW (by simp)]
 unfold eB
 rw[c2,Gj,TW (by simp),TW (by simp[lg,aE,aA,aD])]
 unfold eB
 rw[c3,Gl,TW (by simp),TW (by simp[lg,aE,aA,aD])]
 rfl
theorem OM (sch:ByteArray×Int→Bool):eB (aA (iG n A g)) sch [] (iG n A g)=(0,0):=by
 unfold iG
 have c1:lT [] (aD 7 ⟨#[102]⟩ n A (aS4 g))=false:=by kernel_rfl
 unfold eB
 rw[c1,Gm,TW (by simp),TW (by simp)]
 rfl
theorem MI:dM (iG n A g)=false:=by
 have u1:(aD 7 ⟨#[102]⟩ n A (aS4 g)).us=[]:=by unfold Dc.us;rw[Gm];rfl
 unfold dM iG
 simp only[List.any_cons,List.any_nil,u1]
 rfl
theorem MJ:bX (iG n A g)=[[7]]:=by
 have hu:dP (iG n A g)=fun _=>[]:=by
  funext a
  unfold dP iG
  have u1:(aD 7 ⟨#[102]⟩ n A (aS4 g)).us=[]:=by unfold Dc.us;rw[Gm];rfl
  simp only[List.find?_cons,List.find?_nil]
  cases (aD 7 ⟨#[102]⟩ n A (aS4 g)).id==a
  ·rfl
  ·exact u1
 unfold bX iK
 rw[hu]
 have e:(comps (fun _=>[]) (aA (iG n A g)).length (aA (iG n A g)) tj0).grs=[gN [7]]:=by kernel_rfl
 rw[e,uJ (by simp)]
 have e2:sortG [[7]]=[[7]]:=by
  unfold sortG
  exact List.mergeSort_of_pairwise (by simp[bK])
 rw[e2]
 have h:iE (fun _=>[]) 1 (fun _=>false) [[7]]=[[7]]:=by kernel_rfl
 exact h
def aT1:Int×Int×Int×Tf:=(1,4,0,.cons 5 0 .nil (.cons 5 0 .nil .nil))
def aT2:Int×Int×Int×Tf:=(1,4,0,.cons 1 0 .nil (.cons 5 0 .nil .nil))
def rV:ByteArray×Int→Int×Int×Tf:=fun _=>(0,0,.nil)
theorem QV:iR ⟨[],fun a=>(sm0 a).2,rV⟩ ((aDs n1 A1 n2 A2 g2 n3 A3 g3 h3).map Dc.de) [1]=.ok [(1,aT1)]:=by kernel_rfl
theorem QW:iR ⟨[],fun a=>(tQ sm0 [(1,aT1)] a).2,rV⟩ ((aDs n1 A1 n2 A2 g2 n3 A3 g3 h3).map Dc.de) [2,3]=.ok [(2,aT2),(3,aT2)]:=by kernel_rfl
theorem QX:iR ⟨[],fun a=>(sm0 a).2,rV⟩ ((iG n A g).map Dc.de) [7]=.err 22:=by kernel_rfl
def aSm:Sm:=tQ (tQ sm0 [(1,aT1)]) [(2,aT2),(3,aT2)]
theorem Pp (sch:ByteArray×Int→Bool):tT aM [] (aDs n1 A1 n2 A2 g2 n3 A3 g3 h3) sch rV=.ok aSm:=by
 unfold tT
 rw[xG,Po,IV,IW,TW (by simp),TW (by simp),TW (by simp)]
 unfold lu
 rw[QV]
 simp only
 unfold lu
 rw[QW]
 rfl
theorem OO (sch:ByteArray×Int→Bool):tT aM [] (iG n A g) sch rV=.err 7 22:=by
 unfold tT
 rw[Cj,OM,MI,MJ,TW (by simp),TW (by simp),TW (by simp)]
 unfold lu
 rw[QX]
 rfl
end
end Go.Proofs.Q
