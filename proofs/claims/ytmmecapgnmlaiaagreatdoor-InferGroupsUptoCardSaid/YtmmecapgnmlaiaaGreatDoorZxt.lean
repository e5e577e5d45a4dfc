/- infer: the typer in memory -/
import Derived.Test.YtmmecapgnmlaiaaGreatDoorZxp
import Derived.Test.YtmmecapgnmlaiaaGreatDoorZxs
import Derived.Test.YtmmecapgnmlaiaaGreatDoorZxb
import Derived.RegionIn
set_option maxRecDepth 100000
set_option maxHeartbeats 16000000
namespace Go.Proofs.Q
open Go Go.RowKit Go.Proofs Go.Proofs.Unify
structure TyC where
 tb:Nat
 sb:Nat
 gb:Nat
 fb:Nat
 c0:Value
 c1:Value
 c2:Value
 c3:Value
 n0:Nat
 sc:Sc
def PT (D:Nat→Prop)(X:World)(k:Nat):Prop:=D k∨TgT X k
def l8:Value:=.agg #[.int .i64 0,.int .i64 0,.int .i64 0,.slice none 0 0]
def TyE (C:TyC)(v:Value)(k:Nat):Prop:=k=C.tb∨k=C.fb∨v.ownBlock=some k
structure TyI (D:Nat→Prop)(C:TyC)(X:World)(v:Value)(ix:List Nat)(σ:Tst)(nf:Nat):Prop where
 box:X.heap[C.tb]?=some (.cells #[C.c0,C.c1,C.c2,C.c3,.map (some C.sb),.map (some C.gb),v,.map (some C.fb),.bool σ.fl] 95 (0,0))
 row:X.ownsRow C.n0 144 1 v σ.ns.length (σ.ns.map fun j=>nP (blk ix j))
 st:StH D (TyE C v) X ix σ.S (fun _=>0)
 gm:∃N,aQ aH X C.gb N (vsF ix C.sc.G)
 sm:∃N g,aQ aH X C.sb N g∧∀a,aH.ok a→∃q A c,(g a).getD l8=.agg #[.int .i64 q,.int .i64 (C.sc.sch a).1,.int .i64 (C.sc.sch a).2.1,.slice A (C.sc.sch a).2.2.len c]∧(C.sc.sch a).2.2.Sl X (PT D X) A c
 fm:∃g,aQ r9 X C.fb nf g∧∀a,r9.ok a→g a=none∨∃q A c,g a=some (.agg #[.int .i64 q,.int .i64 (C.sc.frn a).1,.int .i64 (C.sc.frn a).2.1,.slice A (C.sc.frn a).2.2.len c])∧(C.sc.frn a).2.2.Sl X (PT D X) A c
 mem:∀j∈σ.ns,j<σ.S.length
 lC:∀x∈C.sc.G,x.2<σ.S.length
 dlt:∀k,D k→k<C.n0
 tn:C.n0≤X.heap.size
 dt:¬D C.tb
 df:¬D C.fb
section
variable {D:Nat→Prop} {C:TyC} {X Y:World} {v:Value} {ix:List Nat} {σ:Tst} {nf:Nat}
theorem aQ.not {α:Type}{K:fq α}{w:World}{b N:Nat}{g:α→Option Value}(h:aQ K w b N g):¬TgN w b∧¬TgT w b:=by
 obtain⟨n,Dd,⟨es,cl,h1,_⟩,_⟩:=h
 refine⟨TgN.vI h1,fun ⟨cur,fz,h2⟩=>?_⟩
 rw[h1]at h2
 simp at h2
theorem TyI.own (h:TyI D C X v ix σ nf){g:Nat}(hg:v.ownBlock=some g):C.n0≤g∧g<X.heap.size∧¬TgN X g∧¬TgT X g:=by
 have h1:=h.row.lt g hg
 obtain⟨c,fz,h2⟩:=Lib.ownsRow_kind h.row g hg
 refine⟨h1.1,h1.2,TgN.not h2 (by decide),fun ⟨cur,fz,h3⟩=>?_⟩
 rw[h2]at h3
 simp only[TK,Obj.cells.injEq]at h3
 exact absurd h3.2.1 (by decide)
theorem TyI.e (h:TyI D C X v ix σ nf){k:Nat}(hk:TyE C v k):¬D k∧¬TgT X k∧¬TgN X k∧k<X.heap.size:=by
 rcases hk with rfl|rfl|hk
 ·refine⟨h.dt,fun ⟨cur,fz,h3⟩=>?_,TgN.not h.box (by decide),(Sz.1 h.box).1⟩
  rw[h.box]at h3
  simp only[TK,Obj.cells.injEq]at h3
  exact absurd h3.2.1 (by decide)
 ·obtain⟨g,hg,_⟩:=h.fm
  exact⟨h.df,hg.not.2,hg.not.1,hg.lt⟩
 ·have:=h.own hk
  exact⟨fun hd=>by have:=h.dlt k hd;omega,this.2.2.2,this.2.2.1,this.2.1⟩
theorem TyI.pt (h:TyI D C X v ix σ nf){E:Nat→Prop}(hk:Kx D E X Y)(hE:∀k,k<X.heap.size→E k→TyE C v k){k:Nat}(hp:PT D X k):Y.heap[k]?=X.heap[k]?∧PT D Y k:=by
 have hl:k<X.heap.size:=hp.elim (fun hd=>by have:=h.dlt k hd;have:=h.tn;omega) (fun ht=>ht.lt)
 have hne:¬E k:=fun he=>by
  have h1:=h.e (hE k hl he)
  exact hp.elim h1.1 h1.2.1
 have e:Y.heap[k]?=X.heap[k]?:=hk.block k hl (hp.imp id fun ht=>ht.not) hne
 exact⟨e,hp.imp id fun ht=>(TgT.congr e).2 ht⟩
theorem TyI.call (h:TyI D C X v ix σ nf){y:List Nat}{S':St}(hst:StH D (TyE C v) Y (ix++y) S' (fun _=>0))(hk:Kn D X Y)(hS:σ.S.length≤S'.length):TyI D C Y v (ix++y) ⟨S',σ.ns,σ.fl⟩ nf:=by
 have hlen:=h.st.len
 have hkx:=hk.x (fun _=>False)
 have pt:=fun {k:Nat}=>h.pt (k:=k) hkx (fun _ _ h=>h.elim)
 obtain⟨Ng,hg⟩:=h.gm
 obtain⟨Ns,gs,hs1,hs2⟩:=h.sm
 obtain⟨gf,hf1,hf2⟩:=h.fm
 have kp:∀k,k<X.heap.size→¬TgN X k→Y.heap[k]?=X.heap[k]?:=fun k hl hn=>hk.block k hl (.inr hn)
 refine⟨hk.box h.box (by decide),?_,hst,⟨Ng,?_⟩,⟨Ns,gs,hs1.keep (kp _ hs1.lt hs1.not.1),fun a ha=>?_⟩,⟨gf,hf1.keep (kp _ hf1.lt hf1.not.1),fun a ha=>?_⟩,fun j hj=>SB (h.mem j hj) hS,fun x hx=>SB (h.lC x hx) hS,h.dlt,SE h.tn hk.size,h.dt,h.df⟩
 ·have e:(σ.ns.map fun j=>nP (blk (ix++y) j))=σ.ns.map fun j=>nP (blk ix j):=List.map_congr_left fun j hj=>by rw[oJ (by rw[hlen];exact h.mem j hj)]
  simp only
  rw[e]
  refine⟨h.row.1,?_⟩
  rcases h.row.2 with h'|⟨g,cap,cur,e1,e2,e3,e4⟩
  ·exact .inl h'
  ·exact .inr ⟨g,cap,cur,e1,e2,hk.box e3 (by decide),e4⟩
 ·rw[sD (fun x hx=>by rw[hlen];exact h.lC x hx)]
  exact hg.keep (kp _ hg.lt hg.not.1)
 ·obtain⟨q,A,c,e,hsl⟩:=hs2 a ha
  exact⟨q,A,c,e,hsl.keep (fun k hp=>(pt hp).1) fun k hp=>(pt hp).2⟩
 ·rcases hf2 a ha with e|⟨q,A,c,e,hsl⟩
  ·exact .inl e
  ·exact .inr ⟨q,A,c,e,hsl.keep (fun k hp=>(pt hp).1) fun k hp=>(pt hp).2⟩
theorem TyI.below (h:TyI D C X v ix σ nf)(hb:Below X.heap.size X Y):TyI D C Y v ix σ nf:=by
 have:=h.call (y:=[]) (Y:=Y) (S':=σ.S) (by rw[TV];exact h.st.keep hb) (Kn.below hb) (SA _)
 rw[TV]at this
 exact this
structure TyK (D:Nat→Prop)(C:TyC)(X:World)(v:Value)(Y:World)(v':Value):Prop where
 kx:Kx D (TyE C v) X Y
 own:∀g,v'.ownBlock=some g→v.ownBlock=some g∨X.heap.size≤g
theorem TyK.refl (X:World)(v:Value):TyK D C X v X v:=⟨Kx.refl _ _,fun _ h=>.inl h⟩
theorem TyK.trans {Z:World}{v' v'':Value}(h:TyK D C X v Y v')(g:TyK D C Y v' Z v''):TyK D C X v Z v'':=
 ⟨h.kx.trans g.kx fun k hk he=>he.imp id fun he=>he.imp id fun he=>(h.own k he).elim id fun h'=>by omega,fun k hk=>(g.own k hk).elim (fun h'=>h.own k h') fun h'=>.inr (SE h.kx.size h')⟩
theorem TyK.kn (h:Kn D X Y):TyK D C X v Y v:=⟨h.x _,fun _ h=>.inl h⟩
theorem TyK.below (h:Below X.heap.size X Y):TyK D C X v Y v:=TyK.kn (Kn.below h)
def TyP (D:Nat→Prop)(C:TyC)(X:World)(v:Value)(ix:List Nat)(nf:Nat)(R:Nat×Tst)(n:Nat)(e:Ending)(Y:World):Prop:=
 ∃v' ix' nf',e=.returned (nP (blk ix' R.1))∧(∃y,ix'=ix++y)∧TyI D C Y v' ix' R.2 nf'∧nf'≤nf+n∧TyK D C X v Y v'
end
section
variable {D:Nat→Prop} {C:TyC} {X Y:World} {v:Value} {ix:List Nat} {σ:Tst} {nf:Nat}
theorem lJ {W:World}{b:Nat}{t:TypeId}{c0 c1 c2 c3 c4 c5 c6 c7 c8:Value}(h:W.heap[b]?=some (.cells #[c0,c1,c2,c3,c4,c5,c6,c7,c8] t (0,0))) :
  W.cell? ⟨b,0,none⟩=some c0∧W.cell? ⟨b,1,none⟩=some c1∧W.cell? ⟨b,2,none⟩=some c2∧W.cell? ⟨b,3,none⟩=some c3∧W.cell? ⟨b,4,none⟩=some c4∧W.cell? ⟨b,5,none⟩=some c5∧W.cell? ⟨b,6,none⟩=some c6∧W.cell? ⟨b,7,none⟩=some c7∧W.cell? ⟨b,8,none⟩=some c8∧W.frozen? ⟨b,6,none⟩=false∧W.frozen? ⟨b,8,none⟩=false:=
 ⟨Sq W b 0 _ _ (0,0) h,Sq W b 1 _ _ (0,0) h,Sq W b 2 _ _ (0,0) h,Sq W b 3 _ _ (0,0) h,Sq W b 4 _ _ (0,0) h,Sq W b 5 _ _ (0,0) h,Sq W b 6 _ _ (0,0) h,Sq W b 7 _ _ (0,0) h,Sq W b 8 _ _ (0,0) h,Sr W b 6 _ _ h,Sr W b 8 _ _ h⟩
theorem TyI.turn (h:TyI D C X v ix σ nf){u:Value}{v':Value}{q:Nat}{fl':Bool}(hc:(#[C.c0,C.c1,C.c2,C.c3,.map (some C.sb),.map (some C.gb),v,.map (some C.fb),.bool σ.fl]:Array Value).setIfInBounds q u=#[C.c0,C.c1,C.c2,C.c3,.map (some C.sb),.map (some C.gb),v',.map (some C.fb),.bool fl'])
  (hv:v'.ownBlock=v.ownBlock)(hr:X.ownsRow C.n0 144 1 v' σ.ns.length (σ.ns.map fun j=>nP (blk ix j))) :
  TyI D C (X.setCell ⟨C.tb,q,none⟩ u) v' ix ⟨σ.S,σ.ns,fl'⟩ nf∧TyK D C X v (X.setCell ⟨C.tb,q,none⟩ u) v':=by
 have hsame:∀k,k≠C.tb→(X.setCell ⟨C.tb,q,none⟩ u).heap[k]?=X.heap[k]?:=fun k hk=>Tx _ _ _ _ hk
 have hbx:=heap_set (i:=q) h.box u
 rw[hc]at hbx
 have hsz:(X.setCell ⟨C.tb,q,none⟩ u).heap.size=X.heap.size:=by simp[World.setCell]
 have hkx:Kx D (TyE C v) X (X.setCell ⟨C.tb,q,none⟩ u):=Kx.set h.box (by decide) (.inl rfl) u
 have hE:TyE C v'=TyE C v:=by funext k;unfold TyE;rw[hv]
 obtain⟨Ng,hg⟩:=h.gm
 obtain⟨Ns,gs,hs1,hs2⟩:=h.sm
 obtain⟨gf,hf1,hf2⟩:=h.fm
 have pt:=fun {k:Nat}=>h.pt (k:=k) hkx (fun _ _ h=>h)
 have Qx:∀{b:Nat} {es:Array MapEntry} {c:Nat},X.heap[b]?=some (.map es c)→b≠C.tb:=fun hb e=>by rw[e,h.box]at hb;cases hb
 have hne:∀{α:Type} {K:fq α} {b N:Nat} {g:α→Option Value},aQ K X b N g→b≠C.tb:=fun hm=>by
  obtain⟨n,Dd,⟨es,cl,h1,_⟩,_⟩:=hm
  exact Qx h1
 refine⟨⟨hbx,?_,?_,⟨Ng,hg.keep (hsame _ (hne hg))⟩,⟨Ns,gs,hs1.keep (hsame _ (hne hs1)),fun a ha=>?_⟩,⟨gf,hf1.keep (hsame _ (hne hf1)),fun a ha=>?_⟩,h.mem,h.lC,h.dlt,by rw[hsz];exact h.tn,h.dt,h.df⟩,hkx,fun g hg=>.inl (hv▸hg)⟩
 ·refine⟨hr.1,?_⟩
  rcases hr.2 with h'|⟨g,cap,cur,e1,e2,e3,e4⟩
  ·exact .inl h'
  ·exact .inr ⟨g,cap,cur,e1,e2,(hsame g fun e=>by rw[e,h.box]at e3;simp at e3).trans e3,e4⟩
 ·rw[hE]
  refine h.st.shift (by omega) (fun k _ hm=>hsame k fun e=>hm (.inl e)) (fun k hk=>.inl hk) (fun k hk=>?_)
  have h1:=h.e hk
  refine⟨by omega,?_⟩
  by_cases e:k=C.tb
  ·subst e;exact TgN.not hbx (by decide)
  ·exact fun ht=>h1.2.2.1 ((TgN.congr (hsame k e)).1 ht)
 ·obtain⟨q,A,c,e,hsl⟩:=hs2 a ha
  exact⟨q,A,c,e,hsl.keep (fun k hp=>(pt hp).1) fun k hp=>(pt hp).2⟩
 ·rcases hf2 a ha with e|⟨q,A,c,e,hsl⟩
  ·exact .inl e
  ·exact .inr ⟨q,A,c,e,hsl.keep (fun k hp=>(pt hp).1) fun k hp=>(pt hp).2⟩
def Pf (D:Nat→Prop)(C:TyC)(X:World)(v:Value)(ix:List Nat)(nf:Nat)(σ:Tst)(e:Ending)(Y:World):Prop:=e=.returned (.tuple #[])∧TyI D C Y v ix σ nf∧TyK D C X v Y v
theorem J7 (h:TyI D C X v ix σ nf)(hw:Wf arP σ.S){a b:Nat}(ha:a<σ.S.length)(hb:b<σ.S.length) :
  Calls Tryz.prog 96 #[.pointer (some ⟨C.tb,0,none⟩),nP (blk ix a),nP (blk ix b)] X (Pf D C X v ix nf (bE σ a b)):=by
 obtain⟨S,ns,fl⟩:=σ
 obtain⟨x0,x1,x2,x3,x4,x5,x6,x7,x8,f6,f8⟩:=lJ h.box
 cases fl with
 | true =>
  have H:=Sk h
  clear h hw ha hb x0 x1 x2 x3 x4 x5 x6 x7
  go_enter Tryz.func96,Tryz.ntmps96
  go_wp2
  go_end0
  exact⟨rfl,H.out,TyK.refl _ _⟩
 | false =>
  have HU:=Sk (xX arP vL (nr S) S a b ix (fun _=>0) X hw ha hb (SA _) h.st)
  have HL:=Sk (kU (vk:=5) arP (nr S) S a b hw ha hb (SA _)).len
  have HS:=Sk (show bE ⟨S,ns,false⟩ a b=⟨(fK 5 (nr S) S a b).2,ns,!(fK 5 (nr S) S a b).1⟩from rfl)
  generalize fK 5 (nr S) S a b=q at HU HL HS
  obtain⟨ok,Q⟩:=q
  have H:=Sk h
  have HX:=Sk (show ∀w1:World,StH D (TyE C v) w1 ix Q (fun _=>0)→Kn D X w1→TyI D C w1 v ix ⟨Q,ns,false⟩ nf from fun w1 h1 hk=>by
   have:=h.call (y:=[]) (S':=Q) (by rw[TV];exact h1) hk (by rw[HL.out];exact SA _)
   rw[TV]at this
   exact this)
  clear h hw ha hb x0 x1 x2 x3 x4 x5 x6 x7
  go_enter Tryz.func96,Tryz.ntmps96
  go_wp2_with fail
  refine HU.out.mono ?_
  rintro e w1 ⟨rfl,h1,hk1⟩
  have hI:=HX.out w1 h1 hk1
  obtain⟨y0,y1,y2,y3,y4,y5,y6,y7,y8,g6,g8⟩:=lJ hI.box
  have HI:=Sk (Sn hI (TyK.kn (C:=C) (v:=v) hk1))
  clear h1 hk1 hI y0 y1 y2 y3 y4 y5 y6 y7
  cases ok with
  | true =>
   go_wp2
   go_end0
   rw[HS.out]
   exact⟨rfl,HI.out⟩
  | false =>
   have HT:=Sk (HI.out.1.turn (q:=8) (u:=.bool true) (v':=v) (fl':=true) rfl rfl HI.out.1.row)
   go_wp2
   go_end0
   rw[HS.out]
   exact⟨rfl,HT.out.1,HI.out.2.trans HT.out.2⟩
end
end Go.Proofs.Q
namespace Go.Proofs.Q
open Go Go.RowKit Go.Proofs Go.Proofs.Unify
def dZ (ix:List Nat):Env→List Value
 | []=>[]
 | x::l=>.string x.1::nP (blk ix x.2)::dZ ix l
theorem qg (ix:List Nat):∀l:Env,(dZ ix l).length=l.length*2
 | []=>rfl
 | x::l=>by simp only[dZ,TS,qg ix l];omega
theorem Bf (ix:List Nat):∀l m:Env,dZ ix (l++m)=dZ ix l++dZ ix m
 | [],_=>rfl
 | x::l,m=>by simp only[TU,dZ,Bf ix l m]
theorem uF (ix:List Nat):∀l:Env,∀u∈dZ ix l,u.oneCell'=true
 | [],u,h=>by cases h
 | x::l,u,h=>by
  rcases TI.1 h with rfl|h
  ·rfl
  ·rcases TI.1 h with rfl|h
   ·rfl
   ·exact uF ix l u h
theorem DZ (ix:List Nat):∀(l:Env)(j:Nat)(x:ByteArray×Nat),l[j]?=some x→(dZ ix l)[j*2]?=some (.string x.1)∧(dZ ix l)[j*2+1]?=some (nP (blk ix x.2))
 | [],j,x,h=>by simp at h
 | y::l,0,x,h=>by
  simp only[List.getElem?_cons_zero,TK]at h
  subst h
  exact⟨rfl,rfl⟩
 | y::l,j+1,x,h=>by
  have:=DZ ix l j x (by simpa using h)
  rw[show (j+1)*2=j*2+1+1 by omega]
  exact this
def eO (M:Nat→Prop)(w:World)(ix:List Nat)(A:Option Addr)(c:Nat)(env:Env):Prop:=
 env.length≤c∧c≤maxLen∧((A=none∧env=[]∧c=0)∨∃g,A=some ⟨g,0,none⟩∧g<w.heap.size∧¬TgN w g∧¬M g∧∀j u,(dZ ix env)[j]?=some u→w.cell? ⟨g,j,none⟩=some u)
theorem eO.nil (M:Nat→Prop)(w:World)(ix:List Nat):eO M w ix none 0 []:=⟨SA _,SC _,.inl ⟨rfl,rfl,rfl⟩⟩
theorem D5 {ix y:List Nat}:∀{env:Env},(∀x∈env,x.2<ix.length)→dZ (ix++y) env=dZ ix env
 | [],_=>rfl
 | x::l,h=>by
  simp only[dZ]
  rw[oJ (h x Ta),D5 fun z hz=>h z (Tc _ hz)]
theorem eO.keep {D M M' E:Nat→Prop}{w w':World}{ix y:List Nat}{A:Option Addr}{c:Nat}{env:Env}(h:eO M w ix A c env)(hk:Kx D E w w')(hE:∀k,k<w.heap.size→E k→M k)(hM:∀k,M' k→M k∨w.heap.size≤k)(hi:∀x∈env,x.2<ix.length):eO M' w' (ix++y) A c env:=by
 refine⟨h.1,h.2.1,h.2.2.imp id fun ⟨g,e,h1,h2,h3,h4⟩=>⟨g,e,SB h1 hk.size,hk.nt g h1 (fun he=>h3 (hE g h1 he)) h2,fun hm=>?_,fun j u hj=>?_⟩⟩
 ·rcases hM g hm with h5|h5
  ·exact h3 h5
  ·omega
 ·rw[D5 hi]at hj
  exact(hk.cell h1 (.inr h2) fun he=>h3 (hE g h1 he)).trans (h4 j u hj)
theorem eO.below {M:Nat→Prop}{w w':World}{ix:List Nat}{A:Option Addr}{c:Nat}{env:Env}(h:eO M w ix A c env)(hb:Below w.heap.size w w')(hi:∀x∈env,x.2<ix.length):eO M w' ix A c env:=by
 have:=h.keep (D:=fun _=>False) (E:=fun _=>False) (M':=M) (y:=[]) ((Kn.below hb).x _) (fun _ _ h=>h.elim) (fun _ h=>.inl h) hi
 rw[TV]at this
 exact this
theorem eO.tyk {D:Nat→Prop}{C:TyC}{v v':Value}{w w':World}{ix y:List Nat}{A:Option Addr}{c:Nat}{env:Env}(h:eO (TyE C v) w ix A c env)(hk:TyK D C w v w' v')(hi:∀x∈env,x.2<ix.length):eO (TyE C v') w' (ix++y) A c env:=
 h.keep hk.kx (fun _ _ h=>h) (fun k hk'=>by
  rcases hk' with h'|h'|h'
  ·exact .inl (.inl h')
  ·exact .inl (.inr (.inl h'))
  ·exact(hk.own k h').imp (fun h=>.inr (.inr h)) id) hi
theorem Tryz.yC:(Tryz.prog.info? 260).map (fun i=>(i.zero,i.size,i.bytes))=some (some (.agg #[.string ⟨#[]⟩,.pointer none]),2,24):=by kernel_rfl
theorem Tryz.qZ:Tryz.prog.underlying 209=some (.slice 260):=by kernel_rfl
def L6 (l:Env)(ix:List Nat)(w:World)(e:Ending)(w':World):Prop:=∃v,e=.returned v∧w'.ownsRow w.heap.size 260 2 v l.length (dZ ix l)∧Below w.heap.size w w'
theorem yT {M:Nat→Prop}(l:Env)(ix:List Nat){A:Option Addr}{c:Nat}(w:World)(hs:eO M w ix A c l)(hl:l.length≤1000000) :
  Calls Tryz.prog 252 #[.slice A l.length c] w (L6 l ix w):=by
 have q22:∀(w:World) (a:Option Addr) (n c n' c':Nat),(binOp .eql 209 (.slice a n c) (.slice none n' c')).run Tryz.prog w=.ok (.bool a.isNone) w:=fun w a n c n' c'=>Lib.run_eql_slice_nil w _ _ a n c n' c' Tryz.qZ
 rcases hs.2.2 with⟨rfl,rfl,rfl⟩|⟨g,rfl,h1,h2,h3,h4⟩
 ·clear hs
  go_enter Tryz.func252,Tryz.ntmps252
  go_wp2
  go_ret
  exact⟨_,rfl,TD _ _ _ _,TA _ _⟩
 ·obtain⟨i0,hi,hz0,hz1,hz2⟩:=info_parts Tryz.yC
  have hnews:∀a',some (⟨g,0,none⟩:Addr)=some a'→∀j u,(dZ ix l)[j]?=some u→(w.alloc (.cells #[] 260)).cell? (a'.add j)=some u:=by
   intro a' e j u hu
   cases e
   have h5:=(SQ w (.cells #[] 260) ⟨g,j,none⟩ h1).trans (h4 j u hu)
   unfold Addr.add
   by_cases h0:j=0
   ·rw[TY h0]
    subst h0
    exact h5
   ·rw[TW h0]
    simpa using h5
  have HN:=Sk hnews
  have hrow:=World.ownsRow_lit (base:=w.heap.size) (e:=260) (size:=2) w #[] 0 (SA _) (by simp) rfl
  have HW:=Sk hrow
  clear hs hnews hrow h2 h3 h4
  go_enter Tryz.func252,Tryz.ntmps252
  go_wp2_with (at_builtin;refine aC _ rfl _ _ 209 rfl w.heap.size 260 i0 _ 2 24 Tryz.qZ hi hz0 hz1 hz2 rfl (by decide) _ 0 [] rfl HW.out (some ⟨g,0,none⟩) l.length c (dZ ix l) rfl (qg ix l) (by simp) HN.out (uF ix l) (by unfold maxLen;omega) (by omega) (by simp) ?_;intro v' w1 hown' hgrow)
  go_ret
  refine⟨_,rfl,by simpa using hown',?_⟩
  exact((TA _ _).alloc (SA _) _).trans (Keeps.dX ((Keeps.refl (fun k=>k<w.heap.size) _).grown hgrow (by rintro k hk;cases hk;simp)) (by simp) (by simp))
def Pg (M:Nat→Prop)(env:Env)(ix:List Nat)(w:World)(e:Ending)(w':World):Prop:=∃A c,e=.returned (.slice A env.length c)∧eO M w' ix A c env∧Below w.heap.size w w'
theorem FJ {M:Nat→Prop}{w:World}{base:Nat}{v:Value}{ix:List Nat}{env:Env}(h:w.ownsRow base 260 2 v env.length (dZ ix env))(hM:∀k,M k→k<base):∃A c,v=.slice A env.length c∧eO M w ix A c env:=by
 have h':=h
 rcases h.2 with⟨rfl,h0⟩|⟨g,cap,cur,rfl,e2,e3,e4,e5,_⟩
 ·have:env=[]:=Tq.1 h0
  subst this
  exact⟨none,0,rfl,eO.nil _ _ _⟩
 ·refine⟨_,cap,rfl,e4,e5,.inr ⟨g,rfl,(Sz.1 e3).1,TgN.not e3 (by decide),fun hm=>by have:=hM g hm;omega,fun j u hj=>?_⟩⟩
  exact(h'.cellAt j (by have:=(Sy.1 hj).1;rw[qg]at this;exact this)).trans hj
theorem J8 {M:Nat→Prop}(env more:Env)(ix:List Nat){A:Option Addr}{c:Nat}(w:World)(hs:eO M w ix A c env)(hl:env.length≤1000000){g mc:Nat}(hm:more.length≤1000)(hg:g<w.heap.size)(hcs:∀j u,(dZ ix more)[j]?=some u→w.cell? ⟨g,j,none⟩=some u)(hM:∀k,M k→k<w.heap.size) :
  Calls Tryz.prog 215 #[.slice A env.length c,.slice (some ⟨g,0,none⟩) more.length mc] w (Pg M (env++more) ix w):=by
 have HC:=Sk (yT env ix w hs hl)
 have HM:=Sk (Sn hM (Sn hcs hg))
 obtain⟨i0,hi,hz0,hz1,hz2⟩:=info_parts Tryz.yC
 clear hs hM hcs
 go_enter Tryz.func215,Tryz.ntmps215
 go_wp2_with fail
 refine HC.out.mono ?_
 rintro e w1 ⟨v1,rfl,hown,hb1⟩
 have hsz:=hb1.size
 have hnews:∀a',some (⟨g,0,none⟩:Addr)=some a'→∀j u,(dZ ix more)[j]?=some u→w1.cell? (a'.add j)=some u:=by
  intro a' e j u hu
  cases e
  have h5:=(hb1.cell (p:=⟨g,j,none⟩) HM.out.2.2).trans (HM.out.2.1 j u hu)
  unfold Addr.add
  by_cases h0:j=0
  ·rw[TY h0]
   subst h0
   exact h5
  ·rw[TW h0]
   simpa using h5
 have HN:=Sk (Sn hnews (Sn hown hb1))
 clear hnews hown hb1
 go_wp2_with (at_builtin;refine aC _ rfl _ _ 209 rfl w.heap.size 260 i0 _ 2 24 Tryz.qZ hi hz0 hz1 hz2 rfl (by decide) v1 env.length (dZ ix env) rfl HN.out.2.1 (some ⟨g,0,none⟩) more.length mc (dZ ix more) rfl (qg ix more) (by simp) HN.out.1 (uF ix more) (by unfold maxLen;omega) (by omega) (by omega) ?_;intro v2 w2 hown2 hgrow)
 go_ret
 rw[←Bf,←SX]at hown2
 obtain⟨A2,c2,e2,hE⟩:=FJ (M:=M) hown2 HM.out.1
 refine⟨A2,c2,by rw[←e2];rfl,hE,HN.out.2.2.trans ?_⟩
 exact Keeps.dX ((Keeps.refl (fun k=>k<w.heap.size) _).grown hgrow (by rintro k hk hlt;have:=(HN.out.2.1.lt k hk).1;omega)) (by omega) (by simp)
end Go.Proofs.Q
namespace Go.Proofs.Q
open Go Go.RowKit
def La {α:Type}(P:Program)(gf:Nat)(lb:Array Value)(encs:α→Array Value)(Rd:World→Prop)(xs:List α):Prop:=
 ∀(l:Nat) (J Jx:List α→World→Prop) (W:World),(∀pre X,J pre X→Rd X) →
  (∀pre x X,pre++[x] <+: xs→J pre X→YieldAt Fence.wide 0 P l (encs x) X fun e Y =>
   (e=.returned (.bool true)∧J (pre++[x]) Y)∨(e=.returned (.bool false)∧Jx (pre++[x]) Y)) →
  J [] W →
  CallsIn Fence.wide 0 P gf (#[.func (.yield l) #[] #[]]++lb) W fun e W'=>(∃v,e=.returned v)∧(J xs W'∨∃pre,pre <+: xs∧Jx pre W')
def sF (B:Nat)(W W':World):Prop:=W'.heap[B]?=W.heap[B]?∧W'.heap[B+1]?=W.heap[B+1]?
def Qy {α:Type}(B:Nat)(I Ix:List α→World→Prop)(xs:List α)(W:World):Exit→Act→World→Prop
 | .normal,_,W'=>sF B W W'∧I xs W'
 | .ret,_,W'=>sF B W W'∧Ix xs W'
 | _,_,_=>False
theorem C8 {P:Program}{α:Type}{g:Operand}{ps:Array Tmp}{assign body:Go.Code}{Q:Exit→Act→World→Prop}{a:Act}{w:World}
  {gf:Nat} {lb:Array Value} (hg:a.eval g=.func (.func gf) #[] lb) (eg:∀args w,(callFunc gf args).run P w=.ok (.enter gf args) w)
  {encs:α→Array Value} {Rd:World→Prop} {xs:List α} (hit:La P gf lb encs Rd xs) (hps:∀x,(encs x).size=ps.size)
  (I Ix:List α→World→Prop)(hRd:∀pre W,I pre W→Rd W)
  (hIp:∀s X r r',I s X→X.heap[w.heap.size+1]?=some (.loop r)→I s (X.putObj (w.heap.size+1) (.loop r')))
  (hXp:∀s X r r',Ix s X→X.heap[w.heap.size+1]?=some (.loop r)→Ix s (X.putObj (w.heap.size+1) (.loop r')))
  (h0:∀r,I [] ((w.alloc (.deferred (some []))).alloc (.loop r)))(Ax:α→Act→World→Prop)(hAx:∀x a' X r r',Ax x a' X→X.heap[w.heap.size+1]?=some (.loop r)→Ax x a' (X.putObj (w.heap.size+1) (.loop r')))
  (hassign:∀(l:Nat)(pre:List α)(x:α)(W:World)(K:Act→World→Prop),pre++[x] <+: xs→I pre W→w.heap.size+2≤W.heap.size →
   (∀a' W',sF w.heap.size W W'→I pre W'→Ax x a' W'→K a' W') →
   assign.wpIn (Fence.wide.inRound l) 0 P (Exit.then K (fun _ _ _=>False)) { tmps:=(ps.zip (encs x)).foldl (fun t (p,v)=>t.setIfInBounds p v) a.tmps,defers:=[] } W)
  (hbody:∀(l:Nat)(pre:List α)(x:α)(a':Act)(W:World),pre++[x] <+: xs→I pre W→Ax x a' W→w.heap.size+2≤W.heap.size→body.wpIn (Fence.wide.inRound l) 0 P (Qy w.heap.size I Ix (pre++[x]) W) a' W)
  (hdone:∀(W:World),I xs W→W.heap[w.heap.size]?=some (.deferred (some []))→Q .normal { a with defers:={ target:=.collected w.heap.size,args:=#[] } :: a.defers } W)
  (hstop:∀(pre:List α)(W:World),pre <+: xs→Ix pre W→W.heap[w.heap.size]?=some (.deferred (some []))→Go.Code.ret.wpIn Fence.wide 0 P Q { a with defers:={ target:=.collected w.heap.size,args:=#[] } :: a.defers } W) :
  (Go.Code.rangeFunc g ps assign body).wpIn Fence.wide 0 P Q a w:=by
 refine wpIn_rangeFunc ?_
 intro fn hfn
 show ∃(l:Nat) (mark:List Deferred) (w₁:World) (d:Deferred) (w₁':World) (f:FuncId) (args:Array Value) (w₂:World),(Instr.enterLoop fn a.tmps ps assign body none).run P w=.ok (l,mark) w₁∧_
 obtain⟨rec,hrec⟩:∃rec:LoopState→Option Go.Code→Loop,rec=fun st pe=>{ state:=st,pending:=pe,fn,tmps:=a.tmps,params:=ps,assign,body,defers:=w.heap.size }:=⟨_,rfl⟩
 obtain⟨W1,hW1⟩:∃W1,(w.alloc (.deferred (some []))).alloc (.loop (rec .ready none))=W1:=⟨_,rfl⟩
 have hL1:W1.heap[w.heap.size+1]?=some (.loop (rec .ready none)):=by
  rw[←hW1];have:=World.alloc_heap_new (w.alloc (.deferred (some []))) (.loop (rec .ready none));rwa [World.size_alloc]at this
 have hD1:W1.heap[w.heap.size]?=some (.deferred (some [])):=by
  rw[←hW1];exact(Tt _ _ _ (by simp)).trans (World.alloc_heap_new w _)
 have hz1:W1.heap.size=w.heap.size+2:=by rw[←hW1];simp
 have hI1:I [] W1:=by rw[←hW1];exact h0 _
 refine⟨w.heap.size+1,[{ target:=.collected w.heap.size,args:=#[] }],W1,{ target:=.fn (.func gf) lb,args:=#[.func (.yield (w.heap.size+1)) #[] #[]] },W1,gf,
  #[.func (.yield (w.heap.size+1)) #[] #[]]++lb,W1,?_,?_,?_,?_,?_,?_⟩
 ·rw[←hW1,hrec];exact run_enterLoop_outer _ _ _ _ _
 ·simp only[resolve,hg]
  simp[go_sem]
 ·intro f' _;trivial
 ·simp[invoke,go_sem,eg]
 ·intro h;simp[Fence.wide]at h
 ·refine(hit (w.heap.size+1)
   (fun pre W=>I pre W∧W.heap[w.heap.size+1]?=some (.loop (rec .ready none))∧W.heap[w.heap.size]?=some (.deferred (some [])))
   (fun pre W=>Ix pre W∧W.heap[w.heap.size+1]?=some (.loop (rec .done (some .ret)))∧W.heap[w.heap.size]?=some (.deferred (some [])))
   W1 (fun pre X h=>hRd pre X h.1) ?_ ⟨hI1,hL1,hD1⟩).mono ?_
  ·rintro pre x W hpre ⟨hi,hl,hk⟩
   have hlt:w.heap.size+1<W.heap.size:=(Sz.1 hl).1
   have hy:=run_yield (P:=P) (args:=encs x) hl (by rw[hrec];exact hps x)
   rw[hrec]at hy
   refine⟨fn,_,assign,body,hy,roundIn_of_wpIn hfn (hassign _ pre x W _ hpre hi (by omega) ?_)⟩
   intro a' W' hkA hiA hax
   have hlA:W'.heap[w.heap.size+1]?=some (.loop (rec .ready none)):=hkA.2.trans hl
   have I8:W'.heap[w.heap.size]?=some (.deferred (some [])):=hkA.1.trans hk
   have I9:w.heap.size+1<W'.heap.size:=(Sz.1 hlA).1
   refine⟨_,run_beginRound hlA (by rw[hrec]),?_⟩
   obtain⟨W2,hW2⟩:∃W2,W'.putObj (w.heap.size+1) (.loop { rec .ready none with state:=.busy })=W2:=⟨_,rfl⟩
   rw[hW2]
   have hl2:W2.heap[w.heap.size+1]?=some (.loop { rec .ready none with state:=.busy }):=by rw[←hW2];exact World.putObj_heap_same I9
   have hk2:W2.heap[w.heap.size]?=some (.deferred (some [])):=by rw[←hW2];exact(World.putObj_heap_other (by omega)).trans I8
   have hi2:I pre W2:=by rw[←hW2];exact hIp _ _ _ _ hiA hlA
   have Ja:Ax x a' W2:=by rw[←hW2];exact hAx _ _ _ _ _ hax hlA
   have hs2:w.heap.size+2≤W2.heap.size:=by have:=(Sz.1 hl2).1;omega
   refine wpIn_mono (hbody _ pre x _ _ hpre hi2 Ja hs2) ?_
   have fin:∀(jump:Option Go.Code) (W3:World),sF w.heap.size W2 W3 →
     (Instr.endRound (w.heap.size+1) jump).run P W3=.ok (.bool jump.isNone) (W3.putObj (w.heap.size+1) (.loop (rec (if jump.isNone then .ready else .done) jump))) ∧
     (W3.putObj (w.heap.size+1) (.loop (rec (if jump.isNone then .ready else .done) jump))).heap[w.heap.size+1]?=some (.loop (rec (if jump.isNone then .ready else .done) jump)) ∧
     (W3.putObj (w.heap.size+1) (.loop (rec (if jump.isNone then .ready else .done) jump))).heap[w.heap.size]?=some (.deferred (some []))∧W3.heap[w.heap.size+1]?=some (.loop { rec .ready none with state:=.busy }):=fun jump W3 hk3=>by
    have hl3:W3.heap[w.heap.size+1]?=some (.loop { rec .ready none with state:=.busy }):=hk3.2.trans hl2
    have hd3:W3.heap[w.heap.size]?=some (.deferred (some [])):=hk3.1.trans hk2
    have:=run_endRound (P:=P) jump hl3
    refine⟨?_,World.putObj_heap_same (Sz.1 hl3).1,(World.putObj_heap_other (by omega)).trans hd3,hl3⟩
    rw[hrec]at this ⊢
    exact this
   rintro e a3 W3 hp
   cases e with
   | normal =>
    obtain⟨hk3,hi3⟩:=hp
    obtain⟨hr,hl4,hk4,hl3⟩:=fin none W3 hk3
    exact⟨_,_,hr,.inl ⟨rfl,hIp _ _ _ _ hi3 hl3,hl4,hk4⟩⟩
   | ret =>
    obtain⟨hk3,hi3⟩:=hp
    obtain⟨hr,hl4,hk4,hl3⟩:=fin (some .ret) W3 hk3
    exact⟨_,_,hr,.inr ⟨rfl,hXp _ _ _ _ hi3 hl3,hl4,hk4⟩⟩
   | exit id=>exact hp.elim
   | goto t=>exact hp.elim
   | panic ch=>exact hp.elim
   | outgrown=>exact hp.elim
  ·rintro e W2 ⟨⟨v,rfl⟩,(⟨hi,hl,hk⟩|⟨pre,hpre,hi,hl,hk⟩)⟩
   ·exact⟨none,_,by have:=run_endLoop (P:=P) hl (by rw[hrec];simp);rw[hrec]at this;exact this,hdone _ (hIp _ _ _ _ hi hl) ((World.putObj_heap_other (by omega)).trans hk)⟩
   ·exact⟨some .ret,_,by have:=run_endLoop (P:=P) hl (by rw[hrec];simp);rw[hrec]at this;exact this,hstop pre _ hpre (hXp _ _ _ _ hi hl) ((World.putObj_heap_other (by omega)).trans hk)⟩
open Go.Proofs Go.Shelf Go.Proofs.Unify
attribute [local go_sem] Oper.semAt_some oD jR
abbrev loC (ix:List Nat)(x:ByteArray×Nat):Array Value:=#[.string x.1,.pointer (some ⟨blk ix x.2,0,none⟩)]
def SlL (ix:List Nat)(w:World)(B:Nat)(A:Option Addr)(l:Env):Prop:=
 l≠[]→∃b,A=some ⟨b,0,none⟩∧b<B∧∀j e,l[j]?=some e→∀t u,(loC ix e)[t]?=some u→w.cell? ⟨b,j*2+t,none⟩=some u
theorem SlL.keep {ix:List Nat}{w w':World}{B:Nat}{A:Option Addr}{l:Env}(h:SlL ix w B A l)(hk:∀p:Addr,p.block<B→w'.cell? p=w.cell? p):SlL ix w' B A l:=fun hne=>by
 obtain⟨b,e,hb,hs⟩:=h hne
 exact⟨b,e,hb,fun j x hj t u hu=>(hk _ hb).trans (hs j x hj t u hu)⟩
theorem eO.sl {M:Nat→Prop}{w:World}{ix:List Nat}{A:Option Addr}{c:Nat}{env:Env}(h:eO M w ix A c env):SlL ix w w.heap.size A env:=fun hne=>by
 rcases h.2.2 with⟨_,e,_⟩|⟨g,e,h1,_,_,h4⟩
 ·exact absurd e hne
 ·refine⟨g,e,h1,fun j x hj t u hu=>?_⟩
  obtain⟨k0,k1⟩:=DZ ix env j x hj
  match t,hu with
  | 0,hu=>simp only[List.getElem?_toArray,List.getElem?_cons_zero,TK]at hu;subst hu;exact h4 _ _ k0
  | 1,hu=>simp only[List.getElem?_toArray,List.getElem?_cons_succ,List.getElem?_cons_zero,TK]at hu;subst hu;exact h4 _ _ k1
  | t+2,hu=>simp at hu
def gH (l:Env):Nat→List (Nat×(ByteArray×Nat))
 | 0=>[]
 | k+1=>(k,l.getD k default)::gH l k
theorem q8 (n:ByteArray)(x:ByteArray×Nat):∀l:Env,jI n (l++[x])=if x.1=n then some x.2 else jI n l
 | []=>by simp[jI]
 | y::l=>by
  simp only[TU,jI]
  rw[q8 n x l]
  by_cases e:x.1=n
  ·simp[e]
  ·simp[e]
theorem vN {l:Env}{k:Nat}(hk:k<l.length):l.take (k+1)=l.take k++[l.getD k default]:=by
 rw[TT hk,TM,Sw hk]
 rfl
theorem yD (l:Env)(n:ByteArray):∀(k:Nat)(pre:List (Nat×(ByteArray×Nat)))(x:Nat×(ByteArray×Nat)),k≤l.length→pre++[x] <+: gH l k→(∀y∈pre,y.2.1≠n)→x.2.1=n→jI n (l.take k)=some x.2.2
 | 0,pre,x,_,h,_,_=>by simp[gH]at h
 | k+1,pre,x,hk,h,hp,hx=>by
  rw[vN (by omega),q8]
  cases pre with
  | nil =>
   simp only[gH,List.nil_append,List.cons_prefix_cons,List.nil_prefix,and_true]at h
   subst h
   exact TY hx
  | cons y pre =>
   simp only[gH,TU,List.cons_prefix_cons]at h
   obtain⟨rfl,h⟩:=h
   have hy:=hp _ Ta
   rw[TW hy]
   exact yD l n k pre x (by omega) h (fun z hz=>hp z (Tc _ hz)) hx
theorem vO (l:Env)(n:ByteArray):∀(k:Nat),k≤l.length→(∀y∈gH l k,y.2.1≠n)→jI n (l.take k)=none
 | 0,_,_=>rfl
 | k+1,hk,h=>by
  rw[vN (by omega),q8,TW (h (k,l.getD k default) (by simp[gH]))]
  exact vO l n k (by omega) fun y hy=>h y (by simp[gH,hy])
theorem FK (l:Env)(A:Option Addr)(c:Nat)(w:World):Calls Tryz.prog 250 #[.slice A l.length c] w fun e w' =>
  e=.returned (.func (.func 276) #[] #[.pointer (some ⟨w.heap.size,0,none⟩)])∧w.alloc (.cells #[.slice A l.length c] 209)=w':=by
 have hmf:∀(fn:Fn) (first cap:Array Value) (w:World),(Instr.makeFunc fn first cap).run Tryz.prog w=.ok (.func fn first cap) w:=fun _ _ _ _=>rfl
 go_enter Tryz.func250,Tryz.ntmps250
 go_wp2
 go_ret
 exact⟨rfl,rfl⟩
theorem C9 (ix:List Nat)(l:Env)(A:Option Addr)(c sb n₀:Nat)(hl:l.length≤1000000)(hc:l.length≤c∧c≤maxLen) :
  La Tryz.prog 276 #[.pointer (some ⟨sb,0,none⟩)] (fun x:Nat×(ByteArray×Nat)=>#[.int .i64 x.1,.agg (loC ix x.2)]) (fun X=>X.cell? ⟨sb,0,none⟩=some (.slice A l.length c)∧SlL ix X n₀ A l) (gH l l.length):=by
 intro lp J Jx W hRd hY h0
 obtain⟨k1,ks⟩:=hRd _ _ h0
 have hcap:=hc.1
 have HW:=Sk (Sn hY hRd)
 clear hY hRd ks
 obtain⟨N,HN⟩:∃N,Hid (l.length=N):=⟨_,rfl⟩
 rw[HN.out]at k1 HW hl hcap ⊢
 refine callsIn_of_wp Tryz.func276 rfl trivial ?_ rfl
 simp only[Tryz.ntmps276,List.size_toArray,TS,List.length_nil,Nat.reduceAdd,Nat.reduceSub,Array.replicate_succ,Array.replicate_zero,List.push_toArray,List.append_toArray,List.nil_append,TU]
 gi_wp2
 gi_loopw [3] (fun iv wr=>∃(k:Nat) (z:Int) (pre:List (Nat×(ByteArray×Nat))),k≤N∧z+1=k∧iv=.int .i64 z∧pre++gH l k=gH l N∧J pre wr)
  (fun iv _=>(intOf iv+1).toNat)
 case atStart=>exact⟨N,_,[],SA _,by omega,rfl,rfl,h0⟩
 case round =>
  obtain⟨k,z,pre,hk,hz,rfl,hpc,hJ⟩:=hrel
  obtain⟨c1,cs⟩:=HW.out.2 _ _ hJ
  have HP:=Sk (Sn hpc cs)
  clear hpc cs
  cases k with
  | zero =>
   have hz':decide (0≤z)=false:=by simp;omega
   clear hz
   gi_wp2
   go_end0
   refine⟨⟨_,rfl⟩,.inl ?_⟩
   have:=HP.out.1
   simp only[gH,TV]at this
   rw[←this]
   exact hJ
  | succ k =>
   obtain rfl:z=(k:Int):=by omega
   clear hz
   have hkl:k<l.length:=by rw[HN.out];omega
   obtain⟨b,rfl,hb,hcell⟩:=HP.out.2 (by intro e;rw[e]at hkl;simp at hkl)
   have hgd:l.getD k default=l[k]:=by simp[Sw hkl]
   obtain⟨fn,tmps,assign,body,hy,hR⟩:=HW.out.1 pre (k,l[k]) wr (by rw[←HP.out.1];exact⟨gH l k,by rw[gH,hgd];simp⟩) hJ
   have HF:=Sk (show (pre++[(k,l[k])])++gH l k=gH l N by rw[←HP.out.1,gH,hgd];simp)
   have hcx:=hcell k _ (Sw hkl)
   generalize l[k]=x at hcx hy hR HF
   have e0:=hcx 0 _ rfl
   have e1:=hcx 1 _ rfl
   simp only[Nat.add_zero]at e0
   clear hgd hkl hcx hcell
   gi_wp2
   refine hR.mono ?_
   rintro e Y (⟨rfl,hJ'⟩|⟨rfl,hJ'⟩)
   ·clear c1 hR hy hJ e0 e1
    gi_wp2
    first
     | exact⟨⟨_,_,_,_,_,_,_,_,_,_,_,_,_,⟨k,_,_,by omega,by omega,rfl,HF.out,hJ'⟩,rfl⟩,by simp[intOf]⟩
     | exact⟨⟨k,_,_,by omega,by omega,rfl,HF.out,hJ'⟩,by simp[intOf]⟩
   ·gi_wp2
    refine Ua (results_none rfl _ _ _) rfl ?_
    exact⟨⟨_,rfl⟩,.inr ⟨_,⟨_,HF.out⟩,hJ'⟩⟩
theorem wY {a b:ByteArray}(h:(a.toList==b.toList)=true):a=b:=by
 have h:=eq_of_beq h
 rw[ByteArray.toList_eq,ByteArray.toList_eq]at h
 exact ByteArray.ext (Array.ext' h)
def Qz (D M:Nat→Prop)(w:World)(ix:List Nat)(S:St)(env:Env)(n:ByteArray)(e:Ending)(w':World):Prop:=
 (∃j,jI n env=some j∧e=.returned (nP (blk ix j))∧Below w.heap.size w w')∨(jI n env=none∧AJ D M w ix S 5 [] e w')
theorem Bg {ar:Int→Nat}{D M:Nat→Prop}{ix:List Nat}{S:St}(hw:Wf ar S){w:World}(h:StH D M w ix S fun _=>0)(hD:∀k,D k→k<w.heap.size)(n:ByteArray){env:Env}{A:Option Addr}{c:Nat}(hE:eO M w ix A c env)(hl:env.length≤1000000) :
  Calls Tryz.prog 213 #[.string n,.slice A env.length c] w (Qz D M w ix S env n):=by
 obtain⟨b2,Hb2⟩:∃b,w.heap.size=b:=⟨_,rfl⟩
 obtain⟨Wa,hWa⟩:∃Q9,(w.alloc (.cells #[.string n] 9)).alloc (.cells #[.pointer none] 144)=Q9:=⟨_,rfl⟩
 have hoa:Below w.heap.size w Wa:=by rw[←hWa];exact((TA _ _).alloc (SA _) _).alloc (by simp) _
 have hza:Wa.heap.size=b2+2:=by rw[←hWa,←Hb2];simp
 have wZ:Wa.heap[b2]?=some (.cells #[.string n] 9 (0,0)):=by rw[←hWa,←Hb2];exact(Tt _ _ _ (by simp)).trans (Sv _ _)
 have NV:Wa.heap[b2+1]?=some (.cells #[.pointer none] 144 (0,0)):=by
  rw[←hWa,←Hb2]
  have:=Sv (w.alloc (.cells #[.string n] 9)) (.cells #[.pointer none] 144)
  rw[show (w.alloc (.cells #[.string n] 9)).heap.size=w.heap.size+1 by simp]at this
  exact this
 refine(callsIn_wide (n:=0)).1 ?_
 refine callsIn_of_wp_marks Tryz.func213 rfl trivial ?_ rfl
 simp only[Tryz.ntmps213,List.size_toArray,TS,List.length_nil,Nat.reduceAdd,Nat.reduceSub,Array.replicate_succ,Array.replicate_zero,List.push_toArray,List.append_toArray,List.nil_append,TU]
 have HS:=Sk (hE.sl)
 have HC:=Sk (Sn hE.1 hE.2.1)
 have H0:=Sk (Sn hw (Sn h (Sn hD hoa)))
 clear hw h hD hE
 gi_wp2_with (gi_at_call 250;refine(callsIn_wide.2 (FK env A c _)).mono ?_;rintro e w2 ⟨rfl,hw2⟩)
 have NW:w2.heap.size=b2+3:=by rw[←hw2];simp[hza]
 have hb2:Below Wa.heap.size Wa w2:=by rw[←hw2];exact(TA _ _).alloc (SA _) _
 have hr2:w2.heap[b2+2]?=some (.cells #[.slice A env.length c] 209 (0,0)):=by rw[←hw2,←hza];exact Sv _ _
 have k2:=(hb2.block b2 (by omega)).trans wZ
 have k4:=(hb2.block (b2+1) (by omega)).trans NV
 have NY:Below w.heap.size w w2:=H0.out.2.2.2.trans (hb2.mono (by omega))
 have hsl2:SlL ix w2 b2 A env:=by
  have h1:=HS.out.keep (w':=w2) fun p hp=>NY.cell hp
  rw[Hb2]at h1
  exact h1
 have HK:=Sk (Sn k2 (Sn k4 (Sn NY (Sn hr2 hsl2))))
 have hput:∀{o:Obj} {W:World},Below w2.heap.size w2 W→Below w2.heap.size w2 (W.putObj (w2.heap.size+1) o):=fun ho =>
  ⟨ho.os,ho.tape,ho.output,by have:=ho.size;simpa using this,fun k hk=>(World.putObj_heap_other (by omega)).trans (ho.block k hk)⟩
 clear hw2 hb2 k2 k4 wZ NV hoa hWa
 refine C8 (P:=Tryz.prog) (gf:=276) rfl (fun args w=>Tryz.call276 args w) (C9 ix env A c (b2+2) b2 hl HC.out) (fun _=>rfl)
  (fun pre W=>Below w2.heap.size w2 W∧∀y∈pre,y.2.1≠n)
  (fun pre W=>∃j,jI n env=some j∧Below b2 w2 W∧W.heap[b2+1]?=some (.cells #[.pointer (some ⟨blk ix j,0,none⟩)] 144 (0,0)))
  ?rd ?ip ?xp ?h0 (fun x a' W=>∃bx,a'={ tmps:=#[.string n,.slice A env.length c,.pointer (some ⟨b2,0,none⟩),undef,.pointer (some ⟨b2+1,0,none⟩),undef,.pointer (some ⟨bx,0,none⟩),.slice A env.length c,.func (.func 276) #[] #[.pointer (some ⟨b2+2,0,none⟩)],.int .i64 x.1,.agg (loC ix x.2),undef,undef,undef,undef,undef,undef,undef],defers:=[] }∧W.heap[bx]?=some (.cells (loC ix x.2) 260 (0,0))∧w2.heap.size+2≤bx) ?ax ?assign ?body ?done ?stop
 case rd =>
  rintro pre W ⟨ho,_⟩
  exact⟨(ho.cell (p:=⟨b2+2,0,none⟩) (by show b2+2<_;omega)).trans (Sq w2 _ 0 _ _ (0,0) hr2),hsl2.keep fun p hp=>ho.cell (by omega)⟩
 case ip =>
  rintro pre X r r' ⟨ho,h1⟩ _
  exact⟨hput ho,h1⟩
 case xp =>
  rintro pre X r r' ⟨j,h1,h2,h3⟩ _
  exact⟨j,h1,⟨h2.os,h2.tape,h2.output,by have:=h2.size;simpa using this,fun k hk=>(World.putObj_heap_other (by omega)).trans (h2.block k hk)⟩,(World.putObj_heap_other (by omega)).trans h3⟩
 case h0=>exact fun r=>⟨((TA _ _).alloc (SA _) _).alloc (by simp) _,fun y hy=>by simp at hy⟩
 case ax =>
  rintro x a' X r r' ⟨bx,h1,h2,h3⟩ _
  exact⟨bx,h1,(World.putObj_heap_other (by omega)).trans h2,h3⟩
 case assign =>
  rintro l' pre x W K hpre ⟨ho,hi⟩ hsz hK
  gi_wp2
  exact hK _ _ ⟨Tt _ _ _ (by omega),Tt _ _ _ (by omega)⟩ ⟨ho.alloc (by omega) _,hi⟩ ⟨W.heap.size,rfl,Sv _ _,hsz⟩
 case body =>
  rintro l' pre x a' W hpre ⟨ho,hi⟩ ⟨bx,rfl,hbx,hbl⟩ hsz
  have y0:W.cell? ⟨b2,0,none⟩=some (.string n):=(ho.cell (p:=⟨b2,0,none⟩) (by show b2<_;omega)).trans (Sq w2 _ 0 _ _ (0,0) HK.out.1)
  have h4:W.heap[b2+1]?=some (.cells #[.pointer none] 144 (0,0)):=(ho.block (b2+1) (by omega)).trans HK.out.2.1
  have y4:=Sq W (b2+1) 0 _ _ (0,0) h4
  have f4:=Sr W (b2+1) 0 _ _ h4
  have x0:=Sq W bx 0 _ _ (0,0) hbx
  have x1:=Sq W bx 1 _ _ (0,0) hbx
  simp at x0 x1 y4
  have HO:=Sk (Sn ho (Sn hi (Sn hpre h4)))
  clear ho hi hpre hbx hr2 hsl2 hput h4
  cases hc:(x.2.1.toList==n.toList)
  ·gi_wp2
   refine⟨⟨rfl,rfl⟩,HO.out.1,fun y hy=>?_⟩
   rcases Td.1 hy with hy|hy
   ·exact HO.out.2.1 y hy
   ·rw[Te.1 hy]
    intro e
    rw[e]at hc
    simp at hc
  ·have hx:x.2.1=n:=wY hc
   have hv:=yD env n env.length pre x (SA _) HO.out.2.2.1 HO.out.2.1 hx
   rw[List.take_length]at hv
   have HV:=Sk hv
   clear hx hv
   gi_wp2
   refine⟨⟨Tx _ _ _ _ (by show w2.heap.size≠b2+1;omega),Tx _ _ _ _ (by show w2.heap.size+1≠b2+1;omega)⟩,x.2.2,HV.out,?_,heap_set HO.out.2.2.2 _⟩
   exact((HO.out.1.mono (by omega)).setCell (by show b2≤b2+1;omega) _)
 case done =>
  rintro W ⟨ho,hi⟩ hD
  have hv:=vO env n env.length (SA _) hi
  rw[List.take_length]at hv
  have hwW:Below w.heap.size w W:=HK.out.2.2.1.trans (ho.mono (by omega))
  have h4:W.heap[b2+1]?=some (.cells #[.pointer none] 144 (0,0)):=(ho.block (b2+1) (by omega)).trans HK.out.2.1
  have hst:StH D (fun k=>M k∨k=b2+1∨k=w2.heap.size) W ix S fun _=>0:=by
   refine H0.out.2.1.shift hwW.size (fun k hk _=>hwW.block k hk) (fun k hk=>?_) (fun k hk=>?_)
   ·rcases hk with hk|hk|hk
    ·exact .inl hk
    ·exact .inr (by omega)
    ·exact .inr (by omega)
   ·rcases hk with hk|hk|hk
    ·have h5:=H0.out.2.1.not k hk
     exact⟨SB h5.1 hwW.size,fun ht=>h5.2 ((TgN.congr (hwW.block k h5.1)).1 ht)⟩
    ·subst hk
     exact⟨lt_of_block h4,TgN.not h4 (by decide)⟩
    ·subst hk
     exact⟨lt_of_block hD,fun ⟨cur,fz,h6⟩=>by rw[hD]at h6;cases h6⟩
  have HU:=Sk (kL H0.out.1 hst (fun k hk=>SB (H0.out.2.2.1 k hk) hwW.size))
  have HO:=Sk (Sn hwW (Sn hv (Sn hD (Sn h4 ho.size))))
  clear ho hi hD hr2 hsl2 hput h4 hv hwW hst
  gi_wp2_with (gi_at_call 95;refine(callsIn_wide.2 HU.out).mono ?_;rintro e w3 ⟨b,rfl,Bh,hb3⟩;have h4:=(hb3.block (b2+1) (lt_of_block HO.out.2.2.2.1)).trans HO.out.2.2.2.1;have y4:=Sq w3 (b2+1) 0 _ _ (0,0) h4;have f4:=Sr w3 (b2+1) 0 _ _ h4;have H3:=Sk (Sn Bh (Sn hb3 h4));clear Bh hb3 h4;unfold nP)
  have hD3:=(H3.out.2.1.block w2.heap.size (lt_of_block HO.out.2.2.1)).trans HO.out.2.2.1
  have hD4:(w3.setCell ⟨b2+1,0,none⟩ (.pointer (some ⟨b,0,none⟩))).heap[w2.heap.size]?=some (.deferred (some [])):=(Tx _ _ _ _ (by show w2.heap.size≠b2+1;omega)).trans hD3
  have h5:((w3.setCell ⟨b2+1,0,none⟩ (.pointer (some ⟨b,0,none⟩))).putObj w2.heap.size (.deferred none)).heap[b2+1]?=some (.cells #[.pointer (some ⟨b,0,none⟩)] 144 (0,0)):=(World.putObj_heap_other (by omega)).trans (heap_set H3.out.2.2 _)
  have hsame:∀k,k≠b2+1→k≠w2.heap.size→((w3.setCell ⟨b2+1,0,none⟩ (.pointer (some ⟨b,0,none⟩))).putObj w2.heap.size (.deferred none)).heap[k]?=w3.heap[k]?:=fun k h1 h2=>(World.putObj_heap_other h2).trans (Tx _ _ _ _ h1)
  have hsz:((w3.setCell ⟨b2+1,0,none⟩ (.pointer (some ⟨b,0,none⟩))).putObj w2.heap.size (.deferred none)).heap.size=w3.heap.size:=by simp[World.setCell]
  have z4:=Sq _ (b2+1) 0 _ _ (0,0) h5
  simp at z4
  rw[NW]at hD4 z4
  refine mE (v:=.pointer (some ⟨b,0,none⟩)) hD4 (by simp[results,Tryz.results213,go_sem,z4]) ?_
  rw[←NW]
  refine .inr ⟨HO.out.2.1,b,rfl,?_,?_⟩
  ·refine H3.out.1.shift (by omega) (fun k _ hm=>hsame k (fun e=>hm (.inr (.inl e))) (fun e=>hm (.inr (.inr e)))) (fun k hk=>.inl (.inl hk)) (fun k hk=>?_)
   have h6:=H3.out.1.not k (.inl hk)
   have h7:=(H0.out.2.1.not k hk).1
   exact⟨by omega,fun ht=>h6.2 ((TgN.congr (hsame k (by omega) (by omega))).1 ht)⟩
  ·have hx:=HO.out.1.trans (H3.out.2.1.mono HO.out.1.size)
   exact⟨hx.os,hx.tape,hx.output,by rw[hsz];exact hx.size,fun k hk=>(hsame k (by omega) (by omega)).trans (hx.block k hk)⟩
 case stop =>
  rintro pre W hpre ⟨j,h1,h2,h3⟩ hD
  gi_wp2
  have h5:(W.putObj w2.heap.size (.deferred none)).heap[b2+1]?=some (.cells #[.pointer (some ⟨blk ix j,0,none⟩)] 144 (0,0)):=(World.putObj_heap_other (by omega)).trans h3
  have z4:=Sq _ (b2+1) 0 _ _ (0,0) h5
  simp at z4
  refine mE (v:=.pointer (some ⟨blk ix j,0,none⟩)) hD (by simp[results,Tryz.results213,go_sem,z4]) ?_
  refine .inl ⟨j,h1,rfl,?_⟩
  have hx:=HK.out.2.2.1.trans (h2.mono (by omega))
  exact⟨hx.os,hx.tape,hx.output,by have:=hx.size;simpa using this,fun k hk=>(World.putObj_heap_other (by omega)).trans (hx.block k hk)⟩
end Go.Proofs.Q
