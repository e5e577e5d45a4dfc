/- infer, plainly: types that are being found (a store of nodes), and what unify does to their solutions -/
import Derived.Test.YtmmecapgnmlaiaaGreatDoorZz
set_option maxRecDepth 100000
set_option maxHeartbeats 16000000
namespace Go.Proofs.Unify
structure Nd where
 up:Option Nat
 kind:Int
 sub:List Nat
 size:Int
abbrev St:=List Nd
inductive Ft where
 | con:Int→List Ft→Ft
def jd (vk:Int)(S:St)(θ:Nat→Ft):Prop:=∀(i:Nat)(x:Nd),S[i]?=some x→(∀j,x.up=some j→θ i=θ j)∧(x.up=none→x.kind≠vk→θ i=.con x.kind (x.sub.map θ))
inductive Root (S:St):Nat→Nat→Nat→Prop where
 | here {i:Nat} {x:Nd}:S[i]?=some x→x.up=none→Root S i i 0
 | step {i j t n:Nat} {x:Nd}:S[i]?=some x→x.up=some j→Root S j t n→Root S i t (n+1)
theorem Root.unique {S:St}:∀{i t n t' n':Nat},Root S i t n→Root S i t' n'→t=t'∧n=n'
 | _,_,_,_,_,.here _ _,.here _ _=>⟨rfl,rfl⟩
 | _,_,_,_,_,.here h1 h2,.step k1 k2 _=>by rw[h1]at k1;cases k1;rw[h2]at k2;cases k2
 | _,_,_,_,_,.step k1 k2 _,.here h1 h2=>by rw[h1]at k1;cases k1;rw[h2]at k2;cases k2
 | _,_,_,_,_,.step h1 h2 h3,.step k1 k2 k3=>by
  rw[h1]at k1
  cases k1
  rw[h2]at k2
  cases k2
  obtain⟨e1,e2⟩:=h3.unique k3
  exact⟨e1,by rw[e2]⟩
variable {vk:Int}
theorem Root.resp {S:St}{θ:Nat→Ft}(h:jd vk S θ):∀{i t n:Nat},Root S i t n→θ i=θ t
 | _,_,_,.here _ _=>rfl
 | i,_,_,.step h1 h2 h3=>((h i _ h1).1 _ h2).trans (h3.resp h)
theorem Root.top {S:St}:∀{i t n:Nat},Root S i t n→∃x,S[t]?=some x∧x.up=none
 | _,_,_,.here h1 h2=>⟨_,h1,h2⟩
 | _,_,_,.step _ _ h3=>h3.top
def aS (S:St)(i k:Nat):St:=match S[i]? with
 | some x=>S.set i { x with up:=some k }
 | none=>S
theorem bO (S:St)(i k:Nat):(aS S i k).length=S.length:=by
 unfold aS
 cases S[i]? <;> simp
theorem eY {S:St}{i:Nat}{x:Nd}(h:S[i]?=some x)(k:Nat):(aS S i k)[i]?=some { x with up:=some k }:=by
 have hl:=(Sy.1 h).1
 unfold aS
 rw[h]
 simp[hl]
theorem dw {S:St}{i j:Nat}(h:i≠j)(k:Nat):(aS S i k)[j]?=S[j]?:=by
 unfold aS
 cases S[i]? with
 | none=>rfl
 | some x=>simp[h]
theorem xP {S:St}{i j k:Nat}{x y:Nd}(hi:S[i]?=some x)(hx:x.up=some j)(hj:S[j]?=some y)(hy:y.up=some k) :
  ∀{a t n:Nat},Root S a t n→∃n',n'≤n∧Root (aS S i k) a t n'
 | a,_,_,.here (x:=z) h1 h2=>by
  have hne:i≠a:=by
   intro e
   subst e
   rw[hi]at h1
   cases h1
   rw[hx]at h2
   cases h2
  exact⟨0,SA _,.here ((dw hne k).trans h1) h2⟩
 | a,t,_,.step (j:=b) (n:=n) (x:=z) h1 h2 h3=>by
  obtain⟨m,hm,hr⟩:=xP hi hx hj hy h3
  by_cases e:i=a
  ·subst e
   rw[hi]at h1
   cases h1
   rw[hx]at h2
   cases h2
   by_cases e2:i=j
   ·subst e2
    rw[hi]at hj
    cases hj
    rw[hx]at hy
    cases hy
    obtain⟨_,h⟩:=h3.unique (.step hi hx h3)
    omega
   ·cases hr with
    | here k1 k2 =>
     rw[dw e2 k,hj]at k1
     cases k1
     rw[hy]at k2
     cases k2
    | step k1 k2 k3 =>
     rw[dw e2 k,hj]at k1
     cases k1
     rw[hy]at k2
     cases k2
     exact⟨_,by omega,.step (eY hi k) rfl k3⟩
  ·exact⟨m+1,by omega,.step ((dw e k).trans h1) h2 hr⟩
theorem Hy {S:St}{i j k:Nat}{x y:Nd}(hi:S[i]?=some x)(hx:x.up=some j)(hj:S[j]?=some y)(hy:y.up=some k)(hij:i≠j)(θ:Nat→Ft):jd vk (aS S i k) θ↔jd vk S θ:=by
 constructor
 ·intro h a z ha
  by_cases e:i=a
  ·subst e
   rw[hi]at ha
   cases ha
   refine⟨fun j' hj'=>?_,fun h2=>by rw[hx]at h2;cases h2⟩
   rw[hx]at hj'
   cases hj'
   have h1:=(h i _ (eY hi k)).1 k rfl
   have h2:=(h j y ((dw hij k).trans hj)).1 k hy
   exact h1.trans h2.symm
  ·exact h a z ((dw e k).trans ha)
 ·intro h a z ha
  by_cases e:i=a
  ·subst e
   rw[eY hi k]at ha
   cases ha
   refine⟨fun j' hj'=>?_,fun h2=>by cases h2⟩
   cases hj'
   exact((h i x hi).1 j hx).trans ((h j y hj).1 k hy)
  ·rw[dw e k]at ha
   exact h a z ha
structure Kp (vk:Int)(S S':St):Prop where
 len:S'.length=S.length
 node:∀(i:Nat) (x:Nd),S[i]?=some x→∃x',S'[i]?=some x'∧x'.kind=x.kind∧x'.sub=x.sub∧x'.size=x.size∧(x'.up=none↔x.up=none)
 root:∀{i t n:Nat},Root S i t n→∃n',n'≤n∧Root S' i t n'
 resp:∀θ,jd vk S' θ↔jd vk S θ
theorem Kp.refl (S:St):Kp vk S S:=⟨rfl,fun _ x h=>⟨x,h,rfl,rfl,rfl,Iff.rfl⟩,fun h=>⟨_,SA _,h⟩,fun _=>Iff.rfl⟩
theorem DT {S:St}{i j t n:Nat}{x:Nd}(hi:S[i]?=some x)(hx:x.up=some j)(hr:Root S j t n):i≠j:=by
 intro e
 subst e
 obtain⟨_,h⟩:=hr.unique (.step hi hx hr)
 omega
theorem DU {S:St}{i j k t n:Nat}{x y:Nd}(hi:S[i]?=some x)(hx:x.up=some j)(hj:S[j]?=some y)(hy:y.up=some k)(hr:Root S j t n):Kp vk S (aS S i k):=by
 refine⟨bO _ _ _,fun a z ha=>?_,xP hi hx hj hy,Hy hi hx hj hy (DT hi hx hr)⟩
 by_cases e:i=a
 ·subst e
  rw[hi]at ha
  cases ha
  exact⟨_,eY hi k,rfl,rfl,rfl,by simp[hx]⟩
 ·exact⟨z,(dw e k).trans ha,rfl,rfl,rfl,Iff.rfl⟩
def isR (S:St)(i:Nat):Bool:=match S[i]? with
 | some x=>x.up.isNone
 | none=>false
def nr (S:St):Nat:=(List.range S.length).countP (isR S)
theorem mQ {S:St}{i:Nat}{x:Nd}(h:S[i]?=some x):isR S i=x.up.isNone:=by
 unfold isR
 rw[h]
theorem Kp.isR {S S':St}(h:Kp vk S S')(i:Nat):isR S' i=isR S i:=by
 cases hi:S[i]? with
 | none =>
  have:S'[i]?=none:=by
   rw[List.getElem?_eq_none_iff]at hi ⊢
   rw[h.len]
   exact hi
  unfold Unify.isR
  rw[hi,this]
 | some x =>
  obtain⟨y,y1,_,_,_,y5⟩:=h.node i x hi
  rw[mQ hi,mQ y1]
  cases hx:x.up with
  | none=>rw[y5.2 hx]
  | some j =>
   cases hy:y.up with
   | none=>rw[y5.1 hy]at hx;cases hx
   | some k=>rfl
theorem Kp.nr {S S':St}(h:Kp vk S S'):nr S'=nr S:=by
 unfold Unify.nr
 rw[h.len]
 exact List.countP_congr fun i _=>by rw[h.isR i]
theorem nZ {p:Nat→Bool}{a:Nat}(ha:p a=true):∀{l:List Nat},l.Nodup→a∈l→(l.countP fun i=>p i&&i != a)+1=l.countP p
 | [],_,h=>by cases h
 | b::l,hn,hm=>by
  rw[List.nodup_cons]at hn
  by_cases e:b=a
  ·subst e
   have h0:(l.countP fun i=>p i&&i != b)=l.countP p:=List.countP_congr fun i hi=>by
    have:i≠b:=fun e=>hn.1 (e▸hi)
    simp[this]
   rw[List.countP_cons,List.countP_cons,h0,ha]
   simp
  ·have hm':a∈l:=by
    rcases TI.1 hm with h|h
    ·exact absurd h.symm e
    ·exact h
   have:=nZ ha hn.2 hm'
   rw[List.countP_cons,List.countP_cons,←this]
   have hb:(b != a)=true:=by simpa using e
   rw[hb,Bool.and_true]
   omega
theorem lY {S:St}{a b:Nat}{x:Nd}(ha:S[a]?=some x)(hx:x.up=none):nr (aS S a b)+1=nr S:=by
 unfold nr
 rw[bO,←nZ (p:=isR S) (a:=a) (by rw[mQ ha,hx];rfl) List.nodup_range (List.mem_range.2 (Sy.1 ha).1)]
 congr 1
 refine List.countP_congr fun i _=>?_
 by_cases e:a=i
 ·subst e
  rw[mQ (eY ha b)]
  simp
 ·have:isR (aS S a b) i=isR S i:=by
   unfold isR
   rw[dw e b]
  rw[this]
  have:i≠a:=fun h=>e h.symm
  simp[this]
structure Wf (ar:Int→Nat)(S:St):Prop where
 root:∀(i:Nat),i<S.length→∃t n,Root S i t n∧n+nr S≤S.length
 sub:∀(i:Nat) (x:Nd),S[i]?=some x→x.sub.length=ar x.kind∧∀j∈x.sub,j<S.length
theorem kT {S:St}{a b n:Nat}{x:Nd}(ha:S[a]?=some x)(hx:x.up=none)(hb:Root S b b n)(hab:a≠b):∀{i t m:Nat},Root S i t m→∃m',m'≤m+1∧Root (aS S a b) i (if t=a then b else t) m'
 | _,_,_,.here (i:=i) (x:=z) h1 h2=>by
  by_cases e:a=i
  ·subst e
   rw[TY rfl]
   cases hb with
   | here k1 k2=>exact⟨1,by omega,.step (eY ha b) rfl (.here ((dw hab b).trans k1) k2)⟩
   | step k1 k2 k3 =>
    obtain⟨y,y1,y2⟩:=k3.top
    rw[y1]at k1
    cases k1
    rw[y2]at k2
    cases k2
  ·rw[TW (Ne.symm e)]
   exact⟨0,by omega,.here ((dw e b).trans h1) h2⟩
 | _,_,_,.step (i:=i) (x:=z) h1 h2 h3=>by
  obtain⟨m',hm,hr⟩:=kT ha hx hb hab h3
  have e:a≠i:=by
   intro e
   subst e
   rw[ha]at h1
   cases h1
   rw[hx]at h2
   cases h2
  exact⟨m'+1,by omega,.step ((dw e b).trans h1) h2 hr⟩
theorem xQ {S:St}{a b:Nat}{x:Nd}(ha:S[a]?=some x)(hx:x.up=none)(θ:Nat→Ft) :
  (jd vk S θ∧θ a=θ b)↔(jd vk (aS S a b) θ∧(x.kind≠vk→θ a=.con x.kind (x.sub.map θ))):=by
 constructor
 ·rintro⟨h,e⟩
  refine⟨fun i z hz=>?_,(h a x ha).2 hx⟩
  by_cases ei:a=i
  ·subst ei
   rw[eY ha b]at hz
   cases hz
   exact⟨fun j hj=>(by cases hj;exact e),fun h2=>(by cases h2)⟩
  ·rw[dw ei b]at hz
   exact h i z hz
 ·rintro⟨h,e⟩
  refine⟨fun i z hz=>?_,(h a _ (eY ha b)).1 b rfl⟩
  by_cases ei:a=i
  ·subst ei
   rw[ha]at hz
   cases hz
   exact⟨fun j hj=>(by rw[hx]at hj;cases hj),fun _ h2=>e h2⟩
  ·exact h i z ((dw ei b).trans hz)
theorem oG {ar:Int→Nat}{S:St}{a b n:Nat}{x:Nd}(h:Wf ar S)(ha:S[a]?=some x)(hx:x.up=none)(hb:Root S b b n)(hab:a≠b):Wf ar (aS S a b):=by
 refine⟨fun i hi=>?_,fun i z hz=>?_⟩
 ·rw[bO]at hi
  obtain⟨t,m,hr,hl⟩:=h.root i hi
  obtain⟨m',hm,hr'⟩:=kT ha hx hb hab hr
  exact⟨_,m',hr',by rw[bO];have:=lY (b:=b) ha hx;omega⟩
 ·rw[bO]
  by_cases e:a=i
  ·subst e
   rw[eY ha b]at hz
   cases hz
   exact h.sub a x ha
  ·rw[dw e b]at hz
   exact h.sub i z hz
def kF (g:St→Nat→Nat→Bool×St):List Nat→List Nat→St→Bool×St
 | p::ps,q::qs,S=>if (g S p q).1=true then kF g ps qs (g S p q).2 else (false,(g S p q).2)
 | [],_,S=>(true,S)
 | _::_,[],S=>(false,S)
structure Fg (vk:Int)(ar:Int→Nat)(S:St)(r:Bool×St)(C:(Nat→Ft)→Prop):Prop where
 wf:Wf ar r.2
 len:r.2.length=S.length
 nr:nr r.2≤nr S
 node:∀(i:Nat) (x:Nd),S[i]?=some x→∃x',r.2[i]?=some x'∧x'.kind=x.kind∧x'.sub=x.sub∧x'.size=x.size
 yes:r.1=true→∀θ,jd vk r.2 θ↔jd vk S θ∧C θ
 no:r.1=false→∀θ,jd vk S θ→¬C θ
theorem xS {ar:Int→Nat}{g:St→Nat→Nat→Bool×St}{f:Nat}(hg:∀S a b,Wf ar S→a<S.length→b<S.length→nr S≤f→Fg vk ar S (g S a b) fun θ=>θ a=θ b) :
  ∀(ps qs:List Nat) (S:St),Wf ar S→(∀p∈ps,p<S.length)→(∀q∈qs,q<S.length)→ps.length=qs.length→nr S≤f→Fg vk ar S (kF g ps qs S) fun θ=>ps.map θ=qs.map θ
 | [],[],S,hw,_,_,_,_=>⟨hw,rfl,SA _,fun i x h=>⟨x,h,rfl,rfl,rfl⟩,fun _ θ=>⟨fun h=>⟨h,rfl⟩,fun h=>h.1⟩,fun h=>by cases h⟩
 | [],_::_,_,_,_,_,h,_=>by simp at h
 | _::_,[],_,_,_,_,h,_=>by simp at h
 | p::ps,q::qs,S,hw,hp,hq,hl,hn=>by
  have h1:=hg S p q hw (hp p (Ta ..)) (hq q (Ta ..)) hn
  unfold kF
  by_cases e:(g S p q).1=true
  ·rw[TY e]
   have h2:=xS hg ps qs (g S p q).2 h1.wf (fun x hx=>by rw[h1.len];exact hp x (Tc _ hx)) (fun x hx=>by rw[h1.len];exact hq x (Tc _ hx)) (by simpa using hl) (by have:=h1.nr;omega)
   refine⟨h2.wf,h2.len.trans h1.len,SE h2.nr h1.nr,fun i x hx=>?_,fun hy θ=>?_,fun hno θ hS hC=>?_⟩
   ·obtain⟨y,y1,y2,y3,y4⟩:=h1.node i x hx
    obtain⟨z,z1,z2,z3,z4⟩:=h2.node i y y1
    exact⟨z,z1,z2.trans y2,z3.trans y3,z4.trans y4⟩
   ·rw[h2.yes hy θ,h1.yes e θ,List.map_cons,List.map_cons,List.cons.injEq,and_assoc]
   ·rw[List.map_cons,List.map_cons,List.cons.injEq]at hC
    exact h2.no hno θ ((h1.yes e θ).2 ⟨hS,hC.1⟩) hC.2
  ·rw[TW e]
   refine⟨h1.wf,h1.len,h1.nr,h1.node,fun h=>(by cases h),fun _ θ hS hC=>?_⟩
   rw[List.map_cons,List.map_cons,List.cons.injEq]at hC
   exact h1.no (by simpa using e) θ hS hC.1
theorem Root.at0 {S:St}{t n:Nat}:∀{i:Nat},Root S i t n→∃m,Root S t t m
 | _,.here h1 h2=>⟨0,.here h1 h2⟩
 | _,.step _ _ h3=>h3.at0
theorem Az {S:St}{t:Nat}{x:Nd}(h:S[t]?=some x)(hx:x.up=none):1≤nr S:=by
 have:=lY (b:=t) h hx
 omega
end Go.Proofs.Unify
namespace Go.Proofs.Unify
variable {vk:Int}
def AA:Nat→St→Nat→Nat
 | 0,_,i=>i
 | f+1,S,i=>match S[i]? with
  | none=>i
  | some x=>match x.up with
   | none=>i
   | some j=>AA f S j
theorem nI:∀(f:Nat){S:St}{i t n:Nat},Root S i t n→n≤f→AA f S i=t
 | 0,_,_,_,n,hr,hn=>by
  obtain rfl:n=0:=by omega
  cases hr with
  | here _ _=>rfl
 | f+1,_,_,_,_,hr,hn=>by
  cases hr with
  | here h1 h2=>simp only[AA,h1,h2]
  | step h1 h2 h3 =>
   simp only[AA,h1,h2]
   exact nI f h3 (by omega)
end Go.Proofs.Unify
namespace Go.Proofs.Unify
def rt (S:St)(i:Nat):Nat:=AA S.length S i
theorem vF {ar:Int→Nat}{S:St}(hw:Wf ar S){i:Nat}(hi:i<S.length):∃n,Root S i (rt S i) n:=by
 obtain⟨t,n,hr,hb⟩:=hw.root i hi
 rw[show rt S i=t from nI S.length hr (by omega)]
 exact⟨n,hr⟩
theorem rt_eq {ar:Int→Nat}{S:St}(hw:Wf ar S){i t n:Nat}(hr:Root S i t n)(hi:i<S.length):rt S i=t:=by
 obtain⟨m,h⟩:=vF hw hi
 exact(h.unique hr).1
theorem iV {ar:Int→Nat}{S:St}(hw:Wf ar S){i:Nat}(hi:i<S.length):∃x,S[rt S i]?=some x∧x.up=none:=by
 obtain⟨n,h⟩:=vF hw hi
 exact h.top
theorem nu {ar:Int→Nat}{S:St}(hw:Wf ar S){i:Nat}(hi:i<S.length):rt S i<S.length:=by
 obtain⟨x,hx,_⟩:=iV hw hi
 exact(Sy.1 hx).1
structure Hv (S S':St):Prop where
 len:S'.length=S.length
 node:∀(i:Nat) (x:Nd),S[i]?=some x→∃x',S'[i]?=some x'∧x'.kind=x.kind∧x'.sub=x.sub∧(x'.up=none↔x.up=none)
 root:∀{i t n:Nat},Root S i t n→∃n',Root S' i t n'
theorem Hv.refl (S:St):Hv S S:=⟨rfl,fun _ x h=>⟨x,h,rfl,rfl,Iff.rfl⟩,fun h=>⟨_,h⟩⟩
theorem Hv.trans {S S' S'':St}(h:Hv S S')(k:Hv S' S''):Hv S S'':=by
 refine⟨k.len.trans h.len,fun i x hx=>?_,fun hr=>?_⟩
 ·obtain⟨y,y1,y2,y3,y5⟩:=h.node i x hx
  obtain⟨z,z1,z2,z3,z5⟩:=k.node i y y1
  exact⟨z,z1,z2.trans y2,z3.trans y3,z5.trans y5⟩
 ·obtain⟨n',h1⟩:=h.root hr
  exact k.root h1
theorem Hv.half {S:St}{i j k t n:Nat}{x y:Nd}(hi:S[i]?=some x)(hx:x.up=some j)(hj:S[j]?=some y)(hy:y.up=some k)(hr:Root S j t n):Hv S (aS S i k):=by
 have h:=DU (vk:=0) hi hx hj hy hr
 exact⟨h.len,fun i x hx=>by
  obtain⟨x',a,b,c,d,e⟩:=h.node i x hx
  exact⟨x',a,b,c,e⟩,fun hr=>by
  obtain⟨n',_,h'⟩:=h.root hr
  exact⟨n',h'⟩⟩
theorem Hv.link {ar:Int→Nat}{S S':St}(hw:Wf ar S)(h:Hv S S'){a b:Nat}{x y:Nd}(ha:S[a]?=some x)(hx:x.up=none)(hb:S[b]?=some y)(hy:y.up=none)(hab:a≠b):Hv (aS S a b) (aS S' a b):=by
 obtain⟨x',ha',_,_,hx'⟩:=h.node a x ha
 obtain⟨y',hb',_,_,hy'⟩:=h.node b y hb
 refine⟨by rw[bO,bO];exact h.len,fun i z hz=>?_,fun {i t n} hr=>?_⟩
 ·by_cases e:a=i
  ·subst e
   rw[eY ha b]at hz
   cases hz
   obtain⟨z',z1,z2,z3,_⟩:=h.node a x ha
   exact⟨_,eY z1 b,z2,z3,by simp⟩
  ·rw[dw e b]at hz
   obtain⟨z',z1,z2,z3,z5⟩:=h.node i z hz
   exact⟨z',(dw e b).trans z1,z2,z3,z5⟩
 ·have hi:i<S.length:=by
   rw[←bO S a b]
   cases hr with
   | here h1 _=>exact(Sy.1 h1).1
   | step h1 _ _=>exact(Sy.1 h1).1
  obtain⟨t0,n0,hr0,_⟩:=hw.root i hi
  obtain⟨m1,_,h1⟩:=kT ha hx (.here hb hy) hab hr0
  obtain⟨n0',Qj⟩:=h.root hr0
  obtain⟨m2,_,h2⟩:=kT ha' (hx'.2 hx) (.here hb' (hy'.2 hy)) hab Qj
  rw[(hr.unique h1).1]
  exact⟨m2,h2⟩
theorem Hv.add {S S':St}(h:Hv S S')(y:Nd)(hy:y.up=none)(hc:∀(i:Nat)(x:Nd)(j:Nat),S[i]?=some x→x.up=some j→j<S.length):Hv (S++[y]) (S'++[y]):=by
 have hlt:∀{i:Nat} {z:Nd},S[i]?=some z→i<S.length:=fun h=>(Sy.1 h).1
 refine⟨by simp[h.len],fun i z hz=>?_,fun {i t n} hr=>?_⟩
 ·by_cases e:i<S.length
  ·rw[Tg e]at hz
   obtain⟨z',z1,z2⟩:=h.node i z hz
   exact⟨z',by rw[Tg (by rw[h.len];exact e)];exact z1,z2⟩
  ·have hl:i<(S++[y]).length:=(Sy.1 hz).1
   have:i=S.length:=by simp at hl;omega
   subst this
   have e1:(S++[y])[S.length]?=some y:=by simp
   rw[e1]at hz
   cases hz
   exact⟨y,by rw[←h.len];simp,rfl,rfl,Iff.rfl⟩
 ·have key:∀{i t n:Nat},Root (S++[y]) i t n→i<S.length→∃m,Root S i t m:=by
   intro i t n hr
   induction hr with
   | here h1 h2 =>
    intro hi
    rw[Tg hi]at h1
    exact⟨0,.here h1 h2⟩
   | step h1 h2 h3 ih =>
    intro hi
    rw[Tg hi]at h1
    obtain⟨m,hm⟩:=ih (hc _ _ _ h1 h2)
    exact⟨m+1,.step h1 h2 hm⟩
  by_cases hi:i<S.length
  ·obtain⟨m,hm⟩:=key hr hi
   obtain⟨n',hn'⟩:=h.root hm
   have hadd:∀{i t n:Nat},Root S' i t n→Root (S'++[y]) i t n:=by
    intro i t n hr
    induction hr with
    | here h1 h2=>exact .here (by rw[Tg (Sy.1 h1).1];exact h1) h2
    | step h1 h2 _ ih=>exact .step (by rw[Tg (Sy.1 h1).1];exact h1) h2 ih
   exact⟨n',hadd hn'⟩
  ·have e1:(S++[y])[S.length]?=some y:=by simp
   cases hr with
   | here h1 h2 =>
    have hl:i<(S++[y]).length:=(Sy.1 h1).1
    have:i=S.length:=by simp at hl;omega
    subst this
    exact⟨0,.here (x:=y) (by rw[←h.len];simp) hy⟩
   | step h1 h2 h3 =>
    have hl:i<(S++[y]).length:=(Sy.1 h1).1
    have:i=S.length:=by simp at hl;omega
    subst this
    rw[e1]at h1
    cases h1
    rw[hy]at h2
    cases h2
def fK (vk:Int):Nat→St→Nat→Nat→Bool×St
 | 0,S,_,_=>(false,S)
 | f+1,S,a,b =>
  let r:=rt S a
  let q:=rt S b
  if r=q then (true,S)else
  match S[r]?,S[q]? with
  | some x,some y =>
   if x.kind=vk then (true,aS S r q)
   else if y.kind=vk then (true,aS S q r)
   else if x.kind≠y.kind then (false,aS S q r)
   else kF (fK vk f) x.sub y.sub (aS S q r)
  | _,_=>(false,S)
variable {vk:Int}
theorem kU (ar:Int→Nat):∀(f:Nat)(S:St)(a b:Nat),Wf ar S→a<S.length→b<S.length→nr S≤f→Fg vk ar S (fK vk f S a b) fun θ=>θ a=θ b
 | 0,S,a,b,hw,ha,hb,hn=>by
  obtain⟨t,n,hr,_⟩:=hw.root a ha
  obtain⟨x,h1,h2⟩:=hr.top
  have:=Az h1 h2
  omega
 | f+1,S,a,b,hw,ha,hb,hn=>by
  obtain⟨ta,na,hra,hla⟩:=hw.root a ha
  obtain⟨tb,nb,hrb,hlb⟩:=hw.root b hb
  have ea:rt S a=ta:=nI S.length hra (by omega)
  have eb:rt S b=tb:=nI S.length hrb (by omega)
  have hk:Kp vk S S:=Kp.refl S
  have hw2:=hw
  unfold fK
  simp only[]
  rw[ea,eb]
  have JM:=hra
  have JN:=hrb
  have hiff:∀θ,jd vk S θ→(θ a=θ b↔θ ta=θ tb):=fun θ h=>by rw[JM.resp h,JN.resp h]
  have K7:∀(i:Nat) (x:Nd),S[i]?=some x→∃x',S[i]?=some x'∧x'.kind=x.kind∧x'.sub=x.sub∧x'.size=x.size:=fun i x hx=>by
   obtain⟨y,y1,y2,y3,y4,_⟩:=hk.node i x hx
   exact⟨y,y1,y2,y3,y4⟩
  by_cases e:ta=tb
  ·rw[TY e]
   exact⟨hw2,rfl,SA _,K7,fun _ θ=>⟨fun h=>⟨(hk.resp θ).1 h,(hiff θ h).2 (by rw[e])⟩,fun h=>(hk.resp θ).2 h.1⟩,fun h=>by cases h⟩
  ·rw[TW e]
   obtain⟨x,hx1,hx2⟩:=JM.top
   obtain⟨y,hy1,hy2⟩:=JN.top
   obtain⟨na',hta⟩:=JM.at0
   obtain⟨nb',htb⟩:=JN.at0
   have hset:∀(c d:Nat) (i:Nat) (z:Nd),S[i]?=some z→∃z',(aS S c d)[i]?=some z'∧z'.kind=z.kind∧z'.sub=z.sub∧z'.size=z.size:=fun c d i z hz=>by
    obtain⟨u,u1,u2,u3,u4⟩:=K7 i z hz
    by_cases ec:c=i
    ·subst ec
     exact⟨_,eY u1 d,u2,u3,u4⟩
    ·exact⟨u,(dw ec d).trans u1,u2,u3,u4⟩
   rw[hx1,hy1]
   simp only[]
   by_cases k0:x.kind=vk
   ·rw[TY k0]
    refine⟨oG hw2 hx1 hx2 htb e,(bO _ _ _).trans hk.len,by have:=lY (b:=tb) hx1 hx2;have:=hk.nr;show nr (aS S ta tb)≤nr S;omega,hset ta tb,fun _ θ=>?_,fun h=>by cases h⟩
    show jd vk (aS S ta tb) θ↔_
    have hl:=xQ (vk:=vk) (b:=tb) hx1 hx2 θ
    constructor
    ·intro h
     obtain⟨h1,h2⟩:=hl.2 ⟨h,fun h=>absurd k0 h⟩
     exact⟨(hk.resp θ).1 h1,(hiff θ h1).2 h2⟩
    ·rintro⟨h1,h2⟩
     have h1':=(hk.resp θ).2 h1
     exact(hl.1 ⟨h1',(hiff θ h1').1 h2⟩).1
   ·rw[TW k0]
    have hl:=fun θ=>xQ (vk:=vk) (a:=tb) (b:=ta) hy1 hy2 θ
    have hwl:=oG hw2 hy1 hy2 hta (Ne.symm e)
    have hnl:=lY (b:=ta) hy1 hy2
    by_cases k1:y.kind=vk
    ·rw[TY k1]
     refine⟨hwl,(bO _ _ _).trans hk.len,by have:=hk.nr;show nr (aS S tb ta)≤nr S;omega,hset tb ta,fun _ θ=>?_,fun h=>by cases h⟩
     show jd vk (aS S tb ta) θ↔_
     constructor
     ·intro h
      obtain⟨h1,h2⟩:=(hl θ).2 ⟨h,fun h=>absurd k1 h⟩
      exact⟨(hk.resp θ).1 h1,(hiff θ h1).2 h2.symm⟩
     ·rintro⟨h1,h2⟩
      have h1':=(hk.resp θ).2 h1
      exact((hl θ).1 ⟨h1',((hiff θ h1').1 h2).symm⟩).1
    ·rw[TW k1]
     have hxc:∀θ,jd vk S θ→θ ta=.con x.kind (x.sub.map θ):=fun θ h=>(h ta x hx1).2 hx2 k0
     have hyc:∀θ,jd vk S θ→θ tb=.con y.kind (y.sub.map θ):=fun θ h=>(h tb y hy1).2 hy2 k1
     by_cases k2:x.kind≠y.kind
     ·rw[TY k2]
      refine⟨hwl,(bO _ _ _).trans hk.len,by have:=hk.nr;show nr (aS S tb ta)≤nr S;omega,hset tb ta,fun h=>(by cases h),fun _ θ h1 h2=>?_⟩
      have h1':=(hk.resp θ).2 h1
      have:=(hiff θ h1').1 h2
      rw[hxc θ h1',hyc θ h1']at this
      injection this with h3 _
      exact k2 h3
     ·rw[TW k2]
      have k2':x.kind=y.kind:=by simpa using k2
      have hsx:=hw2.sub ta x hx1
      have hsy:=hw2.sub tb y hy1
      have hs:=xS (fun S a b h1 h2 h3 h4=>kU ar f S a b h1 h2 h3 h4) x.sub y.sub (aS S tb ta) hwl (fun p hp=>by rw[bO];exact hsx.2 p hp) (fun p hp=>by rw[bO];exact hsy.2 p hp) (by rw[hsx.1,hsy.1,k2']) (by have:=hk.nr;omega)
      have hxl:(aS S tb ta)[ta]?=some x:=(dw (Ne.symm e) ta).trans hx1
      have heq:∀θ,(jd vk (aS S tb ta) θ∧x.sub.map θ=y.sub.map θ)↔(jd vk S θ∧θ a=θ b):=fun θ=>by
       constructor
       ·rintro⟨h1,h2⟩
        have h3:θ ta=.con x.kind (x.sub.map θ):=(h1 ta x hxl).2 hx2 k0
        have h4:θ tb=θ ta:=(h1 tb _ (eY hy1 ta)).1 ta rfl
        obtain⟨h5,h6⟩:=(hl θ).2 ⟨h1,fun _=>by rw[h4,h3,k2',h2]⟩
        exact⟨(hk.resp θ).1 h5,(hiff θ h5).2 h6.symm⟩
       ·rintro⟨h1,h2⟩
        have h1':=(hk.resp θ).2 h1
        have h3:=(hiff θ h1').1 h2
        have h4:=h3
        rw[hxc θ h1',hyc θ h1']at h4
        injection h4 with _ h5
        exact⟨((hl θ).1 ⟨h1',h3.symm⟩).1,h5⟩
      refine⟨hs.wf,(hs.len.trans (bO _ _ _)).trans hk.len,by have:=hs.nr;have:=hk.nr;omega,fun i z hz=>?_,fun hy θ=>(hs.yes hy θ).trans (heq θ),fun hno θ h1 h2=>?_⟩
      ·obtain⟨u,u1,u2,u3,u4⟩:=hset tb ta i z hz
       obtain⟨v,v1,v2,v3,v4⟩:=hs.node i u u1
       exact⟨v,v1,v2.trans u2,v3.trans u3,v4.trans u4⟩
      ·obtain⟨h3,h4⟩:=(heq θ).2 ⟨h1,h2⟩
       exact hs.no hno θ h3 h4
end Go.Proofs.Unify
namespace Go.Proofs.Unify
variable {vk:Int}
theorem Root.add {S:St}{y:Nd}:∀{i t n:Nat},Root S i t n→Root (S++[y]) i t n
 | _,_,_,.here h1 h2=>.here (by rw[Tg (Sy.1 h1).1];exact h1) h2
 | _,_,_,.step h1 h2 h3=>.step (by rw[Tg (Sy.1 h1).1];exact h1) h2 h3.add
theorem NA {S:St}{x:Nd}(hx:x.up=none):nr (S++[x])=nr S+1:=by
 unfold nr
 rw[SX,SY,List.range_succ,List.countP_append,List.countP_singleton]
 have h1:isR (S++[x]) S.length=true:=by rw[mQ (x:=x) (by simp),hx];rfl
 have h2:(List.range S.length).countP (isR (S++[x]))=(List.range S.length).countP (isR S):=List.countP_congr fun i hi=>by
  have hi:=List.mem_range.1 hi
  unfold isR
  rw[Tg hi]
 rw[h1,h2]
 rfl
theorem Wf.add {ar:Int→Nat}{S:St}(h:Wf ar S){x:Nd}(hx:x.up=none)(hl:x.sub.length=ar x.kind)(hs:∀j∈x.sub,j<S.length):Wf ar (S++[x]):=by
 have hL:(S++[x]).length=S.length+1:=by simp
 refine⟨fun i hi=>?_,fun i y hy=>?_⟩
 ·rw[NA hx,hL]
  by_cases e:i<S.length
  ·obtain⟨t,n,hr,hb⟩:=h.root i e
   exact⟨t,n,hr.add,by omega⟩
  ·obtain rfl:i=S.length:=by omega
   have:nr S≤S.length:=by
    unfold nr
    exact SE Uc (by simp)
   exact⟨_,0,.here (x:=x) (by simp) hx,by omega⟩
 ·rw[hL]
  by_cases e:i<S.length
  ·rw[Tg e]at hy
   obtain⟨h1,h2⟩:=h.sub i y hy
   exact⟨h1,fun j hj=>Nat.lt_succ_of_lt (h2 j hj)⟩
  ·have hi:=(Sy.1 hy).1
   obtain rfl:i=S.length:=by omega
   simp at hy
   subst hy
   exact⟨hl,fun j hj=>Nat.lt_succ_of_lt (hs j hj)⟩
end Go.Proofs.Unify
namespace Go.Proofs.Unify
inductive Tv where
 | var:Nat→Tv
 | con:Int→List Tv→Tv
mutual
def inst (φ:Nat→Ft):Tv→Ft
 | .var a=>φ a
 | .con k l=>.con k (lV φ l)
def lV (φ:Nat→Ft):List Tv→List Ft
 | []=>[]
 | t::l=>inst φ t::lV φ l
end
mutual
def Alike (R:Nat→Nat→Prop):Tv→Tv→Prop
 | .var a,.var b=>R a b
 | .con k l,.con k' l'=>k=k'∧vG R l l'
 | .var _,.con ..=>False
 | .con ..,.var _=>False
def vG (R:Nat→Nat→Prop):List Tv→List Tv→Prop
 | [],[]=>True
 | t::l,t'::l'=>Alike R t t'∧vG R l l'
 | [],_::_=>False
 | _::_,[]=>False
end
mutual
def below (M:Int):Tv→Prop
 | .var _=>True
 | .con k l=>k<M∧mR M l
def mR (M:Int):List Tv→Prop
 | []=>True
 | t::l=>below M t∧mR M l
end
mutual
theorem vH {M M':Int}(h:M≤M'):∀{t:Tv},below M t→below M' t
 | .var _,_=>trivial
 | .con _ _,hb=>⟨Int.lt_of_lt_of_le hb.1 h,kK h hb.2⟩
theorem kK {M M':Int}(h:M≤M'):∀{l:List Tv},mR M l→mR M' l
 | [],_=>trivial
 | _::_,hb=>⟨vH h hb.1,kK h hb.2⟩
end
mutual
theorem JO:∀t:Tv,∃M,below M t
 | .var _=>⟨0,trivial⟩
 | .con k l=>by
  obtain⟨M,h⟩:=xU l
  exact⟨max M (k+1),by omega,kK (by omega) h⟩
theorem xU:∀l:List Tv,∃M,mR M l
 | []=>⟨0,trivial⟩
 | t::l=>by
  obtain⟨M,h⟩:=JO t
  obtain⟨M',h'⟩:=xU l
  exact⟨max M M',vH (by omega) h,kK (by omega) h'⟩
end
def fresh (M:Int)(a:Nat):Ft:=.con (M+a) []
mutual
theorem JQ {M:Int}{φ ψ:Nat→Ft}:∀{t t':Tv},below M t→below M t'→inst (fresh M) t=inst ψ t'→inst φ t=inst (fresh M) t'→Alike (fun a b=>ψ b=fresh M a∧φ a=fresh M b) t t'
 | .var a,.var b,_,_,h1,h2=>⟨h1.symm,h2⟩
 | .con k l,.con k' l',b1,b2,h1,h2=>by
  simp only[inst,Ft.con.injEq]at h1 h2
  exact⟨h1.1,xV b1.2 b2.2 h1.2 h2.2⟩
 | .var a,.con k l,_,b2,h1,_=>by
  simp only[inst,fresh,Ft.con.injEq]at h1
  have:=b2.1
  omega
 | .con k l,.var b,b1,_,_,h2=>by
  simp only[inst,fresh,Ft.con.injEq]at h2
  have:=b1.1
  omega
theorem xV {M:Int}{φ ψ:Nat→Ft}:∀{l l':List Tv},mR M l→mR M l'→lV (fresh M) l=lV ψ l'→lV φ l=lV (fresh M) l'→vG (fun a b=>ψ b=fresh M a∧φ a=fresh M b) l l'
 | [],[],_,_,_,_=>trivial
 | t::l,t'::l',b1,b2,h1,h2=>by
  simp only[lV,List.cons.injEq]at h1 h2
  exact⟨JQ b1.1 b2.1 h1.1 h2.1,xV b1.2 b2.2 h1.2 h2.2⟩
 | [],_::_,_,_,h1,_=>by simp[lV]at h1
 | _::_,[],_,_,h1,_=>by simp[lV]at h1
end
def fu:List Nat→Nat→Nat×List Nat
 | [],a=>(0,[a])
 | b::m,a=>if b=a then (0,b::m)else ((fu m a).1+1,b::(fu m a).2)
mutual
def pQ (m:List Nat):Tv→Tv×List Nat
 | .var a=>(.var (fu m a).1,(fu m a).2)
 | .con k l=>(.con k (pR m l).1,(pR m l).2)
def pR (m:List Nat):List Tv→List Tv×List Nat
 | []=>([],m)
 | t::l=>((pQ m t).1::(pR (pQ m t).2 l).1,(pR (pQ m t).2 l).2)
end
def Met (R:Nat→Nat→Prop):List Nat→List Nat→Prop
 | [],[]=>True
 | a::m,b::n=>R a b∧Met R m n
 | [],_::_=>False
 | _::_,[]=>False
theorem Pw {R:Nat→Nat→Prop}(r1:∀a b b',R a b→R a b'→b=b')(r2:∀a a' b,R a b→R a' b→a=a'):∀{m n:List Nat}{a b:Nat},Met R m n→R a b→(fu m a).1=(fu n b).1∧Met R (fu m a).2 (fu n b).2
 | [],[],a,b,_,h=>⟨rfl,h,trivial⟩
 | c::m,d::n,a,b,hm,h=>by
  by_cases e:c=a
  ·subst e
   have e2:d=b:=r1 _ _ _ hm.1 h
   subst e2
   simp only[fu,TY]
   exact⟨by trivial,hm⟩
  ·have e2:d≠b:=fun e2=>e (r2 _ _ _ hm.1 (e2▸h))
   obtain⟨k1,k2⟩:=Pw r1 r2 hm.2 h
   simp only[fu,TW e,TW e2]
   exact⟨by rw[k1],hm.1,k2⟩
 | [],_::_,_,_,hm,_=>hm.elim
 | _::_,[],_,_,hm,_=>hm.elim
mutual
theorem H9 {R:Nat→Nat→Prop}(r1:∀a b b',R a b→R a b'→b=b')(r2:∀a a' b,R a b→R a' b→a=a'):∀{m n:List Nat}{t t':Tv},Met R m n→Alike R t t'→(pQ m t).1=(pQ n t').1∧Met R (pQ m t).2 (pQ n t').2
 | m,n,.var a,.var b,hm,h=>by
  obtain⟨k1,k2⟩:=Pw r1 r2 hm h
  simp only[pQ]
  exact⟨by rw[k1],k2⟩
 | m,n,.con k l,.con k' l',hm,h=>by
  obtain⟨k1,k2⟩:=xW r1 r2 hm h.2
  simp only[pQ]
  exact⟨by rw[k1,h.1],k2⟩
 | _,_,.var _,.con ..,_,h=>h.elim
 | _,_,.con ..,.var _,_,h=>h.elim
theorem xW {R:Nat→Nat→Prop}(r1:∀a b b',R a b→R a b'→b=b')(r2:∀a a' b,R a b→R a' b→a=a'):∀{m n:List Nat}{l l':List Tv},Met R m n→vG R l l'→(pR m l).1=(pR n l').1∧Met R (pR m l).2 (pR n l').2
 | m,n,[],[],hm,_=>⟨rfl,hm⟩
 | m,n,t::l,t'::l',hm,h=>by
  obtain⟨k1,k2⟩:=H9 r1 r2 hm h.1
  obtain⟨k3,k4⟩:=xW r1 r2 k2 h.2
  simp only[pR]
  exact⟨by rw[k1,k3],k4⟩
 | _,_,[],_::_,_,h=>h.elim
 | _,_,_::_,[],_,h=>h.elim
end
end Go.Proofs.Unify
namespace Go.Proofs.Unify
def bJ (sz:Nat→Int)(i:Nat)(z:Int):Nat→Int:=fun k=>if k=i then z else sz k
theorem je (sz:Nat→Int)(i:Nat)(z:Int):bJ sz i z i=z:=by simp[bJ]
theorem fH (sz:Nat→Int){i k:Nat}(h:k≠i)(z:Int):bJ sz i z k=sz k:=by simp[bJ,h]
def msL (S:St)(g:Nat→(Nat→Int)→Bool×(Nat→Int)):List Nat→Int→(Nat→Int)→Bool×Int×(Nat→Int)
 | [],n,sz=>(true,n,sz)
 | s::l,n,sz=>if (g s sz).1=true then msL S g l (n+(g s sz).2 (rt S s)) (g s sz).2 else (false,n,(g s sz).2)
def ms (S:St):Nat→Nat→(Nat→Int)→Bool×(Nat→Int)
 | 0,_,sz=>(false,sz)
 | f+1,i,sz =>
  if sz (rt S i)≠0 then (decide (0<sz (rt S i)),sz)else
  match S[rt S i]? with
  | none=>(false,sz)
  | some x =>
   let q:=msL S (ms S f) x.sub 1 (bJ sz (rt S i) (-1))
   if q.1=true then (true,bJ q.2.2 (rt S i) (min q.2.1 201))else (false,q.2.2)
def nz (S:St)(sz:Nat→Int):Nat:=(List.range S.length).countP fun i=>decide (sz i=0)
def Bd (sz:Nat→Int):Prop:=∀k,-1≤sz k∧sz k≤201
def Gr (sz sz':Nat→Int):Prop:=∀k,sz k≠0→sz' k≠0
theorem Gr.refl (sz:Nat→Int):Gr sz sz:=fun _ h=>h
theorem Gr.trans {a b c:Nat→Int}(h:Gr a b)(k:Gr b c):Gr a c:=fun i hi=>k i (h i hi)
theorem Gr.nz {S:St}{a b:Nat→Int}(h:Gr a b):nz S b≤nz S a:=by
 unfold Unify.nz
 refine List.countP_mono_left fun i _ hi=>?_
 have:b i=0:=by simpa using hi
 simp only[decide_eq_true_eq]
 exact Classical.byContradiction fun e=>h i e this
theorem M0 {S:St}{sz:Nat→Int}{r:Nat}(hr:r<S.length)(h:sz r=0){z:Int}(hz:z≠0):nz S (bJ sz r z)+1=nz S sz:=by
 unfold Unify.nz
 rw[←nZ (p:=fun i=>decide (sz i=0)) (a:=r) (by simpa using h) List.nodup_range (List.mem_range.2 hr)]
 congr 1
 refine List.countP_congr fun i _=>?_
 by_cases e:i=r
 ·subst e
  simp[je,hz]
 ·simp[fH sz e z,e]
theorem AB {S:St}{g:Nat→(Nat→Int)→Bool×(Nat→Int)}(hg:∀s sz,Bd sz→Bd (g s sz).2∧Gr sz (g s sz).2):∀(l:List Nat)(n:Int)(sz:Nat→Int),Bd sz→Bd (msL S g l n sz).2.2∧Gr sz (msL S g l n sz).2.2
 | [],n,sz,hb=>⟨hb,Gr.refl _⟩
 | s::l,n,sz,hb=>by
  obtain⟨h1,h2⟩:=hg s sz hb
  unfold msL
  split
  ·obtain⟨h3,h4⟩:=AB hg l (n+(g s sz).2 (rt S s)) (g s sz).2 h1
   exact⟨h3,h2.trans h4⟩
  ·exact⟨h1,h2⟩
theorem wO {S:St}{g:Nat→(Nat→Int)→Bool×(Nat→Int)}(hp:∀s sz,(g s sz).1=true→0<(g s sz).2 (rt S s)):∀(l:List Nat)(n:Int)(sz:Nat→Int),n≤(msL S g l n sz).2.1
 | [],n,sz=>by simp[msL]
 | s::l,n,sz=>by
  unfold msL
  split
  ·rename_i h
   have:=wO hp l (n+(g s sz).2 (rt S s)) (g s sz).2
   have:=hp s sz h
   omega
  ·exact Int.le_refl _
theorem uL {S:St}:∀(f i:Nat)(sz:Nat→Int),(ms S f i sz).1=true→0<(ms S f i sz).2 (rt S i)
 | 0,_,_,h=>by cases h
 | f+1,i,sz,h=>by
  unfold ms at h ⊢
  split
  ·rename_i h0
   rw[TY h0]at h
   simpa using h
  ·rename_i h0
   rw[TW h0]at h
   cases hx:S[rt S i]? with
   | none=>rw[hx]at h;cases h
   | some x =>
    rw[hx]at h
    simp only at h ⊢
    split
    ·simp only[je]
     have:=wO (S:=S) (g:=ms S f) (fun s sz h=>uL f s sz h) x.sub 1 (bJ sz (rt S i) (-1))
     omega
    ·rename_i h1
     rw[TW h1]at h
     cases h
theorem rW {S:St}:∀(f i:Nat)(sz:Nat→Int),Bd sz→Bd (ms S f i sz).2∧Gr sz (ms S f i sz).2
 | 0,_,sz,hb=>⟨hb,Gr.refl _⟩
 | f+1,i,sz,hb=>by
  unfold ms
  split
  ·exact⟨hb,Gr.refl _⟩
  ·rename_i h0
   have h0':sz (rt S i)=0:=by simpa using h0
   cases hx:S[rt S i]? with
   | none=>exact⟨hb,Gr.refl _⟩
   | some x =>
    simp only
    have hb1:Bd (bJ sz (rt S i) (-1)):=fun k=>by
     unfold bJ
     split
     ·omega
     ·exact hb k
    have hg1:Gr sz (bJ sz (rt S i) (-1)):=fun k hk=>by
     unfold bJ
     split
     ·decide
     ·exact hk
    obtain⟨h1,h2⟩:=AB (S:=S) (g:=ms S f) (fun s sz hb=>rW f s sz hb) x.sub 1 _ hb1
    have hp:=wO (S:=S) (g:=ms S f) (fun s sz h=>uL f s sz h) x.sub 1 (bJ sz (rt S i) (-1))
    split
    ·refine⟨fun k=>?_,(hg1.trans h2).trans fun k hk=>?_⟩
     ·show -1≤bJ _ _ _ k∧bJ _ _ _ k≤201
      by_cases e:k=rt S i
      ·rw[e,je]
       omega
      ·rw[fH _ e]
       exact h1 k
     ·show bJ _ _ _ k≠0
      by_cases e:k=rt S i
      ·rw[e,je]
       omega
      ·rw[fH _ e]
       exact hk
    ·exact⟨h1,hg1.trans h2⟩
end Go.Proofs.Unify
