/- infer, plainly: classes of nodes are kept -/
import Derived.Test.YtmmecapgnmlaiaaGreatDoorZxo
set_option maxRecDepth 100000
set_option maxHeartbeats 16000000
namespace Go.Proofs.Unify
structure gu (S S':St):Prop where
 le:S.length≤S'.length
 eq:∀i i',i<S.length→i'<S.length→rt S i=rt S i'→rt S' i=rt S' i'
theorem gu.refl (S:St):gu S S:=⟨SA _,fun _ _ _ _ h=>h⟩
theorem gu.trans {S S' S'':St}(h:gu S S')(k:gu S' S''):gu S S'':=⟨SE h.le k.le,fun i i' hi hi' e=>k.eq i i' (SB hi h.le) (SB hi' h.le) (h.eq i i' hi hi' e)⟩
theorem l6 {ar:Int→Nat}{S:St}(hw:Wf ar S){a b:Nat}{x y:Nd}(ha:S[a]?=some x)(hx:x.up=none)(hb:S[b]?=some y)(hy:y.up=none)(hab:a≠b){i:Nat}(hi:i<S.length):rt (aS S a b) i=if rt S i=a then b else rt S i:=by
 obtain⟨n,hr⟩:=vF hw hi
 obtain⟨m,_,h⟩:=kT ha hx (.here hb hy) hab hr
 exact rt_eq (oG hw ha hx (.here hb hy) hab) h (by rw[bO];exact hi)
theorem yx {ar:Int→Nat}{S:St}(hw:Wf ar S){a b:Nat}{x y:Nd}(ha:S[a]?=some x)(hx:x.up=none)(hb:S[b]?=some y)(hy:y.up=none)(hab:a≠b):gu S (aS S a b):=
 ⟨by rw[bO];exact SA _,fun i i' hi hi' e=>by rw[l6 hw ha hx hb hy hab hi,l6 hw ha hx hb hy hab hi',e]⟩
theorem A9 {ar:Int→Nat}{g:St→Nat→Nat→Bool×St}(f:Nat)(hg:∀S a b,Wf ar S→a<S.length→b<S.length→nr S≤f→Fg 5 ar S (g S a b) (fun θ=>θ a=θ b)∧gu S (g S a b).2) :
  ∀(ps qs:List Nat) (S:St),Wf ar S→(∀p∈ps,p<S.length)→(∀q∈qs,q<S.length)→nr S≤f→gu S (kF g ps qs S).2
 | [],[],S,_,_,_,_=>gu.refl S
 | [],_::_,S,_,_,_,_=>gu.refl S
 | _::_,[],S,_,_,_,_=>gu.refl S
 | p::ps,q::qs,S,hw,hp,hq,hn=>by
  obtain⟨h1,h2⟩:=hg S p q hw (hp p Ta) (hq q Ta) hn
  unfold kF
  split
  ·exact h2.trans (A9 f hg ps qs _ h1.wf (fun z hz=>by rw[h1.len];exact hp z (Tc _ hz)) (fun z hz=>by rw[h1.len];exact hq z (Tc _ hz)) (SE h1.nr hn))
  ·exact h2
theorem Ba {ar:Int→Nat}:∀(f:Nat)(S:St)(a b:Nat),Wf ar S→a<S.length→b<S.length→nr S≤f→gu S (fK 5 f S a b).2∧((fK 5 f S a b).1=true→rt (fK 5 f S a b).2 a=rt (fK 5 f S a b).2 b)
 | 0,S,a,b,hw,ha,hb,hn=>by
  obtain⟨t,n,hr,_⟩:=hw.root a ha
  obtain⟨x,h1,h2⟩:=hr.top
  have:=Az h1 h2
  omega
 | f+1,S,a,b,hw,ha,hb,hn=>by
  obtain⟨x,hx1,hx2⟩:=iV hw ha
  obtain⟨y,hy1,hy2⟩:=iV hw hb
  unfold fK
  simp only[]
  by_cases e:rt S a=rt S b
  ·rw[TY e]
   exact⟨gu.refl S,fun _=>e⟩
  ·rw[TW e,hx1,hy1]
   simp only[]
   have l1:=yx hw hx1 hx2 hy1 hy2 e
   have l2:=yx hw hy1 hy2 hx1 hx2 (Ne.symm e)
   have e1:rt (aS S (rt S a) (rt S b)) a=rt (aS S (rt S a) (rt S b)) b:=by
    rw[l6 hw hx1 hx2 hy1 hy2 e ha,l6 hw hx1 hx2 hy1 hy2 e hb,TY rfl,TW (Ne.symm e)]
   have e2:rt (aS S (rt S b) (rt S a)) a=rt (aS S (rt S b) (rt S a)) b:=by
    rw[l6 hw hy1 hy2 hx1 hx2 (Ne.symm e) ha,l6 hw hy1 hy2 hx1 hx2 (Ne.symm e) hb,TW e,TY rfl]
   by_cases k0:x.kind=5
   ·rw[TY k0];exact⟨l1,fun _=>e1⟩
   ·rw[TW k0]
    by_cases k1:y.kind=5
    ·rw[TY k1];exact⟨l2,fun _=>e2⟩
    ·rw[TW k1]
     by_cases k2:x.kind≠y.kind
     ·rw[TY k2];exact⟨l2,fun h=>by cases h⟩
     ·rw[TW k2]
      have hwl:=oG hw hy1 hy2 (.here hx1 hx2) (Ne.symm e)
      have hnl:=lY (b:=rt S a) hy1 hy2
      have hu:=A9 f (fun S a b h1 h2 h3 h4=>⟨kU (vk:=5) ar f S a b h1 h2 h3 h4,(Ba f S a b h1 h2 h3 h4).1⟩) x.sub y.sub (aS S (rt S b) (rt S a)) hwl (fun p hp=>by rw[bO];exact(hw.sub _ x hx1).2 p hp) (fun p hp=>by rw[bO];exact(hw.sub _ y hy1).2 p hp) (by omega)
      exact⟨l2.trans hu,fun _=>hu.eq a b (by rw[bO];exact ha) (by rw[bO];exact hb) e2⟩
theorem Bb {ar:Int→Nat}{S S':St}(hw:Wf ar S)(hw':Wf ar S')(h:∃T,S'=S++T):gu S S':=by
 obtain⟨T,rfl⟩:=h
 have key:∀{i:Nat},i<S.length→rt (S++T) i=rt S i:=fun {i} hi=>by
  obtain⟨n,hr⟩:=vF hw hi
  have ha:∀{i t n:Nat},Root S i t n→Root (S++T) i t n:=by
   intro i t n hr
   induction hr with
   | here h1 h2=>exact .here (by rw[Tg (Sy.1 h1).1];exact h1) h2
   | step h1 h2 _ ih=>exact .step (by rw[Tg (Sy.1 h1).1];exact h1) h2 ih
  exact rt_eq hw' (ha hr) (by simp;omega)
 exact⟨by simp,fun i i' hi hi' e=>by rw[key hi,key hi',e]⟩
end Go.Proofs.Unify
namespace Go.Proofs.Unify
inductive Ex where
 | nil:Ex
 | cons:Int→ByteArray→ByteArray→Int→Ex→Ex→Ex
namespace Ex
def len:Ex→Nat
 | .nil=>0
 | .cons _ _ _ _ _ r=>r.len+1
def cnt:Ex→Nat
 | .nil=>0
 | .cons _ _ _ _ s r=>s.cnt+r.cnt+1
end Ex
def arP (k:Int):Nat:=if k=3 then 1 else if k=4 then 2 else 0
theorem vL (k:Int):arP k≤1000:=by unfold arP;split <;> (try split) <;> omega
theorem vM:arP 5=0:=by decide
structure Tst where
 S:St
 ns:List Nat
 fl:Bool
structure Sc where
 G:List (Int×Nat)
 sch:Int→Int×Int×Tf
 frn:ByteArray×Int→Int×Int×Tf
abbrev Env:=List (ByteArray×Nat)
abbrev lI:=Env→Tst→Nat×Tst
def bE (σ:Tst)(a b:Nat):Tst:=if σ.fl=true then σ else ⟨(fK 5 (nr σ.S) σ.S a b).2,σ.ns,!(fK 5 (nr σ.S) σ.S a b).1⟩
def aJ (σ:Tst)(k:Int)(l:List Nat):Nat×Tst:=(σ.S.length,⟨σ.S++[⟨none,k,l,0⟩],σ.ns,σ.fl⟩)
def qb (t:Int×Int×Tf)(σ:Tst):Nat×Tst:=((gW t.1 t.2.1 t.2.2 [] σ.S).1,⟨(gW t.1 t.2.1 t.2.2 [] σ.S).2.2,σ.ns,σ.fl⟩)
def jI (n:ByteArray):Env→Option Nat
 | []=>none
 | x::l=>match jI n l with
  | some j=>some j
  | none=>if x.1=n then some x.2 else none
def qX (n:ByteArray)(env:Env)(σ:Tst):Nat×Tst:=match jI n env with
 | some j=>(j,σ)
 | none=>aJ σ 5 []
def qd (sc:Sc)(n:ByteArray)(i:Int)(σ:Tst):Nat×Tst:=
 if n=⟨#[]⟩then (match sc.G.lookup i with
  | some j=>(j,σ)
  | none=>qb (sc.sch i) σ)
 else qb (sc.frn (n,i)) σ
def gL:lI:=fun _ σ=>(0,σ)
def Fz (p:lI)(n:ByteArray)(env:Env)(σ:Tst):Nat×Tst:=
 let a:=aJ σ 5 []
 let r:=p (env++[(n,a.1)]) a.2
 aJ r.2 4 [a.1,r.1]
def zu (p q:lI)(env:Env)(σ:Tst):Nat×Tst:=
 let f:=p env σ
 let a:=q env f.2
 let b:=aJ a.2 5 []
 let t:=aJ b.2 4 [a.1,b.1]
 (b.1,bE t.2 f.1 t.1)
def FC (p q:lI)(n:ByteArray)(env:Env)(σ:Tst):Nat×Tst:=
 let a:=p env σ
 q (env++[(n,a.1)]) a.2
def ifT (p q r:lI)(env:Env)(σ:Tst):Nat×Tst:=
 let c:=p env σ
 let a:=q env c.2
 let b:=r env a.2
 let t:=aJ b.2 2 []
 (a.1,bE (bE t.2 c.1 t.1) a.1 b.1)
def opT (p q:lI)(n:ByteArray)(env:Env)(σ:Tst):Nat×Tst:=
 let a:=p env σ
 let t:=aJ a.2 1 []
 let b:=q env (bE t.2 a.1 t.1)
 let u:=aJ b.2 1 []
 aJ (bE u.2 b.1 u.1) (if n=⟨#[61]⟩∨n=⟨#[60]⟩then 2 else 1) []
def zw (p q:lI)(env:Env)(σ:Tst):Nat×Tst:=
 let a:=p env σ
 let l:=q env a.2
 let t:=aJ l.2 3 [a.1]
 (l.1,bE t.2 l.1 t.1)
def caseT (p q r:lI)(n m:ByteArray)(env:Env)(σ:Tst):Nat×Tst:=
 let a:=aJ σ 5 []
 let l:=aJ a.2 3 [a.1]
 let z:=p env l.2
 let x:=q env (bE z.2 z.1 l.1)
 let y:=r (env++[(n,a.1),(m,l.1)]) x.2
 (x.1,bE y.2 x.1 y.1)
def aF (sc:Sc)(k:Int)(n m:ByteArray)(i:Int)(ps:List lI)(env:Env)(σ:Tst):Nat×Tst:=
 if k=1 then aJ σ 1 []
 else if k=2∨k=14 then aJ σ 2 []
 else if k=11 then aJ (aJ σ 5 []).2 3 [(aJ σ 5 []).1]
 else if k=3 then qX n env σ
 else if k=5 then qd sc n i σ
 else if k=6 then Fz (ps.getD 0 gL) n env σ
 else if k=7 then zu (ps.getD 0 gL) (ps.getD 1 gL) env σ
 else if k=8 then FC (ps.getD 0 gL) (ps.getD 1 gL) n env σ
 else if k=9 then ifT (ps.getD 0 gL) (ps.getD 1 gL) (ps.getD 2 gL) env σ
 else if k=10 then opT (ps.getD 0 gL) (ps.getD 1 gL) n env σ
 else if k=12 then zw (ps.getD 0 gL) (ps.getD 1 gL) env σ
 else if k=13 then caseT (ps.getD 0 gL) (ps.getD 1 gL) (ps.getD 2 gL) n m env σ
 else aJ σ 5 []
def aG (q:Nat×Tst):Nat×Tst:=(q.1,⟨q.2.S,q.2.ns++[q.1],q.2.fl⟩)
def tyF (sc:Sc):Ex→List lI
 | .nil=>[]
 | .cons k n m i s r=>(fun env σ=>aG (aF sc k n m i (tyF sc s) env σ))::tyF sc r
def okE (k:Int)(len:Nat):Prop:=(k=6→1≤len)∧(k=7∨k=10∨k=12∨k=8→2≤len)∧(k=9∨k=13→3≤len)
def TOk (t:Int×Int×Tf):Prop:=(t.1≠5→t.2.2.len=arP t.1)∧t.2.2.Fit arP
def Ex.Cok (sc:Sc):Ex→Prop
 | .nil=>True
 | .cons k n _ i s r=>okE k s.len∧(k=5→if n=⟨#[]⟩then (sc.G.lookup i=none→TOk (sc.sch i))else TOk (sc.frn (n,i)))∧s.Cok sc∧r.Cok sc
structure TyW (sc:Sc)(σ:Tst)(R:Nat×Tst)(n:Nat):Prop where
 wf:Wf arP R.2.S
 le:σ.S.length≤R.2.S.length
 lt:R.1<R.2.S.length
 ns:∃l,R.2.ns=σ.ns++l∧l.length≤n∧∀j∈l,j<R.2.S.length
 ref:gu σ.S R.2.S
 fl:R.2.fl=false→σ.fl=false
def iy (env:Env)(σ:Tst):Prop:=∀x∈env,x.2<σ.S.length
theorem iy.le {env:Env}{σ σ':Tst}(h:iy env σ)(hl:σ.S.length≤σ'.S.length):iy env σ':=fun x hx=>SB (h x hx) hl
theorem iy.snoc {env:Env}{σ:Tst}(h:iy env σ){n:ByteArray}{a:Nat}(ha:a<σ.S.length):iy (env++[(n,a)]) σ:=fun x hx=>by
 rcases Td.1 hx with h'|h'
 ·exact h x h'
 ·have:x=(n,a):=by simpa using h'
  rw[this]
  exact ha
theorem dW {σ:Tst}(hw:Wf arP σ.S){a b:Nat}(ha:a<σ.S.length)(hb:b<σ.S.length):Wf arP (bE σ a b).S∧(bE σ a b).S.length=σ.S.length∧(bE σ a b).ns=σ.ns:=by
 unfold bE
 split
 ·exact⟨hw,rfl,rfl⟩
 ·have:=kU (vk:=5) arP (nr σ.S) σ.S a b hw ha hb (SA _)
  exact⟨this.wf,this.len,rfl⟩
theorem qY {σ:Tst}(hw:Wf arP σ.S){a b:Nat}(ha:a<σ.S.length)(hb:b<σ.S.length):gu σ.S (bE σ a b).S∧((bE σ a b).fl=false→σ.fl=false∧rt (bE σ a b).S a=rt (bE σ a b).S b):=by
 unfold bE
 split
 ·rename_i h
  exact⟨gu.refl _,fun h2=>by rw[h]at h2;cases h2⟩
 ·rename_i h
  have:=Ba (nr σ.S) σ.S a b hw ha hb (SA _)
  exact⟨this.1,fun h2=>⟨by simpa using h,this.2 (by simpa using h2)⟩⟩
theorem aZ {sc:Sc}{σ:Tst}(hw:Wf arP σ.S){k:Int}{l:List Nat}(hk:l.length=arP k)(hl:∀j∈l,j<σ.S.length):TyW sc σ (aJ σ k l) 0:=
 ⟨hw.add rfl hk hl,by simp[aJ],by simp[aJ],⟨[],by simp[aJ],SC _,by simp⟩,Bb hw (hw.add rfl hk hl) ⟨_,rfl⟩,fun h=>h⟩
theorem TyW.trans {sc:Sc}{σ:Tst}{Q R:Nat×Tst}{n m:Nat}(h:TyW sc σ Q n)(g:TyW sc Q.2 R m):TyW sc σ R (n+m):=by
 obtain⟨l,e1,e2,e3⟩:=h.ns
 obtain⟨l',f1,f2,f3⟩:=g.ns
 refine⟨g.wf,SE h.le g.le,g.lt,⟨l++l',by rw[f1,e1,TR],by rw[SX];omega,fun j hj=>?_⟩,h.ref.trans g.ref,fun hf=>h.fl (g.fl hf)⟩
 rcases Td.1 hj with h'|h'
 ·exact SB (e3 j h') g.le
 ·exact f3 j h'
theorem TyW.same {sc:Sc}{σ:Tst}{Q:Nat×Tst}{n:Nat}(h:TyW sc σ Q n){a b r:Nat}(ha:a<Q.2.S.length)(hb:b<Q.2.S.length)(hr:r<Q.2.S.length):TyW sc σ (r,bE Q.2 a b) n:=by
 obtain⟨h1,h2,h3⟩:=dW h.wf ha hb
 obtain⟨l,e1,e2,e3⟩:=h.ns
 have hr2:=qY h.wf ha hb
 exact⟨h1,by simp only;rw[h2];exact h.le,by simp only;rw[h2];exact hr,⟨l,by simp only;rw[h3];exact e1,e2,fun j hj=>by simp only;rw[h2];exact e3 j hj⟩,h.ref.trans hr2.1,fun hf=>h.fl (hr2.2 hf).1⟩
theorem yB {sc:Sc}{σ:Tst}(hw:Wf arP σ.S){t:Int×Int×Tf}(ht:TOk t):TyW sc σ (qb t σ) 0:=by
 obtain⟨h1,h2⟩:=oH vM (v:=t.2.1) (vs:=[]) hw ht.1 ht.2 (by simp)
 exact⟨h1.wf,h1.le,h2,⟨[],by simp[qb],SC _,by simp⟩,Bb hw h1.wf h1.pre,fun h=>h⟩
theorem Bc {n:ByteArray}:∀{env:Env}{j:Nat},jI n env=some j→∃x∈env,x.2=j
 | [],_,h=>by cases h
 | x::l,j,h=>by
  unfold jI at h
  cases h1:jI n l with
  | some i =>
   rw[h1]at h
   obtain⟨y,hy,e⟩:=Bc h1
   cases h
   exact⟨y,Tc _ hy,e⟩
  | none =>
   rw[h1]at h
   simp only at h
   split at h
   ·cases h
    exact⟨x,Ta,rfl⟩
   ·cases h
def FnW (sc:Sc)(p:lI)(n:Nat):Prop:=∀(env:Env)(σ:Tst),Wf arP σ.S→(∀x∈sc.G,x.2<σ.S.length)→iy env σ→TyW sc σ (p env σ) n
theorem TyW.mono {sc:Sc}{σ:Tst}{R:Nat×Tst}{n m:Nat}(h:TyW sc σ R n)(hn:n≤m):TyW sc σ R m:=by
 obtain⟨l,e1,e2,e3⟩:=h.ns
 exact⟨h.wf,h.le,h.lt,⟨l,e1,SE e2 hn,e3⟩,h.ref,h.fl⟩
theorem TyW.keep {sc:Sc}{σ:Tst}{R:Nat×Tst}{n:Nat}(h:TyW sc σ R n):TyW sc σ (aG R) (n+1):=by
 obtain⟨l,e1,e2,e3⟩:=h.ns
 refine⟨h.wf,h.le,h.lt,⟨l++[R.1],by simp[aG,e1],by simp;exact e2,fun j hj=>?_⟩,h.ref,h.fl⟩
 rcases Td.1 hj with h'|h'
 ·exact e3 j h'
 ·have:j=R.1:=by simpa using h'
  rw[this]
  exact h.lt
theorem TyW.here {sc:Sc}{σ:Tst}(hw:Wf arP σ.S){j:Nat}(hj:j<σ.S.length):TyW sc σ (j,σ) 0:=⟨hw,SA _,hj,⟨[],by simp,SC _,by simp⟩,gu.refl _,fun h=>h⟩
def Ex.Tw (sc:Sc):Ex→Prop
 | .nil=>True
 | .cons k n m i s r=>FnW sc (fun env σ=>aG (aF sc k n m i (tyF sc s) env σ)) (s.cnt+1)∧r.Tw sc
section
variable {sc:Sc}
theorem Ij (n:ByteArray):FnW sc (qX n) 0:=fun env σ hw _ he=>by
 unfold qX
 cases h:jI n env with
 | some j =>
  obtain⟨x,hx,e⟩:=Bc h
  exact TyW.here hw (by rw[←e];exact he x hx)
 | none=>exact aZ hw rfl (by simp)
theorem Ik {n:ByteArray}{i:Int}(h:if n=⟨#[]⟩then (sc.G.lookup i=none→TOk (sc.sch i))else TOk (sc.frn (n,i))):FnW sc (fun _ σ=>qd sc n i σ) 0:=fun env σ hw hG _=>by
 show TyW sc σ (qd sc n i σ) 0
 unfold qd
 split at h
 ·rename_i e
  rw[TY e]
  cases hl:sc.G.lookup i with
  | some j=>exact TyW.here hw (hG _ (gG hl))
  | none=>exact yB hw (h hl)
 ·rename_i e
  rw[TW e]
  exact yB hw h
variable {p q r:lI} {a b c:Nat}
theorem Il (hp:FnW sc p a)(n:ByteArray):FnW sc (Fz p n) a:=fun env σ hw hG he=>by
 have h1:=aZ (sc:=sc) hw (k:=5) (l:=[]) rfl (by simp)
 have h2:=hp (env++[(n,(aJ σ 5 []).1)]) (aJ σ 5 []).2 h1.wf (fun x hx=>SB (hG x hx) h1.le) ((he.le h1.le).snoc h1.lt)
 have h3:=aZ (sc:=sc) h2.wf (k:=4) (l:=[(aJ σ 5 []).1,(p (env++[(n,(aJ σ 5 []).1)]) (aJ σ 5 []).2).1]) rfl (by
  intro j hj
  rcases TI.1 hj with rfl|hj
  ·exact SB h1.lt h2.le
  ·rw[Te.1 hj]
   exact h2.lt)
 exact((h1.trans h2).trans h3).mono (by omega)
theorem FD (hp:FnW sc p a)(hq:FnW sc q b):FnW sc (zu p q) (a+b):=fun env σ hw hG he=>by
 have h1:=hp env σ hw hG he
 have h2:=hq env (p env σ).2 h1.wf (fun x hx=>SB (hG x hx) h1.le) (he.le h1.le)
 have h3:=aZ (sc:=sc) h2.wf (k:=5) (l:=[]) rfl (by simp)
 have h4:=aZ (sc:=sc) h3.wf (k:=4) (l:=[(q env (p env σ).2).1,(aJ (q env (p env σ).2).2 5 []).1]) rfl (by
  intro j hj
  rcases TI.1 hj with rfl|hj
  ·exact SB h2.lt h3.le
  ·rw[Te.1 hj]
   exact h3.lt)
 exact((((h1.trans h2).trans h3).trans h4).same (SB h1.lt ((h2.trans h3).trans h4).le) h4.lt (SB h3.lt h4.le)).mono (by omega)
theorem Im (hp:FnW sc p a)(hq:FnW sc q b)(n:ByteArray):FnW sc (FC p q n) (a+b):=fun env σ hw hG he=>by
 have h1:=hp env σ hw hG he
 have h2:=hq (env++[(n,(p env σ).1)]) (p env σ).2 h1.wf (fun x hx=>SB (hG x hx) h1.le) ((he.le h1.le).snoc h1.lt)
 exact h1.trans h2
theorem J5 (hp:FnW sc p a)(hq:FnW sc q b)(hr:FnW sc r c):FnW sc (ifT p q r) (a+b+c):=fun env σ hw hG he=>by
 have h1:=hp env σ hw hG he
 have h2:=hq env (p env σ).2 h1.wf (fun x hx=>SB (hG x hx) h1.le) (he.le h1.le)
 have h12:=h1.trans h2
 have h3:=hr env (q env (p env σ).2).2 h2.wf (fun x hx=>SB (hG x hx) h12.le) (he.le h12.le)
 have h4:=aZ (sc:=sc) h3.wf (k:=2) (l:=[]) rfl (by simp)
 have h:=(h12.trans h3).trans h4
 have g1:=SB h1.lt ((h2.trans h3).trans h4).le
 have g2:=SB h2.lt (h3.trans h4).le
 have g3:=SB h3.lt h4.le
 have k1:=h.same g1 h4.lt g2
 obtain⟨e1,e2,e3⟩:=dW h.wf g1 h4.lt
 exact(k1.same (by rw[e2];exact g2) (by rw[e2];exact g3) (by rw[e2];exact g2)).mono (by omega)
theorem J6 (hp:FnW sc p a)(hq:FnW sc q b)(n:ByteArray):FnW sc (opT p q n) (a+b):=fun env σ hw hG he=>by
 have h1:=hp env σ hw hG he
 have h2:=aZ (sc:=sc) h1.wf (k:=1) (l:=[]) rfl (by simp)
 have g1:=SB h1.lt h2.le
 have h3:=(h1.trans h2).same g1 h2.lt h2.lt
 have h4:=hq env _ h3.wf (fun x hx=>SB (hG x hx) h3.le) (he.le h3.le)
 have h5:=aZ (sc:=sc) h4.wf (k:=1) (l:=[]) rfl (by simp)
 have g4:=SB h4.lt h5.le
 have h6:=((h3.trans h4).trans h5).same g4 h5.lt h5.lt
 have h7:=aZ (sc:=sc) h6.wf (k:=if n=⟨#[61]⟩∨n=⟨#[60]⟩then 2 else 1) (l:=[]) (by split <;> rfl) (by simp)
 exact(h6.trans h7).mono (by omega)
theorem FE (hp:FnW sc p a)(hq:FnW sc q b):FnW sc (zw p q) (a+b):=fun env σ hw hG he=>by
 have h1:=hp env σ hw hG he
 have h2:=hq env (p env σ).2 h1.wf (fun x hx=>SB (hG x hx) h1.le) (he.le h1.le)
 have h3:=aZ (sc:=sc) h2.wf (k:=3) (l:=[(p env σ).1]) rfl (by
  intro j hj
  rw[Te.1 hj]
  exact SB h1.lt h2.le)
 have g2:=SB h2.lt h3.le
 exact(((h1.trans h2).trans h3).same g2 h3.lt g2).mono (by omega)
theorem FH (hp:FnW sc p a)(hq:FnW sc q b)(hr:FnW sc r c)(n m:ByteArray):FnW sc (caseT p q r n m) (a+b+c):=fun env σ hw hG he=>by
 have h1:=aZ (sc:=sc) hw (k:=5) (l:=[]) rfl (by simp)
 have h2:=aZ (sc:=sc) h1.wf (k:=3) (l:=[(aJ σ 5 []).1]) rfl (by
  intro j hj
  rw[Te.1 hj]
  exact h1.lt)
 have h12:=h1.trans h2
 have h3:=hp env _ h12.wf (fun x hx=>SB (hG x hx) h12.le) (he.le h12.le)
 have g3:=SB h2.lt h3.le
 have h4:=(h12.trans h3).same h3.lt g3 h3.lt
 have h5:=hq env _ h4.wf (fun x hx=>SB (hG x hx) h4.le) (he.le h4.le)
 have h45:=h4.trans h5
 obtain⟨e1,e2,e3⟩:=dW (h12.trans h3).wf h3.lt g3
 have ga:(aJ σ 5 []).1<(q env (bE (p env (aJ (aJ σ 5 []).2 3 [(aJ σ 5 []).1]).2).2 (p env (aJ (aJ σ 5 []).2 3 [(aJ σ 5 []).1]).2).1 (aJ (aJ σ 5 []).2 3 [(aJ σ 5 []).1]).1)).2.S.length:=by
  refine SB (SB h1.lt (SE h2.le h3.le)) ?_
  have:=h5.le
  rw[e2]at this
  exact this
 have gl:(aJ (aJ σ 5 []).2 3 [(aJ σ 5 []).1]).1<(q env (bE (p env (aJ (aJ σ 5 []).2 3 [(aJ σ 5 []).1]).2).2 (p env (aJ (aJ σ 5 []).2 3 [(aJ σ 5 []).1]).2).1 (aJ (aJ σ 5 []).2 3 [(aJ σ 5 []).1]).1)).2.S.length:=by
  refine SB g3 ?_
  have:=h5.le
  rw[e2]at this
  exact this
 have h6:=hr (env++[(n,(aJ σ 5 []).1),(m,(aJ (aJ σ 5 []).2 3 [(aJ σ 5 []).1]).1)]) _ h45.wf (fun x hx=>SB (hG x hx) h45.le) (by
  have:=((he.le h45.le).snoc (n:=n) ga).snoc (n:=m) gl
  rw[TR]at this
  exact this)
 have g5:=SB h5.lt h6.le
 exact((h45.trans h6).same g5 h6.lt g5).mono (by omega)
theorem gD (k:Int)(n m:ByteArray)(i:Int)(s:Ex)(hok:okE k s.len)(hrf:k=5→if n=⟨#[]⟩then (sc.G.lookup i=none→TOk (sc.sch i))else TOk (sc.frn (n,i)))(ht:s.Tw sc):FnW sc (aF sc k n m i (tyF sc s)) s.cnt:=by
 intro env σ hw hG he
 have h0:∀{R:Nat×Tst},TyW sc σ R 0→TyW sc σ R s.cnt:=fun h=>h.mono (SC _)
 have one:1≤s.len→FnW sc ((tyF sc s).getD 0 gL) s.cnt:=fun h=>by
  cases s with
  | nil=>simp[Ex.len]at h
  | cons k1 n1 m1 i1 s1 r1=>exact fun env σ hw hG he=>(ht.1 env σ hw hG he).mono (by simp only[Ex.cnt];omega)
 have two:2≤s.len→∃a b,FnW sc ((tyF sc s).getD 0 gL) a∧FnW sc ((tyF sc s).getD 1 gL) b∧a+b≤s.cnt:=fun h=>by
  cases s with
  | nil=>simp[Ex.len]at h
  | cons k1 n1 m1 i1 s1 r1 =>
   cases r1 with
   | nil=>simp[Ex.len]at h
   | cons k2 n2 m2 i2 s2 r2=>exact⟨_,_,ht.1,ht.2.1,by simp only[Ex.cnt];omega⟩
 have three:3≤s.len→∃a b c,FnW sc ((tyF sc s).getD 0 gL) a∧FnW sc ((tyF sc s).getD 1 gL) b∧FnW sc ((tyF sc s).getD 2 gL) c∧a+b+c≤s.cnt:=fun h=>by
  cases s with
  | nil=>simp[Ex.len]at h
  | cons k1 n1 m1 i1 s1 r1 =>
   cases r1 with
   | nil=>simp[Ex.len]at h
   | cons k2 n2 m2 i2 s2 r2 =>
    cases r2 with
    | nil=>simp[Ex.len]at h
    | cons k3 n3 m3 i3 s3 r3=>exact⟨_,_,_,ht.1,ht.2.1,ht.2.2.1,by simp only[Ex.cnt];omega⟩
 have FI:∀j∈([]:List Nat),j<σ.S.length:=fun j hj=>by cases hj
 unfold aF
 by_cases e1:k=1
 ·rw[TY e1];exact h0 (aZ hw rfl FI)
 rw[TW e1]
 by_cases e2:k=2∨k=14
 ·rw[TY e2];exact h0 (aZ hw rfl FI)
 rw[TW e2]
 by_cases e11:k=11
 ·rw[TY e11]
  have h1:=aZ (sc:=sc) hw (k:=5) (l:=[]) rfl FI
  exact h0 (h1.trans (aZ (sc:=sc) h1.wf (k:=3) (l:=[(aJ σ 5 []).1]) rfl (by
   intro j hj
   rw[Te.1 hj]
   exact h1.lt)))
 rw[TW e11]
 by_cases e3:k=3
 ·rw[TY e3];exact h0 (Ij n env σ hw hG he)
 rw[TW e3]
 by_cases e5:k=5
 ·rw[TY e5];exact h0 (Ik (hrf e5) env σ hw hG he)
 rw[TW e5]
 by_cases e6:k=6
 ·rw[TY e6];exact Il (one (hok.1 e6)) n env σ hw hG he
 rw[TW e6]
 by_cases e7:k=7
 ·rw[TY e7]
  obtain⟨a,b,h1,h2,h3⟩:=two (hok.2.1 (.inl e7))
  exact(FD h1 h2 env σ hw hG he).mono h3
 rw[TW e7]
 by_cases e8:k=8
 ·rw[TY e8]
  obtain⟨a,b,h1,h2,h3⟩:=two (hok.2.1 (.inr (.inr (.inr e8))))
  exact(Im h1 h2 n env σ hw hG he).mono h3
 rw[TW e8]
 by_cases e9:k=9
 ·rw[TY e9]
  obtain⟨a,b,c,h1,h2,h3,h4⟩:=three (hok.2.2 (.inl e9))
  exact(J5 h1 h2 h3 env σ hw hG he).mono h4
 rw[TW e9]
 by_cases e10:k=10
 ·rw[TY e10]
  obtain⟨a,b,h1,h2,h3⟩:=two (hok.2.1 (.inr (.inl e10)))
  exact(J6 h1 h2 n env σ hw hG he).mono h3
 rw[TW e10]
 by_cases e12:k=12
 ·rw[TY e12]
  obtain⟨a,b,h1,h2,h3⟩:=two (hok.2.1 (.inr (.inr (.inl e12))))
  exact(FE h1 h2 env σ hw hG he).mono h3
 rw[TW e12]
 by_cases e13:k=13
 ·rw[TY e13]
  obtain⟨a,b,c,h1,h2,h3,h4⟩:=three (hok.2.2 (.inr e13))
  exact(FH h1 h2 h3 n m env σ hw hG he).mono h4
 rw[TW e13]
 exact h0 (aZ hw rfl FI)
theorem Ex.tw:∀{e:Ex},e.Cok sc→e.Tw sc
 | .nil,_=>trivial
 | .cons k n m i s _,h=>⟨fun env σ hw hG he=>(gD k n m i s h.1 h.2.1 (Ex.tw h.2.2.1) env σ hw hG he).keep,Ex.tw h.2.2.2⟩
end
end Go.Proofs.Unify
