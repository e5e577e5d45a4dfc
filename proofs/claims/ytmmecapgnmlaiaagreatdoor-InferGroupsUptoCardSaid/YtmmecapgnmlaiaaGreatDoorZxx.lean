/- infer, plainly: types that have been measured can be built -/
import Derived.Test.YtmmecapgnmlaiaaGreatDoorZxs
set_option maxRecDepth 100000
set_option maxHeartbeats 16000000
namespace Go.Proofs.Unify
def Ext (a b:Nat→Int):Prop:=∀k,0<a k→b k=a k
theorem Ext.refl (a:Nat→Int):Ext a a:=fun _ _=>rfl
theorem Ext.trans {a b c:Nat→Int}(h:Ext a b)(k:Ext b c):Ext a c:=fun i hi=>(k i (by rw[h i hi];exact hi)).trans (h i hi)
def fU (S:St)(sz:Nat→Int):List Nat→Int
 | []=>0
 | s::l=>sz (rt S s)+fU S sz l
def Dn (S:St)(sz:Nat→Int):Prop:=∀(r:Nat)(x:Nd),S[r]?=some x→0<sz r→(∀s∈x.sub,0<sz (rt S s))∧(sz r≤200→sz r=1+fU S sz x.sub)
theorem vQ {S:St}{g:Nat→(Nat→Int)→Bool×(Nat→Int)}(hg:∀s sz,Dn S sz→Dn S (g s sz).2∧Ext sz (g s sz).2∧(∀k,sz k=-1→(g s sz).2 k=-1)∧((g s sz).1=true→0<(g s sz).2 (rt S s))) :
  ∀(l:List Nat) (n:Int) (sz:Nat→Int),Dn S sz→Dn S (msL S g l n sz).2.2∧Ext sz (msL S g l n sz).2.2∧(∀k,sz k=-1→(msL S g l n sz).2.2 k=-1) ∧
   ((msL S g l n sz).1=true→(∀s∈l,0<(msL S g l n sz).2.2 (rt S s))∧(msL S g l n sz).2.1=n+fU S (msL S g l n sz).2.2 l)
 | [],n,sz,hd=>⟨hd,Ext.refl _,fun _ h=>h,fun _=>⟨by simp,by simp[msL,fU]⟩⟩
 | s::l,n,sz,hd=>by
  obtain⟨h1,h2,h3,h4⟩:=hg s sz hd
  unfold msL
  split
  ·rename_i e
   obtain⟨k1,k2,k3,k4⟩:=vQ hg l (n+(g s sz).2 (rt S s)) (g s sz).2 h1
   refine⟨k1,h2.trans k2,fun k hk=>k3 k (h3 k hk),fun hy=>?_⟩
   obtain⟨m1,m2⟩:=k4 hy
   have hp:=h4 e
   have he:=k2 _ hp
   refine⟨fun z hz=>?_,?_⟩
   ·rcases TI.1 hz with rfl|hz
    ·rw[he];exact hp
    ·exact m1 z hz
   ·rw[m2,fU,he]
    omega
  ·exact⟨h1,h2,h3,fun h=>by cases h⟩
theorem D6 {S:St}{sz:Nat→Int}{r:Nat}{z:Int}:∀{l:List Nat},(∀s∈l,rt S s≠r)→fU S (bJ sz r z) l=fU S sz l
 | [],_=>rfl
 | s::l,hl=>by
  simp only[fU]
  rw[fH _ (hl s Ta),D6 fun z hz=>hl z (Tc _ hz)]
theorem xq {S:St}{sz:Nat→Int}(hd:Dn S sz)(h0:Nat)(hz:sz h0=0):Dn S (bJ sz h0 (-1)):=fun r y hy hp=>by
 have hne:r≠h0:=fun e=>by rw[e,je]at hp;omega
 rw[fH _ hne]at hp ⊢
 obtain⟨a1,a2⟩:=hd r y hy hp
 have hin:∀s∈y.sub,rt S s≠h0:=fun s hs e=>by have:=a1 s hs;rw[e]at this;omega
 exact⟨fun s hs=>by rw[fH _ (hin s hs)];exact a1 s hs,fun h=>by rw[D6 hin];exact a2 h⟩
theorem zy {S:St}:∀(f i:Nat)(sz:Nat→Int),Dn S sz→Dn S (ms S f i sz).2∧Ext sz (ms S f i sz).2∧(∀k,sz k=-1→(ms S f i sz).2 k=-1)∧((ms S f i sz).1=true→0<(ms S f i sz).2 (rt S i))
 | 0,_,_,hd=>⟨hd,Ext.refl _,fun _ h=>h,fun h=>by cases h⟩
 | f+1,i,sz,hd=>by
  have hpos:=uL (S:=S) (f+1) i sz
  refine⟨?_,?_,?_,hpos⟩ <;> unfold ms <;> split
  ·exact hd
  ·rename_i h0
   have h0':sz (rt S i)=0:=by simpa using h0
   cases hx:S[rt S i]? with
   | none=>exact hd
   | some x =>
    have hd1:=xq hd (rt S i) h0'
    obtain⟨k1,k2,k3,k4⟩:=vQ (S:=S) (g:=ms S f) (fun s sz hd=>zy f s sz hd) x.sub 1 _ hd1
    simp only
    split
    ·rename_i hy
     obtain⟨m1,m2⟩:=k4 hy
     have hr1:=k3 (rt S i) (je _ _ _)
     have hin:∀s∈x.sub,rt S s≠rt S i:=fun s hs e=>by have:=m1 s hs;rw[e,hr1]at this;omega
     intro r y hy2 hp
     have hsum:∀l:List Nat,(∀s∈l,rt S s≠rt S i)→fU S (bJ (msL S (ms S f) x.sub 1 (bJ sz (rt S i) (-1))).2.2 (rt S i) (min (msL S (ms S f) x.sub 1 (bJ sz (rt S i) (-1))).2.1 201)) l=fU S (msL S (ms S f) x.sub 1 (bJ sz (rt S i) (-1))).2.2 l:=by
      intro l
      induction l with
      | nil=>intro _;rfl
      | cons s l ih =>
       intro hl
       simp only[fU]
       rw[fH _ (hl s Ta),ih fun z hz=>hl z (Tc _ hz)]
     by_cases e:r=rt S i
     ·subst e
      rw[hx]at hy2
      cases hy2
      refine⟨fun s hs=>by show 0<bJ _ _ _ _;rw[fH _ (hin s hs)];exact m1 s hs,fun h=>?_⟩
      change bJ _ _ _ _≤200 at h
      change bJ _ _ _ _=1+fU S (bJ _ _ _) _
      rw[je]at h ⊢
      rw[hsum _ hin]
      omega
     ·change 0<bJ _ _ _ _ at hp
      rw[fH _ e]at hp
      obtain⟨a1,a2⟩:=k1 r y hy2 hp
      have hin2:∀s∈y.sub,rt S s≠rt S i:=fun s hs e=>by have:=a1 s hs;rw[e,hr1]at this;omega
      refine⟨fun s hs=>by show 0<bJ _ _ _ _;rw[fH _ (hin2 s hs)];exact a1 s hs,fun h=>?_⟩
      change bJ _ _ _ _≤200 at h
      change bJ _ _ _ _=1+fU S (bJ _ _ _) _
      rw[fH _ e]at h ⊢
      rw[hsum _ hin2]
      exact a2 h
    ·exact k1
  ·exact Ext.refl _
  ·rename_i h0
   have h0':sz (rt S i)=0:=by simpa using h0
   cases hx:S[rt S i]? with
   | none=>exact Ext.refl _
   | some x =>
    obtain⟨k1,k2,k3,k4⟩:=vQ (S:=S) (g:=ms S f) (fun s sz hd=>zy f s sz hd) x.sub 1 _ (xq hd (rt S i) h0')
    have hm:Ext sz (bJ sz (rt S i) (-1)):=fun k hk=>fH _ (fun e=>by rw[e,h0']at hk;omega) _
    simp only
    split
    ·intro k hk
     have hne:k≠rt S i:=fun e=>by rw[e,h0']at hk;omega
     show bJ _ _ _ k=_
     rw[fH _ hne]
     exact(hm.trans k2) k hk
    ·exact hm.trans k2
  ·exact fun _ h=>h
  ·rename_i h0
   have h0':sz (rt S i)=0:=by simpa using h0
   cases hx:S[rt S i]? with
   | none=>exact fun _ h=>h
   | some x =>
    obtain⟨k1,k2,k3,k4⟩:=vQ (S:=S) (g:=ms S f) (fun s sz hd=>zy f s sz hd) x.sub 1 _ (xq hd (rt S i) h0')
    have hm:∀k,sz k=-1→bJ sz (rt S i) (-1) k=-1:=fun k hk=>by
     unfold bJ
     split
     ·rfl
     ·exact hk
    simp only
    split
    ·intro k hk
     have hne:k≠rt S i:=fun e=>by rw[e,h0']at hk;omega
     show bJ _ _ _ k=_
     rw[fH _ hne]
     exact k3 k (hm k hk)
    ·exact fun k hk=>k3 k (hm k hk)
theorem uH {S:St}{sz:Nat→Int}:∀{l:List Nat}{s:Nat},(∀z∈l,0<sz (rt S z))→s∈l→sz (rt S s)≤fU S sz l
 | [],_,_,h=>by cases h
 | t::l,s,hp,hs=>by
  simp only[fU]
  rcases TI.1 hs with rfl|hs
  ·have:∀l:List Nat,(∀z∈l,0<sz (rt S z))→0≤fU S sz l:=by
    intro l
    induction l with
    | nil=>intro _;exact Int.le_refl _
    | cons z l ih=>intro h;simp only[fU];have:=h z Ta;have:=ih fun y hy=>h y (Tc _ hy);omega
   have:=this l fun z hz=>hp z (Tc _ hz)
   omega
  ·have:=uH (fun z hz=>hp z (Tc _ hz)) hs
   have:=hp t Ta
   omega
theorem Li {S:St}{sz:Nat→Int}(hd:Dn S sz):∀(f i:Nat),0<sz (rt S i)→sz (rt S i)≤f→sz (rt S i)≤200→Bl S f i
 | 0,i,h1,h2,_=>by omega
 | f+1,i,h1,h2,h3=>fun x hx _ s hs=>by
  obtain⟨a1,a2⟩:=hd _ x hx h1
  have e:=a2 h3
  have h4:=uH a1 hs
  exact Li hd f s (a1 s hs) (by omega) (by omega)
def msA (S:St):List Nat→(Nat→Int)→Bool×(Nat→Int)
 | [],sz=>(true,sz)
 | n::l,sz=>if (ms S (S.length+1) n sz).1=true then msA S l (ms S (S.length+1) n sz).2 else (false,(ms S (S.length+1) n sz).2)
theorem Br {S:St}:∀(l:List Nat)(sz:Nat→Int),Dn S sz→Bd sz→Dn S (msA S l sz).2∧Bd (msA S l sz).2∧Ext sz (msA S l sz).2∧((msA S l sz).1=true→∀n∈l,0<(msA S l sz).2 (rt S n))
 | [],sz,hd,hb=>⟨hd,hb,Ext.refl _,fun _ n hn=>by cases hn⟩
 | n::l,sz,hd,hb=>by
  obtain⟨h1,h2,_,h4⟩:=zy (S:=S) (S.length+1) n sz hd
  have hb1:=(rW (S:=S) (S.length+1) n sz hb).1
  unfold msA
  split
  ·rename_i e
   obtain⟨k1,k2,k3,k4⟩:=Br l _ h1 hb1
   refine⟨k1,k2,h2.trans k3,fun hy m hm=>?_⟩
   rcases TI.1 hm with rfl|hm
   ·rw[k3 _ (h4 e)];exact h4 e
   ·exact k4 hy m hm
  ·exact⟨h1,hb1,h2,fun h=>by cases h⟩
end Go.Proofs.Unify
namespace Go.Proofs.Unify
structure De where
 id:Int
 kind:Int
 k:Int
 n:ByteArray
 m:ByteArray
 i:Int
 s:Ex
def De.ty (sc:Sc)(d:De)(σ:Tst):Nat×Tst:=aG (aF sc d.k d.n d.m d.i (tyF sc d.s) [] σ)
def declT (sc:Sc)(d:De)(σ:Tst):Tst:=match sc.G.lookup d.id with
 | none=>σ
 | some j =>
  let q:=d.ty sc σ
  let s1:=bE q.2 j q.1
  if d.kind≠1 then bE (aJ s1 2 []).2 j (aJ s1 2 []).1 else s1
def bH (sc:Sc):List De→Tst→Tst
 | [],σ=>σ
 | d::l,σ=>bH sc l (declT sc d σ)
def grp:List Int→Nat→List (Int×Nat)
 | [],_=>[]
 | a::l,j=>(a,j)::grp l (j+1)
def bG (n:Nat):Tst:=⟨List.replicate n ⟨none,5,[],0⟩,[],false⟩
inductive zx where
 | err:Int→zx
 | ok:List (Int×Int×Int×Int×Tf)→zx
def great (S:St)(ns:List Nat)(sz:Nat→Int):Bool:=ns.any fun n=>decide (200<sz (rt S n))
def og (S:St)(x:Int×Nat):Int×Int×Int×Int×Tf:=(x.1,((bT S 201 x.2 []).2.length:Int),(bT S 201 x.2 []).1)
def iR (sc0:Sc)(ds:List De)(group:List Int):zx:=
 let σ:=bH ⟨grp group 0,sc0.sch,sc0.frn⟩ ds (bG group.length)
 if σ.fl=true then .err 22
 else if (msA σ.S σ.ns fun _=>0).1=false then .err 22
 else if great σ.S σ.ns (msA σ.S σ.ns fun _=>0).2=true then .err 4
 else .ok ((grp group 0).map (og σ.S))
def De.Ok (sc:Sc)(d:De):Prop:=okE d.k d.s.len∧(d.k=5→if d.n=⟨#[]⟩then (sc.G.lookup d.i=none→TOk (sc.sch d.i))else TOk (sc.frn (d.n,d.i)))∧d.s.Cok sc
structure DcW (σ σ':Tst)(n:Nat):Prop where
 wf:Wf arP σ'.S
 ref:gu σ.S σ'.S
 fl:σ'.fl=false→σ.fl=false
 ns:∃l,σ'.ns=σ.ns++l∧l.length≤n∧∀j∈l,j<σ'.S.length
theorem DcW.trans {σ σ' Oh:Tst}{n m:Nat}(h:DcW σ σ' n)(g:DcW σ' Oh m):DcW σ Oh (n+m):=by
 obtain⟨l,e1,e2,e3⟩:=h.ns
 obtain⟨l',f1,f2,f3⟩:=g.ns
 refine⟨g.wf,h.ref.trans g.ref,fun hf=>h.fl (g.fl hf),l++l',by rw[f1,e1,TR],by rw[SX];omega,fun j hj=>?_⟩
 rcases Td.1 hj with h'|h'
 ·exact SB (e3 j h') g.ref.le
 ·exact f3 j h'
theorem De.Mg {sc:Sc}{d:De}(hd:d.Ok sc){σ:Tst}(hw:Wf arP σ.S)(hG:∀x∈sc.G,x.2<σ.S.length):TyW sc σ (d.ty sc σ) (d.s.cnt+1):=
 (gD d.k d.n d.m d.i d.s hd.1 hd.2.1 (Ex.tw hd.2.2) [] σ hw hG (fun x hx=>by cases hx)).keep
theorem DcW.same {σ:Tst}(hw:Wf arP σ.S){a b:Nat}(ha:a<σ.S.length)(hb:b<σ.S.length):DcW σ (bE σ a b) 0:=by
 obtain⟨h1,h2,h3⟩:=dW hw ha hb
 have hr:=qY hw ha hb
 exact⟨h1,hr.1,fun h=>(hr.2 h).1,[],by simp[h3],SC _,by simp⟩
theorem TyW.dc {sc:Sc}{σ:Tst}{R:Nat×Tst}{n:Nat}(h:TyW sc σ R n):DcW σ R.2 n:=⟨h.wf,h.ref,h.fl,h.ns⟩
theorem FL {sc:Sc}{d:De}(hd:d.Ok sc){σ:Tst}(hw:Wf arP σ.S)(hG:∀x∈sc.G,x.2<σ.S.length) :
  DcW σ (declT sc d σ) (d.s.cnt+1)∧∀j,sc.G.lookup d.id=some j→(declT sc d σ).fl=false→∃n∈(declT sc d σ).ns,rt (declT sc d σ).S j=rt (declT sc d σ).S n:=by
 unfold declT
 cases hl:sc.G.lookup d.id with
 | none =>
  exact⟨⟨hw,gu.refl _,fun h=>h,[],by simp,SC _,by simp⟩,fun j h=>by cases h⟩
 | some j =>
  have hj:=hG _ (gG hl)
  have h1:=De.Mg hd hw hG
  have hj1:j<(d.ty sc σ).2.S.length:=SB hj h1.le
  have h2:=DcW.same h1.wf hj1 h1.lt
  have hs:=qY h1.wf hj1 h1.lt
  have hm:(d.ty sc σ).1∈(d.ty sc σ).2.ns:=by simp[De.ty,aG]
  have h12:=h1.dc.trans h2
  have hns:(bE (d.ty sc σ).2 j (d.ty sc σ).1).ns=(d.ty sc σ).2.ns:=(dW h1.wf hj1 h1.lt).2.2
  simp only
  split
  ·have h3:=aZ (sc:=sc) h2.wf (k:=2) (l:=[]) rfl (by simp)
   have hj3:j<(aJ (bE (d.ty sc σ).2 j (d.ty sc σ).1) 2 []).2.S.length:=SB hj1 (SE h2.ref.le h3.le)
   have h4:=DcW.same h3.wf hj3 h3.lt
   have QD:=(h12.trans h3.dc).trans h4
   refine⟨QD,fun j' e hf=>?_⟩
   cases e
   have hf1:=h3.fl (h4.fl hf)
   refine⟨(d.ty sc σ).1,?_,?_⟩
   ·rw[(dW h3.wf hj3 h3.lt).2.2]
    show _∈(bE (d.ty sc σ).2 j (d.ty sc σ).1).ns
    rw[hns]
    exact hm
   ·exact(h3.ref.trans h4.ref).eq _ _ (SB hj1 h2.ref.le) (SB h1.lt h2.ref.le) (hs.2 hf1).2
  ·refine⟨h12,fun j' e hf=>?_⟩
   cases e
   exact⟨_,by rw[hns];exact hm,(hs.2 hf).2⟩
def gy:List De→Nat
 | []=>0
 | d::l=>d.s.cnt+1+gy l
theorem DcW.mem {σ σ':Tst}{n:Nat}(h:DcW σ σ' n)(hn:∀j∈σ.ns,j<σ.S.length):∀j∈σ'.ns,j<σ'.S.length:=fun j hj=>by
 obtain⟨l,e1,_,e3⟩:=h.ns
 rw[e1]at hj
 rcases Td.1 hj with h'|h'
 ·exact SB (hn j h') h.ref.le
 ·exact e3 j h'
theorem kN {sc:Sc}:∀{ds:List De}{σ:Tst},(∀d∈ds,d.Ok sc)→Wf arP σ.S→(∀x∈sc.G,x.2<σ.S.length)→(∀j∈σ.ns,j<σ.S.length) →
  DcW σ (bH sc ds σ) (gy ds)∧∀d∈ds,∀j,sc.G.lookup d.id=some j→(bH sc ds σ).fl=false→∃n∈(bH sc ds σ).ns,rt (bH sc ds σ).S j=rt (bH sc ds σ).S n
 | [],σ,_,hw,_,_=>⟨⟨hw,gu.refl _,fun h=>h,[],by simp[bH],SC _,by simp⟩,fun d h=>by cases h⟩
 | d::l,σ,hd,hw,hG,hN=>by
  obtain⟨h1,h2⟩:=FL (hd d Ta) hw hG
  obtain⟨h3,h4⟩:=kN (fun z hz=>hd z (Tc _ hz)) h1.wf (fun x hx=>SB (hG x hx) h1.ref.le) (h1.mem hN)
  refine⟨h1.trans h3,fun z hz j hj hf=>?_⟩
  rcases TI.1 hz with rfl|hz
  ·obtain⟨n,hn,e⟩:=h2 j hj (h3.fl hf)
   obtain⟨l',e1,_,e3⟩:=h3.ns
   obtain⟨l0,f1,_,f3⟩:=h1.ns
   refine⟨n,?_,?_⟩
   ·show n∈(bH sc l (declT sc z σ)).ns
    rw[e1]
    exact List.mem_append_left _ hn
   ·refine h3.ref.eq j n (SB (hG _ (gG hj)) h1.ref.le) ?_ e
    exact h1.mem hN n hn
  ·exact h4 z hz j hj hf
theorem Bt {n i:Nat}(hi:i<n):(bG n).S[i]?=some ⟨none,5,[],0⟩:=by
 show (List.replicate n (⟨none,5,[],0⟩:Nd))[i]?=_
 rw[List.getElem?_replicate,TY hi]
theorem mW (n:Nat):Wf arP (bG n).S:=by
 have hl:(bG n).S.length=n:=List.length_replicate
 refine⟨fun i hi=>⟨i,0,.here (Bt (by omega)) rfl,?_⟩,fun i x hx=>?_⟩
 ·rw[Nat.zero_add]
  exact SE Uc (by rw[List.length_range];exact SA _)
 ·have hi:=(Sy.1 hx).1
  rw[Bt (by omega)]at hx
  cases hx
  exact⟨rfl,by simp⟩
theorem xg:∀(l:List Int)(j:Nat),(grp l j).length=l.length
 | [],_=>rfl
 | _::l,j=>by simp[grp,xg l]
theorem jo:∀{l:List Int}{j:Nat}{x:Int×Nat},x∈grp l j→x.1∈l∧j≤x.2∧x.2<j+l.length
 | [],_,_,h=>by cases h
 | a::l,j,x,h=>by
  rcases TI.1 h with rfl|h
  ·exact⟨Ta,SA _,by simp⟩
  ·obtain⟨h1,h2,h3⟩:=jo h
   exact⟨Tc _ h1,by omega,by simp;omega⟩
theorem kI:∀{l:List Int}{j:Nat},l.Nodup→∀x∈grp l j,(grp l j).lookup x.1=some x.2
 | [],_,_,_,h=>by cases h
 | a::l,j,hn,x,h=>by
  rw[List.nodup_cons]at hn
  unfold grp
  rw[List.lookup_cons]
  rcases TI.1 h with rfl|h
  ·simp
  ·have h1:=(jo h).1
   have:(x.1==a)=false:=by
    rw[beq_eq_false_iff_ne]
    intro e
    exact hn.1 (e▸h1)
   rw[this]
   exact kI hn.2 x h
theorem dn0 (S:St):Dn S fun _=>0:=fun _ _ _ h=>by cases h
theorem bd0:Bd fun _=>0:=fun _=>⟨by simp,by simp⟩
theorem Mf {sc:Sc}{ds:List De}{group:List Int}(hG:sc.G=grp group 0)(hn:group.Nodup)(hd:∀d∈ds,d.Ok sc)(hg:∀a∈group,∃d∈ds,d.id=a)
  (h1:(bH sc ds (bG group.length)).fl=false)(h2:(msA (bH sc ds (bG group.length)).S (bH sc ds (bG group.length)).ns fun _=>0).1=true)
  (h3:great (bH sc ds (bG group.length)).S (bH sc ds (bG group.length)).ns (msA (bH sc ds (bG group.length)).S (bH sc ds (bG group.length)).ns fun _=>0).2=false) :
  ∀x∈grp group 0,x.2<(bH sc ds (bG group.length)).S.length∧Bl (bH sc ds (bG group.length)).S 201 x.2:=by
 have hsl:(bG group.length).S.length=group.length:=List.length_replicate
 have hGl:∀x∈sc.G,x.2<(bG group.length).S.length:=fun x hx=>by
  rw[hG]at hx
  have:=(jo hx).2.2
  omega
 obtain⟨k1,k2⟩:=kN hd (mW _) hGl (fun j hj=>by cases hj)
 obtain⟨m1,m2,m3,m4⟩:=Br (S:=(bH sc ds (bG group.length)).S) (bH sc ds (bG group.length)).ns _ (dn0 _) bd0
 intro x hx
 have hxl:x.2<(bH sc ds (bG group.length)).S.length:=SB (hGl x (by rw[hG];exact hx)) k1.ref.le
 refine⟨hxl,?_⟩
 obtain⟨d,hdm,hde⟩:=hg x.1 (jo hx).1
 obtain⟨n,hnm,e⟩:=k2 d hdm x.2 (by rw[hG,hde];exact kI hn x hx) h1
 have hp:=m4 h2 n hnm
 have hle:¬(200<(msA (bH sc ds (bG group.length)).S (bH sc ds (bG group.length)).ns fun _=>0).2 (rt (bH sc ds (bG group.length)).S n)):=fun h=>by
  unfold great at h3
  rw[TG]at h3
  exact h3 n hnm (by simpa using h)
 exact Li m1 201 x.2 (by rw[e];exact hp) (by rw[e];omega) (by rw[e];omega)
end Go.Proofs.Unify
