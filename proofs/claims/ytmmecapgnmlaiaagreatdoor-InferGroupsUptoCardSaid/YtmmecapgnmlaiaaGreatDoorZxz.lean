/- infer, plainly: groups in the order of dependence -/
import Derived.Test.YtmmecapgnmlaiaaGreatDoorZxr
set_option maxRecDepth 100000
set_option maxHeartbeats 16000000
namespace Go.Proofs.Scc
def rE (come:Int→Bool)(g:List Int)(l:List Int):Bool:=l.all fun u=>come u||decide (u∈g)
def rdy (used:Int→List Int)(come:Int→Bool)(g:List Int):Bool:=g.all fun id=>rE come g (used id)
def oh (come:Int→Bool)(g:List Int):Int→Bool:=fun x=>come x||decide (x∈g)
def iE (used:Int→List Int):Nat→(Int→Bool)→List (List Int)→List (List Int)
 | 0,_,_=>[]
 | n+1,come,gs=>match gs.findIdx? (rdy used come)with
  | none=>[]
  | some k=>gs.getD k []::iE used n (oh come (gs.getD k [])) (gs.eraseIdx k)
def bK (g:List Int):Int:=g.headD 0
def sortG (gs:List (List Int)):List (List Int):=gs.mergeSort fun a b=>decide (bK a≤bK b)
def iK (used:Int→List Int)(V:List Int):List (List Int):=
 iE used (comps used V.length V tj0).grs.length (fun _=>false) (sortG (comps used V.length V tj0).grs)
theorem wG:∀{l m:List Int},l.Pairwise (· < ·)→m.Pairwise (· < ·)→(∀x,x∈l↔x∈m)→l=m
 | [],[],_,_,_=>rfl
 | [],b::m,_,_,h=>by have:=(h b).2 Ta;cases this
 | a::l,[],_,_,h=>by have:=(h a).1 Ta;cases this
 | a::l,b::m,hl,hm,h=>by
  rw[Ub]at hl hm
  have e:a=b:=by
   rcases TI.1 ((h a).1 Ta)with e|h1
   ·exact e
   ·rcases TI.1 ((h b).2 Ta)with e|h2
    ·exact e.symm
    ·have:=hl.1 b h2
     have:=hm.1 a h1
     omega
  subst e
  rw[wG hl.2 hm.2 fun x=>?_]
  have:=h x
  rw[TI,TI]at this
  constructor
  ·intro hx
   exact(this.1 (.inr hx)).resolve_left fun e=>by have:=hl.1 x hx;omega
  ·intro hx
   exact(this.2 (.inr hx)).resolve_left fun e=>by have:=hm.1 x hx;omega
theorem jL {l:List Int}(h:l.Pairwise (· < ·)):l.Nodup:=h.imp fun {a b} h=>by omega
theorem head_mem {g:List Int}(h:g≠[]):bK g∈g:=by
 cases g with
 | nil=>exact absurd rfl h
 | cons a l=>exact Ta
theorem Mh {g:List Int}(h:g.Pairwise (· < ·)){x:Int}(hx:x∈g):bK g≤x:=by
 cases g with
 | nil=>cases hx
 | cons a l =>
  rw[Ub]at h
  rcases TI.1 hx with rfl|hx
  ·exact Int.le_refl _
  ·exact Int.le_of_lt (h.1 x hx)
theorem xu {used:Int→List Int}{come:Int→Bool}{g:List Int}:rdy used come g=true↔∀x∈g,∀u∈used x,come u=true∨u∈g:=by
 unfold rdy rE
 simp only[List.all_eq_true,Ud,decide_eq_true_eq]
def Kq (used:Int→List Int):(Int→Bool)→List (List Int)→Prop
 | _,[]=>True
 | come,g::l=>rdy used come g=true∧Kq used (oh come g) l
def Dj (g h:List Int):Prop:=∀x∈g,x∉h
theorem Dj.symm {g h:List Int}(d:Dj g h):Dj h g:=fun x hx hg=>d x hg hx
theorem BD {α:Type}{R:α→α→Prop}(hs:∀a b,R a b→R b a):∀{l:List α},l.Pairwise R→∀a∈l,∀b∈l,a≠b→R a b
 | [],_,_,ha,_,_,_=>by cases ha
 | x::l,h,a,ha,b,hb,e=>by
  rw[Ub]at h
  rcases TI.1 ha with ea|ha' <;> rcases TI.1 hb with eb|hb'
  ·exact absurd (ea.trans eb.symm) e
  ·rw[ea];exact h.1 b hb'
  ·rw[eb];exact hs _ _ (h.1 a ha')
  ·exact BD hs h.2 a ha' b hb' e
theorem qh {α:Type}:∀{l:List α}{k:Nat}(hk:k<l.length),(l[k]::l.eraseIdx k).Perm l
 | [],_,h=>by simp at h
 | _::_,0,_=>.refl _
 | a::l,k+1,h=>by
  have:=qh (l:=l) (k:=k) (by simpa using h)
  exact(List.Perm.swap _ _ _).trans (this.cons a)
structure OrH (succ:Int→List Int)(V:List Int)(come:Int→Bool)(gs:List (List Int)):Prop where
 grp:∀g∈gs,Grp succ V g
 dj:gs.Pairwise Dj
 cov:∀x∈V,come x=true∨∃g∈gs,x∈g
 cd:∀g∈gs,∀x∈g,come x=false
 cl:∀x,come x=true→∀u∈succ x,come u=true
section
variable {succ:Int→List Int} {V:List Int} {come:Int→Bool} {gs:List (List Int)}
theorem yG {α:Type}{p q:α→Bool}:∀{l:List α}{a:α},a∈l→(∀x,q x=true→p x=true)→p a=true→q a=false→l.countP q<l.countP p
 | [],_,h,_,_,_=>by cases h
 | x::l,a,h,hpq,hp,hq=>by
  rcases TI.1 h with rfl|h
  ·rw[List.countP_cons_of_pos hp,List.countP_cons_of_neg (by rw[hq];simp)]
   exact Nat.lt_succ_of_le (List.countP_mono_left fun x _ h=>hpq x h)
  ·have ih:=yG h hpq hp hq
   cases hx:q x with
   | true=>rw[List.countP_cons_of_pos hx,List.countP_cons_of_pos (hpq x hx)];omega
   | false =>
    rw[List.countP_cons_of_neg (by rw[hx];simp)]
    have:l.countP p≤(x::l).countP p:=List.Sublist.countP_le (List.sublist_cons_self x l)
    omega
open Classical in
noncomputable def far (succ:Int→List Int)(V g:List Int):Nat:=V.countP fun x=>decide (∃y∈g,Rch succ y x)
theorem vT (hs:∀x∈V,∀u∈succ x,u∈V)(h:OrH succ V come gs):∀(n:Nat)(g:List Int),g∈gs→far succ V g≤n→∃k∈gs,rdy succ come k=true:=by
 intro n
 induction n with
 | zero =>
  intro g hg hn
  exfalso
  have h1:=h.grp g hg
  obtain⟨x,hx⟩:∃x,x∈g:=List.exists_mem_of_ne_nil _ h1.ne
  have:0<far succ V g:=by
   unfold far
   rw[List.countP_pos_iff]
   exact⟨x,h1.sub x hx,by simpa using ⟨x,hx,.here⟩⟩
  omega
 | succ n ih =>
  intro g hg hn
  by_cases hr:rdy succ come g=true
  ·exact⟨g,hg,hr⟩
  ·rw[xu]at hr
   have h1:=h.grp g hg
   have:∃a∈g,∃u∈succ a,come u=false∧u∉g:=by
    apply Classical.byContradiction
    intro hc
    refine hr fun x hx u hu=>?_
    by_cases e:u∈g
    ·exact .inr e
    ·left
     cases hcu:come u with
     | true=>rfl
     | false=>exact absurd ⟨x,hx,u,hu,hcu,e⟩ hc
   obtain⟨a,ha,u,hu,hcu,hug⟩:=this
   obtain⟨k,hk,huk⟩:∃k∈gs,u∈k:=(h.cov u (hs a (h1.sub a ha) u hu)).resolve_left (by rw[hcu];simp)
   have h2:=h.grp k hk
   have hne:g≠k:=fun e=>hug (e▸huk)
   have hd:=BD (fun _ _=>Dj.symm) h.dj g hg k hk hne
   refine ih k hk ?_
   have:far succ V k<far succ V g:=by
    unfold far
    refine yG (h1.sub a ha) (fun x hx=>?_) ?_ ?_
    ·simp only[decide_eq_true_eq]at hx ⊢
     obtain⟨y,hy,hyx⟩:=hx
     exact⟨a,ha,.step hu ((((h2.mem u huk y).1 hy).1).trans hyx)⟩
    ·simp only[decide_eq_true_eq]
     exact⟨a,ha,.here⟩
    ·simp only[decide_eq_false_iff_not]
     rintro⟨y,hy,hya⟩
     have h3:y∈g:=(h1.mem a ha y).2 ⟨.step hu (((h2.mem u huk y).1 hy).1),hya⟩
     exact hd y h3 hy
   omega
theorem kW {g:List Int}{x:Int}:oh come g x=true↔come x=true∨x∈g:=by
 unfold oh
 rw[Ud,decide_eq_true_eq]
theorem OrH.next (h:OrH succ V come gs){k:Nat}(hk:k<gs.length)(hr:rdy succ come gs[k]=true):OrH succ V (oh come gs[k]) (gs.eraseIdx k):=by
 have hp:(gs[k]::gs.eraseIdx k).Perm gs:=qh hk
 have hm:∀g,g∈gs.eraseIdx k→g∈gs:=fun g hg=>List.mem_of_mem_eraseIdx hg
 have hdj:(gs[k]::gs.eraseIdx k).Pairwise Dj:=(hp.pairwise_iff (fun h=>Dj.symm h)).2 h.dj
 rw[Ub]at hdj
 refine⟨fun g hg=>h.grp g (hm g hg),hdj.2,fun x hx=>?_,fun g hg x hx=>?_,fun x hx u hu=>?_⟩
 ·rcases h.cov x hx with h'|⟨g,hg,hxg⟩
  ·exact .inl (kW.2 (.inl h'))
  ·rcases TI.1 (hp.mem_iff.2 hg)with rfl|h'
   ·exact .inl (kW.2 (.inr hxg))
   ·exact .inr ⟨g,h',hxg⟩
 ·rw[←Uf,kW,not_or,Uf]
  exact⟨h.cd g (hm g hg) x hx,fun h'=>hdj.1 g hg x h' hx⟩
 ·rw[kW]at hx ⊢
  rcases hx with hx|hx
  ·exact .inl (h.cl x hx u hu)
  ·exact xu.1 hr x hx u hu
theorem yH (hs:∀x∈V,∀u∈succ x,u∈V):∀(n:Nat)(come:Int→Bool)(gs:List (List Int)),OrH succ V come gs→gs.length≤n→(iE succ n come gs).Perm gs∧Kq succ come (iE succ n come gs)
 | 0,come,gs,h,hn=>by
  obtain rfl:gs=[]:=Tq.1 (by omega)
  exact⟨.refl _,trivial⟩
 | n+1,come,gs,h,hn=>by
  unfold iE
  cases hf:gs.findIdx? (rdy succ come)with
  | none =>
   rw[Uh]at hf
   cases gs with
   | nil=>exact⟨.refl _,trivial⟩
   | cons g l =>
    obtain⟨k,hk,hr⟩:=vT hs h _ g Ta (SA _)
    rw[hf k hk]at hr
    cases hr
  | some k =>
   rw[Ug]at hf
   obtain⟨hk,hr,_⟩:=hf
   have e:gs.getD k []=gs[k]:=by rw[TM,Sw hk];rfl
   simp only[e]
   obtain⟨h1,h2⟩:=yH hs n _ _ (h.next hk hr) (by rw[List.length_eraseIdx_of_lt hk];omega)
   exact⟨(h1.cons _).trans (qh hk),hr,h2⟩
theorem qj (gs:List (List Int)):(sortG gs).Perm gs:=List.mergeSort_perm _ _
theorem zQ (hV:V.Nodup)(hs:∀x∈V,∀u∈succ x,u∈V):(∀g∈iK succ V,Grp succ V g)∧(iK succ V).Pairwise Dj∧(∀x,x∈V↔∃g∈iK succ V,x∈g)∧Kq succ (fun _=>false) (iK succ V):=by
 obtain⟨h1,h2,h3⟩:=mH hV hs
 have hp:=qj (comps succ V.length V tj0).grs
 have hO:OrH succ V (fun _=>false) (sortG (comps succ V.length V tj0).grs):=by
  refine⟨fun g hg=>h1 g (hp.mem_iff.1 hg),(hp.pairwise_iff (fun h=>Dj.symm h)).2 h2,fun x hx=>.inr ?_,fun _ _ _ _=>rfl,fun _ h=>by cases h⟩
  obtain⟨g,hg,hx⟩:=(h3 x).1 hx
  exact⟨g,hp.mem_iff.2 hg,hx⟩
 obtain⟨k1,k2⟩:=yH hs _ _ _ hO (by rw[hp.length_eq];exact SA _)
 refine⟨fun g hg=>hO.grp g (k1.mem_iff.1 hg),(k1.pairwise_iff (fun h=>Dj.symm h)).2 hO.dj,fun x=>?_,k2⟩
 rw[h3 x]
 constructor
 ·rintro⟨g,hg,hx⟩
  exact⟨g,k1.mem_iff.2 (hp.mem_iff.2 hg),hx⟩
 ·rintro⟨g,hg,hx⟩
  exact⟨g,hp.mem_iff.1 (k1.mem_iff.1 hg),hx⟩
end
end Go.Proofs.Scc
namespace Go.Proofs.Scc
def Rp (succ:Int→List Int)(x y:Int):Prop:=∃u∈succ x,Rch succ u y
theorem oL {succ:Int→List Int}{x y:Int}:Rch succ x y↔x=y∨Rp succ x y:=by
 constructor
 ·intro h
  cases h with
  | here=>exact .inl rfl
  | step h1 h2=>exact .inr ⟨_,h1,h2⟩
 ·rintro (rfl|⟨u,h1,h2⟩)
  ·exact .here
  ·exact .step h1 h2
theorem Rp.rch {succ:Int→List Int}{x y:Int}(h:Rp succ x y):Rch succ x y:=oL.2 (.inr h)
theorem Rp.trans {succ:Int→List Int}{x y z:Int}(h:Rp succ x y)(g:Rp succ y z):Rp succ x z:=by
 obtain⟨u,h1,h2⟩:=h
 exact⟨u,h1,h2.trans g.rch⟩
def jw (n:Nat)(r:Nat→Nat→Bool)(c:Nat→Bool)(i:Nat):Bool:=(List.range n).all fun k=>!(r i k&&!r k i&&!c k)
def nO (n:Nat)(r:Nat→Nat→Bool)(c:Nat→Bool):Option Nat:=(List.range n).find? fun i=>!c i&&jw n r c i
def inR (r:Nat→Nat→Bool)(f i:Nat):Bool:=decide (i=f)||r i f&&r f i
def mg (V:List Int)(r:Nat→Nat→Bool)(f:Nat):List Int:=((List.range V.length).filter (inR r f)).map fun i=>V.getD i 0
def ig (V:List Int)(r:Nat→Nat→Bool):Nat→(Nat→Bool)→List (List Int)
 | 0,_=>[]
 | m+1,c=>match nO V.length r c with
  | none=>[]
  | some f=>mg V r f::ig V r m fun i=>c i||inR r f i
def sI (succ:Int→List Int)(V:List Int)(r:Nat→Nat→Bool):Prop:=∀i j,i<V.length→j<V.length→(r i j=true↔Rp succ (V.getD i 0) (V.getD j 0))
section
variable {succ:Int→List Int} {V:List Int} {come:Int→Bool} {gs:List (List Int)} {r:Nat→Nat→Bool} {c:Nat→Bool}
theorem uI {i:Nat}(h:i<V.length):V.getD i 0∈V:=by
 rw[TM,Sw h]
 exact Ul h
theorem kJ {x:Int}(h:x∈V):∃i,i<V.length∧V.getD i 0=x:=by
 obtain⟨i,hi,e⟩:=List.getElem_of_mem h
 exact⟨i,hi,by rw[TM,Sw hi];exact e⟩
theorem getD_lt (hV:V.Pairwise (· < ·)){i j:Nat}(h:i<j)(hj:j<V.length):V.getD i 0<V.getD j 0:=by
 rw[TM,Sw (Nat.lt_trans h hj),TM,Sw hj]
 exact List.pairwise_iff_getElem.1 hV i j _ hj h
theorem getD_inj (hV:V.Pairwise (· < ·)){i j:Nat}(hi:i<V.length)(hj:j<V.length)(e:V.getD i 0=V.getD j 0):i=j:=by
 rcases Nat.lt_trichotomy i j with h|h|h
 ·have:=getD_lt hV h hj;omega
 ·exact h
 ·have:=getD_lt hV h hi;omega
theorem Iw (hV':V.Pairwise (· < ·))(hs:∀x∈V,∀u∈succ x,u∈V)(h:OrH succ V come gs)(hr:sI succ V r)(hc:∀i,i<V.length→c i=come (V.getD i 0)){g:List Int}(hg:g∈gs){i:Nat}(hi:i<V.length)(hig:V.getD i 0∈g):jw V.length r c i=rdy succ come g:=by
 have hG:=h.grp g hg
 rw[Bool.eq_iff_iff,xu]
 unfold jw
 simp only[List.all_eq_true,List.mem_range,Bool.not_eq_true',Bool.and_eq_false_iff,Bool.not_eq_false']
 constructor
 ·intro h1 x hx u hu
  by_cases hug:u∈g
  ·exact .inr hug
  ·left
   obtain⟨k,hk,e⟩:=kJ (hs x (hG.sub x hx) u hu)
   have h2:Rch succ (V.getD i 0) x:=((hG.mem _ hig x).1 hx).1
   have h3:Rp succ (V.getD i 0) u:=by
    rcases oL.1 h2 with e'|h'
    ·rw[e'];exact⟨u,hu,.here⟩
    ·exact h'.trans ⟨u,hu,.here⟩
   rcases h1 k hk with (h'|h')|h'
   ·rw[(hr i k hi hk).2 (by rw[e];exact h3)]at h'
    cases h'
   ·exfalso
    have:=(hr k i hk hi).1 h'
    rw[e]at this
    exact hug ((hG.mem _ hig u).2 ⟨h3.rch,this.rch⟩)
   ·rw[hc k hk,e]at h'
    exact h'
 ·intro h1 k hk
  cases hik:r i k with
  | false=>exact .inl (.inl rfl)
  | true =>
   cases hki:r k i with
   | true=>exact .inl (.inr rfl)
   | false =>
    right
    rw[hc k hk]
    have h2:=(hr i k hi hk).1 hik
    have hn:V.getD k 0∉g:=fun hm=>by
     have h3:=((hG.mem _ hig _).1 hm).2
     rcases oL.1 h3 with e'|h'
     ·rw[getD_inj hV' hk hi e']at hki hik
      rw[hik]at hki
      cases hki
     ·rw[(hr k i hk hi).2 h']at hki
      cases hki
    obtain⟨a,b,ha,hb,hab,hbk⟩:=Rch.out (P:=fun x=>x∈g) h2.rch hig hn
    have hcb:=(h1 a ha b hab).resolve_right hb
    have hcl:∀{x z:Int},Rch succ x z→come x=true→come z=true:=fun hr=>by
     induction hr with
     | here=>exact fun h=>h
     | step h1 _ ih=>exact fun hx=>ih (h.cl _ hx _ h1)
    exact hcl hbk hcb
def LeH (a b:List Int):Prop:=bK a≤bK b
theorem BF (hV:V.Pairwise (· < ·))(hs:∀x∈V,∀u∈succ x,u∈V)(h:OrH succ V come gs)(hS:gs.Pairwise LeH)(hr:sI succ V r)(hc:∀i,i<V.length→c i=come (V.getD i 0)) :
  (nO V.length r c=none→gs=[])∧∀f,nO V.length r c=some f→∃k,∃hk:k<gs.length,gs.findIdx? (rdy succ come)=some k∧mg V r f=gs[k]∧f<V.length∧∀i,i<V.length→(c i||inR r f i)=oh come gs[k] (V.getD i 0):=by
 have hfind:∀i,i<V.length→∀g∈gs,V.getD i 0∈g→rdy succ come g=true→c i=false∧jw V.length r c i=true:=fun i hi g hg hig hrd=>⟨by rw[hc i hi];exact h.cd g hg _ hig,by rw[Iw hV hs h hr hc hg hi hig];exact hrd⟩
 constructor
 ·intro hn
  unfold nO at hn
  rw[List.find?_eq_none]at hn
  cases gs with
  | nil=>rfl
  | cons g0 l =>
   exfalso
   obtain⟨g,hg,hrd⟩:=vT hs h _ g0 Ta (SA _)
   obtain⟨i,hi,e⟩:=kJ ((h.grp g hg).sub _ (head_mem (h.grp g hg).ne))
   obtain⟨h1,h2⟩:=hfind i hi g hg (by rw[e];exact head_mem (h.grp g hg).ne) hrd
   exact hn i (List.mem_range.2 hi) (by rw[h1,h2];rfl)
 ·intro f hf
  unfold nO at hf
  rw[List.find?_range_eq_some]at hf
  obtain⟨hf1,hf2,hf3⟩:=hf
  have hfn:f<V.length:=List.mem_range.1 hf2
  rw[Ue,Bool.not_eq_true']at hf1
  obtain⟨g,hg,hfg⟩:∃g∈gs,V.getD f 0∈g:=(h.cov _ (uI hfn)).resolve_left (by rw[←hc f hfn,hf1.1];simp)
  have hrd:rdy succ come g=true:=by rw[←Iw hV hs h hr hc hg hfn hfg];exact hf1.2
  have hG:=h.grp g hg
  cases hk:gs.findIdx? (rdy succ come)with
  | none =>
   rw[Uh]at hk
   rw[hk g hg]at hrd
   cases hrd
  | some k =>
   rw[Ug]at hk
   obtain⟨hkl,hkr,hkf⟩:=hk
   have hgk:gs[k]∈gs:=Ul hkl
   have hK:=h.grp _ hgk
   have e:g=gs[k]:=by
    apply Classical.byContradiction
    intro hne
    obtain⟨m,hm,em⟩:=List.getElem_of_mem hg
    have hkm:k≤m:=by
     rcases Nat.lt_or_ge m k with h'|h'
     ·exact absurd (em▸hrd) (hkf m h')
     ·exact h'
    have h1:bK gs[k]≤bK g:=by
     rcases Nat.lt_or_ge k m with h'|h'
     ·have:=List.pairwise_iff_getElem.1 hS k m hkl hm h'
      rw[em]at this
      exact this
     ·exact absurd (by rw[←em];congr 1;omega) hne
    obtain⟨i0,hi0,e0⟩:=kJ (hK.sub _ (head_mem hK.ne))
    obtain⟨p1,p2⟩:=hfind i0 hi0 _ hgk (by rw[e0];exact head_mem hK.ne) hkr
    have h2:f≤i0:=by
     rcases Nat.lt_or_ge i0 f with h'|h'
     ·have:=hf3 i0 h'
      rw[p1,p2]at this
      simp at this
     ·exact h'
    have h3:V.getD f 0≤V.getD i0 0:=by
     rcases Nat.lt_or_ge f i0 with h'|h'
     ·exact Int.le_of_lt (getD_lt hV h' hi0)
     ·rw[show f=i0 by omega];exact Int.le_refl _
    have h4:=Mh hG.srt hfg
    have h5:bK g=bK gs[k]:=by omega
    exact BD (fun _ _=>Dj.symm) h.dj g hg _ hgk hne _ (head_mem hG.ne) (by rw[h5];exact head_mem hK.ne)
   have hin:∀i,i<V.length→(inR r f i=true↔V.getD i 0∈g):=fun i hi=>by
    unfold inR
    rw[Ud,Ue,decide_eq_true_eq,hr i f hi hfn,hr f i hfn hi,hG.mem _ hfg]
    constructor
    ·rintro (rfl|⟨h1,h2⟩)
     ·exact⟨.here,.here⟩
     ·exact⟨h2.rch,h1.rch⟩
    ·rintro⟨h1,h2⟩
     rcases oL.1 h1 with e'|h1
     ·exact .inl (getD_inj hV hi hfn e'.symm)
     ·rcases oL.1 h2 with e'|h2
      ·exact .inl (getD_inj hV hi hfn e')
      ·exact .inr ⟨h2,h1⟩
   refine⟨k,hkl,rfl,?_,hfn,fun i hi=>?_⟩
   ·rw[←e]
    refine wG ?_ hG.srt fun x=>?_
    ·unfold mg
     rw[List.pairwise_map]
     refine(List.pairwise_lt_range.filter _).imp_of_mem fun {a b} ha hb hab=>?_
     exact getD_lt hV hab (List.mem_range.1 (List.mem_filter.1 hb).1)
    ·unfold mg
     rw[TH]
     constructor
     ·rintro⟨i,hi,rfl⟩
      rw[List.mem_filter,List.mem_range]at hi
      exact(hin i hi.1).1 hi.2
     ·intro hx
      obtain⟨i,hi,rfl⟩:=kJ (hG.sub x hx)
      exact⟨i,List.mem_filter.2 ⟨List.mem_range.2 hi,(hin i hi).2 hx⟩,rfl⟩
   ·rw[←e,Bool.eq_iff_iff,Ud,kW,hin i hi,hc i hi]
theorem D7 (hV:V.Pairwise (· < ·))(hs:∀x∈V,∀u∈succ x,u∈V)(hr:sI succ V r):∀(m m':Nat)(come:Int→Bool)(gs:List (List Int))(c:Nat→Bool),OrH succ V come gs→gs.Pairwise LeH→(∀i,i<V.length→c i=come (V.getD i 0))→gs.length≤m→gs.length≤m'→ig V r m c=iE succ m' come gs
 | m,m',come,[],c,h,hS,hc,_,_=>by
  have e1:iE succ m' come []=[]:=by cases m' <;> rfl
  rw[e1]
  cases m with
  | zero=>rfl
  | succ m =>
   unfold ig
   cases hf:nO V.length r c with
   | none=>rfl
   | some f =>
    obtain⟨k,hk,_⟩:=(BF hV hs h hS hr hc).2 f hf
    cases hk
 | 0,_,_,_::_,_,_,_,_,hm,_=>by simp at hm
 | _+1,0,_,_::_,_,_,_,_,_,hm=>by simp at hm
 | m+1,m'+1,come,g0::l,c,h,hS,hc,hm,hm'=>by
  obtain⟨s1,s2⟩:=BF hV hs h hS hr hc
  unfold ig iE
  cases hf:nO V.length r c with
  | none=>exact absurd (s1 hf) (by simp)
  | some f =>
   obtain⟨k,hk,e1,e2,_,e3⟩:=s2 f hf
   have hrk:rdy succ come (g0::l)[k]=true:=by
    rw[Ug]at e1
    exact e1.2.1
   have eD:(g0::l).getD k []=(g0::l)[k]:=by rw[TM,Sw hk];rfl
   rw[e1]
   simp only[eD]
   rw[e2]
   congr 1
   refine D7 hV hs hr m m' _ _ _ (h.next hk hrk) (hS.sublist (List.eraseIdx_sublist _ _)) e3 ?_ ?_
   ·rw[List.length_eraseIdx_of_lt hk];omega
   ·rw[List.length_eraseIdx_of_lt hk];omega
theorem FR (hV:V.Pairwise (· < ·))(hs:∀x∈V,∀u∈succ x,u∈V)(hr:sI succ V r):ig V r V.length (fun _=>false)=iK succ V:=by
 have hn:=jL hV
 obtain⟨h1,h2,h3⟩:=mH hn hs
 have hok:=(oU hn hs V tj0 (fun _ h=>h) tO).1.ok
 have hp:=qj (comps succ V.length V tj0).grs
 have hO:OrH succ V (fun _=>false) (sortG (comps succ V.length V tj0).grs):=by
  refine⟨fun g hg=>h1 g (hp.mem_iff.1 hg),(hp.pairwise_iff (fun h=>Dj.symm h)).2 h2,fun x hx=>.inr ?_,fun _ _ _ _=>rfl,fun _ h=>by cases h⟩
  obtain⟨g,hg,hx⟩:=(h3 x).1 hx
  exact⟨g,hp.mem_iff.2 hg,hx⟩
 have hS:(sortG (comps succ V.length V tj0).grs).Pairwise LeH:=by
  have:=List.pairwise_mergeSort (le:=fun a b:List Int=>decide (bK a≤bK b)) (fun a b c h1 h2=>by simp only[decide_eq_true_eq]at *;omega) (fun a b=>by simp only[Ud,decide_eq_true_eq];omega) (comps succ V.length V tj0).grs
  exact this.imp fun h=>by simpa [LeH]using h
 refine D7 hV hs hr _ _ _ _ _ hO hS (fun _ _=>rfl) ?_ (by rw[hp.length_eq];exact SA _)
 rw[hp.length_eq]
 have k1:=hok.gr
 have k2:=hok.ct
 have k3:V.countP (fun x=>decide ((comps succ V.length V tj0).num x≠0))≤V.length:=Uc
 omega
end
end Go.Proofs.Scc
namespace Go.Proofs.Scc
def rnd (r:Nat→Nat→Bool)(k:Nat):Nat→Nat→Bool:=fun i j=>r i j||r i k&&r k j
def dL (r:Nat→Nat→Bool):Nat→Nat→Nat→Bool
 | 0=>r
 | k+1=>rnd (dL r k) k
def stg (r:Nat→Nat→Bool)(k i j:Nat):Nat→Nat→Bool:=fun a b=>if a<i∨a=i∧b<j then rnd r k a b else r a b
theorem D8 (r:Nat→Nat→Bool)(k i:Nat):rnd r k i k=r i k:=by
 unfold rnd
 cases r i k <;> simp
theorem D9 (r:Nat→Nat→Bool)(k j:Nat):rnd r k k j=r k j:=by
 unfold rnd
 cases r k j <;> simp
theorem Oq (r:Nat→Nat→Bool)(k i j:Nat):stg r k i j i j=r i j:=by
 unfold stg
 rw[TW (by omega)]
theorem Mi (r:Nat→Nat→Bool)(k i j a:Nat):stg r k i j a k=r a k:=by
 unfold stg
 split
 ·exact D8 r k a
 ·rfl
theorem Mj (r:Nat→Nat→Bool)(k i j b:Nat):stg r k i j k b=r k b:=by
 unfold stg
 split
 ·exact D9 r k b
 ·rfl
theorem Mk (r:Nat→Nat→Bool)(k i j:Nat):(stg r k i j i j||stg r k i j i k&&stg r k i j k j)=rnd r k i j:=by
 rw[Oq,Mi,Mj]
 rfl
theorem Ml (r:Nat→Nat→Bool)(k i j a b:Nat):(if a=i∧b=j then rnd r k i j else stg r k i j a b)=stg r k i (j+1) a b:=by
 unfold stg
 by_cases h:a=i∧b=j
 ·obtain⟨rfl,rfl⟩:=h
  rw[TY ⟨rfl,rfl⟩,TY (by omega)]
 ·rw[TW h]
  by_cases g:a<i∨a=i∧b<j
  ·rw[TY g,TY (by omega)]
  ·rw[TW g,TW (by omega)]
theorem Kr (r:Nat→Nat→Bool)(k i a b n:Nat)(hb:b<n):stg r k i n a b=stg r k (i+1) 0 a b:=by
 unfold stg
 by_cases g:a<i∨a=i∧b<n
 ·rw[TY g,TY (by omega)]
 ·rw[TW g,TW (by omega)]
theorem Kt (r:Nat→Nat→Bool)(k a b:Nat):stg r k 0 0 a b=r a b:=by
 unfold stg
 rw[TW (by omega)]
theorem Mq (r:Nat→Nat→Bool)(k a b n:Nat)(ha:a<n):stg r k n 0 a b=rnd r k a b:=by
 unfold stg
 rw[TY (by omega)]
section
variable {succ:Int→List Int} {V:List Int} {r:Nat→Nat→Bool}
theorem rF (i j:Nat)(h:r i j=true):∀k,dL r k i j=true
 | 0=>h
 | k+1=>by
  show (dL r k i j||_)=true
  rw[rF i j h k]
  rfl
theorem mX {i j k:Nat}:rnd r k i j=true↔r i j=true∨r i k=true∧r k j=true:=by
 unfold rnd
 rw[Ud,Ue]
theorem vU (r:Nat→Nat→Bool):∀k m,m<k→∀i j,dL r k i m=true→dL r k m j=true→dL r k i j=true
 | 0,m,hm=>absurd hm (Nat.not_lt_zero _)
 | k+1,m,hm=>by
  intro i j h1 h2
  have ih:=vU r k
  rcases Nat.lt_or_ge m k with hk|hk
  ·have h1':=mX.1 h1
   have h2':=mX.1 h2
   refine mX.2 ?_
   rcases h1' with a|⟨a,b⟩ <;> rcases h2' with c|⟨c,d⟩
   ·exact .inl (ih m hk i j a c)
   ·exact .inr ⟨ih m hk i k a c,d⟩
   ·exact .inr ⟨a,ih m hk k j b c⟩
   ·exact .inr ⟨a,d⟩
  ·obtain rfl:m=k:=by omega
   have e1:dL r (m+1) i m=dL r m i m:=D8 _ _ _
   have e2:dL r (m+1) m j=dL r m m j:=D9 _ _ _
   rw[e1]at h1
   rw[e2]at h2
   exact mX.2 (.inr ⟨h1,h2⟩)
theorem lW (h0:∀i j,i<V.length→j<V.length→r i j=true→Rp succ (V.getD i 0) (V.getD j 0)):∀k,k≤V.length→∀i j,i<V.length→j<V.length→dL r k i j=true→Rp succ (V.getD i 0) (V.getD j 0)
 | 0,_,i,j,hi,hj,h=>h0 i j hi hj h
 | k+1,hk,i,j,hi,hj,h=>by
  rcases mX.1 h with h'|⟨h1,h2⟩
  ·exact lW h0 k (by omega) i j hi hj h'
  ·exact(lW h0 k (by omega) i k hi (by omega) h1).trans (lW h0 k (by omega) k j (by omega) hj h2)
def ql (succ:Int→List Int)(V:List Int)(i j:Nat):Bool:=decide (V.getD j 0∈succ (V.getD i 0))
theorem Ku (hV:V.Pairwise (· < ·))(hs:∀x∈V,∀u∈succ x,u∈V){x z:Int}(h:Rch succ x z):∀i m j,m<V.length→j<V.length→V.getD m 0=x→V.getD j 0=z→dL (ql succ V) V.length i m=true→dL (ql succ V) V.length i j=true:=by
 induction h with
 | here =>
  intro i m j hm hj em ej hr
  obtain rfl:=getD_inj hV hm hj (em.trans ej.symm)
  exact hr
 | @step x y z h1 _ ih =>
  intro i m j hm hj em ej hr
  obtain⟨p,hp,ep⟩:=kJ (hs x (em▸uI hm) y h1)
  have hd:ql succ V m p=true:=by
   unfold ql
   rw[em,ep]
   exact SI h1
  exact ih i p j hp hj ep ej (vU _ _ m hm i p hr (rF m p hd _))
theorem Kv (hV:V.Pairwise (· < ·))(hs:∀x∈V,∀u∈succ x,u∈V):sI succ V (dL (ql succ V) V.length):=by
 intro i j hi hj
 constructor
 ·exact lW (fun a b _ _ h=>⟨_,SK h,.here⟩) _ (SA _) i j hi hj
 ·rintro⟨u,h1,h2⟩
  obtain⟨p,hp,ep⟩:=kJ (hs _ (uI hi) u h1)
  have hd:ql succ V i p=true:=by
   unfold ql
   rw[ep]
   exact SI h1
  exact Ku hV hs h2 i p j hp hj ep rfl (rF i p hd _)
end
end Go.Proofs.Scc
