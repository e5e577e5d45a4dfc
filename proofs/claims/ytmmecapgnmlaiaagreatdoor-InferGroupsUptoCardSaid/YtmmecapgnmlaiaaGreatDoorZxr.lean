/- infer, plainly: the groups by depth-first search -/
import Derived.Test.YtmmecapgnmlaiaaGreatDoorZz
set_option maxRecDepth 100000
set_option maxHeartbeats 16000000
namespace Go.Proofs.Scc
structure Tj where
 num:Int→Int
 cnt:Nat
 low:Int→Int
 dn:Int→Bool
 opn:List Int
 grs:List (List Int)
def upd {α:Type}(f:Int→α)(a:Int)(v:α):Int→α:=fun x=>if x=a then v else f x
def leI (a b:Int):Bool:=decide (a≤b)
def gN (l:List Int):List Int:=l.mergeSort leI
def enter (id:Int)(σ:Tj):Tj:={ σ with num:=upd σ.num id (σ.cnt+1),cnt:=σ.cnt+1,low:=upd σ.low id (σ.cnt+1),opn:=σ.opn++[id] }
def jY (id:Int)(z:Int)(σ:Tj):Tj:={ σ with low:=upd σ.low id (min (σ.low id) z) }
def edge (vis:Int→Tj→Tj)(id u:Int)(σ:Tj):Tj:=
 if σ.num u=0 then jY id ((vis u σ).low u) (vis u σ)
 else if σ.dn u=false then jY id (σ.num u) σ else σ
def edges (vis:Int→Tj→Tj)(id:Int):List Int→Tj→Tj
 | [],σ=>σ
 | u::l,σ=>edges vis id l (edge vis id u σ)
def qW (id:Int)(σ:Tj):Tj:=
 { σ with opn:=σ.opn.take (σ.opn.idxOf id),dn:=fun x=>σ.dn x||(σ.opn.drop (σ.opn.idxOf id)).contains x,grs:=σ.grs++[gN (σ.opn.drop (σ.opn.idxOf id))] }
def close (id:Int)(σ:Tj):Tj:=if σ.low id<σ.num id then σ else qW id σ
def visit (succ:Int→List Int):Nat→Int→Tj→Tj
 | 0,_,σ=>σ
 | f+1,id,σ=>close id (edges (visit succ f) id (succ id) (enter id σ))
def comps (succ:Int→List Int)(f:Nat):List Int→Tj→Tj
 | [],σ=>σ
 | d::l,σ=>comps succ f l (if σ.num d=0 then visit succ f d σ else σ)
def tj0:Tj:=⟨fun _=>0,0,fun _=>0,fun _=>false,[],[]⟩
structure Ok (V:List Int)(σ:Tj):Prop where
 n0:∀x,0≤σ.num x∧σ.num x≤σ.cnt
 nV:∀x,σ.num x≠0→x∈V
 op:∀x∈σ.opn,σ.num x≠0
 od:σ.opn.Nodup
 ct:σ.cnt=V.countP fun x=>decide (σ.num x≠0)
 gr:σ.grs.length+σ.opn.length≤σ.cnt
structure Le (σ τ:Tj):Prop where
 num:∀x,σ.num x≠0→τ.num x=σ.num x
 cnt:σ.cnt≤τ.cnt
 pre:σ.opn <+: τ.opn
theorem Le.refl (σ:Tj):Le σ σ:=⟨fun _ _=>rfl,SA _,List.prefix_refl _⟩
theorem Le.trans {σ τ υ:Tj}(h:Le σ τ)(g:Le τ υ):Le σ υ:=⟨fun x hx=>(g.num x (by rw[h.num x hx];exact hx)).trans (h.num x hx),SE h.cnt g.cnt,h.pre.trans g.pre⟩
theorem upd_same {α:Type}(f:Int→α)(a:Int)(v:α):upd f a v a=v:=by simp[upd]
theorem upd_ne {α:Type}(f:Int→α){a x:Int}(v:α)(h:x≠a):upd f a v x=f x:=by simp[upd,h]
theorem Ii {V:List Int}(hV:V.Nodup){id:Int}(hi:id∈V){p q:Int→Bool}(h1:p id=false)(h2:q id=true)(h3:∀x,x≠id→q x=p x):V.countP q=V.countP p+1:=by
 induction V with
 | nil=>cases hi
 | cons a l ih =>
  rw[List.nodup_cons]at hV
  by_cases e:a=id
  ·subst e
   have:l.countP q=l.countP p:=List.countP_congr fun x hx=>by rw[h3 x fun e=>hV.1 (e▸hx)]
   rw[List.countP_cons_of_pos h2,List.countP_cons_of_neg (by rw[h1];simp),this]
  ·have h4:=ih hV.2 ((TI.1 hi).resolve_left fun e'=>e e'.symm)
   have h5:=h3 a e
   cases hp:p a with
   | true=>rw[List.countP_cons_of_pos (by rw[h5];exact hp),List.countP_cons_of_pos hp,h4]
   | false=>rw[List.countP_cons_of_neg (by rw[h5,hp];simp),List.countP_cons_of_neg (by rw[hp];simp),h4]
theorem J2 {V:List Int}{id:Int}(hi:id∈V){p:Int→Bool}(h1:p id=false):V.countP p<V.length:=by
 refine Nat.lt_of_le_of_ne Uc fun e=>?_
 rw[List.countP_eq_length]at e
 rw[e id hi]at h1
 cases h1
section
variable {V:List Int} {σ τ:Tj} {id u:Int}
theorem Ok.lt (h:Ok V σ)(hi:id∈V)(h0:σ.num id=0):σ.cnt<V.length:=by
 rw[h.ct]
 exact J2 hi (by simp[h0])
theorem Ok.enter (hV:V.Nodup)(h:Ok V σ)(hi:id∈V)(h0:σ.num id=0):Ok V (enter id σ)∧Le σ (enter id σ)∧(Scc.enter id σ).num id≠0:=by
 have hne:∀x,σ.num x≠0→x≠id:=fun x hx e=>hx (e▸h0)
 refine⟨⟨fun x=>?_,fun x hx=>?_,fun x hx=>?_,?_,?_,?_⟩,⟨fun x hx=>upd_ne _ _ (hne x hx),Nat.le_succ _,List.prefix_append _ _⟩,?_⟩
 ·show 0≤upd σ.num id (σ.cnt+1) x∧upd σ.num id (σ.cnt+1) x≤((σ.cnt+1:Nat):Int)
  by_cases e:x=id
  ·subst e;rw[upd_same];omega
  ·rw[upd_ne _ _ e];have:=h.n0 x;omega
 ·change upd σ.num id (σ.cnt+1) x≠0 at hx
  by_cases e:x=id
  ·exact e▸hi
  ·rw[upd_ne _ _ e]at hx;exact h.nV x hx
 ·show upd σ.num id (σ.cnt+1) x≠0
  rcases Td.1 hx with h'|h'
  ·rw[upd_ne _ _ (hne x (h.op x h'))];exact h.op x h'
  ·rw[Te.1 h',upd_same];omega
 ·show (σ.opn++[id]).Nodup
  rw[List.nodup_append]
  exact⟨h.od,by simp,fun a ha b hb e=>hne a (h.op a ha) (e.trans (Te.1 hb))⟩
 ·have:=Ii hV hi (p:=fun x=>decide (σ.num x≠0)) (q:=fun x=>decide (upd σ.num id (σ.cnt+1) x≠0)) (by simp[h0]) (by rw[upd_same];simp;omega) (fun x hx=>by rw[upd_ne _ _ hx])
  rw[←h.ct]at this
  exact this.symm
 ·show σ.grs.length+(σ.opn++[id]).length≤σ.cnt+1
  have:=h.gr
  rw[SX,SY]
  omega
 ·show upd σ.num id (σ.cnt+1) id≠0
  rw[upd_same];omega
theorem Ok.low (h:Ok V σ)(z:Int):Ok V (jY id z σ):=⟨h.n0,h.nV,h.op,h.od,h.ct,h.gr⟩
theorem wW {l m:List Int}(h:l++[id] <+: m)(hn:id∉l):m.idxOf id=l.length∧l.length<m.length:=by
 obtain⟨t,rfl⟩:=h
 refine⟨?_,by simp⟩
 have:∀(l t:List Int),id∉l→(l++[id]++t).idxOf id=l.length:=by
  intro l t hn
  induction l with
  | nil=>simp
  | cons a l ih =>
   rw[TI,not_or]at hn
   have e:(a==id)=false:=by simpa using fun e=>hn.1 e.symm
   simp only[TU,List.idxOf_cons,e,TS,cond_false]
   rw[ih hn.2]
 exact this l t hn
theorem Ok.pop (h:Ok V σ)(hi:id∈σ.opn):Ok V (qW id σ):=by
 have hl:σ.opn.idxOf id<σ.opn.length:=List.idxOf_lt_length_of_mem hi
 refine⟨h.n0,h.nV,fun x hx=>h.op x (List.mem_of_mem_take hx),h.od.sublist (List.take_sublist _ _),h.ct,?_⟩
 show (σ.grs++[_]).length+(σ.opn.take _).length≤σ.cnt
 have:=h.gr
 rw[SX,SY,Um]
 omega
theorem p8 {vis:Int→Tj→Tj}{p:Int→Prop}(wX:∀u σ,Ok V σ→p u→σ.num u=0→τ.cnt≤σ.cnt→Ok V (vis u σ)∧Le σ (vis u σ)):∀(l:List Int)(σ:Tj),(∀u∈l,p u)→Ok V σ→τ.cnt≤σ.cnt→Ok V (edges vis id l σ)∧Le σ (edges vis id l σ)
 | [],σ,_,h,_=>⟨h,Le.refl σ⟩
 | u::l,σ,hl,h,hc=>by
  have h1:Ok V (edge vis id u σ)∧Le σ (edge vis id u σ):=by
   unfold edge
   split
   ·rename_i h0
    obtain⟨k1,k2⟩:=wX u σ h (hl u Ta) h0 hc
    exact⟨k1.low _,k2.num,k2.cnt,k2.pre⟩
   ·split
    ·exact⟨h.low _,fun _ _=>rfl,SA _,List.prefix_refl _⟩
    ·exact⟨h,Le.refl σ⟩
  obtain⟨k1,k2⟩:=p8 wX l _ (fun z hz=>hl z (Tc _ hz)) h1.1 (SE hc h1.2.cnt)
  exact⟨k1,h1.2.trans k2⟩
theorem p9 {succ:Int→List Int}(hV:V.Nodup)(hs:∀x∈V,∀u∈succ x,u∈V):∀(f:Nat)(id:Int)(σ:Tj),Ok V σ→id∈V→σ.num id=0→V.length≤f+σ.cnt→Ok V (visit succ f id σ)∧Le σ (visit succ f id σ)∧(visit succ f id σ).num id≠0
 | 0,id,σ,h,hi,h0,hf=>by have:=h.lt hi h0;omega
 | f+1,id,σ,h,hi,h0,hf=>by
  obtain⟨e1,e2,e3⟩:=h.enter hV hi h0
  obtain⟨k1,k2⟩:=p8 (V:=V) (τ:=enter id σ) (id:=id) (vis:=visit succ f) (p:=fun u=>u∈V) (fun u τ' hτ hu hu0 hc=>by
   obtain⟨a,b,_⟩:=p9 hV hs f u τ' hτ hu hu0 (by
    have:(enter id σ).cnt=σ.cnt+1:=rfl
    omega)
   exact⟨a,b⟩) (succ id) _ (hs id hi) e1 (SA _)
  have hnot:id∉σ.opn:=fun hm=>h.op id hm h0
  have hmem:id∈(edges (visit succ f) id (succ id) (enter id σ)).opn:=k2.pre.subset (by simp[enter])
  have NS:(edges (visit succ f) id (succ id) (enter id σ)).num id≠0:=by rw[k2.num id e3];exact e3
  have hle:=e2.trans k2
  unfold visit close
  split
  ·exact⟨k1,hle,NS⟩
  ·refine⟨k1.pop hmem,⟨hle.num,hle.cnt,?_⟩,NS⟩
   show σ.opn <+: (edges (visit succ f) id (succ id) (enter id σ)).opn.take _
   obtain⟨i1,i2⟩:=wW (id:=id) (l:=σ.opn) k2.pre hnot
   rw[i1]
   exact(List.prefix_take_iff.2 ⟨hle.pre,SA _⟩)
end
theorem Ok.start (V:List Int):Ok V tj0:=by
 refine⟨fun _=>by simp[tj0],fun _ h=>absurd rfl h,by simp[tj0],by simp[tj0],?_,by simp[tj0]⟩
 show 0=V.countP fun x=>decide ((0:Int)≠0)
 simp
end Go.Proofs.Scc
namespace Go.Proofs.Scc
inductive Rch (succ:Int→List Int):Int→Int→Prop where
 | here {x:Int}:Rch succ x x
 | step {x y z:Int}:y∈succ x→Rch succ y z→Rch succ x z
theorem Rch.trans {succ:Int→List Int}{x y z:Int}(h:Rch succ x y)(g:Rch succ y z):Rch succ x z:=by
 induction h with
 | here=>exact g
 | step h1 _ ih=>exact .step h1 (ih g)
theorem Rch.one {succ:Int→List Int}{x y:Int}(h:y∈succ x):Rch succ x y:=.step h .here
theorem Rch.out {succ:Int→List Int}{P:Int→Prop} [DecidablePred P]{x z:Int}(h:Rch succ x z):P x→¬P z→∃a b,P a∧¬P b∧b∈succ a∧Rch succ b z:=by
 induction h with
 | here=>exact fun h1 h2=>absurd h1 h2
 | @step x y z h1 h2 ih =>
  intro hx hz
  by_cases hy:P y
  ·exact ih hy hz
  ·exact⟨x,y,hx,hy,h1,h2⟩
structure Grp (succ:Int→List Int)(V:List Int)(g:List Int):Prop where
 ne:g≠[]
 srt:g.Pairwise (· < ·)
 sub:∀x∈g,x∈V
 mem:∀x∈g,∀y,y∈g↔Rch succ x y∧Rch succ y x
structure Iv (succ:Int→List Int)(V:List Int)(G:Int→Prop)(σ:Tj):Prop where
 ok:Ok V σ
 go:∀x,G x→x∈σ.opn
 st:∀x,x∈σ.opn↔σ.num x≠0∧σ.dn x=false
 srt:σ.opn.Pairwise fun x y=>σ.num x<σ.num y
 dnn:∀x,σ.dn x=true→σ.num x≠0
 cl:∀x,σ.dn x=true→∀u∈succ x,σ.dn u=true
 nb:∀x∈σ.opn,¬G x→∀u∈succ x,σ.num u≠0
 r1:∀x,G x→∀y∈σ.opn,σ.num x≤σ.num y→Rch succ x y
 r2:∀y∈σ.opn,∃x,G x∧σ.num x≤σ.num y∧Rch succ y x
 gr:∀g∈σ.grs,Grp succ V g
 un:∀x,σ.dn x=true↔∃g∈σ.grs,x∈g
 dj:σ.grs.Pairwise fun g h=>∀x∈g,x∉h
structure Lf (σ τ:Tj):Prop where
 num:∀x,σ.num x≠0→τ.num x=σ.num x
 low:∀x,σ.num x≠0→τ.low x=σ.low x
 new:∀x,σ.num x=0→τ.num x≠0→(σ.cnt:Int)<τ.num x
 cnt:σ.cnt≤τ.cnt
 pre:σ.opn <+: τ.opn
 dn:∀x,σ.dn x=true→τ.dn x=true
theorem Lf.trans {σ τ υ:Tj}(h:Lf σ τ)(g:Lf τ υ):Lf σ υ:=by
 have e:∀x,σ.num x≠0→τ.num x≠0:=fun x hx=>by rw[h.num x hx];exact hx
 refine⟨fun x hx=>(g.num x (e x hx)).trans (h.num x hx),fun x hx=>(g.low x (e x hx)).trans (h.low x hx),fun x h0 h1=>?_,SE h.cnt g.cnt,h.pre.trans g.pre,fun x hx=>g.dn x (h.dn x hx)⟩
 by_cases ht:τ.num x=0
 ·have:=g.new x ht h1
  have:=h.cnt
  omega
 ·rw[g.num x ht]
  exact h.new x h0 ht
structure Vp (succ:Int→List Int)(V:List Int)(G:Int→Prop)(id:Int)(σ τ:Tj):Prop where
 iv:Iv succ V G τ
 lf:Lf σ τ
 nz:τ.num id≠0
 lo:(τ.dn id=true∧τ.num id≤τ.low id)∨(τ.low id<τ.num id∧∃y∈σ.opn,σ.num y=τ.low id∧Rch succ id y)
 xe:∀x∈τ.opn,x∉σ.opn→∀y∈succ x,y∈σ.opn→τ.low id≤σ.num y
section
variable {succ:Int→List Int} {V:List Int} {G:Int→Prop} {σ τ:Tj} {id:Int}
theorem kH {α:Type}{l m:List α}(h:l <+: m){x:α}(hx:x∈l):x∈m:=h.subset hx
theorem vK (hs:τ.opn.Pairwise fun x y=>τ.num x<τ.num y)(hp:σ.opn++[id] <+: τ.opn){y:Int}(hy:y∈τ.opn)(hl:τ.num y<τ.num id):y∈σ.opn:=by
 obtain⟨t,ht⟩:=hp
 rw[←ht]at hy hs
 rw[TR,Td]at hy
 rcases hy with h|h
 ·exact h
 ·rw[TR,List.pairwise_append]at hs
  have h2:=hs.2.1
  rw[List.singleton_append,Ub]at h2
  rcases TI.1 h with rfl|h
  ·omega
  ·have:=h2.1 y h
   omega
theorem LY (hs:τ.opn.Pairwise fun x y=>τ.num x<τ.num y)(hp:σ.opn++[id] <+: τ.opn){y:Int}(hy:y∈τ.opn)(hn:y∉σ.opn):τ.num id≤τ.num y:=by
 rcases Int.lt_or_le (τ.num y) (τ.num id)with h|h
 ·exact absurd (vK hs hp hy h) hn
 ·exact h
structure Lp (succ:Int→List Int)(V:List Int)(G:Int→Prop)(id:Int)(σ:Tj)(done:List Int)(τ:Tj):Prop where
 iv:Iv succ V (fun x=>G x∨x=id) τ
 lf:Lf σ τ
 pre:σ.opn++[id] <+: τ.opn
 nz:τ.num id≠0
 lo:τ.low id≤τ.num id∧∃y∈τ.opn,τ.num y=τ.low id∧Rch succ id y
 xe:∀x∈τ.opn,x∉σ.opn→x≠id→∀y∈succ x,y∈σ.opn→τ.low id≤σ.num y
 pr:∀u∈done,τ.num u≠0∧(u∈σ.opn→τ.low id≤σ.num u)
theorem Iv.jY (h:Iv succ V G τ)(id z:Int):Iv succ V G (jY id z τ):=⟨h.ok.low z,h.go,h.st,h.srt,h.dnn,h.cl,h.nb,h.r1,h.r2,h.gr,h.un,h.dj⟩
theorem Lp.lower {done:List Int}(h:Lp succ V G id σ done τ)(hσ:σ.num id=0){z:Int}(hz:τ.low id≤z∨∃y∈τ.opn,τ.num y=z∧Rch succ id y){u:Int}(hu:τ.num u≠0∧(u∈σ.opn→min (τ.low id) z≤σ.num u)):Lp succ V G id σ (u::done) (jY id z τ):=by
 have el:(jY id z τ).low id=min (τ.low id) z:=upd_same _ _ _
 have hm:min (τ.low id) z≤τ.low id:=by omega
 refine⟨h.iv.jY id z,⟨h.lf.num,fun x hx=>?_,h.lf.new,h.lf.cnt,h.lf.pre,h.lf.dn⟩,h.pre,h.nz,?_,fun x hx h1 h2 y hy hy2=>?_,fun v hv=>?_⟩
 ·show upd τ.low id _ x=_
  rw[upd_ne _ _ (fun e=>hx (by rw[e];exact hσ))]
  exact h.lf.low x hx
 ·rw[el]
  refine⟨Int.le_trans hm h.lo.1,?_⟩
  by_cases e:τ.low id≤z
  ·rw[show min (τ.low id) z=τ.low id by omega]
   exact h.lo.2
  ·rw[show min (τ.low id) z=z by omega]
   rcases hz with h'|h'
   ·exact absurd h' e
   ·exact h'
 ·rw[el]
  exact Int.le_trans hm (h.xe x hx h1 h2 y hy hy2)
 ·rw[el]
  rcases TI.1 hv with rfl|hv
  ·exact hu
  ·exact⟨(h.pr v hv).1,fun h'=>Int.le_trans hm ((h.pr v hv).2 h')⟩
theorem LZ {vis:Int→Tj→Tj}{done:List Int}{u:Int}(hu:u∈succ id)(hσ:σ.num id=0)(hi:Iv succ V G σ)
  (wX:∀τ,Iv succ V (fun x=>G x∨x=id) τ→τ.num u=0→(∀x,G x∨x=id→Rch succ x u)→σ.cnt<τ.cnt→Vp succ V (fun x=>G x∨x=id) u τ (vis u τ))
  (h:Lp succ V G id σ done τ):Lp succ V G id σ (u::done) (edge vis id u τ):=by
 have hio:id∈τ.opn:=kH h.pre (by simp)
 have hoe:∀x∈σ.opn,τ.num x=σ.num x:=fun x hx=>h.lf.num x ((hi.st x).1 hx).1
 unfold edge
 split
 ·rename_i h0
  have hc:σ.cnt<τ.cnt:=by
   have h1:=h.lf.new id hσ h.nz
   have h2:=(h.iv.ok.n0 id).2
   omega
  have hr:∀x,G x∨x=id→Rch succ x u:=by
   intro x hx
   rcases hx with hx|rfl
   ·refine(h.iv.r1 x (.inl hx) id hio ?_).trans (.one hu)
    have h1:=hi.go x hx
    have h2:=hoe x h1
    have h3:=h.lf.new id hσ h.nz
    have h4:=(hi.ok.n0 x).2
    omega
   ·exact .one hu
  have hv:=wX τ h.iv h0 hr hc
  have hne:u≠id:=fun e=>h.nz (e▸h0)
  have NT:(vis u τ).num id=τ.num id:=hv.lf.num id h.nz
  have Qv:(vis u τ).low id=τ.low id:=hv.lf.low id h.nz
  have hlu:τ.low id≤(vis u τ).low u∨∃y∈(vis u τ).opn,(vis u τ).num y=(vis u τ).low u∧Rch succ id y:=by
   rcases hv.lo with⟨_,h1⟩|⟨_,y,hy,e,hr⟩
   ·left
    have h2:=hv.lf.new u h0 hv.nz
    have h3:=(h.iv.ok.n0 id).2
    have h4:=h.lo.1
    omega
   ·right
    exact⟨y,kH hv.lf.pre hy,by rw[hv.lf.num y ((h.iv.st y).1 hy).1];exact e,(Rch.one hu).trans hr⟩
  have hL:Lp succ V G id σ done (jY id ((vis u τ).low u) (vis u τ))∧((vis u τ).num u≠0):=by
   refine⟨?_,hv.nz⟩
   have el:(jY id ((vis u τ).low u) (vis u τ)).low id=min (τ.low id) ((vis u τ).low u):=by
    show upd (vis u τ).low id (min ((vis u τ).low id) _) id=_
    rw[upd_same,Qv]
   have hm:min (τ.low id) ((vis u τ).low u)≤τ.low id:=by omega
   refine⟨hv.iv.jY _ _,⟨fun x hx=>?_,fun x hx=>?_,(h.lf.trans hv.lf).new,(h.lf.trans hv.lf).cnt,(h.lf.trans hv.lf).pre,(h.lf.trans hv.lf).dn⟩,h.pre.trans hv.lf.pre,?_,?_,fun x hx h1 h2 y hy hy2=>?_,fun v hv'=>?_⟩
   ·exact(h.lf.trans hv.lf).num x hx
   ·show upd (vis u τ).low id _ x=_
    rw[upd_ne _ _ (fun e=>hx (by rw[e];exact hσ))]
    exact(h.lf.trans hv.lf).low x hx
   ·show (vis u τ).num id≠0
    rw[NT]
    exact h.nz
   ·rw[el]
    show _≤(vis u τ).num id∧_
    rw[NT]
    refine⟨Int.le_trans hm h.lo.1,?_⟩
    by_cases e:τ.low id≤(vis u τ).low u
    ·rw[show min (τ.low id) ((vis u τ).low u)=τ.low id by omega]
     obtain⟨y,hy,e,hr⟩:=h.lo.2
     exact⟨y,kH hv.lf.pre hy,(hv.lf.num y ((h.iv.st y).1 hy).1).trans e,hr⟩
    ·rw[show min (τ.low id) ((vis u τ).low u)=(vis u τ).low u by omega]
     rcases hlu with h'|h'
     ·exact absurd h' e
     ·exact h'
   ·rw[el]
    by_cases hxo:x∈τ.opn
    ·exact Int.le_trans hm (h.xe x hxo h1 h2 y hy hy2)
    ·have h3:=hv.xe x hx hxo y hy (kH (List.prefix_append _ _ |>.trans h.pre) hy2)
     rw[hoe y hy2]at h3
     omega
   ·rw[el]
    have h3:=h.pr v hv'
    refine⟨?_,fun h'=>Int.le_trans hm (h3.2 h')⟩
    show (vis u τ).num v≠0
    rw[hv.lf.num v h3.1]
    exact h3.1
  refine⟨hL.1.iv,hL.1.lf,hL.1.pre,hL.1.nz,hL.1.lo,hL.1.xe,fun v hv'=>?_⟩
  rcases TI.1 hv' with rfl|hv'
  ·exact⟨hL.2,fun h'=>absurd (h.lf.num v ((hi.st v).1 h').1▸h0) ((hi.st v).1 h').1⟩
  ·exact hL.1.pr v hv'
 ·rename_i h0
  split
  ·rename_i hd
   have huo:u∈τ.opn:=(h.iv.st u).2 ⟨h0,hd⟩
   exact h.lower hσ (.inr ⟨u,huo,rfl,.one hu⟩) ⟨h0,fun h'=>by rw[hoe u h'];omega⟩
  ·rename_i hd
   refine⟨h.iv,h.lf,h.pre,h.nz,h.lo,h.xe,fun v hv=>?_⟩
   rcases TI.1 hv with rfl|hv
   ·refine⟨h0,fun h'=>?_⟩
    have:=((h.iv.st v).1 (kH (List.prefix_append _ _ |>.trans h.pre) h')).2
    exact absurd this hd
   ·exact h.pr v hv
theorem AZ {vis:Int→Tj→Tj}(hσ:σ.num id=0)(hi:Iv succ V G σ):∀(l:List Int)(done:List Int)(τ:Tj),(∀u∈l,u∈succ id) →
  (∀u∈l,∀τ,Iv succ V (fun x=>G x∨x=id) τ→τ.num u=0→(∀x,G x∨x=id→Rch succ x u)→σ.cnt<τ.cnt→Vp succ V (fun x=>G x∨x=id) u τ (vis u τ)) →
  Lp succ V G id σ done τ→∃done',(∀u,u∈done∨u∈l→u∈done')∧Lp succ V G id σ done' (edges vis id l τ)
 | [],done,τ,_,_,h=>⟨done,fun u hu=>hu.resolve_right (by simp),h⟩
 | u::l,done,τ,hl,hv,h=>by
  obtain⟨d,h1,h2⟩:=AZ hσ hi l (u::done) (edge vis id u τ) (fun z hz=>hl z (Tc _ hz)) (fun z hz=>hv z (Tc _ hz)) (LZ (hl u Ta) hσ hi (hv u Ta) h)
  refine⟨d,fun z hz=>h1 z ?_,h2⟩
  rcases hz with hz|hz
  ·exact .inl (Tc _ hz)
  ·rcases TI.1 hz with rfl|hz
   ·exact .inl Ta
   ·exact .inr hz
theorem J3 (hV:V.Nodup)(hi:Iv succ V G σ)(hm:id∈V)(h0:σ.num id=0)(hG:∀x,G x→Rch succ x id):Lp succ V G id σ [] (enter id σ):=by
 obtain⟨e1,e2,e3⟩:=hi.ok.enter hV hm h0
 have hne:∀x,σ.num x≠0→x≠id:=fun x hx e=>hx (e▸h0)
 have hno:id∉σ.opn:=fun h=>((hi.st id).1 h).1 h0
 have en:(enter id σ).num id=(σ.cnt:Int)+1:=upd_same _ _ _
 have en':∀x,x≠id→(enter id σ).num x=σ.num x:=fun x hx=>upd_ne _ _ hx
 have hnd:σ.dn id=false:=by
  cases hd:σ.dn id with
  | false=>rfl
  | true=>exact absurd h0 (hi.dnn id hd)
 have eo:(enter id σ).opn=σ.opn++[id]:=rfl
 refine⟨⟨e1,fun x hx=>?_,fun x=>?_,?_,fun x hx=>?_,hi.cl,fun x hx hg u hu=>?_,fun x hx y hy hl=>?_,fun y hy=>?_,hi.gr,hi.un,hi.dj⟩,⟨e2.num,fun x hx=>upd_ne _ _ (hne x hx),fun x hx hx'=>?_,e2.cnt,e2.pre,fun x hx=>hx⟩,List.prefix_refl _,e3,?_,?_,fun u hu=>by cases hu⟩
 ·rw[eo]
  rcases hx with hx|rfl
  ·exact List.mem_append_left _ (hi.go x hx)
  ·simp
 ·rw[eo,Td,Te]
  by_cases e:x=id
  ·subst e
   exact⟨fun _=>⟨e3,hnd⟩,fun _=>.inr rfl⟩
  ·rw[en' x e,hi.st x]
   exact⟨fun h=>h.resolve_right e,.inl⟩
 ·rw[eo,List.pairwise_append]
  refine⟨hi.srt.imp_of_mem fun ha hb hab=>?_,by simp,fun a ha b hb=>?_⟩
  ·rw[en' _ (hne _ ((hi.st _).1 ha).1),en' _ (hne _ ((hi.st _).1 hb).1)]
   exact hab
  ·rw[Te.1 hb,en,en' _ (hne _ ((hi.st _).1 ha).1)]
   have:=(hi.ok.n0 a).2
   omega
 ·by_cases e:x=id
  ·subst e;exact e3
  ·rw[en' x e];exact hi.dnn x hx
 ·have hxi:x≠id:=fun e=>hg (.inr e)
  have hxo:x∈σ.opn:=by
   rw[eo,Td,Te]at hx
   exact hx.resolve_right hxi
  have:=hi.nb x hxo (fun h=>hg (.inl h)) u hu
  rw[en' u (hne u this)]
  exact this
 ·rw[eo,Td,Te]at hy
  rcases hx with hx|rfl
  ·rcases hy with hy|rfl
   ·rw[en' _ (hne _ ((hi.st _).1 hy).1),en' _ (hne _ ((hi.st _).1 (hi.go x hx)).1)]at hl
    exact hi.r1 x hx y hy hl
   ·exact hG x hx
  ·rcases hy with hy|rfl
   ·rw[en,en' _ (hne _ ((hi.st _).1 hy).1)]at hl
    have:=(hi.ok.n0 y).2
    omega
   ·exact .here
 ·rw[eo,Td,Te]at hy
  rcases hy with hy|rfl
  ·obtain⟨x,h1,h2,h3⟩:=hi.r2 y hy
   exact⟨x,.inl h1,by rw[en' _ (hne _ ((hi.st _).1 hy).1),en' _ (hne _ ((hi.st _).1 (hi.go x h1)).1)];exact h2,h3⟩
  ·exact⟨y,.inr rfl,Int.le_refl _,.here⟩
 ·by_cases e:x=id
  ·subst e;rw[en];omega
  ·rw[en' x e]at hx';exact absurd hx hx'
 ·have el:(enter id σ).low id=(σ.cnt:Int)+1:=upd_same _ _ _
  rw[el,en]
  exact⟨Int.le_refl _,id,by rw[eo];simp,en,.here⟩
 ·intro x hx h1 h2 y _ _
  rw[eo,Td,Te]at hx
  exact absurd hx (fun h=>h.elim h1 h2)
theorem gZ {l:List Int}{x:Int}:x∈gN l↔x∈l:=List.mem_mergeSort
theorem tX {l:List Int}(h:l.Nodup):(gN l).Pairwise (· < ·):=by
 have h1:(gN l).Pairwise fun a b=>leI a b=true:=List.pairwise_mergeSort (fun a b c h1 h2=>by
  simp only[leI,decide_eq_true_eq]at *;omega) (fun a b=>by simp only[leI,Ud,decide_eq_true_eq];omega) l
 have h2:(gN l).Nodup:=(List.mergeSort_perm l leI).nodup_iff.2 h
 refine(h1.and h2).imp fun {a b} h=>?_
 have:=h.1
 simp only[leI,decide_eq_true_eq]at this
 have:=h.2
 omega
theorem J4 {done:List Int}(hi:Iv succ V G σ)(hσ:σ.num id=0)(hm:id∈V)(hd:∀u∈succ id,u∈done)(h:Lp succ V G id σ done τ):Vp succ V G id σ (close id τ):=by
 have hoe:∀x∈σ.opn,τ.num x=σ.num x:=fun x hx=>h.lf.num x ((hi.st x).1 hx).1
 have hno:id∉σ.opn:=fun h=>((hi.st id).1 h).1 hσ
 have hio:id∈τ.opn:=kH h.pre (by simp)
 have hpre:∀x∈σ.opn,x∈τ.opn:=fun x hx=>kH (List.prefix_append _ _ |>.trans h.pre) hx
 have wX:∀x∈τ.opn,x∉σ.opn→∀u∈succ x,τ.num u≠0:=fun x hx hn u hu=>by
  by_cases e:x=id
  ·subst e
   exact(h.pr u (hd u hu)).1
  ·exact h.iv.nb x hx (fun hg=>hg.elim (fun h'=>hn (hi.go x h')) e) u hu
 have hcr:∀x∈τ.opn,x∉σ.opn→∀u∈succ x,u∈σ.opn→τ.low id≤σ.num u:=fun x hx hn u hu hu2=>by
  by_cases e:x=id
  ·subst e
   exact(h.pr u (hd u hu)).2 hu2
  ·exact h.xe x hx hn e u hu hu2
 unfold close
 split
 ·rename_i hlt
  obtain⟨y,hy,e,hr⟩:=h.lo.2
  have hyo:y∈σ.opn:=vK h.iv.srt h.pre hy (by omega)
  refine⟨⟨h.iv.ok,fun x hx=>h.iv.go x (.inl hx),h.iv.st,h.iv.srt,h.iv.dnn,h.iv.cl,fun x hx hg u hu=>?_,fun x hx=>h.iv.r1 x (.inl hx),fun z hz=>?_,h.iv.gr,h.iv.un,h.iv.dj⟩,h.lf,h.nz,.inr ⟨hlt,y,hyo,by rw[←hoe y hyo];exact e,hr⟩,hcr⟩
  ·by_cases ei:x=id
   ·subst ei
    exact(h.pr u (hd u hu)).1
   ·exact h.iv.nb x hx (fun h'=>h'.elim hg ei) u hu
  ·obtain⟨x,h1,h2,h3⟩:=h.iv.r2 z hz
   rcases h1 with h1|rfl
   ·exact⟨x,h1,h2,h3⟩
   ·obtain⟨w,k1,k2,k3⟩:=hi.r2 y hyo
    refine⟨w,k1,?_,(h3.trans hr).trans k3⟩
    rw[hoe w (hi.go w k1)]
    have:=hoe y hyo
    omega
 ·rename_i hlt
  obtain⟨i1,i2⟩:=wW (id:=id) (l:=σ.opn) h.pre hno
  have htk:τ.opn.take (τ.opn.idxOf id)=σ.opn:=by
   rw[i1]
   obtain⟨t,ht⟩:=h.pre
   rw[←ht,TR,List.take_left']
   rfl
  have hsp:σ.opn++τ.opn.drop (τ.opn.idxOf id)=τ.opn:=by
   conv=>lhs;lhs;rw[←htk]
   exact List.take_append_drop _ _
  have hnd:=h.iv.ok.od
  have uE:∀x,x∈τ.opn.drop (τ.opn.idxOf id)↔x∈τ.opn∧x∉σ.opn:=fun x=>by
   rw[←hsp,List.nodup_append]at hnd
   constructor
   ·intro hx
    exact⟨List.mem_of_mem_drop hx,fun h'=>hnd.2.2 x h' x hx rfl⟩
   ·rintro⟨h1,h2⟩
    rw[←hsp,Td]at h1
    exact h1.resolve_left h2
  have hge:∀x∈τ.opn,x∉σ.opn→τ.num id≤τ.num x:=fun x hx hn=>LY h.iv.srt h.pre hx hn
  have hle:τ.num id≤τ.low id:=by omega
  -- a way out of the group leads to one that is done
  have hex:∀x∈τ.opn,x∉σ.opn→∀u∈succ x,u∈τ.opn∧u∉σ.opn∨τ.dn u=true:=fun x hx hn u hu=>by
   have h1:=wX x hx hn u hu
   cases hdu:τ.dn u with
   | true=>exact .inr rfl
   | false =>
    refine .inl ⟨(h.iv.st u).2 ⟨h1,hdu⟩,fun h'=>?_⟩
    have h2:=hcr x hx hn u hu h'
    have h3:=h.lf.new id hσ h.nz
    have h4:=(hi.ok.n0 u).2
    omega
  have hdr:∀{x z:Int},Rch succ x z→τ.dn x=true→τ.dn z=true:=fun hr=>by
   induction hr with
   | here=>exact fun h=>h
   | step h1 _ ih=>exact fun hx=>ih (h.iv.cl _ hx _ h1)
  have hin:∀{x z:Int},Rch succ x z→x∈τ.opn→x∉σ.opn→τ.dn z=false→z∈τ.opn∧z∉σ.opn:=fun {x z} hr hx hn hz=>by
   apply Classical.byContradiction
   intro hc
   obtain⟨a,b,ha,hb,hab,hbz⟩:=Rch.out (P:=fun x=>x∈τ.opn∧x∉σ.opn) hr ⟨hx,hn⟩ hc
   rcases hex a ha.1 ha.2 b hab with h'|h'
   ·exact hb h'
   ·rw[hdr hbz h']at hz;cases hz
  have hto:∀x∈τ.opn,x∉σ.opn→Rch succ id x∧Rch succ x id:=fun x hx hn=>by
   refine⟨h.iv.r1 id (.inr rfl) x hx (hge x hx hn),?_⟩
   obtain⟨y,h1,h2,h3⟩:=h.iv.r2 x hx
   rcases h1 with h1|rfl
   ·have h4:=hin h3 hx hn ((h.iv.st y).1 (h.iv.go y (.inl h1))).2
    exact absurd (hi.go y h1) h4.2
   ·exact h3
  have RP:τ.dn id=false:=((h.iv.st id).1 hio).2
  have hG:Grp succ V (gN (τ.opn.drop (τ.opn.idxOf id))):=by
   refine⟨fun e=>?_,tX (hnd.sublist (List.drop_sublist _ _)),fun x hx=>?_,fun x hx y=>?_⟩
   ·have:id∈gN (τ.opn.drop (τ.opn.idxOf id)):=gZ.2 ((uE id).2 ⟨hio,hno⟩)
    rw[e]at this
    cases this
   ·rw[gZ,uE]at hx
    exact h.iv.ok.nV x ((h.iv.st x).1 hx.1).1
   ·rw[gZ,uE]at hx ⊢
    constructor
    ·intro hy
     exact⟨(hto x hx.1 hx.2).2.trans (hto y hy.1 hy.2).1,(hto y hy.1 hy.2).2.trans (hto x hx.1 hx.2).1⟩
    ·rintro⟨h1,h2⟩
     refine hin h1 hx.1 hx.2 ?_
     cases hdy:τ.dn y with
     | false=>rfl
     | true =>
      have:=hdr h2 hdy
      rw[((h.iv.st x).1 hx.1).2]at this
      cases this
  have hdn:∀x,(qW id τ).dn x=true↔τ.dn x=true∨x∈τ.opn∧x∉σ.opn:=fun x=>by
   show (τ.dn x||(τ.opn.drop (τ.opn.idxOf id)).contains x)=true↔_
   rw[Ud,List.contains_iff_mem,uE]
  have Qw:∀x,(qW id τ).dn x=false↔τ.dn x=false∧¬(x∈τ.opn∧x∉σ.opn):=fun x=>by
   rw[←Uf,hdn x,not_or,Uf]
  have eop:(qW id τ).opn=σ.opn:=htk
  refine⟨⟨h.iv.ok.pop hio,fun x hx=>by rw[eop];exact hi.go x hx,fun x=>?_,?_,fun x hx=>?_,fun x hx u hu=>?_,fun x hx hg u hu=>?_,fun x hx y hy hl=>?_,fun y hy=>?_,fun g hg=>?_,fun x=>?_,?_⟩,⟨h.lf.num,h.lf.low,h.lf.new,h.lf.cnt,by rw[eop];exact List.prefix_refl _,fun x hx=>(hdn x).2 (.inl (h.lf.dn x hx))⟩,h.nz,.inl ⟨(hdn id).2 (.inr ⟨hio,hno⟩),hle⟩,fun x hx hn=>?_⟩
  ·rw[eop,Qw x]
   show x∈σ.opn↔τ.num x≠0∧_
   constructor
   ·intro hx
    have:=(h.iv.st x).1 (hpre x hx)
    exact⟨this.1,this.2,fun h'=>h'.2 hx⟩
   ·rintro⟨h1,h2,h3⟩
    apply Classical.byContradiction
    intro hc
    exact h3 ⟨(h.iv.st x).2 ⟨h1,h2⟩,hc⟩
  ·rw[eop]
   have:=h.iv.srt
   rw[←hsp,List.pairwise_append]at this
   exact this.1
  ·rcases (hdn x).1 hx with h'|h'
   ·exact h.iv.dnn x h'
   ·exact((h.iv.st x).1 h'.1).1
  ·rw[hdn]
   rcases (hdn x).1 hx with h'|h'
   ·exact .inl (h.iv.cl x h' u hu)
   ·exact(hex x h'.1 h'.2 u hu).symm
  ·rw[eop]at hx
   show τ.num u≠0
   have:=hi.nb x hx hg u hu
   rw[h.lf.num u this]
   exact this
  ·rw[eop]at hy
   exact h.iv.r1 x (.inl hx) y (hpre y hy) hl
  ·rw[eop]at hy
   obtain⟨x,h1,h2,h3⟩:=hi.r2 y hy
   exact⟨x,h1,by show τ.num x≤τ.num y;rw[hoe x (hi.go x h1),hoe y hy];exact h2,h3⟩
  ·rcases Td.1 hg with h'|h'
   ·exact h.iv.gr g h'
   ·rw[Te.1 h']
    exact hG
  ·rw[hdn x]
   show _↔∃g∈τ.grs++[_],x∈g
   constructor
   ·rintro (h'|h')
    ·obtain⟨g,h1,h2⟩:=(h.iv.un x).1 h'
     exact⟨g,List.mem_append_left _ h1,h2⟩
    ·exact⟨_,List.mem_append_right _ (Te.2 rfl),gZ.2 ((uE x).2 h')⟩
   ·rintro⟨g,h1,h2⟩
    rcases Td.1 h1 with h'|h'
    ·exact .inl ((h.iv.un x).2 ⟨g,h',h2⟩)
    ·rw[Te.1 h']at h2
     exact .inr ((uE x).1 (gZ.1 h2))
  ·show (τ.grs++[_]).Pairwise _
   rw[List.pairwise_append]
   refine⟨h.iv.dj,by simp,fun g hg k hk x hx hxk=>?_⟩
   rw[Te.1 hk,gZ,uE]at hxk
   have h1:=(h.iv.un x).2 ⟨g,hg,hx⟩
   rw[((h.iv.st x).1 hxk.1).2]at h1
   cases h1
  ·rw[eop]at hx
   exact absurd hx hn
theorem A8 (hV:V.Nodup)(hs:∀x∈V,∀u∈succ x,u∈V):∀(f:Nat)(G:Int→Prop)(id:Int)(σ:Tj),Iv succ V G σ→id∈V→σ.num id=0→(∀x,G x→Rch succ x id)→V.length≤f+σ.cnt→Vp succ V G id σ (visit succ f id σ)
 | 0,G,id,σ,h,hm,h0,_,hf=>by have:=h.ok.lt hm h0;omega
 | f+1,G,id,σ,h,hm,h0,hG,hf=>by
  obtain⟨d,h1,h2⟩:=AZ (vis:=visit succ f) h0 h (succ id) [] (enter id σ) (fun _ h=>h) (fun u hu τ hτ hu0 hr hc=>A8 hV hs f _ u τ hτ (hs id hm u hu) hu0 hr (by omega)) (J3 hV h hm h0 hG)
  exact J4 h h0 hm (fun u hu=>h1 u (.inr hu)) h2
theorem oU (hV:V.Nodup)(hs:∀x∈V,∀u∈succ x,u∈V):∀(l:List Int)(σ:Tj),(∀x∈l,x∈V)→Iv succ V (fun _=>False) σ→Iv succ V (fun _=>False) (comps succ V.length l σ)∧(∀x,σ.num x≠0→(comps succ V.length l σ).num x≠0)∧∀x∈l,(comps succ V.length l σ).num x≠0
 | [],σ,_,h=>⟨h,fun _ h=>h,fun x hx=>by cases hx⟩
 | d::l,σ,hl,h=>by
  unfold comps
  have hk:Iv succ V (fun _=>False) (if σ.num d=0 then visit succ V.length d σ else σ)∧(∀x,σ.num x≠0→(if σ.num d=0 then visit succ V.length d σ else σ).num x≠0)∧(if σ.num d=0 then visit succ V.length d σ else σ).num d≠0:=by
   split
   ·rename_i h0
    have hv:=A8 hV hs V.length _ d σ h (hl d Ta) h0 (fun x hx=>hx.elim) (by omega)
    exact⟨hv.iv,fun x hx=>by rw[hv.lf.num x hx];exact hx,hv.nz⟩
   ·rename_i h0
    exact⟨h,fun _ h=>h,h0⟩
  obtain⟨k1,k2,k3⟩:=oU hV hs l _ (fun x hx=>hl x (Tc _ hx)) hk.1
  refine⟨k1,fun x hx=>k2 x (hk.2.1 x hx),fun x hx=>?_⟩
  rcases TI.1 hx with rfl|hx
  ·exact k2 x hk.2.2
  ·exact k3 x hx
theorem tO:Iv succ V (fun _=>False) tj0:=by
 refine⟨Ok.start V,fun _ h=>h.elim,fun x=>?_,by simp[tj0],fun x h=>by simp[tj0]at h,fun x h=>by simp[tj0]at h,fun x h=>by simp[tj0]at h,fun _ h=>h.elim,fun x h=>by simp[tj0]at h,fun x h=>by simp[tj0]at h,fun x=>by simp[tj0],by simp[tj0]⟩
 simp[tj0]
theorem mH (hV:V.Nodup)(hs:∀x∈V,∀u∈succ x,u∈V):(∀g∈(comps succ V.length V tj0).grs,Grp succ V g)∧(comps succ V.length V tj0).grs.Pairwise (fun g h=>∀x∈g,x∉h)∧∀x,x∈V↔∃g∈(comps succ V.length V tj0).grs,x∈g:=by
 obtain⟨h1,h2,h3⟩:=oU hV hs V tj0 (fun _ h=>h) tO
 refine⟨h1.gr,h1.dj,fun x=>?_⟩
 rw[←h1.un x]
 constructor
 ·intro hx
  cases hd:(comps succ V.length V tj0).dn x with
  | true=>rfl
  | false =>
   obtain⟨y,hy,_⟩:=h1.r2 x ((h1.st x).2 ⟨h3 x hx,hd⟩)
   exact hy.elim
 ·intro hx
  exact h1.ok.nV x (h1.dnn x hx)
end
end Go.Proofs.Scc
