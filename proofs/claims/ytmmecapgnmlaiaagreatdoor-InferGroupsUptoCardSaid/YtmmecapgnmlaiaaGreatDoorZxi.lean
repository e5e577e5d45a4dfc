/- helper lemmas -/
import Derived.Test.YtmmecapgnmlaiaaGreatDoorZxc
import Derived.Lib.SmallJoins
import Derived.Test.YtmmecapgnmlaiaaGreatDoorCards
import Derived.Test.YtmmecapgnmlaiaaGreatDoorTie
import Derived.Deep.DeepHandedRow
import Derived.Test.YtmmecapgnmlaiaaGreatDoorZxk
set_option maxRecDepth 100000
set_option maxHeartbeats 16000000
namespace Go.Proofs.Q
open Go.RowKit Go.Proofs Go.Shelf Go.Proofs.YtmmecapgnmlaiaaGreatDoor
def SlD (w:World)(B:Nat)(A:Option Addr)(c:Nat)(l:List Dc):Prop:=
 l.length≤c∧c≤maxLen∧(l≠[]→∃b o,A=some ⟨b,o,none⟩∧b<B∧∀j x,l[j]?=some x→(∀q v,x.cells[q]?=some v→w.cell? ⟨b,o+j*11+q,none⟩=some v)∧x.Ok w B)
theorem SlD.keep {w w':World}{B B':Nat}{A:Option Addr}{c:Nat}{l:List Dc}(h:SlD w B A c l)(hB:B≤B')(hk:∀p:Addr,p.block<B→w'.cell? p=w.cell? p):SlD w' B' A c l:=
 ⟨h.1,h.2.1,fun hne=>by
  obtain⟨b,o,e,hb,hs⟩:=h.2.2 hne
  exact⟨b,o,e,SB hb hB,fun j x hj=>⟨fun q v hq=>(hk _ hb).trans ((hs j x hj).1 q v hq),(hs j x hj).2.1.keep hB hk,(hs j x hj).2.2.keep hB hk⟩⟩⟩
def fM (label:ByteArray)(l:List ByteArray):Nat→Nat→Int
 | 0,_=>0
 | f+1,j=>if jF label l j=0 then fM label l f (j+1)else jF label l j
def cO (label:ByteArray):Option Int→List Dc→Int
 | _,[]=>0
 | none,x::r=>if fG label x=0 then cO label (some x.id) r else fG label x
 | some p,x::r=>if fG label x=0 then (if x.id≤p then 10 else cO label (some x.id) r)else fG label x
def bY (label:ByteArray)(uses:List ByteArray)(decls:List Dc):Int:=
 if bN label=false then 6 else
 if jc uses≠0 then jc uses else
 if fM label uses uses.length 0≠0 then fM label uses uses.length 0 else
 if 100<decls.length then 4 else cO label none decls
def fZ (l:List Dc):Nat→Option Int
 | 0=>none
 | j+1=>(l[j]?).map Dc.id
end Go.Proofs.Q
namespace Go.Proofs.Q
open Go.RowKit Go.Proofs Go.ChangeShapes Go.WideShapes Go.Joins Go.Proofs.YtmmecapgnmlaiaaGreatDoor
section
variable {H:Type} {enc:TypeId×Value→H} {W:World}
theorem kE {W:World}{a:Addr}{n:Nat}{v:Value}(h:W.cell? (a.add n)=some v):a.add n=⟨a.block,a.off+n,none⟩:=by
 unfold Addr.add at h ⊢
 split
 ·rename_i h0
  subst h0
  simp at h
  obtain⟨b,o,sp⟩:=a
  unfold World.cell? at h
  cases sp with
  | none=>rfl
  | some q=>simp at h;split at h <;> simp at h
 ·rfl
theorem add_add' (a:Addr)(n m:Nat):(a.add n).add m=a.add (n+m):=by
 unfold Addr.add
 by_cases h:n=0 <;> by_cases h2:m=0 <;> simp[h,h2]
 omega
theorem dK {t:TypeId}{fs:Array Field}{fuel:Nat}{cs:List Value}{x:DataW H×List MemPlace}(ht:Tryz.prog.underlying t=some (.struct fs))(h:DataW.trod enc Tryz.prog W 0 (fun _=>true) true fuel t cs=some x)
  (j:Nat)(f:Field)(hj:fs[j]?=some f)(ft:TypeId)(o c:Nat)(hft:f.type=ft)(ho:f.offset=o)(hc:Tryz.prog.cellsOf ft=c):∃n y,n<fuel∧DataW.trod enc Tryz.prog W 0 (fun _=>true) true n ft ((cs.drop o).take c)=some y:=by
 subst hft ho hc
 obtain⟨xs,n,rfl,_,_,hl,hf⟩:=DataW.trod_struct ht h
 have:=hf j f hj
 have hjl:j<fs.size:=(Sz.1 hj).1
 exact⟨n,_,by omega,this.trans (Sw (by omega))⟩
theorem Tryz.nH:Tryz.prog.cellsOf 44=6:=by kernel_rfl
theorem Tryz.mP:Tryz.prog.cellsOf 3=1:=by kernel_rfl
theorem Tryz.nX:Tryz.prog.cellsOf 9=1:=by kernel_rfl
theorem Tryz.vB:Tryz.prog.cellsOf 42=1:=by kernel_rfl
theorem xL {fuel:Nat}{cs:List Value}{x:DataW H×List MemPlace}(h:DataW.trod enc Tryz.prog W 0 (fun _=>true) true fuel 44 cs=some x)(hcs:cs.length=6) :
  ∃k n m i d v n' y,cs=[.int .i64 k,.string n,.string m,.int .i64 i,.int .i64 d,v]∧n.size≤maxLen∧m.size≤maxLen∧n'<fuel∧DataW.trod enc Tryz.prog W 0 (fun _=>true) true n' 42 [v]=some y:=by
 match cs,hcs with
 | [c0,c1,c2,c3,c4,c5],_ =>
  obtain⟨_,_,_,h0⟩:=dK Tryz.underlying44 h 0 _ rfl 3 0 1 rfl rfl Tryz.mP
  obtain⟨_,_,_,h1⟩:=dK Tryz.underlying44 h 1 _ rfl 9 1 1 rfl rfl Tryz.nX
  obtain⟨_,_,_,h2⟩:=dK Tryz.underlying44 h 2 _ rfl 9 2 1 rfl rfl Tryz.nX
  obtain⟨_,_,_,h3⟩:=dK Tryz.underlying44 h 3 _ rfl 3 3 1 rfl rfl Tryz.mP
  obtain⟨_,_,_,h4⟩:=dK Tryz.underlying44 h 4 _ rfl 3 4 1 rfl rfl Tryz.mP
  obtain⟨n',y,hn',h5⟩:=dK Tryz.underlying44 h 5 _ rfl 42 5 1 rfl rfl Tryz.vB
  simp only[List.drop_succ_cons,List.drop_zero,List.take_succ_cons,List.take_zero]at h0 h1 h2 h3 h4 h5
  obtain⟨k,e0,_⟩:=DataW.trod_int Tryz.underlying3 h0
  obtain⟨n,e1,_,s1⟩:=DataW.trod_string Tryz.underlying9 h1
  obtain⟨m,e2,_,s2⟩:=DataW.trod_string Tryz.underlying9 h2
  obtain⟨i,e3,_⟩:=DataW.trod_int Tryz.underlying3 h3
  obtain⟨d,e4,_⟩:=DataW.trod_int Tryz.underlying3 h4
  simp only[List.cons.injEq,and_true]at e0 e1 e2 e3 e4
  subst e0 e1 e2 e3 e4
  exact⟨k,n,m,i,d,c5,n',y,rfl,s1,s2,hn',h5⟩
def Fo.Str:Fo→Prop
 | .nil=>True
 | .cons _ n m _ _ _ _ s r=>n.size≤maxLen∧m.size≤maxLen∧s.Str∧r.Str
theorem Au {W : World}{b o len : Nat}(h : ∀ i,i < len → ∃ k n m ii d A s c,W.cell? ⟨b,o + i * 6,none⟩ = some (.int .i64 k) ∧ W.cell? ⟨b,o + i * 6 + 1,none⟩ = some (.string n) ∧ W.cell? ⟨b,o + i * 6 + 2,none⟩ = some (.string m) ∧ W.cell? ⟨b,o + i * 6 + 3,none⟩ = some (.int .i64 ii) ∧
      W.cell? ⟨b,o + i * 6 + 4,none⟩ = some (.int .i64 d) ∧ W.cell? ⟨b,o + i * 6 + 5,none⟩ = some (.slice A s.len c) ∧ Fo.Sl W W.heap.size A c s ∧ n.size ≤ maxLen ∧ m.size ≤ maxLen ∧ s.Str) :
    ∀ j,j ≤ len → ∃ s : Fo,s.len = j ∧ s.At W W.heap.size b (o + (len - j) * 6) ∧ s.Str
  | 0,_ => ⟨.nil,rfl,trivial,trivial⟩
  | j + 1,hj => by
    obtain⟨r,hr,hat,hst⟩:=Au h j (by omega)
    obtain⟨k,n,m,ii,d,A,s,c,h0,h1,h2,h3,h4,h5,hs,hn,hm,hss⟩:=h (len - (j + 1)) (by omega)
    refine⟨.cons k n m ii d A c s r,by simp[Fo.len,hr],⟨h0,h1,h2,h3,h4,⟨h5,hs⟩,?_⟩,hn,hm,hss,hst⟩
    rw[show o + (len - (j + 1)) * 6 + 6 = o + (len - j) * 6 by omega]
    exact hat
theorem ES:∀(fuel:Nat)(v:Value)(x:DataW H×List MemPlace),DataW.trod enc Tryz.prog W 0 (fun _=>true) true fuel 42 [v]=some x →
  ∃A s c,v=.slice A s.len c∧Fo.Sl W W.heap.size A c s∧s.Str:=by
 intro fuel
 induction fuel using Nat.strongRecOn with
 | _ fuel ih =>
  intro v x h
  rcases DataW.trod_slice Tryz.underlying42 h with⟨h0,_⟩|⟨a,len,cap,elems,rest,n,rfl,h0,_,_,hl,hm,hlen,hel,_,_⟩
  ·simp only[List.cons.injEq,and_true]at h0
   exact⟨none,.nil,0,h0,Fo.Sl.nil _ _ _ _ (by simp[maxLen]),trivial⟩
  ·simp only[List.cons.injEq,and_true]at h0
   subst h0
   rw[Tryz.nH]at hel
   have hall:∀i,i<len→∃k n m ii d A s c,W.cell? ⟨a.block,a.off+i*6,none⟩=some (.int .i64 k)∧W.cell? ⟨a.block,a.off+i*6+1,none⟩=some (.string n)∧W.cell? ⟨a.block,a.off+i*6+2,none⟩=some (.string m)∧W.cell? ⟨a.block,a.off+i*6+3,none⟩=some (.int .i64 ii) ∧
     W.cell? ⟨a.block,a.off+i*6+4,none⟩=some (.int .i64 d)∧W.cell? ⟨a.block,a.off+i*6+5,none⟩=some (.slice A s.len c)∧Fo.Sl W W.heap.size A c s∧n.size≤maxLen∧m.size≤maxLen∧s.Str:=by
    intro i hi
    have h1:=(hel i hi).trans (Sw (by omega))
    obtain⟨cs,hc,h2⟩:=Option.bind_eq_some_iff.1 h1
    obtain⟨_,hcl,hcell⟩:=World.cells?_some hc
    obtain⟨k,nn,m,ii,d,v,n',y,rfl,s1,s2,hn',hv⟩:=xL h2 hcl
    obtain⟨A,s,c,rfl,hs,hst⟩:=ih n' (by omega) v y hv
    have hc':∀q u,q<6→([.int .i64 k,.string nn,.string m,.int .i64 ii,.int .i64 d,.slice A s.len c]:List Value)[q]?=some u→W.cell? ⟨a.block,a.off+i*6+q,none⟩=some u:=by
     intro q u hq hu
     have h3:=(hcell q hq).trans hu
     rw[add_add']at h3
     rw[kE h3]at h3
     rw[Nat.add_assoc]
     exact h3
    exact⟨k,nn,m,ii,d,A,s,c,hc' 0 _ (by omega) rfl,hc' 1 _ (by omega) rfl,hc' 2 _ (by omega) rfl,hc' 3 _ (by omega) rfl,hc' 4 _ (by omega) rfl,hc' 5 _ (by omega) rfl,hs,s1,s2,hst⟩
   obtain⟨s,hs,hat,hst⟩:=Au hall len (SA _)
   rw[Nat.sub_self,Nat.zero_mul,Nat.add_zero]at hat
   refine⟨some a,s,cap,by rw[hs],⟨by omega,hm,fun hne=>?_⟩,hst⟩
   have hpos:0<len:=by
    cases s with
    | nil=>exact absurd rfl hne
    | cons=>simp[Fo.len]at hs;omega
   obtain⟨k,nn,m,ii,d,A,s',c,h0,_⟩:=hall 0 hpos
   have h1:=(hel 0 hpos).trans (Sw (by omega))
   obtain⟨cs,hc,h2⟩:=Option.bind_eq_some_iff.1 h1
   obtain⟨_,hcl,hcell⟩:=World.cells?_some hc
   have h3:=hcell 0 (by omega)
   rw[add_add',Sw (by omega)]at h3
   have h4:=kE h3
   simp[Addr.add]at h4
   rw[Nat.zero_mul,Nat.add_zero]at h0
   exact⟨a.block,a.off,by rw[←h4],SS W ⟨a.block,a.off,none⟩ h0,hat⟩
end
end Go.Proofs.Q
namespace Go.Proofs.Q
open Go.RowKit Go.Proofs Go.ChangeShapes Go.WideShapes Go.Joins Go.Proofs.YtmmecapgnmlaiaaGreatDoor
theorem Tryz.xM:Tryz.prog.cellsOf 4=1:=by kernel_rfl
theorem Tryz.Av:Tryz.prog.cellsOf 22=1:=by kernel_rfl
theorem Tryz.xO:Tryz.prog.cellsOf 46=11:=by kernel_rfl
theorem Tryz.ET:Tryz.prog.cellsOf 23=1:=by kernel_rfl
theorem Tryz.CX:Tryz.prog.cellsOf 25=3:=by kernel_rfl
theorem DL {α:Type}{P:Nat→α→Prop}:∀n:Nat,(∀i,i<n→∃x,P i x)→∃l:List α,l.length=n∧∀j x,l[j]?=some x→P j x
 | 0,_=>⟨[],rfl,fun j x h=>by simp at h⟩
 | n+1,h=>by
  obtain⟨l,hl,hp⟩:=DL n fun i hi=>h i (by omega)
  obtain⟨x,hx⟩:=h n (by omega)
  refine⟨l++[x],by simp[hl],fun j y hj=>?_⟩
  by_cases hlt:j<l.length
  ·rw[Tg hlt]at hj
   exact hp j y hj
  ·rw[Ti (by omega)]at hj
   have h0:j-l.length=0:=by
    have:=(Sy.1 hj).1
    simp at this
    omega
   rw[h0]at hj
   simp at hj
   subst hj
   have:j=n:=by omega
   subst this
   exact hx
def Dc.Str (x:Dc):Prop:=(∀s∈x.names,s.size≤maxLen)∧x.n.size≤maxLen∧x.m.size≤maxLen∧x.s.Str
section
variable {H:Type} {enc:TypeId×Value→H} {W:World}
theorem open_strs {fuel:Nat}{v:Value}{x:DataW H×List MemPlace}(h:DataW.trod enc Tryz.prog W 0 (fun _=>true) true fuel 22 [v]=some x) :
  ∃A l c,v=.slice A (List.length l) c∧SlS W W.heap.size A c l∧∀s∈l,s.size≤maxLen:=by
 rcases open_strings Tryz.underlying22 Tryz.underlying9 Tryz.nX h with⟨h0,_⟩|⟨a,len,cap,ss,h0,_,hl,hm,hz,_,hcell,hsz⟩
 ·simp only[List.cons.injEq,and_true]at h0
  exact⟨none,[],0,h0,SlS.nil _ _ _ _ (by simp[maxLen]),by simp⟩
 ·simp only[List.cons.injEq,and_true]at h0
  subst h0
  simp only[if_true]at hz
  have htl:(ss.take len).length=len:=by rw[Um];omega
  refine⟨some a,ss.take len,cap,by rw[htl],⟨by omega,hm,fun hne=>?_⟩,fun s hs=>hsz s (List.mem_of_mem_take hs)⟩
  have hpos:0<len:=by
   rcases Nat.eq_zero_or_pos len with h|h
   ·subst h;simp at hne
   ·exact h
  have h0:=hcell 0 (by omega)
  have h4:=kE h0
  simp[Addr.add]at h4
  have hc':∀j s,(ss.take len)[j]?=some s→W.cell? ⟨a.block,a.off+j,none⟩=some (.string s):=by
   intro j s hs
   have hj:j<len:=by
    have:=(Sy.1 hs).1
    omega
   rw[List.getElem?_take_of_lt hj]at hs
   have h3:=hcell j (by omega)
   rw[kE h3,TM,hs]at h3
   exact h3
  exact⟨a.block,a.off,by rw[←h4],SS W ⟨a.block,a.off+0,none⟩ (hc' 0 _ (Sw (by omega))),hc'⟩
theorem Hl {fuel:Nat}{cs:List Value}{x:DataW H×List MemPlace}(h:DataW.trod enc Tryz.prog W 0 (fun _=>true) true fuel 46 cs=some x)(hcs:cs.length=11) :
  ∃d:Dc,cs=d.cells.toList∧d.Ok W W.heap.size∧d.Str:=by
 match cs,hcs with
 | [c0,c1,c2,c3,c4,c5,c6,c7,c8,c9,c10],_ =>
  obtain⟨_,_,_,h0⟩:=dK Tryz.underlying46 h 0 _ rfl 3 0 1 rfl rfl Tryz.mP
  obtain⟨_,_,_,h1⟩:=dK Tryz.underlying46 h 1 _ rfl 3 1 1 rfl rfl Tryz.mP
  obtain⟨_,_,_,h2⟩:=dK Tryz.underlying46 h 2 _ rfl 4 2 1 rfl rfl Tryz.xM
  obtain⟨_,_,_,h3⟩:=dK Tryz.underlying46 h 3 _ rfl 22 3 1 rfl rfl Tryz.Av
  obtain⟨_,_,_,h4⟩:=dK Tryz.underlying46 h 4 _ rfl 4 4 1 rfl rfl Tryz.xM
  obtain⟨_,_,_,h5⟩:=dK Tryz.underlying46 h 5 _ rfl 44 5 6 rfl rfl Tryz.nH
  simp only[List.drop_succ_cons,List.drop_zero,List.take_succ_cons,List.take_zero]at h0 h1 h2 h3 h4 h5
  obtain⟨id,e0,_⟩:=DataW.trod_int Tryz.underlying3 h0
  obtain⟨kind,e1,_⟩:=DataW.trod_int Tryz.underlying3 h1
  obtain⟨pub,e2,_⟩:=DataW.trod_bool Tryz.underlying4 h2
  obtain⟨nA,names,nc,e3,hn,hns⟩:=open_strs h3
  obtain⟨doubt,e4,_⟩:=DataW.trod_bool Tryz.underlying4 h4
  obtain⟨k,n,m,i,d,v,n',y,e5,s1,s2,_,hv⟩:=xL h5 rfl
  obtain⟨A,s,c,e6,hs,hst⟩:=ES _ _ _ hv
  simp only[List.cons.injEq,and_true]at e0 e1 e2 e4 e5
  obtain⟨rfl,rfl,rfl,rfl,rfl,rfl⟩:=e5
  subst e0 e1 e2 e3 e4 e6
  exact⟨⟨id,kind,pub,nA,nc,names,doubt,k,n,m,i,d,A,c,s⟩,rfl,⟨hn,hs⟩,hns,s1,s2,hst⟩
theorem EU {fuel:Nat}{v:Value}{x:DataW H×List MemPlace}(h:DataW.trod enc Tryz.prog W 0 (fun _=>true) true fuel 23 [v]=some x) :
  ∃A l c,v=.slice A (List.length l) c∧SlD W W.heap.size A c l∧∀d∈l,Dc.Str d:=by
 rcases DataW.trod_slice Tryz.underlying23 h with⟨h0,_⟩|⟨a,len,cap,elems,rest,n,rfl,h0,_,_,hl,hm,hlen,hel,_,_⟩
 ·simp only[List.cons.injEq,and_true]at h0
  exact⟨none,[],0,h0,⟨by simp,by simp[maxLen],fun h=>absurd rfl h⟩,by simp⟩
 ·simp only[List.cons.injEq,and_true]at h0
  subst h0
  rw[Tryz.xO]at hel
  have hall:∀i,i<len→∃d:Dc,(∀q v,d.cells[q]?=some v→W.cell? ⟨a.block,a.off+i*11+q,none⟩=some v)∧d.Ok W W.heap.size∧d.Str:=by
   intro i hi
   have h1:=(hel i hi).trans (Sw (by omega))
   obtain⟨cs,hc,h2⟩:=Option.bind_eq_some_iff.1 h1
   obtain⟨_,hcl,hcell⟩:=World.cells?_some hc
   obtain⟨d,hd,hok,hst⟩:=Hl h2 hcl
   refine⟨d,fun q v hq=>?_,hok,hst⟩
   have hq':q<11:=(Sz.1 hq).1
   have h3:=hcell q hq'
   rw[hd,Array.getElem?_toList,hq,add_add']at h3
   rw[kE h3]at h3
   rw[Nat.add_assoc]
   exact h3
  obtain⟨l,hll,hP⟩:=DL len hall
  refine⟨some a,l,cap,by rw[hll],⟨by omega,hm,fun hne=>?_⟩,fun d hd=>?_⟩
  ·have hpos:0<len:=by
    rcases Nat.eq_zero_or_pos len with h|h
    ·rw[h]at hll;exact absurd (Tq.1 hll) hne
    ·exact h
   obtain⟨d0,h0,_⟩:=hall 0 hpos
   have h00:=h0 0 _ rfl
   have h1:=(hel 0 hpos).trans (Sw (by omega))
   obtain⟨cs,hc,h2⟩:=Option.bind_eq_some_iff.1 h1
   obtain⟨_,hcl,hcell⟩:=World.cells?_some hc
   have h3:=hcell 0 (by omega)
   rw[add_add',Sw (by omega)]at h3
   have h4:=kE h3
   simp[Addr.add]at h4
   exact⟨a.block,a.off,by rw[←h4],SS W ⟨a.block,a.off+0*11+0,none⟩ h00,fun j x hj=>⟨(hP j x hj).1,(hP j x hj).2.1⟩⟩
  ·obtain⟨j,hj⟩:=List.getElem?_of_mem hd
   exact(hP j d hj).2.2
theorem Ct {b0:Nat}{v:Value}{d:DataW H}{p:List MemPlace}(hv:Value.okWide Tryz.prog W .any b0 25 v)(h:DataW.Trod enc Tryz.prog W 0 (fun _=>true) true 25 v d p) :
  ∃label uA uses uc dA decls dc,v=.agg #[.string label,.slice uA (List.length uses) uc,.slice dA (List.length decls) dc]∧label.size≤maxLen∧SlS W W.heap.size uA uc uses∧SlD W W.heap.size dA dc decls∧(∀s∈uses,s.size≤maxLen)∧∀d∈decls,Dc.Str d:=by
 obtain⟨c0,c1,c2,y0,y1,y2,n,rfl,_,_,h0,h1,h2⟩:=open_agg3 Tryz.underlying25 (by kernel_rfl) Tryz.CX hv h
 obtain⟨label,e0,_,hl⟩:=DataW.trod_string Tryz.underlying9 h0
 obtain⟨uA,uses,uc,e1,hu,hus⟩:=open_strs h1
 obtain⟨dA,decls,dc,e2,hd,hds⟩:=EU h2
 simp only[List.cons.injEq,and_true]at e0
 subst e0 e1 e2
 exact⟨label,uA,uses,uc,dA,decls,dc,rfl,hl,hu,hd,hus,hds⟩
end
end Go.Proofs.Q
namespace Go.Proofs.Q
open Go.ChangeShapes Go.WideShapes Go.ChangeAt Go.RowKit Go.Proofs.YtmmecapgnmlaiaaGreatDoor
theorem Tryz.own:ownKnob Tryz.prog.godebug=none:=by kernel_rfl
theorem Tryz.laidOut:laidOutB Tryz.prog=true:=by kernel_rfl
section
variable {H:Type} {enc:TypeId×Value→H}
theorem EW {P:Program}{f:Func}{s:ChangeSpec}{apart fresh handsOn again:Bool}{W W':World}{args:Array Value}{v:Value}{ds gs:List (DataW H)}{before pa pv:List MemPlace}
  (hW:DataW.Whole enc P f.params.toList s.vars apart W args.toList ds gs before)
  (hres:∀(b:Nat)(sp:Nat→Bool)(hd:Bool),DataW.TrodAll enc P W' b sp hd f.resultTypes.toList (v.resultList f.resultTypes.size) (s.fn H (ds++gs)).results [])
  (hargs:∀sp:Nat→Bool,(∀p∈before,sp p.block=true)→DataW.TrodAll enc P W' 0 sp true f.params.toList args.toList (s.fn H (ds++gs)).args pa)
  (hvars:∀sp:Nat→Bool,(∀p∈before,sp p.block=true)→DataW.TrodVars enc P W' sp s.vars (s.fn H (ds++gs)).vars pv)
  (hps:before=pa++pv)(hb:Below W.heap.size W W')
  (hok:∀(j:Nat)(t:TypeId)(r:Value),f.resultTypes[j]?=some t→(v.resultList f.resultTypes.size)[j]?=some r→Value.okWide P W' .any 0 t r) :
  s.post enc P f apart fresh handsOn again W args v W':=by
 have hlt:∀p∈before,p.block<W.heap.size:=fun p hp=>hW.lt p hp
 have hold:∀p∈before,(fun b=>decide (b<W.heap.size)) p.block=true:=fun p hp=>by simpa using hlt p hp
 refine⟨ds,gs,before,[],pa,pv,hW,hres _ _ _,hargs _ hold,hvars _ hold,World.keptBut_mono (fun p hp=>⟨hp,?_⟩) (hb.frame (·∈before)),fun _=>?_⟩
 ·rw[hps,Td]at hp
  exact Or.inr hp
 ·obtain⟨_,_,_,_,_,hz,hn⟩:=hW
  refine⟨hok,_,_,([]++pa)++pv,⟨[]++pa,pv,trodAll_append (hargs _ (fun _ _=>rfl)) (hres _ _ _),hvars _ (fun _ _=>rfl),rfl,?_,?_⟩,?_⟩
  ·intro b off hp
   have hin:MemPlace.cell b off∈before:=by rw[hps];simpa using hp
   rw[hb.frozen (hlt _ hin)]
   exact hz b off hin
  ·intro ha
   have:=hn ha
   rw[hps]at this
   simpa using this
  ·intro p hp _
   rw[hps]
   simpa using hp
theorem qz {W W':World}{sp':Nat→Bool}:∀{ts:List TypeId}{vs:List Value}{ds:List (DataW H)}{ps:List MemPlace},(∀t∈ts,Tryz.prog.readableRec t=true∧t < Tryz.prog.types.size) →
  DataW.TrodAll enc Tryz.prog W 0 (fun _=>true) true ts vs ds ps→(∀p∈ps,W.sameAt W' p)→(∀p∈ps,sp' p.block=true)→DataW.TrodAll enc Tryz.prog W' 0 sp' true ts vs ds ps
 | [],[],[],_,_,h,_,_=>h
 | t::ts,v::vs,d::ds,_,hT,⟨p,q,h1,h2,e⟩,hsame,hs=>⟨p,q,
   WideElems.Trod_stays Tryz.laidOut (hT t (Ta ..)).1 (hT t (Ta ..)).2 h1 (fun x hx=>hsame x (by rw[e];exact List.mem_append_left _ hx)) (fun x hx=>hs x (by rw[e];exact List.mem_append_left _ hx)),
   qz (fun t ht=>hT t (Tc _ ht)) h2 (fun x hx=>hsame x (by rw[e];exact List.mem_append_right _ hx)) (fun x hx=>hs x (by rw[e];exact List.mem_append_right _ hx)),e⟩
theorem Gz {f:Func}{s:ChangeSpec}{apart fresh handsOn again:Bool}{W W':World}{args:Array Value}{ds gs:List (DataW H)}{before:List MemPlace}
  (hW:DataW.Whole enc Tryz.prog f.params.toList s.vars apart W args.toList ds gs before)(hv:s.vars=[])(hrt:f.resultTypes=#[4])
  (hfn:s.fn H ds={ results:=[.lit (.bool true)],args:=ds })(hts:∀t∈f.params.toList,Tryz.prog.readableRec t=true∧t < Tryz.prog.types.size)(hb:Below W.heap.size W W') :
  s.post enc Tryz.prog f apart fresh handsOn again W args (.bool true) W':=by
 have hW':=hW
 obtain⟨p,q,hA,hV,rfl,_,_⟩:=hW
 rw[hv]at hV
 obtain⟨rfl,rfl⟩:=trodVars_none hV
 refine EW (pa:=p) (pv:=[]) hW' ?_ ?_ ?_ rfl hb ?_
 ·intro b sp hd
  rw[hrt,TV,hfn]
  exact trodAll_mk1 (shut_bool Tryz.underlying4 true)
 ·intro sp hsp
  rw[TV,hfn]
  exact qz hts hA (fun x hx=>hb.same (hW'.lt x (by simpa using hx))) (fun x hx=>hsp x (by simpa using hx))
 ·intro sp _
  rw[hv,TV,hfn]
  exact rfl
 ·exact ok_one hrt rfl (okWide_bool_mk Tryz.underlying4 true)
end
noncomputable def qD (os:Os):World:=
 let w0:=World.holding Tryz.prog os ⟨#[],#[],[]⟩
 { w0 with heap:=(w0.heap.modify 1 fun
   | .cells _ t frozen=>.cells (Go.Pinned.utf8FirstZ.map fun n=>Value.int .u8 (Int.ofNat n)).toArray t frozen
   | o=>o).modify 2 fun
   | .cells _ t frozen=>.cells #[.int .u8 128,.int .u8 191,.int .u8 160,.int .u8 191,.int .u8 128,.int .u8 159,.int .u8 144,.int .u8 191,.int .u8 128,.int .u8 143,.int .u8 0,.int .u8 0,.int .u8 0,.int .u8 0,.int .u8 0,.int .u8 0,.int .u8 0,.int .u8 0,.int .u8 0,.int .u8 0,.int .u8 0,.int .u8 0,.int .u8 0,.int .u8 0,.int .u8 0,.int .u8 0,.int .u8 0,.int .u8 0,.int .u8 0,.int .u8 0,.int .u8 0,.int .u8 0] t frozen
   | o=>o }
def Ej:Array Value:=#[.agg #[.string ⟨#[]⟩,.slice none 0 0,.slice none 0 0]]
theorem I7 (os : Os) : laidMet Tryz.prog [("unicode/utf8.acceptRanges", Rows.laid_unicode_utf8_acceptRanges), ("unicode/utf8.first", Rows.laid_unicode_utf8_first)] ((qD os).forCall (fun _ _ => 0) ⟨#[], Ej, []⟩).memory :=
 laidMet_of_run' 8 (by kernel_rfl) (by kernel_rfl)
end Go.Proofs.Q
namespace Go.Proofs.Q
open Go.RowKit Go.Proofs Go.ChangeShapes Go.WideShapes Go.Joins Go.Proofs.YtmmecapgnmlaiaaGreatDoor
section
variable {H:Type} {enc:TypeId×Value→H} {W:World}
theorem qP {d:DataW H}:∀{l:List (DataW H)},d∈l→Rows.uptoBulk d≤Rows.uptoBulkAll l
 | [],h=>by cases h
 | x::r,h=>by
  simp only[Rows.uptoBulkAll]
  rcases TI.1 h with rfl|h
  ·omega
  ·have:=qP h;omega
theorem nY {t:TypeId}{fs:Array Field}{fuel:Nat}{cs:List Value}{x:DataW H×List MemPlace}(ht:Tryz.prog.underlying t=some (.struct fs))(h:DataW.trod enc Tryz.prog W 0 (fun _=>true) true fuel t cs=some x)
  (j:Nat)(f:Field)(hj:fs[j]?=some f)(ft:TypeId)(o c:Nat)(hft:f.type=ft)(ho:f.offset=o)(hc:Tryz.prog.cellsOf ft=c):∃n y,n<fuel∧DataW.trod enc Tryz.prog W 0 (fun _=>true) true n ft ((cs.drop o).take c)=some y∧Rows.uptoBulk y.1+1≤Rows.uptoBulk x.1:=by
 subst hft ho hc
 obtain⟨xs,n,rfl,rfl,_,hl,hf⟩:=DataW.trod_struct ht h
 have:=hf j f hj
 have hjl:j<fs.size:=(Sz.1 hj).1
 refine⟨n,_,by omega,this.trans (Sw (by omega)),?_⟩
 have hm:(xs[j]'(by omega)).1∈xs.map (·.1):=TH.2 ⟨_,Ul _,rfl⟩
 have:=qP hm
 simp only[Rows.uptoBulk]
 omega
theorem vC {fuel:Nat}{cs:List Value}{x:DataW H×List MemPlace}(h:DataW.trod enc Tryz.prog W 0 (fun _=>true) true fuel 44 cs=some x)(hcs:cs.length=6){v:Value}(hv:cs[5]?=some v) :
  ∃n' y,n'<fuel∧DataW.trod enc Tryz.prog W 0 (fun _=>true) true n' 42 [v]=some y∧Rows.uptoBulk y.1+1≤Rows.uptoBulk x.1:=by
 match cs,hcs with
 | [c0,c1,c2,c3,c4,c5],_ =>
  simp at hv
  subst hv
  obtain⟨n',y,hn',h5,hb⟩:=nY Tryz.underlying44 h 5 _ rfl 42 5 1 rfl rfl Tryz.vB
  exact⟨n',y,hn',h5,hb⟩
theorem EX:∀(fuel:Nat)(s:Fo)(A:Option Addr)(c B:Nat)(x:DataW H×List MemPlace),Fo.Sl W B A c s→DataW.trod enc Tryz.prog W 0 (fun _=>true) true fuel 42 [.slice A s.len c]=some x→s.count≤Rows.uptoBulk x.1:=by
 intro fuel
 induction fuel using Nat.strongRecOn with
 | _ fuel ih =>
  intro s A c B x hs h
  rcases DataW.trod_slice Tryz.underlying42 h with⟨h0,_⟩|⟨a,len,cap,elems,rest,n,hfu,h0,hx,_,hl,hm,hlen,hel,_,_⟩
  ·simp only[List.cons.injEq,and_true,Value.slice.injEq]at h0
   obtain⟨_,h1,_⟩:=h0
   cases s with
   | nil=>simp[Fo.count]
   | cons=>simp[Fo.len]at h1
  ·simp only[List.cons.injEq,and_true,Value.slice.injEq]at h0
   obtain⟨h1,h2,_⟩:=h0
   subst hfu hx
   rw[Tryz.nH]at hel
   by_cases hne:s=.nil
   ·subst hne;simp[Fo.count]
   obtain⟨b,o,hA,_,hat⟩:=hs.2.2 hne
   rw[hA]at h1
   simp only[TK]at h1
   subst h1
   have key:∀(r:Fo) (i:Nat),r.At W B b (o+i*6)→i+r.len=len→r.count≤Rows.uptoBulkAll ((elems.drop i).map (·.1)):=by
    intro r
    induction r with
    | nil=>intro i _ _;simp[Fo.count]
    | cons k n0 m0 ii d A' c' s' r' _ ihr =>
     intro i hat hi
     simp only[Fo.len]at hi
     obtain⟨g0,g1,g2,g3,g4,⟨g5,hsl⟩,hr⟩:=hat
     have hie:i<elems.length:=by omega
     have e1:=(hel i (by omega)).trans (Sw hie)
     obtain⟨cs,hc,e2⟩:=Option.bind_eq_some_iff.1 e1
     obtain⟨_,hcl,hcell⟩:=World.cells?_some hc
     have e3:=hcell 5 (by omega)
     have ea:((⟨b,o,none⟩:Addr).add (i*6)).add 5=⟨b,o+i*6+5,none⟩:=by
      rw[add_add']
      unfold Addr.add
      rw[TW (by omega)]
      simp
      omega
     rw[ea,g5]at e3
     obtain⟨n',y,hn',hy,hb⟩:=vC e2 hcl e3.symm
     have h6:=ih n' (by omega) s' A' c' B y hsl hy
     have h7:=ihr (i+1) (by rw[show o+(i+1)*6=o+i*6+6 by omega];exact hr) (by omega)
     rw[TQ hie,List.map_cons]
     simp only[Rows.uptoBulkAll,Fo.count]
     omega
   have:=key s 0 (by rw[Nat.zero_mul,Nat.add_zero];exact hat) (by omega)
   simp only[List.drop_zero]at this
   simp only[Rows.uptoBulk]
   omega
theorem Ho {fuel B:Nat}{d:Dc}{x:DataW H×List MemPlace}(h:DataW.trod enc Tryz.prog W 0 (fun _=>true) true fuel 46 d.cells.toList=some x)(hd:d.s.Sl W B d.A d.c):d.s.count≤Rows.uptoBulk x.1:=by
 obtain⟨n,y,_,h1,h2⟩:=nY Tryz.underlying46 h 5 _ rfl 44 5 6 rfl rfl Tryz.nH
 obtain⟨n',z,_,h3,h4⟩:=vC h1 rfl (v:=.slice d.A d.s.len d.c) rfl
 have:=EX n' d.s d.A d.c B z hd h3
 omega
theorem EY {fuel B:Nat}{A:Option Addr}{c:Nat}{l:List Dc}{x:DataW H×List MemPlace}(hs:SlD W B A c l)(h:DataW.trod enc Tryz.prog W 0 (fun _=>true) true fuel 23 [.slice A l.length c]=some x) :
  ∀d∈l,d.s.count≤Rows.uptoBulk x.1:=by
 intro d hd
 obtain⟨i,hi⟩:=List.mem_iff_getElem?.1 hd
 have hil:=(Sy.1 hi).1
 rcases DataW.trod_slice Tryz.underlying23 h with⟨h0,_⟩|⟨a,len,cap,elems,rest,n,hfu,h0,hx,_,hl,hm,hlen,hel,_,_⟩
 ·simp only[List.cons.injEq,and_true,Value.slice.injEq]at h0
  omega
 ·simp only[List.cons.injEq,and_true,Value.slice.injEq]at h0
  obtain⟨h1,h2,_⟩:=h0
  subst hfu hx
  rw[Tryz.xO]at hel
  obtain⟨b,o,hA,_,hat⟩:=hs.2.2 (by intro e;subst e;simp at hil)
  rw[hA]at h1
  simp only[TK]at h1
  subst h1
  obtain⟨hcells,hok⟩:=hat i d hi
  have hie:i<elems.length:=by omega
  have e1:=(hel i (by omega)).trans (Sw hie)
  obtain⟨cs,hc,e2⟩:=Option.bind_eq_some_iff.1 e1
  obtain⟨_,hcl,hcell⟩:=World.cells?_some hc
  have ecs:cs=d.cells.toList:=by
   refine List.ext_getElem? fun q=>?_
   by_cases hq:q<11
   ·have e3:=hcell q hq
    have ea:((⟨b,o,none⟩:Addr).add (i*11)).add q=⟨b,o+i*11+q,none⟩:=by
     rw[add_add']
     unfold Addr.add
     split
     ·rename_i h0
      rw[show o+i*11+q=o by omega]
     ·simp
      omega
    rw[ea]at e3
    have hqd:q<d.cells.size:=hq
    have e4:=hcells q _ (Array.getElem?_eq_getElem hqd)
    rw[←e3,e4,Array.getElem?_toList,Array.getElem?_eq_getElem hqd]
   ·rw[Ui (by omega),Ui (by show 11≤q;omega)]
  rw[ecs]at e2
  have:=Ho e2 hok.2
  have hm:(elems[i]'hie).1∈elems.map (·.1):=TH.2 ⟨_,Ul _,rfl⟩
  have:=qP hm
  simp only[Rows.uptoBulk]
  omega
theorem Cu {B:Nat}{label:ByteArray}{uA dA:Option Addr}{un uc dc:Nat}{decls:List Dc}{d:DataW H}{p:List MemPlace}(hs:SlD W B dA dc decls)(h:DataW.Trod enc Tryz.prog W 0 (fun _=>true) true 25 (.agg #[.string label,.slice uA un uc,.slice dA decls.length dc]) d p) :
  ∀x∈decls,x.s.count≤Rows.uptoBulk d:=by
 obtain⟨fuel,h⟩:=h
 obtain⟨n,y,_,h1,h2⟩:=nY Tryz.underlying25 h 2 _ rfl 23 2 1 rfl rfl Tryz.ET
 intro x hx
 have:=EY hs h1 x hx
 simp only at h2
 omega
end
end Go.Proofs.Q
namespace Go.Proofs.Q
open Go.RowKit Go.Proofs Go.Shelf Go.Proofs.YtmmecapgnmlaiaaGreatDoor
def Fo.sum:Fo→Bool
 | .nil=>false
 | .cons k _ _ _ _ _ _ s r=>(k==15||s.sum)||r.sum
open Go.Maps (Keyed IsMap)
end Go.Proofs.Q
namespace Go.Proofs.Q
open Go.RowKit Go.Proofs Go.Shelf Go.Proofs.YtmmecapgnmlaiaaGreatDoor
def ko (met:List ByteArray)(s:ByteArray):Bool:=met.any fun t=>t.data.toList==s.data.toList
def nameOf (x:Dc):ByteArray:=x.names.headD ⟨#[]⟩
def Jc (l:List Dc):Prop:=∀x∈l,∀s∈x.names,s.size≤maxLen
def Dc.refs (x:Dc):List (ByteArray×Int):=refsOf x.body.vis
theorem below_drewN {B:Nat}{w w':World}(h:Below B w w')(n:Nat):Below B w (w'.drewN n):=⟨h.os,h.tape,h.output,h.size,h.block⟩
theorem uO (label:ByteArray)(uses:List ByteArray)(uA:Option Addr)(uc:Nat)(decls:List Dc)(dA:Option Addr)(dc:Nat)(w:World)(hu:SlS w w.heap.size uA uc uses)(hd:SlD w w.heap.size dA dc decls) :
  Calls Tryz.prog 24 #[.agg #[.string label,.slice uA uses.length uc,.slice dA decls.length dc]] w fun e w'=>e=.returned (.int .i64 (bY label uses decls))∧Below w.heap.size w w':=by
 obtain⟨E,HE⟩:∃E,Hid (E=bY label uses decls):=⟨_,rfl⟩
 rw[←HE.out]
 obtain⟨W0,hW0⟩:∃W0,w.alloc (.cells #[.string label,.slice uA uses.length uc,.slice dA decls.length dc] 25)=W0:=⟨_,rfl⟩
 have hzw:w.heap.size<W0.heap.size:=by subst hW0;simp
 have hB0:Below w.heap.size w W0:=by subst hW0;exact(TA _ _).alloc (SA _) _
 have h0:W0.cell? ⟨w.heap.size,0,none⟩=some (.string label):=by subst hW0;go_simp
 have h1:W0.cell? ⟨w.heap.size,1,none⟩=some (.slice uA uses.length uc):=by subst hW0;go_simp
 have h2:W0.cell? ⟨w.heap.size,2,none⟩=some (.slice dA decls.length dc):=by subst hW0;go_simp
 have hu0:=hu.keep (w':=W0) (B':=w.heap.size) (SA _) fun p hp=>hB0.cell hp
 have hd0:=hd.keep (w':=W0) (B':=w.heap.size) (SA _) fun p hp=>hB0.cell hp
 have HC:Hid (∀X,Below W0.heap.size W0 X→Below w.heap.size w X∧w.heap.size<X.heap.size∧SlS X X.heap.size uA uc uses∧SlD X w.heap.size dA dc decls∧X.cell? ⟨w.heap.size,0,none⟩=some (.string label)∧X.cell? ⟨w.heap.size,1,none⟩=some (.slice uA uses.length uc)∧X.cell? ⟨w.heap.size,2,none⟩=some (.slice dA decls.length dc)):=fun X hX =>
  ⟨hB0.trans (hX.mono (by omega)),SB hzw hX.size,hu0.keep (SE (SF hzw) hX.size) (fun p hp=>hX.cell (by omega)),hd0.keep (SA _) (fun p hp=>hX.cell (by omega)),(hX.cell (p:=⟨w.heap.size,0,none⟩) hzw).trans h0,(hX.cell (p:=⟨w.heap.size,1,none⟩) hzw).trans h1,(hX.cell (p:=⟨w.heap.size,2,none⟩) hzw).trans h2⟩
 have hul:=hu.1
 have JF:=hu.2.1
 have hdl:=hd.1
 have JG:=hd.2.1
 unfold maxLen at JF JG
 clear h1 h2 hu hd hu0 hd0 hB0
 have HL:=Sk (dQ label W0)
 obtain⟨E1,HE1⟩:∃E1,Hid (jc uses=E1):=⟨_,rfl⟩
 obtain⟨E2,HE2⟩:∃E2,Hid (fM label uses uses.length 0=E2):=⟨_,rfl⟩
 obtain⟨bl,Hbl⟩:∃bl,Hid (bN label=bl):=⟨_,rfl⟩
 have HD:Hid (E=if bl=false then 6 else if E1≠0 then E1 else if E2≠0 then E2 else if 100<decls.length then 4 else cO label none decls):=by
  show E=_
  rw[HE.out,bY,Hbl.out,HE1.out,HE2.out]
 clear HE
 go_enter Tryz.func24,Tryz.ntmps24
 go_wp2_with fail
 refine HL.out.mono ?_
 rintro e w1 ⟨rfl,hb1⟩
 rw[Hbl.out]
 obtain⟨hB1,hz1,hs1,hd1,y0,y1,y2⟩:=HC.out w1 hb1
 have HB1:=Sk (Sn hb1 (Sn hB1 hd1))
 clear hb1 hB1 hd1 hW0 h0 HL
 cases bl
 ·have HR:=Sk (HD.out.trans (TY rfl))
  go_wp2
  go_ret
  exact⟨by rw[HR.out];rfl,HB1.out.2.1⟩
 have HD2:=Sk (HD.out.trans (TW (by simp)))
 have HC1:=Sk (uZ uses uA uc w1 hs1)
 clear hs1 HD
 go_wp2_with fail
 refine HC1.out.mono ?_
 rintro e w2 ⟨rfl,hb2⟩
 rw[HE1.out]
 have hb2':=HB1.out.1.trans (hb2.mono HB1.out.1.size)
 obtain⟨hB2,hz2,hs2,hd2,x0,x1,x2⟩:=HC.out w2 hb2'
 have HB2:=Sk (Sn hb2' (Sn hB2 (Sn hs2 hd2)))
 clear hb2 hb2' hB2 y0 y1 y2 HC1 hs2 hd2
 by_cases e1:E1=0
 rotate_left
 ·have HR:=Sk (HD2.out.trans (TY e1))
  have e1':(E1 != 0)=true:=by simpa using e1
  go_wp2
  go_ret
  exact⟨by rw[HR.out];rfl,HB2.out.2.1⟩
 subst e1
 have HD3:=Sk (HD2.out.trans (TW (by simp)))
 go_wp2
 go_loopg [4,5,23] uses.length (fun g _ _ ct wr=>∃j:Nat,g=uses.length-j∧j≤uses.length∧ct=.int .i64 j∧E2=fM label uses (uses.length-j) j∧Below W0.heap.size W0 wr)
 case atStart=>exact⟨0,rfl,by omega,rfl,by rw[←HE2.out];rfl,HB2.out.1⟩
 case round =>
  obtain⟨j,HG,hj,rfl,HA,HB⟩:=hrel
  have HG':=Sk (Sn HG (Sn HA HB))
  obtain⟨hBr,hzr,hsr,hdr,y0,y1,y2⟩:=HC.out wr HB
  have HBr:=Sk (Sn HB (Sn hBr hdr))
  clear HG HA HB hBr hdr x0 x1 x2
  by_cases hlt:j<uses.length
  ·have HCU:=Sk (Aq label uses j uA uc wr hlt hsr)
   have HU:=Sk (show fM label uses (uses.length-j) j=if jF label uses j=0 then fM label uses (uses.length-(j+1)) (j+1)else jF label uses j by
    rw[show uses.length-j=(uses.length-(j+1))+1 by omega];rfl)
   obtain⟨Eu,HEu⟩:∃Eu,Hid (jF label uses j=Eu):=⟨_,rfl⟩
   rw[HEu.out]at HU HCU
   clear hsr
   go_wp2_with fail
   refine HCU.out.mono ?_
   rintro e w3 ⟨rfl,hb3⟩
   have HB3:=Sk (HBr.out.1.trans (hb3.mono HBr.out.1.size))
   clear hb3
   by_cases eu:Eu=0
   ·subst eu
    go_wp2
    go_roundg (uses.length-(j+1))
    case measure=>rw[HG'.out.1];omega
    case rel=>exact⟨j+1,rfl,by omega,by go_num,by rw[HG'.out.2.1,HU.out];simp,HB3.out⟩
   ·have eu':(Eu != 0)=true:=by simpa using eu
    have HR:=Sk (show E=Eu by
     have h:E2=Eu:=by rw[HG'.out.2.1,HU.out,TW eu]
     rw[HD3.out,TY (by rw[h];exact eu),h])
    go_wp2
    go_ret
    exact⟨by rw[HR.out];rfl,(HC.out _ HB3.out).1⟩
  ·obtain rfl:j=uses.length:=by omega
   have HD4:=Sk (HD3.out.trans (TW (by rw[HG'.out.2.1,Nat.sub_self];simp[fM])))
   clear hsr
   by_cases hlong:100<decls.length
   ·have HR:=Sk (HD4.out.trans (TY hlong))
    go_wp2
    go_ret
    exact⟨by rw[HR.out];rfl,HBr.out.2.1⟩
   ·have HD5:=Sk (HD4.out.trans (TW hlong))
    go_wp2
    go_loopg [6,7,8,43] decls.length (fun g _ _ _ ct wr2=>∃j:Nat,g=decls.length-j∧j≤decls.length∧ct=.int .i64 j∧E=cO label (fZ decls j) (decls.drop j)∧Below W0.heap.size W0 wr2)
    case atStart=>exact⟨0,rfl,by omega,rfl,HD5.out,HBr.out.1⟩
    case round =>
     obtain⟨j,HG,hj2,rfl,HA,HB⟩:=hrel
     have HG2:=Sk (Sn HG HA)
     obtain⟨Nw,Ny,_,JH,z0,z1,z2⟩:=HC.out wr HB
     have JI:=Sk (Sn HB Nw)
     clear HG HA HB Nw y0 y1 y2 z1
     by_cases hlt2:j<decls.length
     ·have hj3:decls[j]?=some decls[j]:=Sw hlt2
      obtain⟨b,o,rfl,hb,hall⟩:=JH.2.2 (by intro e;subst e;simp at hlt2)
      obtain⟨hcs,hok⟩:=hall j _ hj3
      have HDR:=Sk (show decls.drop j=decls[j]::decls.drop (j+1)from TQ hlt2)
      have HPV:=Sk (show fZ decls (j+1)=some decls[j].id by simp[fZ,hj3])
      have JJ:=Sk hall
      clear hall hj3 JH
      generalize decls[j]=x at hcs hok HDR HPV
      obtain⟨Ed,HEd⟩:∃Ed,Hid (fG label x=Ed):=⟨_,rfl⟩
      have HX:=Sk (Sn hok HEd.out)
      obtain⟨xid,bD,bS,xnA,xnc,aK,aY,xk,xn,xm,xi,xd,xA,xc,xs⟩:=x
      obtain⟨d0,d1,d2,d3,d4,d5,d6,d7,d8,d9,d10⟩:=dcs hcs
      clear hcs hok
      obtain⟨W3,hW3⟩:∃W3,wr.alloc (.cells #[.int .i64 xid,.int .i64 bD,.bool bS,.slice xnA aK.length xnc,.bool aY,.int .i64 xk,.string xn,.string xm,.int .i64 xi,.int .i64 xd,.slice xA xs.len xc] 46)=W3:=⟨_,rfl⟩
      have hb3:Below wr.heap.size wr W3:=by subst hW3;exact(TA _ _).alloc (SA _) _
      have hz3:wr.heap.size<W3.heap.size:=by subst hW3;simp
      have f0:W3.cell? ⟨wr.heap.size,0,none⟩=some (.int .i64 xid):=by subst hW3;go_simp
      have f1:W3.cell? ⟨wr.heap.size,1,none⟩=some (.int .i64 bD):=by subst hW3;go_simp
      have f2:W3.cell? ⟨wr.heap.size,2,none⟩=some (.bool bS):=by subst hW3;go_simp
      have f3:W3.cell? ⟨wr.heap.size,3,none⟩=some (.slice xnA aK.length xnc):=by subst hW3;go_simp
      have f4:W3.cell? ⟨wr.heap.size,4,none⟩=some (.bool aY):=by subst hW3;go_simp
      have f5:W3.cell? ⟨wr.heap.size,5,none⟩=some (.int .i64 xk):=by subst hW3;go_simp
      have f6:W3.cell? ⟨wr.heap.size,6,none⟩=some (.string xn):=by subst hW3;go_simp
      have f7:W3.cell? ⟨wr.heap.size,7,none⟩=some (.string xm):=by subst hW3;go_simp
      have f8:W3.cell? ⟨wr.heap.size,8,none⟩=some (.int .i64 xi):=by subst hW3;go_simp
      have f9:W3.cell? ⟨wr.heap.size,9,none⟩=some (.int .i64 xd):=by subst hW3;go_simp
      have f10:W3.cell? ⟨wr.heap.size,10,none⟩=some (.slice xA xs.len xc):=by subst hW3;go_simp
      have g0:=(hb3.cell (p:=⟨w.heap.size,0,none⟩) Ny).trans z0
      have g2:=(hb3.cell (p:=⟨w.heap.size,2,none⟩) Ny).trans z2
      have hcd:=(wK label ⟨xid,bD,bS,xnA,xnc,aK,aY,xk,xn,xm,xi,xd,xA,xc,xs⟩ W3 ⟨HX.out.1.1.keep (by omega) (fun p hp=>hb3.cell (by omega)),HX.out.1.2.keep (by omega) (fun p hp=>hb3.cell (by omega))⟩)
      rw[HEd.out]at hcd
      simp only[Dc.cells]at hcd
      have HCD:=Sk hcd
      clear hcd
      have HB3:=Sk (JI.out.1.trans (hb3.mono JI.out.1.size))
      have Aw:∀p:Addr,p.block<wr.heap.size→W3.cell? p=wr.cell? p:=fun p hp=>hb3.cell hp
      clear hb3
      go_wp2_with fail
      refine HCD.out.mono ?_
      rintro e w4 ⟨rfl,hb4⟩
      have HB4:=Sk (HB3.out.trans (hb4.mono HB3.out.size))
      have i0:=(hb4.cell (p:=⟨wr.heap.size,0,none⟩) hz3).trans f0
      have i2:=(hb4.cell (p:=⟨w.heap.size,2,none⟩) (by simp;omega)).trans g2
      clear hW3 d0 d1 d2 d3 d4 d5 d6 d7 d8 d9 d10 f0 f1 f2 f3 f4 f5 f6 f7 f8 f9 f10 g0 g2 z0 z2
      by_cases ed:Ed=0
      rotate_left
      ·have ed':(Ed != 0)=true:=by simpa using ed
       have HR:=Sk (show E=Ed by
        rw[HG2.out.2,HDR.out]
        cases fZ decls j <;> simp[cO,HEd.out,ed])
       clear hb4 Aw
       go_wp2
       go_ret
       exact⟨by rw[HR.out];rfl,(HC.out _ HB4.out).1⟩
      subst ed
      cases j with
      | zero =>
       have HR:=Sk (show E=cO label (fZ decls (0+1)) (decls.drop (0+1)) by
        rw[HG2.out.2,HDR.out,HPV.out]
        simp[fZ,cO,HEd.out])
       clear hb4 Aw
       go_wp2_with fail
       go_quiet (fail)
       go_wp2
       go_roundg (decls.length-(0+1))
       case measure=>rw[HG2.out.1];omega
       case rel=>exact⟨0+1,rfl,by omega,by go_num,HR.out,below_drewN HB4.out _⟩
      | succ j =>
       have hk3:decls[j]?=some decls[j]:=Sw (by omega)
       have hk0:wr.cell? ⟨b,o+j*11,none⟩=some (.int .i64 decls[j].id):=(JJ.out j _ hk3).1 0 _ rfl
       have HQ:=Sk (show fZ decls (j+1)=some decls[j].id by simp[fZ,hk3])
       clear hk3
       generalize decls[j].id=pid at hk0 HQ
       have hp1:(0:Int)<(j:Int)+1:=by omega
       have hw1:IntKind.i64.wrap ((j:Int)+1-1)=j:=by rw[show ((j:Int)+1-1)=j by omega];exact IntWalk.i64_in _ (by omega)
       have hj0:(0:Int)≤(j:Int):=by omega
       have hj1:(j:Int)<(decls.length:Int):=by omega
       have hk4:=(hb4.cell (p:=⟨b,o+j*11,none⟩) (by simp;omega)).trans ((Aw ⟨b,o+j*11,none⟩ (by simp;omega)).trans hk0)
       by_cases hle:xid≤pid
       ·have HR:=Sk (show E=10 by
         rw[HG2.out.2,HDR.out,HQ.out]
         simp[cO,HEd.out,hle])
        clear hb4 Aw hk0
        go_wp2_with fail
        go_quiet (fail)
        go_wp2
        go_ret
        exact⟨by rw[HR.out];rfl,below_drewN (HC.out _ HB4.out).1 _⟩
       ·have HR:=Sk (show E=cO label (fZ decls (j+1+1)) (decls.drop (j+1+1)) by
         rw[HG2.out.2,HDR.out,HQ.out,HPV.out]
         simp[cO,HEd.out,hle])
        have hle':decide (xid≤pid)=false:=by simpa using hle
        clear hb4 Aw hk0
        go_wp2_with fail
        go_quiet (fail)
        go_wp2
        go_roundg (decls.length-(j+1+1))
        case measure=>rw[HG2.out.1];omega
        case rel=>exact⟨j+1+1,rfl,by omega,by go_num,HR.out,below_drewN HB4.out _⟩
     ·obtain rfl:j=decls.length:=by omega
      have HR:=Sk (show E=0 by
       rw[HG2.out.2,List.drop_of_length_le (SA _)]
       cases fZ decls decls.length <;> rfl)
      clear JH
      go_wp2
      go_ret
      exact⟨by rw[HR.out];rfl,JI.out.2⟩
def oF (s:Fo):Prop:=∀(k:Int)(n m:ByteArray)(i d:Int)(A:Option Addr)(c:Nat)(w:World),s.Sl w w.heap.size A c →
  Calls Tryz.prog 93 #[.agg #[.int .i64 k,.string n,.string m,.int .i64 i,.int .i64 d,.slice A s.len c]] w fun e w'=>e=.returned (.bool (k==15||s.sum))∧Below w.heap.size w w'
def O7 (b:Bool)(w:World)(e:Ending)(w':World):Prop:=∃j:Int,e=.returned (.int .i64 j)∧decide (0≤j)=b∧Below w.heap.size w w'
theorem yQ (s:Fo)(ih:s.All oF)(A:Option Addr)(c:Nat)(w:World)(hs:s.Sl w w.heap.size A c) :
  Calls Tryz.prog 211 #[.slice A s.len c,.func (.func 93) #[] #[]] w (O7 s.sum w):=by
 have HS:=Sk hs
 clear hs
 have IH:=Sk ih
 clear ih
 have hcap:s.len≤9223372036854775807:=by have:=HS.out.1;have:=HS.out.2.1;unfold maxLen at this;omega
 obtain⟨E,HE⟩:∃E,Hid (s.sum=E):=⟨_,rfl⟩
 rw[HE.out]
 go_enter Tryz.func211,Tryz.ntmps211
 go_wp2
 go_loopg [5,8] s.len (fun g _ ct wr=>∃(j:Nat) (r:Fo),g=r.len∧j+r.len=s.len∧ct=.int .i64 j∧E=r.sum∧r.All oF ∧
  (r≠.nil→∃b o,A=some ⟨b,o,none⟩∧b<w.heap.size∧r.At wr w.heap.size b (o+j*6))∧Below w.heap.size w wr)
 case atStart =>
  refine⟨0,s,rfl,by omega,rfl,HE.out.symm,IH.out,?_,TA _ _⟩
  intro hne
  obtain⟨b,o,e,hb,h⟩:=HS.out.2.2 hne
  exact⟨b,o,e,hb,by rw[Nat.zero_mul,Nat.add_zero];exact h⟩
 case round =>
  obtain⟨j,r,HG,hjr,rfl,hE,HA,HAt,HB⟩:=hrel
  cases r with
  | nil =>
   have gJ:s.len≤j:=by simp only[Fo.len]at hjr;omega
   have nT:j≤s.len:=by simp only[Fo.len]at hjr;omega
   have HR:=Sk hE
   clear hjr HG hE
   go_wp2
   go_ret
   exact⟨-1,rfl,by rw[HR.out];rfl,HB⟩
  | cons rk rn rm ri rd A' c' rs rr =>
   have gJ:j<s.len:=by simp only[Fo.len]at hjr;omega
   obtain⟨b,o,rfl,hb,h0,h1,h2,h3,h4,⟨h5,hc',hm',hs'⟩,hr'⟩:=HAt (by simp)
   have HS':=Sk (Sn hs' (Sn hr' (Sn HB (Sn HG hjr))))
   have hbz:=HB.size
   have hok:=(HA.1 rk rn rm ri rd A' c' wr ⟨hc',hm',fun hne=>by
    obtain⟨b',o',e,hb',h'⟩:=HS'.out.1 hne
    exact⟨b',o',e,by omega,h'.keep (by omega) (fun _ _=>rfl) hb'⟩⟩)
   obtain⟨q,Hq⟩:∃q,Hid ((rk==15||rs.sum)=q):=⟨_,rfl⟩
   rw[Hq.out]at hok
   have HE2:Hid (E=(q||rr.sum)):=by show E=_;rw[hE,←Hq.out];rfl
   have HO:=Sk (Sn hok HA.2)
   clear hs' hr' HB HG hjr hok HA HAt hE
   go_wp2_with fail
   refine HO.out.1.mono ?_
   rintro e w1 ⟨rfl,hb1⟩
   have HB1:=Sk (Sn (HS'.out.2.2.1.trans (hb1.mono (by omega))) hb1)
   clear hb1
   cases q
   ·go_wp2
    go_roundg rr.len
    case measure=>rw[HS'.out.2.2.2.1];simp[Fo.len]
    case rel =>
     refine⟨j+1,rr,rfl,by have:=HS'.out.2.2.2.2;simp only[Fo.len]at this;omega,by go_num,by rw[HE2.out];rfl,HO.out.2,?_,HB1.out.1⟩
     intro hne
     refine⟨b,o,rfl,hb,?_⟩
     rw[show o+(j+1)*6=o+j*6+6 by omega]
     exact HS'.out.2.1.keep (SA _) (fun p hp=>HB1.out.2.cell (by omega)) hb
   ·have HR:=Sk (show E=true by rw[HE2.out];rfl)
    go_wp2
    go_ret
    exact⟨j,rfl,by rw[HR.out];simp,HB1.out.1⟩
theorem uy (s:Fo)(ih:s.All oF)(A:Option Addr)(c:Nat)(w:World)(hs:s.Sl w w.heap.size A c) :
  Calls Tryz.prog 151 #[.slice A s.len c,.func (.func 93) #[] #[]] w fun e w'=>e=.returned (.bool s.sum)∧Below w.heap.size w w':=by
 have HC:=Sk (yQ s ih A c w hs)
 clear ih hs
 obtain⟨E,HE⟩:∃E,Hid (s.sum=E):=⟨_,rfl⟩
 rw[HE.out]at HC ⊢
 go_enter Tryz.func151,Tryz.ntmps151
 go_wp2_with fail
 refine HC.out.mono ?_
 rintro e w1 ⟨j,rfl,hj,hb⟩
 go_wp2
 go_ret
 exact⟨by simp,hb⟩
theorem Ht (s:Fo)(ih:s.All oF):oF s:=by
 intro k n m i d A c w hs
 obtain⟨E,HE⟩:∃E,Hid (s.sum=E):=⟨_,rfl⟩
 rw[HE.out]
 obtain⟨W0,hW0⟩:∃W0,w.alloc (.cells #[.int .i64 k,.string n,.string m,.int .i64 i,.int .i64 d,.slice A s.len c] 44)=W0:=⟨_,rfl⟩
 have hzw:w.heap.size<W0.heap.size:=by subst hW0;simp
 have hB0:Below w.heap.size w W0:=by subst hW0;exact(TA _ _).alloc (SA _) _
 have h0:W0.cell? ⟨w.heap.size,0,none⟩=some (.int .i64 k):=by subst hW0;go_simp
 have h5:W0.cell? ⟨w.heap.size,5,none⟩=some (.slice A s.len c):=by subst hW0;go_simp
 have hs0:=hs.keep (w':=W0) (B':=W0.heap.size) (SF hzw) fun p hp=>hB0.cell hp
 have hc:=uy s ih A c W0 hs0
 rw[HE.out]at hc
 have HC:=Sk (Sn hc hB0)
 clear hc hB0 hs0 hs ih
 by_cases hk:k=15
 ·have hk':(k==15)=true:=by simpa using hk
  rw[hk',Bool.true_or]
  clear hk
  go_enter Tryz.func93,Tryz.ntmps93
  go_wp2
  go_ret
  exact⟨rfl,HC.out.2⟩
 ·have hk':(k==15)=false:=by simpa using hk
  rw[hk',Bool.false_or]
  clear hk
  go_enter Tryz.func93,Tryz.ntmps93
  go_wp2_with fail
  refine HC.out.1.mono ?_
  rintro e w1 ⟨rfl,hb1⟩
  have HB1:=Sk (HC.out.2.trans (hb1.mono (by omega)))
  clear hb1
  go_wp2
  go_ret
  exact⟨rfl,HB1.out⟩
theorem Cv (s:Fo):oF s:=Fo.eT Ht s
end Go.Proofs.Q
