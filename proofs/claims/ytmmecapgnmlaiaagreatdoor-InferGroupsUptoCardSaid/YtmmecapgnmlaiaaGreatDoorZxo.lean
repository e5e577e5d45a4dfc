/- infer: the map of the numbers of variables, keyed by nodes -/
import Derived.Test.YtmmecapgnmlaiaaGreatDoorZxn
import Derived.RangeFuncRecord
import Derived.Lib.OwnKind
set_option maxRecDepth 100000
set_option maxHeartbeats 16000000
namespace Go.Proofs.Q
open Go Go.RowKit Go.Proofs Go.Proofs.Unify
variable {D:Nat→Prop} {M:Nat→Prop}
theorem Tryz.pU:Tryz.prog.underlying 153=some (.map 144 3):=by kernel_rfl
theorem l5 (w:World):(zeroValue 3).run Tryz.prog w=.ok (.int .i64 0) w:=by kernel_rfl
theorem getM {w:World}{r:Nat}{es:Array MapEntry}{c:Nat}(h:w.heap[r]?=some (.map es c)):(getObj r).run Tryz.prog w=.ok (.map es c) w:=by simp[getObj,Sem.run,h]
theorem Qp {w:World}{r:Nat}{es:Array MapEntry}{c:Nat}(h:w.heap[r]?=some (.map es c))(o:Obj):(setObj r o).run Tryz.prog w=.ok () (w.putObj r o):=by simp[setObj,Sem.run,h,World.putObj]
def jf (i:Nat):List Nat→Nat→Option Nat
 | [],_=>none
 | j::m,k=>if i=j then some k else jf i m (k+1)
def lH (ix:List Nat):List Nat→Nat→List (Value×Value)
 | [],_=>[]
 | j::m,k=>(nP (blk ix j),.int .i64 k)::lH ix m (k+1)
theorem AQ (ix:List Nat):∀(m:List Nat)(k:Nat),(lH ix m k).length=m.length
 | [],_=>rfl
 | _::m,k=>by simp[lH,AQ ix m (k+1)]
theorem xY (ix:List Nat)(i:Nat):∀(m:List Nat)(k:Nat),lH ix (m++[i]) k=lH ix m k++[(nP (blk ix i),.int .i64 ((k+m.length:Nat):Int))]
 | [],k=>by simp[lH]
 | _::m,k=>by
  simp only[TU,lH,xY ix i m (k+1),TS]
  rw[show k+1+m.length=k+(m.length+1) by omega]
theorem xZ (i:Nat):∀(m:List Nat)(k:Nat),(jf i m k=none∧(fu m i).1=m.length∧(fu m i).2=m++[i])∨(jf i m k=some (k+(fu m i).1)∧(fu m i).2=m)
 | [],k=>.inl ⟨rfl,rfl,rfl⟩
 | j::m,k=>by
  unfold jf fu
  by_cases e:j=i
  ·subst e
   simp
  ·rw[TW (Ne.symm e),TW e]
   rcases xZ i m (k+1)with⟨h1,h2,h3⟩|⟨h1,h2⟩
   ·exact .inl ⟨h1,by simp[h2],by simp[h3]⟩
   ·exact .inr ⟨by rw[h1];simp;omega,by simp[h2]⟩
theorem Qq {w:World}{ix:List Nat}{S:St}{sz:Nat→Int}(h:StH D M w ix S sz){i j:Nat}(hi:i<S.length)(hj:j<S.length):(Op.equal 144 (nP (blk ix i)) (nP (blk ix j))).run Tryz.prog w=.ok (decide (i=j)) w:=by
 obtain⟨inf,AP,_,hsz,_⟩:=info_parts Tryz.AO
 by_cases e:i=j
 ·subst e
  have hh:∀d:Nat,(Op.equalIn (d+1) 144 (nP (blk ix i)) (nP (blk ix i))).run Tryz.prog w=.ok true w:=fun d=>by
   simp[nP,Op.equalIn,run_underlying Tryz.jG,sizeOf,typeInfo,AP,run_sameAddr_same]
  simp[Op.equal,Op.maxDepth,hh 9999]
 ·obtain⟨u,A,c,h1,_⟩:=h.at_ (Sw hi)
  obtain⟨u',A',c',h1',_⟩:=h.at_ (Sw hj)
  have hne:(⟨blk ix i,0,none⟩:Addr)≠⟨blk ix j,0,none⟩:=fun x=>e (h.inj hi hj (by simpa using x))
  have hh:∀d:Nat,(Op.equalIn (d+1) 144 (nP (blk ix i)) (nP (blk ix j))).run Tryz.prog w=.ok false w:=fun d=>by
   simp[nP,Op.equalIn,run_underlying Tryz.jG,sizeOf,typeInfo,AP,hsz,run_sameAddr_other w hne h1 h1']
  rw[SH e]
  simp[Op.equal,Op.maxDepth,hh 9999]
theorem qU {w:World}{ix:List Nat}{S:St}{sz:Nat→Int}(h:StH D M w ix S sz){i:Nat}(hi:i<S.length):∀(m:List Nat)(es:List MapEntry)(k:Nat),es.map (fun e=>(e.key,e.val))=lH ix m k→(∀j∈m,j<S.length) →
  (Instr.findAsking 144 (nP (blk ix i)) es k).run Tryz.prog w=.ok ((jf i m k).map fun p=>(p,.int .i64 (p:Int))) w
 | [],[],k,_,_=>by simp[Instr.findAsking,jf]
 | [],e::es,k,h,_=>by simp[lH]at h
 | j::m,[],k,h,_=>by simp[lH]at h
 | j::m,e::es,k,he,hm=>by
  simp only[List.map_cons,lH,List.cons.injEq,Prod.mk.injEq]at he
  obtain⟨⟨h1,h2⟩,h3⟩:=he
  have ih:=qU h hi m es (k+1) h3 fun y hy=>hm y (Tc _ hy)
  have hq:=Qq h hi (hm j Ta)
  by_cases e':i=j
  ·simp only[jf,TY e',Instr.findAsking,h1,Sem.run_bind,hq,SI e',Result.andThen_ok]
   simp[h2]
  ·simp only[jf,TW e',Instr.findAsking,h1,Sem.run_bind,hq,SH e',Result.andThen_ok]
   simpa using ih
theorem AU {w:World}(k:Value)(es:List MapEntry):(Instr.findKey 144 k es).run Tryz.prog w=(Instr.findAsking 144 k es).run Tryz.prog w:=by
 cases es with
 | nil=>simp[Instr.findKey,run_underlying Tryz.jG,Instr.findNow,Instr.findAsking]
 | cons e es =>
  have:Instr.sameNow (.pointer 151) k e.key=none:=by cases k <;> rfl
  simp[Instr.findKey,run_underlying Tryz.jG,Instr.findNow,this]
theorem wQ {w:World}(b:Bool)(g:Nat):(Instr.checkKey b 10000 144 (nP g)).run Tryz.prog w=.ok () w:=by
 have:∀d,(Instr.checkKey b (d+1) 144 (nP g)).run Tryz.prog w=.ok () w:=fun d=>by
  simp[Instr.checkKey,run_underlying Tryz.jG,nP]
 exact this 9999
def NmM (w:World)(nb:Nat)(ix:List Nat)(m:List Nat):Prop:=∃es clock,w.heap[nb]?=some (.map es clock)∧es.toList.map (fun e=>(e.key,e.val))=lH ix m 0
theorem NmM.keep {w w':World}{nb:Nat}{ix:List Nat}{m:List Nat}(h:NmM w nb ix m)(e:w'.heap[nb]?=w.heap[nb]?):NmM w' nb ix m:=by
 obtain⟨es,c,h1,h2⟩:=h
 exact⟨es,c,e.trans h1,h2⟩
theorem NmM.lt {w:World}{nb:Nat}{ix:List Nat}{m:List Nat}(h:NmM w nb ix m):nb<w.heap.size:=by
 obtain⟨es,c,h1,h2⟩:=h
 exact(Sz.1 h1).1
theorem NmM.not {w:World}{nb:Nat}{ix:List Nat}{m:List Nat}(h:NmM w nb ix m):¬TgN w nb:=by
 obtain⟨es,c,h1,h2⟩:=h
 exact TgN.vI h1
theorem NmM.made (w:World)(ix:List Nat):NmM (w.alloc (.map #[] 0)) w.heap.size ix []:=⟨#[],0,Sv w _,rfl⟩
section
variable {w:World} {nb:Nat} {ix:List Nat} {m:List Nat} {S:St} {sz:Nat→Int}
theorem NmM.len (h:NmM w nb ix m)(ty:TypeId):(Builtin.len_ #[153] ty #[.map (some nb)]).run Tryz.prog w=.ok (.int .i64 m.length) w:=by
 obtain⟨es,c,h1,h2⟩:=h
 have:es.size=m.length:=by
  have:=congrArg List.length h2
  rw[AQ,S9]at this
  simpa using this
 rw[run_len_map _ 153 ty nb es c (by kernel_rfl) h1,←this]
 rfl
theorem NmM.look (h:NmM w nb ix m)(hs:StH D M w ix S sz){i:Nat}(hi:i<S.length)(hm:∀j∈m,j<S.length)(b:Bool) :
  (Instr.lookup 153 (.map (some nb)) (nP (blk ix i)) b).run Tryz.prog w=.ok (if b then .tuple #[.int .i64 (((jf i m 0).getD 0:Nat):Int),.bool (jf i m 0).isSome]else .int .i64 (((jf i m 0).getD 0:Nat):Int)) w:=by
 obtain⟨es,c,h1,h2⟩:=h
 have hr:=qU hs hi m es.toList 0 h2 hm
 rw[←AU]at hr
 cases hp:jf i m 0 with
 | none =>
  rw[hp]at hr
  simp[Instr.lookup,run_underlying Tryz.pU,getM h1,wQ,hr]
 | some p =>
  rw[hp]at hr
  simp[Instr.lookup,run_underlying Tryz.pU,getM h1,wQ,hr]
theorem NmM.push (h:NmM w nb ix m)(hs:StH D M w ix S sz){i:Nat}(hi:i<S.length)(hm:∀j∈m,j<S.length)(hp:jf i m 0=none) :
  ∃O,(Instr.mapUpdate 153 (.map (some nb)) (nP (blk ix i)) (.int .i64 m.length)).run Tryz.prog w=.ok () (w.putObj nb O)∧NmM (w.putObj nb O) nb ix (m++[i]):=by
 have hlt:=h.lt
 obtain⟨es,c,h1,h2⟩:=h
 have hr:=qU hs hi m es.toList 0 h2 hm
 rw[←AU,hp]at hr
 refine⟨.map (es.push { key:=nP (blk ix i),val:=.int .i64 m.length,born:=c }) (c+1),?_,_,_,World.putObj_heap_same hlt,?_⟩
 ·simp[Instr.mapUpdate,run_underlying Tryz.pU,getM h1,wQ,hr,Qp h1]
 ·rw[xY,←h2]
  simp
end
end Go.Proofs.Q
namespace Go.Proofs.Unify
inductive Tf where
 | nil:Tf
 | cons:Int→Int→Tf→Tf→Tf
namespace Tf
def len:Tf→Nat
 | .nil=>0
 | .cons _ _ _ r=>r.len+1
def at_:Tf→Nat→Option (Int×Int×Tf)
 | .nil,_=>none
 | .cons k v s _,0=>some (k,v,s)
 | .cons _ _ _ r,j+1=>r.at_ j
def app:Tf→Tf→Tf
 | .nil,m=>m
 | .cons k v s r,m=>.cons k v s (r.app m)
theorem wR:∀(l m:Tf),(l.app m).len=l.len+m.len
 | .nil,m=>by simp[app,len]
 | .cons _ _ _ r,m=>by simp only[app,len,wR r m];omega
theorem DV:∀l:Tf,l.app .nil=l
 | .nil=>rfl
 | .cons _ _ _ r=>by simp only[app,DV r]
theorem yg:∀l m n:Tf,(l.app m).app n=l.app (m.app n)
 | .nil,_,_=>rfl
 | .cons _ _ _ r,m,n=>by simp only[app,yg r m n]
end Tf
def bL (g:Nat→List Nat→(Int×Int×Tf)×List Nat):List Nat→List Nat→Tf×List Nat
 | [],m=>(.nil,m)
 | s::l,m=>(.cons (g s m).1.1 (g s m).1.2.1 (g s m).1.2.2 (bL g l (g s m).2).1,(bL g l (g s m).2).2)
def bT (S:St):Nat→Nat→List Nat→(Int×Int×Tf)×List Nat
 | 0,_,m=>((0,0,.nil),m)
 | f+1,i,m=>match S[rt S i]? with
  | none=>((0,0,.nil),m)
  | some x=>if x.kind=5 then ((5,((fu m (rt S i)).1:Int),.nil),(fu m (rt S i)).2)else ((x.kind,0,(bL (bT S f) x.sub m).1),(bL (bT S f) x.sub m).2)
def Bl (S:St):Nat→Nat→Prop
 | 0,_=>False
 | f+1,i=>∀x,S[rt S i]?=some x→x.kind≠5→∀s∈x.sub,Bl S f s
theorem JR {S:St}{m:List Nat}{i:Nat}(hm:∀j∈m,j<S.length)(hi:i<S.length):∀j∈(fu m i).2,j<S.length:=by
 induction m with
 | nil =>
  intro j hj
  have:j=i:=by simpa [fu]using hj
  omega
 | cons b m ih =>
  intro j hj
  unfold fu at hj
  split at hj
  ·exact hm j hj
  ·rcases TI.1 hj with h|h
   ·rw[h];exact hm b Ta
   ·exact ih (fun k hk=>hm k (Tc _ hk)) j h
theorem Ib {S:St}{g:Nat→List Nat→(Int×Int×Tf)×List Nat}(hg:∀s m,s<S.length→(∀j∈m,j<S.length)→∀j∈(g s m).2,j<S.length):∀(l m:List Nat),(∀j∈l,j<S.length)→(∀j∈m,j<S.length)→∀j∈(bL g l m).2,j<S.length
 | [],_,_,hm=>hm
 | s::l,m,hl,hm=>Ib hg l _ (fun j hj=>hl j (Tc _ hj)) (hg s m (hl s Ta) hm)
theorem Ic {ar:Int→Nat}{S:St}(hw:Wf ar S):∀(f i:Nat)(m:List Nat),i<S.length→(∀j∈m,j<S.length)→∀j∈(bT S f i m).2,j<S.length
 | 0,_,_,_,hm=>hm
 | f+1,i,m,hi,hm=>by
  obtain⟨x,hx,_⟩:=iV hw hi
  unfold bT
  rw[hx]
  simp only
  split
  ·exact JR hm (nu hw hi)
  ·exact Ib (fun s m hs hm=>Ic hw f s m hs hm) _ _ (hw.sub _ x hx).2 hm
def eF:Tf→List (Int×Nat)→St→List Nat×List (Int×Nat)×St
 | .nil,vs,S=>([],vs,S)
 | .cons k v s r,vs,S =>
  let h:=if k=5 then (match vs.lookup v with
   | some i=>(i,vs,S)
   | none=>(S.length,vs++[(v,S.length)],S++[⟨none,5,[],0⟩]))
   else ((eF s vs S).2.2.length,(eF s vs S).2.1,(eF s vs S).2.2++[⟨none,k,(eF s vs S).1,0⟩])
  (h.1::(eF r h.2.1 h.2.2).1,(eF r h.2.1 h.2.2).2)
def gW (k v:Int)(s:Tf)(vs:List (Int×Nat))(S:St):Nat×List (Int×Nat)×St:=
 if k=5 then (match vs.lookup v with
  | some i=>(i,vs,S)
  | none=>(S.length,vs++[(v,S.length)],S++[⟨none,5,[],0⟩]))
 else ((eF s vs S).2.2.length,(eF s vs S).2.1,(eF s vs S).2.2++[⟨none,k,(eF s vs S).1,0⟩])
theorem yh (k v:Int)(s r:Tf)(vs:List (Int×Nat))(S:St):eF (.cons k v s r) vs S=((gW k v s vs S).1::(eF r (gW k v s vs S).2.1 (gW k v s vs S).2.2).1,(eF r (gW k v s vs S).2.1 (gW k v s vs S).2.2).2):=rfl
def Tf.Fit (ar:Int→Nat):Tf→Prop
 | .nil=>True
 | .cons k _ s r=>(k≠5→s.len=ar k)∧s.Fit ar∧r.Fit ar
def Tf.cnt:Tf→Nat
 | .nil=>0
 | .cons _ _ s r=>s.cnt+r.cnt+1
structure Fj (ar:Int→Nat)(S:St)(S':St)(vs vs':List (Int×Nat))(n:Nat):Prop where
 wf:Wf ar S'
 pre:∃T,S'=S++T
 all:∀x∈vs',x.2<S'.length
 len:vs'.length≤vs.length+n
theorem Fj.le {ar:Int→Nat}{S S':St}{vs vs':List (Int×Nat)}{n:Nat}(h:Fj ar S S' vs vs' n):S.length≤S'.length:=by
 obtain⟨T,e⟩:=h.pre
 rw[e,SX]
 omega
theorem gG {v:Int}{i:Nat}:∀{vs:List (Int×Nat)},vs.lookup v=some i→(v,i)∈vs
 | [],h=>by cases h
 | (a,b)::vs,h=>by
  rw[List.lookup_cons]at h
  split at h
  ·rename_i e
   have:v=a:=by simpa using e
   cases h
   rw[this]
   exact Ta
  ·exact Tc _ (gG h)
mutual
theorem oH {ar:Int→Nat}(h5:ar 5=0):∀{k v:Int}{s:Tf}{vs:List (Int×Nat)}{S:St},Wf ar S→(k≠5→s.len=ar k)→s.Fit ar→(∀x∈vs,x.2<S.length)→Fj ar S (gW k v s vs S).2.2 vs (gW k v s vs S).2.1 (s.cnt+1)∧(gW k v s vs S).1<(gW k v s vs S).2.2.length
 | k,v,s,vs,S,hw,hk,hf,hv=>by
  unfold gW
  by_cases e:k=5
  ·rw[TY e]
   cases hl:vs.lookup v with
   | some i=>exact⟨⟨hw,⟨[],by simp⟩,hv,by simp only;omega⟩,hv _ (gG hl)⟩
   | none =>
    refine⟨⟨hw.add rfl (by simp[h5]) (by simp),⟨_,rfl⟩,fun x hx=>?_,by simp⟩,by simp⟩
    simp only[SX,SY]
    rcases Td.1 hx with h|h
    ·have:=hv x h
     omega
    ·have:x=(v,S.length):=by simpa using h
     rw[this]
     simp
  ·rw[TW e]
   obtain⟨h1,h2,h3⟩:=DW h5 hw hf hv
   refine⟨⟨h1.wf.add rfl (by rw[h3,hk e]) h2,?_,fun x hx=>?_,?_⟩,by simp⟩
   ·obtain⟨T,hT⟩:=h1.pre
    exact⟨T++[⟨none,k,(eF s vs S).1,0⟩],by rw[←TR,←hT]⟩
   ·have:=h1.all x hx
    simp only[SX,SY]
    omega
   ·have:=h1.len
    simp only
    omega
theorem DW {ar:Int→Nat}(h5:ar 5=0):∀{l:Tf}{vs:List (Int×Nat)}{S:St},Wf ar S→l.Fit ar→(∀x∈vs,x.2<S.length)→Fj ar S (eF l vs S).2.2 vs (eF l vs S).2.1 l.cnt∧(∀j∈(eF l vs S).1,j<(eF l vs S).2.2.length)∧(eF l vs S).1.length=l.len
 | .nil,vs,S,hw,_,hv=>⟨⟨hw,⟨[],by simp[eF]⟩,hv,SA _⟩,by simp[eF],rfl⟩
 | .cons k v s r,vs,S,hw,hf,hv=>by
  obtain⟨h1,h2⟩:=oH h5 (v:=v) hw hf.1 hf.2.1 hv
  obtain⟨h3,h4,h6⟩:=DW h5 h1.wf hf.2.2 h1.all
  rw[yh]
  refine⟨⟨h3.wf,?_,h3.all,?_⟩,fun j hj=>?_,by simp only[TS,h6];rfl⟩
  ·obtain⟨T,hT⟩:=h1.pre
   obtain⟨U,hU⟩:=h3.pre
   exact⟨T++U,by rw[←TR,←hT];exact hU⟩
  ·have:=h1.len
   have:=h3.len
   show (eF r (gW k v s vs S).2.1 (gW k v s vs S).2.2).2.1.length≤vs.length+(s.cnt+r.cnt+1)
   omega
  ·rcases TI.1 hj with h|h
   ·rw[h]
    exact SB h2 h3.le
   ·exact h4 j h
end
end Go.Proofs.Unify
namespace Go.Proofs.Q
open Go Go.RowKit Go.Proofs Go.Proofs.Unify
variable {D:Nat→Prop} {M:Nat→Prop}
structure Kx (D:Nat→Prop)(E:Nat→Prop)(X Y:World):Prop where
 os:Y.os=X.os
 tape:Y.tape=X.tape
 output:Y.output=X.output
 size:X.heap.size≤Y.heap.size
 block:∀k,k<X.heap.size→D k∨¬TgN X k→¬E k→Y.heap[k]?=X.heap[k]?
 tg:∀k,k<X.heap.size→TgN X k→TgN Y k
 nd:∀k,k<X.heap.size→¬E k→∀q,q=1∨q=2→Y.cell? ⟨k,q,none⟩=X.cell? ⟨k,q,none⟩
theorem Kn.x {X Y:World}(h:Kn D X Y)(E:Nat→Prop):Kx D E X Y:=
 ⟨h.os,h.tape,h.output,h.size,fun k hk ht _=>h.block k hk ht,h.tg,fun k hk _=>h.nd k hk⟩
theorem Kx.nt {E:Nat→Prop}{X Y:World}(h:Kx D E X Y)(k:Nat)(hk:k<X.heap.size)(hE:¬E k)(ht:¬TgN X k):¬TgN Y k:=fun h'=>ht ((TgN.congr (h.block k hk (.inr ht) hE)).1 h')
theorem Kx.refl (E:Nat→Prop)(X:World):Kx D E X X:=(Kn.refl X).x E
theorem Kx.trans {E E' : Nat → Prop}{X Y Z : World}(h : Kx D E X Y)(g : Kx D E' Y Z)(he : ∀ k,k < X.heap.size → E' k → E k) : Kx D E X Z:=
  ⟨g.os.trans h.os,g.tape.trans h.tape,g.output.trans h.output,SE h.size g.size,fun k hk ht hE => by
    have e:=h.block k hk ht hE
    exact(g.block k (SB hk h.size) (ht.imp id fun ht h' => ht ((TgN.congr e).1 h')) (fun h' => hE (he k hk h'))).trans e,
   fun k hk ht => g.tg k (SB hk h.size) (h.tg k hk ht),
   fun k hk hE q hq => (g.nd k (SB hk h.size) (fun h' => hE (he k hk h')) q hq).trans (h.nd k hk hE q hq)⟩
theorem Kx.mono {E E':Nat→Prop}{X Y:World}(h:Kx D E X Y)(he:∀k,k<X.heap.size→E k→E' k):Kx D E' X Y:=
 ⟨h.os,h.tape,h.output,h.size,fun k hk ht hE=>h.block k hk ht (fun h'=>hE (he k hk h')),h.tg,fun k hk hE=>h.nd k hk (fun h'=>hE (he k hk h'))⟩
theorem Kx.turn {E:Nat→Prop}{X Y:World}{b:Nat}(hos:Y.os=X.os)(htp:Y.tape=X.tape)(hout:Y.output=X.output)(hsz:X.heap.size≤Y.heap.size)(hb:∀k,k<X.heap.size→k≠b→Y.heap[k]?=X.heap[k]?)
  (hE:b<X.heap.size→E b)(hx:b<X.heap.size→¬TgN X b):Kx D E X Y:=by
 refine⟨hos,htp,hout,hsz,fun k hk _ hn=>hb k hk (fun e=>hn (e▸hE (e▸hk))),fun k hk ht=>?_,fun k hk hn q _=>SN (hb k hk (fun e=>hn (e▸hE (e▸hk))))⟩
 by_cases e:k=b
 ·subst e;exact absurd ht (hx hk)
 ·exact(TgN.congr (hb k hk e)).2 ht
theorem Kx.put {E:Nat→Prop}{X:World}{b:Nat}(O:Obj)(hE:E b)(hx:¬TgN X b):Kx D E X (X.putObj b O):=
 Kx.turn (b:=b) rfl rfl rfl (by simp[World.putObj]) (fun k _ hk=>World.putObj_heap_other hk) (fun _=>hE) (fun _=>hx)
theorem Kx.set {E:Nat→Prop}{X:World}{b i:Nat}{cur:Array Value}{t:TypeId}{fz:Nat×Nat}(hc:X.heap[b]?=some (.cells cur t fz))(ht:t≠151)(hE:E b)(u:Value):Kx D E X (X.setCell ⟨b,i,none⟩ u):=
 Kx.turn (b:=b) rfl rfl rfl (by simp[World.setCell]) (fun k _ hk=>Tx _ _ _ _ hk) (fun _=>hE) (fun _=>TgN.not hc ht)
theorem Kx.new' {E:Nat→Prop}{X Y Z:World}(h:Kx D E X Y)(hb:Below X.heap.size Y Z):Kx D E X Z:=
 ⟨hb.os.trans h.os,hb.tape.trans h.tape,hb.output.trans h.output,SE h.size hb.size,fun k hk hp hE=>(hb.block k hk).trans (h.block k hk hp hE),fun k hk hp=>(TgN.congr (hb.block k hk)).2 (h.tg k hk hp),fun k hk hE q hq=>(SN (hb.block k hk)).trans (h.nd k hk hE q hq)⟩
theorem Kx.cell {E:Nat→Prop}{X Y:World}(h:Kx D E X Y){g o:Nat}(hg:g<X.heap.size)(ht:D g∨¬TgN X g)(hE:¬E g):Y.cell? ⟨g,o,none⟩=X.cell? ⟨g,o,none⟩:=SN (h.block g hg ht hE)
theorem Kx.n {X Y:World}(h:Kx D (fun _=>False) X Y):Kn D X Y:=⟨h.os,h.tape,h.output,h.size,fun k hk ht=>h.block k hk ht (fun h=>h),h.tg,fun k hk=>h.nd k hk (fun h=>h)⟩
theorem Kx.new {E:Nat→Prop}{X Y:World}(h:Kx D E X Y)(hE:∀k,E k→X.heap.size≤k):Kn D X Y:=(h.mono (E':=fun _=>False) fun k hk h'=>by have:=hE k h';omega).n
theorem StH.shift {w w':World}{ix:List Nat}{S:St}{sz:Nat→Int}{M':Nat→Prop}(h:StH D M w ix S sz)(hsz:w.heap.size≤w'.heap.size)(hb:∀k,k<w.heap.size→¬M k→w'.heap[k]?=w.heap[k]?)
  (hM:∀k,M' k→M k∨w.heap.size≤k)(hn:∀k,M' k→k<w'.heap.size∧¬TgN w' k):StH D M' w' ix S sz:=by
 obtain⟨Q,h1,h2⟩:=h
 exact⟨Q,h1,h2.shift hsz hb hM hn⟩
theorem StH.not {w:World}{ix:List Nat}{S:St}{sz:Nat→Int}(h:StH D M w ix S sz):∀k,M k→k<w.heap.size∧¬TgN w k:=by
 obtain⟨Q,_,h2⟩:=h
 exact fun k hk=>⟨h2.xlt k hk,h2.xn k hk⟩
end Go.Proofs.Q
namespace Go.Proofs.Unify
open Go Go.RowKit Go.Proofs
namespace Tf
def At (w:World)(P:Nat→Prop):Tf→Nat→Nat→Prop
 | .nil,_,_=>True
 | .cons k v s r,g,o=>w.cell? ⟨g,o,none⟩=some (.int .i64 k)∧w.cell? ⟨g,o+1,none⟩=some (.int .i64 v) ∧
  (∃A c,w.cell? ⟨g,o+2,none⟩=some (.slice A s.len c)∧s.len≤c∧c≤maxLen∧(s≠.nil→∃g' o',A=some ⟨g',o',none⟩∧P g'∧s.At w P g' o'))∧r.At w P g (o+3)
def Sl (w:World)(P:Nat→Prop)(A:Option Addr)(c:Nat)(l:Tf):Prop:=l.len≤c∧c≤maxLen∧(l≠.nil→∃g o,A=some ⟨g,o,none⟩∧P g∧l.At w P g o)
theorem At.keep {w w':World}{P P':Nat→Prop}(hc:∀k,P k→w'.heap[k]?=w.heap[k]?)(hp:∀k,P k→P' k):∀{l:Tf}{g o:Nat},P g→l.At w P g o→l.At w' P' g o
 | .nil,_,_,_,_=>trivial
 | .cons k v s r,g,o,hg,⟨h1,h2,⟨A,c,h3,h4,h5,h6⟩,h7⟩=>by
  have e:∀q,w'.cell? ⟨g,q,none⟩=w.cell? ⟨g,q,none⟩:=fun q=>SN (hc g hg)
  refine⟨(e _).trans h1,(e _).trans h2,⟨A,c,(e _).trans h3,h4,h5,fun hne=>?_⟩,h7.keep hc hp hg⟩
  obtain⟨g',o',k1,k2,k3⟩:=h6 hne
  exact⟨g',o',k1,hp _ k2,k3.keep hc hp k2⟩
theorem Sl.keep {w w':World}{P P':Nat→Prop}(hc:∀k,P k→w'.heap[k]?=w.heap[k]?)(hp:∀k,P k→P' k){l:Tf}{A:Option Addr}{c:Nat}(h:l.Sl w P A c):l.Sl w' P' A c:=
 ⟨h.1,h.2.1,fun hne=>by
  obtain⟨g,o,h1,h2,h3⟩:=h.2.2 hne
  exact⟨g,o,h1,hp _ h2,h3.keep hc hp h2⟩⟩
def Row (w:World)(P:Nat→Prop):Tf→List Value→Prop
 | .nil,cs=>cs=[]
 | .cons k v s r,cs=>∃A c cs',cs=[.int .i64 k,.int .i64 v,.slice A s.len c]++cs'∧s.Sl w P A c∧r.Row w P cs'
theorem Row.len {w:World}{P:Nat→Prop}:∀{l:Tf}{cs:List Value},l.Row w P cs→cs.length=l.len*3
 | .nil,_,h=>by cases h;rfl
 | .cons _ _ _ r,_,⟨_,_,cs',e,_,h⟩=>by
  rw[e,SX,h.len,Tf.len,Nat.succ_mul]
  simp
  omega
theorem Row.keep {w w':World}{P P':Nat→Prop}(hc:∀k,P k→w'.heap[k]?=w.heap[k]?)(hp:∀k,P k→P' k):∀{l:Tf}{cs:List Value},l.Row w P cs→l.Row w' P' cs
 | .nil,_,h=>h
 | .cons _ _ _ _,_,⟨A,c,cs',e,h1,h⟩=>⟨A,c,cs',e,h1.keep hc hp,h.keep hc hp⟩
theorem Row.snoc {w:World}{P:Nat→Prop}{k v:Int}{s:Tf}{A:Option Addr}{c:Nat}(hs:s.Sl w P A c):∀{l:Tf}{cs:List Value},l.Row w P cs→(l.app (.cons k v s .nil)).Row w P (cs++[.int .i64 k,.int .i64 v,.slice A s.len c])
 | .nil,_,h=>by cases h;exact⟨A,c,[],rfl,hs,rfl⟩
 | .cons _ _ _ r,_,⟨A',c',cs',e,h1,h⟩=>⟨A',c',_,by rw[e,TR],h1,h.snoc hs⟩
theorem Row.at_ {w:World}{P:Nat→Prop}{g:Nat}:∀{l:Tf}{cs:List Value}{o:Nat},l.Row w P cs→(∀j u,cs[j]?=some u→w.cell? ⟨g,o+j,none⟩=some u)→l.At w P g o
 | .nil,_,_,_,_=>trivial
 | .cons _ _ _ r,_,o,⟨A,c,cs',e,h1,h⟩,hc=>by
  subst e
  refine⟨hc 0 _ rfl,hc 1 _ rfl,⟨A,c,hc 2 _ rfl,h1.1,h1.2.1,h1.2.2⟩,h.at_ fun j u hj=>?_⟩
  have:=hc (j+3) u (by simpa using hj)
  rw[show o+3+j=o+(j+3) by omega]
  exact this
end Tf
end Go.Proofs.Unify
namespace Go.Proofs.Q
open Go Go.RowKit Go.Proofs Go.Proofs.Unify
variable {D:Nat→Prop} {M:Nat→Prop}
theorem Ie {w:World}{P:Nat→Prop}{base:Nat}{v:Value}{l:Tf}{cs:List Value}(ho:w.ownsRow base 53 3 v l.len cs)(hr:l.Row w P cs)(hP:∀g,v.ownBlock=some g→P g):∃A c,v=.slice A l.len c∧l.Sl w P A c:=by
 have ho':=ho
 rcases ho.2 with⟨rfl,h0⟩|⟨g,cap,cur,rfl,hb,hg,h1,h2,h3,h4⟩
 ·cases l with
  | nil=>exact⟨none,0,rfl,SA _,SC _,fun h=>absurd rfl h⟩
  | cons _ _ _ _=>simp[Tf.len]at h0
 ·refine⟨_,cap,rfl,h1,h2,fun _=>⟨g,0,rfl,hP g rfl,hr.at_ fun j u hj=>?_⟩⟩
  rw[Nat.zero_add]
  exact(ho'.cellAt j (by have:=(Sy.1 hj).1;rw[hr.len]at this;exact this)).trans hj
end Go.Proofs.Q
namespace Go.Proofs.Q
open Go Go.RowKit Go.Proofs Go.Proofs.Unify
variable {D:Nat→Prop}
theorem Tryz.infoType:(Tryz.prog.info? 53).map (fun i=>(i.zero,i.size,i.bytes))=some (some (.agg #[.int .i64 0,.int .i64 0,.slice none 0 0]),3,40):=by kernel_rfl
theorem Tryz.JU:Tryz.prog.underlying 51=some (.slice 53):=by kernel_rfl
def TgT (w:World)(k:Nat):Prop:=∃cur fz,w.heap[k]?=some (.cells cur 53 fz)
theorem TgT.congr {X Y:World}{k:Nat}(h:Y.heap[k]?=X.heap[k]?):TgT Y k↔TgT X k:=by unfold TgT;rw[h]
theorem TgT.lt {X:World}{k:Nat}(h:TgT X k):k<X.heap.size:=by
 obtain⟨cur,fz,h⟩:=h
 exact(Sz.1 h).1
theorem TgT.not {X:World}{k:Nat}(h:TgT X k):¬TgN X k:=by
 obtain⟨cur,fz,h⟩:=h
 exact TgN.not h (by decide)
theorem yj (i:Nat):∀(m:List Nat)(k:Nat),jf i m k=none→jf i (m++[i]) k=some (k+m.length)
 | [],k,_=>by simp[jf]
 | j::m,k,h=>by
  unfold jf at h ⊢
  by_cases e:i=j
  ·rw[TY e]at h;cases h
  ·rw[TW e]at h
   simp only[TU,TW e]
   rw[yj i m (k+1) h,TS]
   congr 1
   omega
def BtP (D:Nat→Prop)(M:Nat→Prop)(w:World)(ix:List Nat)(S:St)(sz:Nat→Int)(nb:Nat)(R:(Int×Int×Tf)×List Nat)(e:Ending)(w':World):Prop:=
 ∃A c,e=.returned (.agg #[.int .i64 R.1.1,.int .i64 R.1.2.1,.slice A R.1.2.2.len c])∧R.1.2.2.Sl w' (fun k=>w.heap.size≤k∧TgT w' k) A c∧StH D M w' ix S sz∧NmM w' nb ix R.2∧Kx D (fun k=>k=nb) w w'
structure BtI (D:Nat→Prop)(M:Nat→Prop)(w:World)(ix:List Nat)(S:St)(sz:Nat→Int)(nb b4 b7:Nat)(kd:Int)(X:World)(v:Value)(t:Tf)(cs:List Value)(m:List Nat):Prop where
 box:X.heap[b7]?=some (.cells #[.int .i64 kd,.int .i64 0,v] 53 (0,0))
 res:X.heap[b4]?=some (.cells #[.int .i64 0,.int .i64 0,.slice none 0 0] 53 (0,0))
 row:X.ownsRow (b7+1) 53 3 v t.len cs
 par:t.Row X (fun k=>b7<k∧TgT X k∧v.ownBlock≠some k) cs
 st:StH D (fun k=>M k∨k=b4∨k=b7∨v.ownBlock=some k) X ix S sz
 nm:NmM X nb ix m
 kx:Kx D (fun k=>k=nb) w X
 hm:M nb
 hml:∀k,M k→k<b4
 h4:w.heap.size=b4
 h7:b4<b7
 hn:nb<b4
theorem qV {w:World}{base:Nat}{e:TypeId}{size:Nat}{v:Value}{n:Nat}{xs:List Value}(h:w.ownsRow base e size v n xs)(o:Obj):(w.alloc o).ownsRow base e size v n xs:=h.alloc o
section
variable {M:Nat→Prop} {w:World} {ix:List Nat} {S:St} {sz:Nat→Int} {nb b4 b7:Nat} {kd:Int} {X:World} {v:Value} {t:Tf} {cs:List Value} {m:List Nat}
theorem BtI.call (h:BtI D M w ix S sz nb b4 b7 kd X v t cs m){Y:World}{m':List Nat}(hst:StH D (fun k=>M k∨k=b4∨k=b7∨v.ownBlock=some k) Y ix S sz)(hnm:NmM Y nb ix m')(hk:Kx D (fun k=>k=nb) X Y):BtI D M w ix S sz nb b4 b7 kd Y v t cs m':=by
 have h4:=h.h4
 have h7:=h.h7
 have hn:=h.hn
 have same:∀k,nb<k→TgT X k→Y.heap[k]?=X.heap[k]?:=fun k h1 h2=>hk.block k h2.lt (.inr h2.not) (by omega)
 refine⟨(same b7 (by omega) ⟨_,_,h.box⟩).trans h.box,(same b4 (by omega) ⟨_,_,h.res⟩).trans h.res,?_,?_,hst,hnm,h.kx.trans hk (fun _ _ e=>e),h.hm,h.hml,h4,h7,hn⟩
 ·refine⟨h.row.1,?_⟩
  rcases h.row.2 with h'|⟨g,cap,cur,e1,e2,e3,e4⟩
  ·exact .inl h'
  ·exact .inr ⟨g,cap,cur,e1,e2,(same g (by omega) ⟨_,_,e3⟩).trans e3,e4⟩
 ·exact h.par.keep (fun k hk=>same k (by omega) hk.2.1) fun k hk=>⟨hk.1,(TgT.congr (same k (by omega) hk.2.1)).2 hk.2.1,hk.2.2⟩
theorem BtI.drew (h:BtI D M w ix S sz nb b4 b7 kd X v t cs m):BtI D M w ix S sz nb b4 b7 kd X.drew v t cs m:=
 h.call (h.st.keep (TA _ _).drew) (h.nm.keep rfl) ((Kn.drew X).x _)
theorem BtI.own (h:BtI D M w ix S sz nb b4 b7 kd X v t cs m){g:Nat}(hg:v.ownBlock=some g):b7<g∧g<X.heap.size∧TgT X g:=by
 have h1:=h.row.lt g hg
 obtain⟨c,fz,h2⟩:=Lib.ownsRow_kind h.row g hg
 exact⟨by omega,h1.2,c,fz,h2⟩
theorem BtI.push (h:BtI D M w ix S sz nb b4 b7 kd X v t cs m){k' v':Int}{s:Tf}{A:Option Addr}{c:Nat}{N0:Nat}(hN0:∀g,v.ownBlock=some g→g<N0)(h70:b7<N0)(hs:s.Sl X (fun k=>N0≤k∧TgT X k) A c){O:Obj}{gg cap:Nat}{Y:World}
  (ho:Y.ownsRow (b7+1) 53 3 (.slice (some ⟨gg,0,none⟩) (t.len+1) cap) (t.len+1) (cs++[.int .i64 k',.int .i64 v',.slice A s.len c]))(hg:(X.alloc O).grownBy Y v.ownBlock)(hgg:v.ownBlock=some gg∨gg=(X.alloc O).heap.size) :
  BtI D M w ix S sz nb b4 b7 kd (Y.setCell ⟨b7,2,none⟩ (.slice (some ⟨gg,0,none⟩) (t.len+1) cap)) (.slice (some ⟨gg,0,none⟩) (t.len+1) cap) (t.app (.cons k' v' s .nil)) (cs++[.int .i64 k',.int .i64 v',.slice A s.len c]) m:=by
 have h4:=h.h4
 have h7:=h.h7
 have hn:=h.hn
 have hb7:=(Sz.1 h.box).1
 have hsz:(X.alloc O).heap.size=X.heap.size+1:=by simp
 have hsY:X.heap.size+1≤Y.heap.size:=by rw[←hsz];exact hg.size
 have same:∀k,k<X.heap.size→k≠b7→v.ownBlock≠some k→(Y.setCell ⟨b7,2,none⟩ (.slice (some ⟨gg,0,none⟩) (t.len+1) cap)).heap[k]?=X.heap[k]?:=fun k h1 h2 h3 =>
  (Tx _ _ _ _ h2).trans ((hg.block k (by omega) (fun e=>h3 e.symm)).trans (Tt _ _ _ h1))
 have ob7:v.ownBlock≠some b7:=fun e=>by have:=(h.own e).1;omega
 have ob4:v.ownBlock≠some b4:=fun e=>by have:=(h.own e).1;omega
 have ggb:b7<gg:=by
  rcases hgg with e|e
  ·exact(h.own e).1
  ·omega
 have pV:Y.heap[b7]?=some (.cells #[.int .i64 kd,.int .i64 0,v] 53 (0,0)):=((hg.block b7 (by omega) (fun e=>ob7 e.symm)).trans (Tt _ _ _ hb7)).trans h.box
 have hkeep:∀k,(b7<k∧TgT X k∧v.ownBlock≠some k)→(Y.setCell ⟨b7,2,none⟩ (.slice (some ⟨gg,0,none⟩) (t.len+1) cap)).heap[k]?=X.heap[k]?:=fun k hk=>same k hk.2.1.lt (by omega) hk.2.2
 have hnew:∀k,(b7<k∧TgT X k∧v.ownBlock≠some k)→some gg≠some k:=fun k hk e=>by
  cases e
  rcases hgg with e|e
  ·exact hk.2.2 e
  ·have:=hk.2.1.lt;omega
 have hP:∀k,(b7<k∧TgT X k∧v.ownBlock≠some k)→(b7<k∧TgT (Y.setCell ⟨b7,2,none⟩ (.slice (some ⟨gg,0,none⟩) (t.len+1) cap)) k∧some gg≠some k):=fun k hk=>⟨hk.1,(TgT.congr (hkeep k hk)).2 hk.2.1,hnew k hk⟩
 have hN:∀k,(N0≤k∧TgT X k)→(b7<k∧TgT X k∧v.ownBlock≠some k):=fun k hk=>⟨by omega,hk.2,fun e=>by have:=hN0 k e;omega⟩
 have Fp:TgT Y gg:=by
  obtain⟨c,fz,h2⟩:=Lib.ownsRow_kind ho gg rfl
  exact⟨c,fz,h2⟩
 have NC:TgT (Y.setCell ⟨b7,2,none⟩ (.slice (some ⟨gg,0,none⟩) (t.len+1) cap)) gg:=(TgT.congr (Tx _ _ _ _ (by show gg≠b7;omega))).2 Fp
 have hlen:(t.app (.cons k' v' s .nil)).len=t.len+1:=by rw[Tf.wR];rfl
 have Qr:v.ownBlock≠some nb:=fun e=>by have:=(h.own e).1;omega
 refine⟨heap_set pV _,(same b4 (by omega) (by omega) ob4).trans h.res,?_,?_,?_,?_,?_,h.hm,h.hml,h4,h7,hn⟩
 ·rw[hlen]
  refine⟨ho.1,?_⟩
  rcases ho.2 with⟨e,_⟩|⟨g,cap',cur,e1,e2,e3,e4⟩
  ·cases e
  ·exact .inr ⟨g,cap',cur,e1,e2,(Tx _ _ _ _ (by show g≠b7;omega)).trans e3,e4⟩
 ·exact(h.par.keep hkeep hP).snoc ((hs.keep (P':=fun k=>b7<k∧TgT X k∧v.ownBlock≠some k) (fun _ _=>rfl) hN).keep hkeep hP)
 ·refine h.st.shift (by simp[World.setCell];omega) (fun k hk hm=>same k hk (fun e=>hm (.inr (.inr (.inl e)))) (fun e=>hm (.inr (.inr (.inr e))))) (fun k hk=>?_) (fun k hk=>?_)
  ·rcases hk with hk|hk|hk|hk
   ·exact .inl (.inl hk)
   ·exact .inl (.inr (.inl hk))
   ·exact .inl (.inr (.inr (.inl hk)))
   ·simp only[Value.ownBlock,TK]at hk
    subst hk
    rcases hgg with e|e
    ·exact .inl (.inr (.inr (.inr e)))
    ·exact .inr (by omega)
  ·have hlt:∀k,k<Y.heap.size→k<(Y.setCell ⟨b7,2,none⟩ (.slice (some ⟨gg,0,none⟩) (t.len+1) cap)).heap.size:=fun k hk=>by simpa [World.setCell]using hk
   rcases hk with hk|rfl|rfl|hk
   ·have h3:=h.st.not k (.inl hk)
    have h5:=h.hml k hk
    exact⟨hlt _ (by omega),fun ht=>h3.2 ((TgN.congr (same k h3.1 (by omega) (fun e=>by have:=(h.own e).1;omega))).1 ht)⟩
   ·exact⟨hlt _ (by omega),TgN.not ((same k (by omega) (by omega) ob4).trans h.res) (by decide)⟩
   ·exact⟨hlt _ (by omega),TgN.not (heap_set pV _) (by decide)⟩
   ·simp only[Value.ownBlock,TK]at hk
    subst hk
    exact⟨NC.lt,NC.not⟩
 ·exact h.nm.keep (same nb (by omega) (by omega) Qr)
 ·refine h.kx.new' ⟨hg.os.trans rfl,hg.tape.trans rfl,hg.output.trans rfl,by simp[World.setCell];omega,fun k hk=>?_⟩
  exact same k (by have:=h.kx.size;omega) (by omega) (fun e=>by have:=(h.own e).1;omega)
end
def JV (D:Nat→Prop)(ix:List Nat)(S:St)(sz:Nat→Int)(nb f:Nat):Prop:=∀(M:Nat→Prop)(i:Nat)(m:List Nat)(w:World),M nb→i<S.length→Bl S f i→(∀j∈m,j<S.length)→StH D M w ix S sz→NmM w nb ix m →
 Calls Tryz.prog 101 #[nP (blk ix i),.map (some nb)] w (BtP D M w ix S sz nb (bT S f i m))
theorem Fq (ar:Int→Nat)(har:∀k,ar k≤1000)(S:St)(hw:Wf ar S)(ix:List Nat)(sz:Nat→Int)(nb f:Nat)(ih:JV D ix S sz nb f):JV D ix S sz nb (f+1):=by
 intro M i m w hMn hi hbl hm h hn
 obtain⟨x,hx1,hx2⟩:=iV hw hi
 have hr:=nu hw hi
 obtain⟨R,HR⟩:∃R,Hid (bT S (f+1) i m=R):=⟨_,Sk rfl⟩
 rw[HR.out]
 have HU:=Sk (show R=if x.kind=5 then (((5,((fu m (rt S i)).1:Int),.nil):Int×Int×Tf),(fu m (rt S i)).2)else ((x.kind,0,(bL (bT S f) x.sub m).1),(bL (bT S f) x.sub m).2) by
  rw[←HR.out]
  show (match S[rt S i]? with
   | none=>(((0,0,.nil):Int×Int×Tf),m)
   | some x=>if x.kind=5 then ((5,((fu m (rt S i)).1:Int),.nil),(fu m (rt S i)).2)else ((x.kind,0,(bL (bT S f) x.sub m).1),(bL (bT S f) x.sub m).2))=_
  rw[hx1])
 have HB:=Sk (show x.kind≠5→∀s∈x.sub,Bl S f s from hbl x hx1)
 obtain⟨b4,Hb4⟩:∃b,w.heap.size=b:=⟨_,rfl⟩
 obtain⟨M',HM'⟩:∃M':Nat→Prop,Hid (M'=fun k=>M k∨k=b4):=⟨_,Sk rfl⟩
 obtain⟨W0,hW0⟩:∃W0,w.alloc (.cells #[.int .i64 0,.int .i64 0,.slice none 0 0] 53)=W0:=⟨_,rfl⟩
 have hb0:Below b4 w W0:=by subst hW0 Hb4;exact(TA _ _).alloc (SA _) _
 have hz0:W0.heap.size=b4+1:=by subst hW0 Hb4;simp
 have hr0:W0.heap[b4]?=some (.cells #[.int .i64 0,.int .i64 0,.slice none 0 0] 53 (0,0)):=by subst hW0 Hb4;exact Sv w _
 have h0:StH D M' W0 ix S sz:=by
  refine h.shift (by omega) (fun k hk _=>hb0.block k (by omega)) (fun k hk=>?_) (fun k hk=>?_)
  ·rw[HM'.out]at hk
   exact hk.imp id (fun e=>by omega)
  ·rw[HM'.out]at hk
   rcases hk with hk|rfl
   ·obtain⟨k1,k2⟩:=h.not k hk
    exact⟨by omega,fun ht=>k2 ((TgN.congr (hb0.block k (by omega))).1 ht)⟩
   ·exact⟨by omega,TgN.not hr0 (by decide)⟩
 have HA:=Sk (kg hw hi h0)
 generalize hgr:rt S i=r at *
 have H0:=Sk (Sn hm (Sn hMn (Sn (hn.keep (hb0.block nb (by have:=hn.lt;omega))) (Sn hb0 (Sn hr0 ih)))))
 have HX:=Sk (Sn hx1 (Sn (hw.sub r x hx1) hr))
 have hnb:nb<b4:=by have:=hn.lt;omega
 have HO:=Sk (fun k hk=>h.not k hk)
 clear hm h hn hb0 hr0 hbl hx1 hx2 hgr hi h0 hMn ih
 unfold nP at HA ⊢
 go_enter Tryz.func101,Tryz.ntmps101
 go_wp2_with fail
 try rw[hW0]
 try rw[Hb4]
 refine HA.out.mono ?_
 rintro e w1 ⟨rfl,h1,hk1⟩
 have hr1:=hk1.box H0.out.2.2.2.2.1 (by decide)
 obtain⟨p0,p1,p2,q0,q1,q2⟩:w1.cell? ⟨b4,0,none⟩=some (.int .i64 0)∧w1.cell? ⟨b4,1,none⟩=some (.int .i64 0)∧w1.cell? ⟨b4,2,none⟩=some (.slice none 0 0)∧w1.frozen? ⟨b4,0,none⟩=false∧w1.frozen? ⟨b4,1,none⟩=false∧w1.frozen? ⟨b4,2,none⟩=false:=
  ⟨Sq w1 _ 0 _ _ (0,0) hr1,Sq w1 _ 1 _ _ (0,0) hr1,Sq w1 _ 2 _ _ (0,0) hr1,Sr w1 _ 0 _ _ hr1,Sr w1 _ 1 _ _ hr1,Sr w1 _ 2 _ _ hr1⟩
 have hn1:NmM w1 nb ix m:=H0.out.2.2.1.keep (hk1.block nb (by omega) (.inr H0.out.2.2.1.not))
 obtain⟨ua,A,c,hb1,hc1,hc2,hs1⟩:=h1.at_ HX.out.1
 obtain⟨c0,c1,c2,c3,f0,f1,f2,f3⟩:=jE hb1
 have hKW:Kx D (fun k=>k=nb) w w1:=((Kn.below (D:=D) (by rw[Hb4];exact H0.out.2.2.2.1)).trans hk1).x _
 have RL:blk ix r≠b4:=fun e=>by rw[e,hr1]at hb1;simp at hb1
 by_cases e0:x.kind=5
 ·have HV:=Sk (show R=(((5,((fu m r).1:Int),.nil):Int×Int×Tf),(fu m r).2) by rw[HU.out,TY e0])
  have hl1:=hn1.look h1 HX.out.2.2 H0.out.1 true
  rw[e0]at c1
  have uD:=Sk (show ∀(w2 Z:World) (m2:List Nat) (v:Int),R=((5,v,.nil),m2)→(∀k,k≠nb→w2.heap[k]?=w1.heap[k]?)→w1.heap.size≤w2.heap.size→NmM w2 nb ix m2→Kx D (fun k=>k=nb) w1 w2→Below b4 w2 Z→(∀k,k≠b4→Z.heap[k]?=w2.heap[k]?)→BtP D M w ix S sz nb R (.returned (.agg #[.int .i64 5,.int .i64 v,.slice none 0 0])) Z from fun w2 Z m2 v hR hne hsz hnm hkx hbz hzz=>by
   have hnZ:NmM Z nb ix m2:=hnm.keep (hzz nb (by omega))
   refine⟨none,0,by rw[hR];rfl,by rw[hR];exact⟨SA _,SC _,fun h=>absurd rfl h⟩,?_,by rw[hR];exact hnZ,((hKW.trans hkx (fun k _ h=>h)).new' (by rw[Hb4];exact hbz))⟩
   have hsame:∀k,k≠nb→k≠b4→Z.heap[k]?=w1.heap[k]?:=fun k h1 h2=>(hzz k h2).trans (hne k h1)
   refine h1.shift (SE hsz hbz.size) (fun k hk hm=>hsame k (fun e=>hm ?_) (fun e=>hm ?_)) (fun k hk=>.inl ?_) (fun k hk=>?_)
   ·rw[HM'.out,e];exact .inl H0.out.2.1
   ·rw[HM'.out,e];exact .inr rfl
   ·rw[HM'.out];exact .inl hk
   ·have h2:=HO.out k hk
    by_cases e:k=nb
    ·subst e
     exact⟨hnZ.lt,hnZ.not⟩
    ·have h3:=h1.not k (by rw[HM'.out];exact .inl hk)
     exact⟨SB h3.1 (SE hsz hbz.size),fun ht=>h3.2 ((TgN.congr (hsame k e (by omega))).1 ht)⟩)
  rcases xZ r m 0 with⟨k1,k2,k3⟩|⟨k1,k2⟩
  ·rw[k1]at hl1
   obtain⟨O,hO1,hO2⟩:=hn1.push h1 HX.out.2.2 H0.out.1 k1
   have hle:=hn1.len
   have AV:StH D M' (w1.putObj nb O) ix S sz:=by
    refine h1.shift (by simp[World.putObj]) (fun k _ hm=>World.putObj_heap_other fun e=>hm (by rw[HM'.out,e];exact .inl H0.out.2.1)) (fun k hk=>.inl hk) (fun k hk=>?_)
    have h2:=h1.not k hk
    refine⟨by simpa [World.putObj]using h2.1,?_⟩
    by_cases e:k=nb
    ·subst e;exact hO2.not
    ·exact fun ht=>h2.2 ((TgN.congr (World.putObj_heap_other e)).1 ht)
   have hl2:=hO2.look AV HX.out.2.2 (fun j hj=>by
    rcases Td.1 hj with h'|h'
    ·exact H0.out.1 j h'
    ·have:j=r:=by simpa using h'
     rw[this];exact HX.out.2.2) false
   rw[yj _ _ _ k1]at hl2
   simp only[nP,Option.getD_some,Nat.zero_add]at hl1 hl2 hO1
   have hpc:∀q,(w1.putObj nb O).cell? ⟨b4,q,none⟩=w1.cell? ⟨b4,q,none⟩:=fun q=>SN (World.putObj_heap_other (show b4≠nb by omega))
   have hpf:∀q,(w1.putObj nb O).frozen? ⟨b4,q,none⟩=w1.frozen? ⟨b4,q,none⟩:=fun q=>World.frozen?_of_block (World.putObj_heap_other (show b4≠nb by omega))
   have HF:=Sk (Sn hO2 (Sn (show R=((5,((m.length:Nat):Int),.nil),m++[r]) by rw[HV.out,k2,k3]) (Sn (show Kx D (fun k=>k=nb) w1 (w1.putObj nb O)from Kx.put O rfl hn1.not) h1.len)))
   have hz1:∀k,k≠nb→(w1.putObj nb O).heap[k]?=w1.heap[k]?:=fun k hk=>World.putObj_heap_other hk
   obtain⟨w2,hw2⟩:∃w2,w1.putObj nb O=w2:=⟨_,rfl⟩
   rw[hw2]at hO1 hl2 hpc hpf HF hz1
   have hs2:w2.heap.size=w1.heap.size:=by rw[←hw2];simp[World.putObj]
   have r0:=(hpc 0).trans p0
   have r1:=(hpc 1).trans p1
   have r2:=(hpc 2).trans p2
   have s0:=(hpf 0).trans q0
   have s1:=(hpf 1).trans q1
   have s2:=(hpf 2).trans q2
   have HZ:=Sk hz1
   have HS2:=Sk hs2
   simp only[Option.getD_none,Option.isSome_none,if_true]at hl1
   simp only[TN,if_false]at hl2
   clear p0 p1 p2 q0 q1 q2 hpc hpf hz1 hs2 hb1 hc1 hc2 hs1 hr1 h1 hk1 hn1 AV k1 k2 k3 hKW
   go_wp2
   refine Ua (v:=.agg #[.int .i64 5,.int .i64 (m.length:Int),.slice none 0 0]) (by simp[results,Tryz.results101,go_sem,r0,r1,r2]) rfl ?_
   refine uD.out w2 _ _ _ HF.out.2.1 HZ.out (Nat.le_of_eq HS2.out.symm) HF.out.1 HF.out.2.2.1 ?_ ?_
   ·exact(((TA b4 w2).setCell (SA _) _).setCell (SA _) _).setCell (SA _) _
   ·exact fun k hk=>(Tx _ _ _ _ hk).trans ((Tx _ _ _ _ hk).trans (Tx _ _ _ _ hk))
  ·rw[k1]at hl1
   have hl2:=hn1.look h1 HX.out.2.2 H0.out.1 false
   rw[k1]at hl2
   simp only[nP,Option.getD_some,Option.isSome_some,if_true,Nat.zero_add]at hl1
   simp only[nP,TN,if_false,Option.getD_some,Nat.zero_add]at hl2
   have HF:=Sk (Sn hn1 (show R=((5,(((fu m r).1:Nat):Int),.nil),m) by rw[HV.out,k2]))
   clear hb1 hc1 hc2 hs1 hr1 h1 hk1 hn1 k1 k2 hKW
   go_wp2
   refine Ua (v:=.agg #[.int .i64 5,.int .i64 ((fu m r).1:Int),.slice none 0 0]) (by simp[results,Tryz.results101,go_sem,p0,p1,p2]) rfl ?_
   refine uD.out w1 _ _ _ HF.out.2 (fun _ _=>rfl) (SA _) HF.out.1 (Kx.refl _ _) ?_ ?_
   ·exact(((TA b4 w1).setCell (SA _) _).setCell (SA _) _).setCell (SA _) _
   ·exact fun k hk=>(Tx _ _ _ _ hk).trans ((Tx _ _ _ _ hk).trans (Tx _ _ _ _ hk))
 ·obtain⟨T,HT⟩:∃T,Hid (bL (bT S f) x.sub m=T):=⟨_,Sk rfl⟩
  have HV:=Sk (show R=(((x.kind,0,T.1):Int×Int×Tf),T.2) by rw[HU.out,TW e0,HT.out])
  have hN:x.sub.length≤1000:=by rw[HX.out.2.1.1];exact har _
  obtain⟨N,HN⟩:∃N,Hid (x.sub.length=N):=⟨_,Sk rfl⟩
  rw[HN.out]at c2 hN
  have HSub:=Sk (show ∀(j p:Nat),x.sub[j]?=some p→∃g o,A=some ⟨g,o,none⟩∧g<w1.heap.size∧¬TgN w1 g∧¬M' g∧w1.cell? ⟨g,o+j,none⟩=some (.pointer (some ⟨blk ix p,0,none⟩))from fun j p hp=>by
   obtain⟨g,o,e,k1,k2,k3,k4⟩:=hs1 (by intro e;rw[e]at hp;simp at hp)
   exact⟨g,o,e,k1,k2,k3,k4 j p hp⟩)
  obtain⟨b7,Hb7⟩:∃b,w1.heap.size=b:=⟨_,rfl⟩
  have Qs:b4<b7:=by have:=hk1.size;omega
  have HI0:=Sk (show ∀W1:World,W1=w1.alloc (.cells #[.int .i64 x.kind,.int .i64 0,.slice none 0 0] 53)→BtI D M w ix S sz nb b4 b7 x.kind W1 (.slice none 0 0) .nil [] m∧Below b7 w1 W1 from fun W1 e=>by
   have hbx:W1.heap[b7]?=some (.cells #[.int .i64 x.kind,.int .i64 0,.slice none 0 0] 53 (0,0)):=by
    subst e Hb7
    exact Sv w1 _
   have hbl:Below b7 w1 W1:=by
    subst e Hb7
    exact(TA _ _).alloc (SA _) _
   refine⟨⟨hbx,(hbl.block b4 (by omega)).trans hr1,TD _ _ _ _,rfl,?_,hn1.keep (hbl.block nb (by omega)),hKW.new' (hbl.mono (by omega)),H0.out.2.1,fun k hk=>by have:=(HO.out k hk).1;omega,Hb4,Qs,hnb⟩,hbl⟩
   refine h1.shift hbl.size (fun k hk _=>hbl.block k (by omega)) (fun k hk=>?_) (fun k hk=>?_)
   ·rw[HM'.out]
    rcases hk with hk|hk|hk|hk
    ·exact .inl (.inl hk)
    ·exact .inl (.inr hk)
    ·exact .inr (by omega)
    ·cases hk
   ·rcases hk with hk|hk|hk|hk
    ·have h3:=h1.not k (by rw[HM'.out];exact .inl hk)
     exact⟨SB h3.1 hbl.size,fun ht=>h3.2 ((TgN.congr (hbl.block k (by omega))).1 ht)⟩
    ·subst hk
     exact⟨by have:=hbl.size;omega,TgN.not ((hbl.block k (by omega)).trans hr1) (by decide)⟩
    ·subst hk
     exact⟨(Sz.1 hbx).1,TgN.not hbx (by decide)⟩
    ·cases hk)
  have HK1:=Sk hk1
  clear hs1 hc1 hc2 hb1 h1 hk1 hn1 hr1 hKW
  have k5:(x.kind==5)=false:=by simpa using e0
  have HBl:=Sk (HB.out e0)
  clear e0
  go_upto_region 8 with fail
  obtain⟨W1,hW1⟩:∃W1,w1.alloc (.cells #[.int .i64 x.kind,.int .i64 0,.slice none 0 0] 53)=W1:=⟨_,rfl⟩
  obtain⟨hBI,hBW⟩:=HI0.out W1 hW1.symm
  have c2':W1.cell? ⟨blk ix r,2,none⟩=some (.slice A N c):=(hBW.cell (p:=⟨blk ix r,2,none⟩) (by have h9:blk ix r<w1.heap.size:=SS w1 ⟨blk ix r,2,none⟩ c2;show blk ix r<b7;omega)).trans c2
  have HI:=Sk (Sn hBI hBW)
  rw[hW1]
  clear hBI hBW hW1 c0 c1 c2 c3 f0 f1 f2 f3 p0 p1 p2 q0 q1 q2
  go_wp2
  go_loopg [9,43] N (fun g _ ct wr=>∃(j:Nat) (mj:List Nat) (t:Tf) (v:Value) (cs:List Value),g=N-j∧j≤N∧ct=.int .i64 j∧t.len=j∧T.1=t.app (bL (bT S f) (x.sub.drop j) mj).1∧T.2=(bL (bT S f) (x.sub.drop j) mj).2∧(∀q∈mj,q<S.length)∧BtI D M w ix S sz nb b4 b7 x.kind wr v t cs mj∧∀k,k<b7→¬TgN w1 k→¬M' k→wr.heap[k]?=w1.heap[k]?)
  case atStart=>exact⟨0,m,.nil,.slice none 0 0,[],rfl,SC _,rfl,rfl,by rw[List.drop_zero,HT.out];rfl,by rw[List.drop_zero,HT.out],H0.out.1,HI.out.1,fun k hk _ _=>HI.out.2.block k hk⟩
  case round =>
   obtain⟨j,mj,t,v,cs,hg,hj,rfl,htl,hT1,hT2,hmj,hBI,hkx⟩:=hrel
   clear c2'
   have HG:=Sk (Sn hg (Sn htl hkx))
   have bx:=hBI.box
   have y0:=Sq wr b7 0 _ _ (0,0) bx
   have y1:=Sq wr b7 1 _ _ (0,0) bx
   have y2:=Sq wr b7 2 _ _ (0,0) bx
   have z2:=Sr wr b7 2 _ _ bx
   by_cases hlt:j<N
   ·obtain⟨p,hp⟩:∃p,x.sub[j]?=some p:=⟨_,Sw (by rw[HN.out];exact hlt)⟩
    obtain⟨ga,oa,rfl,hga,hta,hMa,ea⟩:=HSub.out j p hp
    have ea':wr.cell? ⟨ga,oa+j,none⟩=some (.pointer (some ⟨blk ix p,0,none⟩)):=by
     exact(SN (hkx ga (by omega) hta hMa)).trans ea
    have hpl:p<S.length:=HX.out.2.1.2 p (SV hp)
    have HC:=Sk (fun (X:World) (hX:BtI D M w ix S sz nb b4 b7 x.kind X v t cs mj)=>H0.out.2.2.2.2.2 (fun k=>M k∨k=b4∨k=b7∨v.ownBlock=some k) p mj X (.inl hX.hm) hpl (HBl.out p (SV hp)) hmj hX.st hX.nm)
    rw[drop_cons hp]at hT1 hT2
    have ND:=Sk (Ic hw f p mj hpl hmj)
    have HTT:=Sk (show T.1=t.app (.cons (bT S f p mj).1.1 (bT S f p mj).1.2.1 (bT S f p mj).1.2.2 (bL (bT S f) (x.sub.drop (j+1)) (bT S f p mj).2).1)∧T.2=(bL (bT S f) (x.sub.drop (j+1)) (bT S f p mj).2).2 from⟨hT1,hT2⟩)
    generalize hq:bT S f p mj=q at HC HTT ND
    obtain⟨⟨qk,qv,qs⟩,qm⟩:=q
    have HBI:=Sk hBI
    have Qt:b7<wr.heap.size:=(Sz.1 bx).1
    have HOW:=Sk (fun g (hg:v.ownBlock=some g)=>(hBI.own hg).2.1)
    clear hg htl hT1 hT2 hmj hBI hkx ea hga hta hMa hp hpl hq bx
    unfold nP at HC
    obtain⟨i0,hi,hz0,hz1,hz2⟩:=info_parts Tryz.infoType
    go_upto_region 11 with fail
    go_region_law (first
     | (go_simp;go_at_call 101;(with_reducible refine TJ (HC.out _ HBI.out.drew) ?_);rintro e w6 ⟨A6,c6,rfl,hsl,hst,hnm,wS⟩;have hB6:=HBI.out.drew.call hst hnm wS;have bx6:=hB6.box;have u0:=Sq w6 b7 0 _ _ (0,0) bx6;have u1:=Sq w6 b7 1 _ _ (0,0) bx6;have u2:=Sq w6 b7 2 _ _ (0,0) bx6;have u2a:(w6.alloc (.cells #[.int .i64 qk,.int .i64 qv,.slice A6 qs.len c6] 53)).cell? ⟨b7,2,none⟩=some v:=(SN (Tt _ _ _ (Sz.1 bx6).1)).trans u2;have NG:=Sk wS;have HB6:=Sk (Sn hB6 hsl);clear hB6 hsl hst hnm wS bx6;have iw:True:=trivial)
     | (have _t:=iw;refine step_append_lies _ rfl (.tmp 48) (.tmp 52) 51 rfl (b7+1) 53 i0 _ 3 40 Tryz.JU hi hz0 hz1 hz2 rfl (by omega) v t.len cs rfl (qV HB6.out.1.row _) ⟨w6.heap.size,0,none⟩ 1 1 [.int .i64 qk,.int .i64 qv,.slice A6 qs.len c6] rfl rfl (World.news_of_block (cs:=#[.int .i64 qk,.int .i64 qv,.slice A6 qs.len c6]) (t:=53) (fr:=(0,0)) (Sv _ _)) (by simp[Value.oneCell']) (by omega) (by have:=HG.out.2.1;unfold maxLen;omega) (by have:=HG.out.2.1;omega) (by have h1:=HB6.out.1.box;have h2:b7<w6.heap.size:=(Sz.1 h1).1;simp;omega) _ rfl ?_;intro gg cap w7 Fu oI JW Qu;have hBp:=BtI.push HB6.out.1 (N0:=wr.heap.size) HOW.out Qt HB6.out.2 Fu oI JW;have hbc:=oI.block b7 (by have h1:=HB6.out.1.box;have h2:b7<w6.heap.size:=(Sz.1 h1).1;simp;omega) (fun e=>by have:=HOW.out b7 e.symm;have:=(HB6.out.1.own e.symm).1;omega);have hbd:=(hbc.trans (Tt _ _ _ ((Sz.1 HB6.out.1.box).1))).trans HB6.out.1.box;have x2:=Sq w7 b7 2 _ _ (0,0) hbd;have x2':=Sr w7 b7 2 _ _ hbd;have HBP:=Sk hBp;have HGR:=Sk oI;clear hBp hbc hbd))
    all_goals (
     go_wp2
     go_roundg (N-(j+1))
     case measure=>have:=HG.out.1;omega
     case rel =>
      have htl:=HG.out.2.1
      refine⟨j+1,qm,t.app (.cons qk qv qs .nil),_,_,rfl,by omega,oC (by push_cast;rfl),by rw[Tf.wR];show t.len+1=j+1;omega,?_,HTT.out.2,ND.out,HBP.out,fun k h1 h2 h3=>?_⟩
      ·rw[HTT.out.1,Tf.yg]
       rfl
      ·have e0:=HG.out.2.2 k h1 h2 h3
       have hl:k<wr.heap.size:=by omega
       have hl6:k<w6.heap.size:=SB hl NG.out.size
       have hnt:¬TgN wr k:=fun ht=>h2 ((TgN.congr e0).1 ht)
       refine(Tx _ _ _ _ (by show k≠b7;omega)).trans ((HGR.out.block k (by simp;omega) (fun e=>?_)).trans ((Tt _ _ _ hl6).trans ((NG.out.block k hl (.inr hnt) (fun e=>h3 ?_)).trans e0)))
       ·have:=(HB6.out.1.own e.symm).1
        omega
       ·rw[HM'.out,e];exact .inl H0.out.2.1)
   ·have HE:=Sk (show T=(t,mj) by
     rw[List.drop_eq_nil_of_le (by rw[HN.out];omega)]at hT1 hT2
     refine Prod.ext (hT1.trans (Tf.DV t)) hT2)
    obtain⟨AR,cR,hv,NH⟩:=Ie (P:=fun k=>b7<k∧TgT wr k) hBI.row (hBI.par.keep (fun _ _=>rfl) (fun k hk=>⟨hk.1,hk.2.1⟩)) (fun g hg=>by have h1:=hBI.own hg;exact⟨h1.1,h1.2.2⟩)
    subst hv
    have HBI:=Sk (Sn hBI NH)
    have x4:=hBI.res
    have w0:=Sq wr b4 0 _ _ (0,0) x4
    have w1':=Sq wr b4 1 _ _ (0,0) x4
    have w2':=Sq wr b4 2 _ _ (0,0) x4
    have v0:=Sr wr b4 0 _ _ x4
    have v1:=Sr wr b4 1 _ _ x4
    have v2:=Sr wr b4 2 _ _ x4
    have HX4:=Sk x4
    clear hg htl hT1 hT2 hmj hBI hkx bx x4 NH
    go_wp2
    refine Ua (v:=.agg #[.int .i64 x.kind,.int .i64 0,.slice AR t.len cR]) (by simp[results,Tryz.results101,go_sem,w0,w1',w2']) rfl ?_
    obtain⟨Z,hZ⟩:∃Z,((wr.setCell ⟨b4,0,none⟩ (.int .i64 x.kind)).setCell ⟨b4,1,none⟩ (.int .i64 0)).setCell ⟨b4,2,none⟩ (.slice AR t.len cR)=Z:=⟨_,rfl⟩
    have hbz:Below b4 wr Z:=by rw[←hZ];exact(((TA b4 wr).setCell (SA _) _).setCell (SA _) _).setCell (SA _) _
    have hsame:∀k,k≠b4→Z.heap[k]?=wr.heap[k]?:=fun k hk=>by rw[←hZ];exact(Tx _ _ _ _ hk).trans ((Tx _ _ _ _ hk).trans (Tx _ _ _ _ hk))
    rw[hZ]
    have hB:=HBI.out.1
    have h4:=hB.h4
    have h7:=hB.h7
    refine⟨AR,cR,by rw[HV.out,HE.out],?_,?_,?_,hB.kx.new' (by rw[h4];exact hbz)⟩
    ·rw[HV.out,HE.out]
     exact HBI.out.2.keep (fun k hk=>hsame k (by omega)) (fun k hk=>⟨by omega,(TgT.congr (hsame k (by omega))).2 hk.2⟩)
    ·refine hB.st.shift hbz.size (fun k hk hm=>hsame k fun e=>hm (.inr (.inl e))) (fun k hk=>.inl (.inl hk)) (fun k hk=>?_)
     have h5:=hB.hml k hk
     have h6:=hB.st.not k (.inl hk)
     exact⟨SB h6.1 hbz.size,fun ht=>h6.2 ((TgN.congr (hsame k (by omega))).1 ht)⟩
    ·rw[HV.out,HE.out]
     exact hB.nm.keep (hsame nb (by have:=hB.hn;omega))
theorem yt (ar:Int→Nat)(har:∀k,ar k≤1000)(S:St)(hw:Wf ar S)(ix:List Nat)(sz:Nat→Int)(nb:Nat):∀f,JV D ix S sz nb f
 | 0=>fun _ _ _ _ _ _ hb=>hb.elim
 | f+1=>Fq ar har S hw ix sz nb f (yt ar har S hw ix sz nb f)
end Go.Proofs.Q
