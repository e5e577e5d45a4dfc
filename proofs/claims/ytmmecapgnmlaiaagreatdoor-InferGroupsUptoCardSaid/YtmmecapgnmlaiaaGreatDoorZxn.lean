/- infer: types that are being found, in memory -/
import Derived.Test.YtmmecapgnmlaiaaGreatDoorZxm
import Derived.Test.YtmmecapgnmlaiaaGreatDoorZxa
import Derived.Shelf.Abstract
import Derived.ProofKit
import Derived.Deep.RegionHeld3
import Derived.Deep.AppendLies
import Derived.Deep.RegionLaw
import Derived.Deep.DeepCutAuto
import Derived.Deep.Onto
import Derived.BigQuiet
set_option maxRecDepth 100000
set_option maxHeartbeats 16000000
namespace Go.Proofs.Q
open Go Go.RowKit Go.Proofs Go.Proofs.Unify
def nP (b:Nat):Value:=.pointer (some ⟨b,0,none⟩)
def blk (ix:List Nat)(i:Nat):Nat:=ix.getD i 0
def upV (ix:List Nat):Option Nat→Value
 | none=>.pointer none
 | some j=>nP (blk ix j)
def TgN (w:World)(k:Nat):Prop:=∃cur fz,w.heap[k]?=some (.cells cur 151 fz)
structure Kn (D:Nat→Prop)(X Y:World):Prop where
 os:Y.os=X.os
 tape:Y.tape=X.tape
 output:Y.output=X.output
 size:X.heap.size≤Y.heap.size
 block:∀k,k<X.heap.size→D k∨¬TgN X k→Y.heap[k]?=X.heap[k]?
 tg:∀k,k<X.heap.size→TgN X k→TgN Y k
 nd:∀k,k<X.heap.size→∀q,q=1∨q=2→Y.cell? ⟨k,q,none⟩=X.cell? ⟨k,q,none⟩
theorem TgN.congr {X Y:World}{k:Nat}(h:Y.heap[k]?=X.heap[k]?):TgN Y k↔TgN X k:=by unfold TgN;rw[h]
theorem TgN.lt {X:World}{k:Nat}(h:TgN X k):k<X.heap.size:=by
 obtain⟨cur,fz,h⟩:=h
 exact(Sz.1 h).1
theorem TgN.not {X:World}{k:Nat}{cur:Array Value}{t:TypeId}{fz:Nat×Nat}(h:X.heap[k]?=some (.cells cur t fz))(ht:t≠151):¬TgN X k:=by
 rintro⟨cur',fz',h'⟩
 rw[h]at h'
 simp only[TK,Obj.cells.injEq]at h'
 exact ht h'.2.1
theorem TgN.vI {X:World}{k:Nat}{es:Array MapEntry}{c:Nat}(h:X.heap[k]?=some (.map es c)):¬TgN X k:=by
 rintro⟨cur',fz',h'⟩
 rw[h]at h'
 simp at h'
variable {D:Nat→Prop} {M:Nat→Prop}
theorem Kn.refl (X:World):Kn D X X:=⟨rfl,rfl,rfl,SA _,fun _ _ _=>rfl,fun _ _ h=>h,fun _ _ _ _=>rfl⟩
theorem Kn.trans {X Y Z:World}(h:Kn D X Y)(g:Kn D Y Z):Kn D X Z:=
 ⟨g.os.trans h.os,g.tape.trans h.tape,g.output.trans h.output,SE h.size g.size,fun k hk ht=>by
  have e:=h.block k hk ht
  exact(g.block k (SB hk h.size) (ht.imp id fun ht h'=>ht ((TgN.congr e).1 h'))).trans e,fun k hk ht=>g.tg k (SB hk h.size) (h.tg k hk ht),fun k hk q hq=>(g.nd k (SB hk h.size) q hq).trans (h.nd k hk q hq)⟩
theorem Kn.below {X Y:World}(h:Below X.heap.size X Y):Kn D X Y:=⟨h.os,h.tape,h.output,h.size,fun k hk _=>h.block k hk,fun k hk ht=>(TgN.congr (h.block k hk)).2 ht,fun k hk _ _=>SN (h.block k hk)⟩
theorem Kn.alloc (X:World)(o:Obj):Kn D X (X.alloc o):=Kn.below ((TA _ _).alloc (SA _) _)
theorem Kn.drewN (X:World)(n:Nat):Kn D X (X.drewN n):=⟨rfl,rfl,rfl,SA _,fun _ _ _=>rfl,fun _ _ h=>h,fun _ _ _ _=>rfl⟩
theorem dJ (X:World)(n:Nat):Below X.heap.size X (X.drewN n):=⟨rfl,rfl,rfl,SA _,fun _ _=>rfl⟩
theorem Kn.drew (X:World):Kn D X X.drew:=Kn.below (TA _ _).drew
theorem heap_set {X:World}{b i:Nat}{cs:Array Value}{t:TypeId}{fz:Nat×Nat}(h:X.heap[b]?=some (.cells cs t fz))(u:Value):(X.setCell ⟨b,i,none⟩ u).heap[b]?=some (.cells (cs.setIfInBounds i u) t fz):=by
 simp[World.setCell,Uj,h]
theorem TgN.set {X:World}{k:Nat}(b i:Nat)(u:Value)(h:TgN X k):TgN (X.setCell ⟨b,i,none⟩ u) k:=by
 obtain⟨cur,fz,h⟩:=h
 by_cases e:k=b
 ·subst e
  exact⟨_,_,heap_set h u⟩
 ·exact⟨cur,fz,(Tx _ _ _ _ e).trans h⟩
theorem Kn.Qk {X Y:World}(h:Kn D X Y){b i:Nat}(hn:¬D b)(hb:TgN Y b)(hb':b<X.heap.size→TgN X b)(hi:i=0∨i=3)(u:Value):Kn D X (Y.setCell ⟨b,i,none⟩ u):=by
 refine⟨h.os,h.tape,h.output,by simpa [World.setCell]using h.size,fun k hk ht=>?_,fun k hk ht=>TgN.set _ _ _ (h.tg k hk ht),fun k hk q hq=>?_⟩
 ·refine(Tx _ _ _ _ ?_).trans (h.block k hk ht)
  rintro rfl
  exact ht.elim hn (fun ht=>ht (hb' hk))
 ·refine(Uk _ _ _ _ ?_).trans (h.nd k hk q hq)
  intro e
  have:i=q:=congrArg Addr.off e
  omega
theorem Kn.cell {X Y:World}(h:Kn D X Y){g o:Nat}(hg:g<X.heap.size)(ht:¬TgN X g):Y.cell? ⟨g,o,none⟩=X.cell? ⟨g,o,none⟩:=SN (h.block g hg (.inr ht))
theorem Kn.not {X Y:World}(h:Kn D X Y){g:Nat}(hg:g<X.heap.size)(ht:¬TgN X g):¬TgN Y g:=fun h'=>ht ((TgN.congr (h.block g hg (.inr ht))).1 h')
theorem Kn.box {X Y:World}(h:Kn D X Y){k:Nat}{cur:Array Value}{t:TypeId}{fz:Nat×Nat}(hk:X.heap[k]?=some (.cells cur t fz))(ht:t≠151):Y.heap[k]?=some (.cells cur t fz):=
 (h.block k (Sz.1 hk).1 (.inr (TgN.not hk ht))).trans hk
def jm (M:Nat→Prop)(w:World)(ix:List Nat)(A:Option Addr)(l:List Nat):Prop:=
 l≠[]→∃g o,A=some ⟨g,o,none⟩∧g<w.heap.size∧¬TgN w g∧¬M g∧∀j k,l[j]?=some k→w.cell? ⟨g,o+j,none⟩=some (nP (blk ix k))
theorem jm.keep {w w':World}{ix:List Nat}{A:Option Addr}{l:List Nat}(h:jm M w ix A l)(hk:Kn D w w'):jm M w' ix A l:=fun hne=>by
 obtain⟨g,o,e,h1,h2,hM,h3⟩:=h hne
 exact⟨g,o,e,SB h1 hk.size,hk.not h1 h2,hM,fun j k hj=>(hk.cell h1 h2).trans (h3 j k hj)⟩
def Ql (M:Nat→Prop)(w:World)(ix:List Nat)(z:Int)(i:Nat)(x:Nd):Prop:=
 ∃A c,w.heap[blk ix i]?=some (.cells #[upV ix x.up,.int .i64 x.kind,.slice A x.sub.length c,.int .i64 z] 151 (0,0))∧x.sub.length≤c∧c≤maxLen∧jm M w ix A x.sub
structure StM (D:Nat→Prop)(M:Nat→Prop)(w:World)(ix:List Nat)(S:St)(sz:Nat→Int):Prop where
 len:ix.length=S.length
 nodup:ix.Nodup
 base:∀b∈ix,¬D b
 xlt:∀k,M k→k<w.heap.size
 xn:∀k,M k→¬TgN w k
 node:∀i x,S[i]?=some x→Ql M w ix (sz i) i x
 cl:∀(i:Nat) (x:Nd),S[i]?=some x→(∀j∈x.sub,j<S.length)∧∀j,x.up=some j→j<S.length
theorem StM.tg {w:World}{ix:List Nat}{S:St}{sz:Nat→Int}(h:StM D M w ix S sz){i:Nat}(hi:i<S.length):TgN w (blk ix i):=by
 obtain⟨A,c,h1,_⟩:=h.node i _ (Sw hi)
 exact⟨_,_,h1⟩
theorem StM.low {w:World}{ix:List Nat}{S:St}{sz:Nat→Int}(h:StM D M w ix S sz){i:Nat}(hi:i<S.length):¬D (blk ix i):=by
 have hi':i<ix.length:=by rw[h.len];exact hi
 refine h.base _ ?_
 unfold blk
 rw[TM,Sw hi']
 exact Ul hi'
theorem StM.inj {w:World}{ix:List Nat}{S:St}{sz:Nat→Int}(h:StM D M w ix S sz){i j:Nat}(hi:i<S.length)(hj:j<S.length)(e:blk ix i=blk ix j):i=j:=by
 have hi':i<ix.length:=by rw[h.len];exact hi
 have hj':j<ix.length:=by rw[h.len];exact hj
 unfold blk at e
 rw[TM,TM,Sw hi',Sw hj']at e
 exact(List.getElem_inj h.nodup).1 e
theorem StM.set {w:World}{ix:List Nat}{S:St}{sz:Nat→Int}(h:StM D M w ix S sz){i q:Nat}{u:Value}{x x':Nd}{z:Int}(hx:S[i]?=some x)
  (hq:q=0∨q=3)(hc:∀A c,(#[upV ix x.up,.int .i64 x.kind,.slice A x.sub.length c,.int .i64 (sz i)]:Array Value).setIfInBounds q u=#[upV ix x'.up,.int .i64 x'.kind,.slice A x'.sub.length c,.int .i64 z])(hsub:x'.sub=x.sub)(hup:∀j,x'.up=some j→j<S.length) :
  StM D M (w.setCell ⟨blk ix i,q,none⟩ u) ix (S.set i x') (fun k=>if k=i then z else sz k)∧Kn D w (w.setCell ⟨blk ix i,q,none⟩ u):=by
 have hi:=(Sy.1 hx).1
 have hK:Kn D w (w.setCell ⟨blk ix i,q,none⟩ u):=(Kn.refl w).Qk (h.low hi) (h.tg hi) (fun _=>h.tg hi) hq u
 refine⟨⟨by simpa using h.len,h.nodup,h.base,fun k hk=>SB (h.xlt k hk) hK.size,fun k hk=>hK.not (h.xlt k hk) (h.xn k hk),fun k y hy=>?_,fun k y hy=>?_⟩,hK⟩
 by_cases e:i=k
 ·subst e
  have:y=x':=by
   rw[List.getElem?_set_self hi]at hy
   exact(TL hy).symm
  subst this
  obtain⟨A,c,h1,h2,h3,h4⟩:=h.node i x hx
  refine⟨A,c,?_,by rw[hsub];exact h2,h3,by rw[hsub];exact h4.keep hK⟩
  simp only[TY]
  rw[heap_set h1 u,hc]
 ·have hy':S[k]?=some y:=by rw[List.getElem?_set_ne e]at hy;exact hy
  obtain⟨A,c,h1,h2,h3,h4⟩:=h.node k y hy'
  have hk:=(Sy.1 hy').1
  refine⟨A,c,?_,h2,h3,h4.keep hK⟩
  simp only[TW (Ne.symm e)]
  exact(Tx _ _ _ _ (fun e'=>e (h.inj hi hk e'.symm))).trans h1
 ·rw[List.length_set]
  by_cases e:i=k
  ·subst e
   have:y=x':=by
    rw[List.getElem?_set_self hi]at hy
    exact(TL hy).symm
   subst this
   exact⟨by rw[hsub];exact(h.cl i x hx).1,hup⟩
  ·rw[List.getElem?_set_ne e]at hy
   exact h.cl k y hy
theorem StM.up {w:World}{ix:List Nat}{S:St}{sz:Nat→Int}(h:StM D M w ix S sz){i k:Nat}(hi:i<S.length)(hk:k<S.length) :
  StM D M (w.setCell ⟨blk ix i,0,none⟩ (nP (blk ix k))) ix (aS S i k) sz∧Kn D w (w.setCell ⟨blk ix i,0,none⟩ (nP (blk ix k))):=by
 have hx:=Sw hi
 obtain⟨h1,h2⟩:=h.set (q:=0) (u:=nP (blk ix k)) (x':={ S[i]with up:=some k }) (z:=sz i) hx (.inl rfl) (fun A c=>rfl) rfl (fun j hj=>by cases hj;exact hk)
 refine⟨?_,h2⟩
 have e1:aS S i k=S.set i { S[i]with up:=some k }:=by unfold aS;rw[hx]
 have e2:(fun k=>if k=i then sz i else sz k)=sz:=by funext k;split <;> simp_all
 rw[e1]
 rw[e2]at h1
 exact h1
theorem StM.size {w:World}{ix:List Nat}{S:St}{sz:Nat→Int}(h:StM D M w ix S sz){i:Nat}(hi:i<S.length)(z:Int) :
  StM D M (w.setCell ⟨blk ix i,3,none⟩ (.int .i64 z)) ix S (fun k=>if k=i then z else sz k)∧Kn D w (w.setCell ⟨blk ix i,3,none⟩ (.int .i64 z)):=by
 have hx:=Sw hi
 obtain⟨h1,h2⟩:=h.set (q:=3) (u:=.int .i64 z) (x':=S[i]) (z:=z) hx (.inr rfl) (fun A c=>rfl) rfl (h.cl i _ hx).2
 refine⟨?_,h2⟩
 rw[List.set_getElem_self]at h1
 exact h1
theorem StM.keep {w w':World}{ix:List Nat}{S:St}{sz:Nat→Int}(h:StM D M w ix S sz)(hb:Below w.heap.size w w'):StM D M w' ix S sz:=
 ⟨h.len,h.nodup,h.base,fun k hk=>SB (h.xlt k hk) hb.size,fun k hk=>(Kn.below (D:=D) hb).not (h.xlt k hk) (h.xn k hk),fun i x hx=>by
  obtain⟨A,c,h1,h2,h3,h4⟩:=h.node i x hx
  exact⟨A,c,(hb.block _ (Sz.1 h1).1).trans h1,h2,h3,h4.keep (Kn.below (D:=D) hb)⟩,h.cl⟩
theorem LX {ix:List Nat}{b i:Nat}(h:i<ix.length):blk (ix++[b]) i=blk ix i:=by
 unfold blk
 rw[TM,TM,Tg h]
theorem lZ (ix:List Nat)(b:Nat):blk (ix++[b]) ix.length=b:=by
 unfold blk
 rw[TM]
 simp
theorem StM.zh {w:World}{ix:List Nat}{S:St}(h:StM D M w ix S fun _=>0){b:Nat}(hb0:¬D b)(hbi:b∉ix){k:Int}{l:List Nat}{A:Option Addr}{c:Nat}
  (hn:w.heap[b]?=some (.cells #[.pointer none,.int .i64 k,.slice A l.length c,.int .i64 0] 151 (0,0)))(hlc:l.length≤c)(hc:c≤maxLen)(hs:jm M w ix A l)(hl:∀j∈l,j<S.length) :
  StM D M w (ix++[b]) (S++[⟨none,k,l,0⟩]) fun _=>0:=by
 have hL:∀i,i<S.length→blk (ix++[b]) i=blk ix i:=fun i hi=>LX (by rw[h.len];exact hi)
 have hsub:∀{X:World} {A:Option Addr} {l:List Nat},(∀j∈l,j<S.length)→jm M X ix A l→jm M X (ix++[b]) A l:=fun hl hs hne=>by
  obtain⟨g,o,e,h1,h2,hM,h3⟩:=hs hne
  exact⟨g,o,e,h1,h2,hM,fun j k hj=>by rw[hL k (hl k (SV hj))];exact h3 j k hj⟩
 refine⟨by simp[h.len],?_,fun a ha=>?_,h.xlt,h.xn,fun i x hx=>?_,fun i x hx=>?_⟩
 ·rw[List.nodup_append]
  refine⟨h.nodup,by simp,fun a ha a' ha'=>?_⟩
  have:a'=b:=by simpa using ha'
  subst this
  exact fun e=>hbi (e▸ha)
 ·rcases Td.1 ha with h'|h'
  ·exact h.base a h'
  ·have:a=b:=by simpa using h'
   rw[this]
   exact hb0
 ·by_cases e:i<S.length
  ·rw[Tg e]at hx
   obtain⟨A',c',h1,h2,h3,h4⟩:=h.node i x hx
   have hu:upV (ix++[b]) x.up=upV ix x.up:=by
    cases hx':x.up with
    | none=>rfl
    | some j=>unfold upV;simp only;rw[hL j ((h.cl i x hx).2 j hx')]
   refine⟨A',c',?_,h2,h3,hsub (h.cl i x hx).1 h4⟩
   rw[hL i e,hu]
   exact h1
  ·have hl':=(Sy.1 hx).1
   have:i=S.length:=by simp at hl';omega
   subst this
   have e1:(S++[(⟨none,k,l,0⟩:Nd)])[S.length]?=some ⟨none,k,l,0⟩:=by simp
   rw[e1]at hx
   cases hx
   refine⟨A,c,?_,hlc,hc,hsub hl hs⟩
   rw[←h.len,lZ]
   exact hn
 ·rw[SX,SY]
  by_cases e:i<S.length
  ·rw[Tg e]at hx
   obtain⟨h1,h2⟩:=h.cl i x hx
   exact⟨fun j hj=>Nat.lt_succ_of_lt (h1 j hj),fun j hj=>Nat.lt_succ_of_lt (h2 j hj)⟩
  ·have hl':=(Sy.1 hx).1
   have:i=S.length:=by simp at hl';omega
   subst this
   have e1:(S++[(⟨none,k,l,0⟩:Nd)])[S.length]?=some ⟨none,k,l,0⟩:=by simp
   rw[e1]at hx
   cases hx
   exact⟨fun j hj=>Nat.lt_succ_of_lt (hl j hj),fun j hj=>by cases hj⟩
theorem StM.add {w w':World}{ix:List Nat}{S:St}(h:StM D M w ix S fun _=>0)(hb:Below w.heap.size w w'){b:Nat}(hb0:¬D b)(hbn:w.heap.size≤b){k:Int}{l:List Nat}{A:Option Addr}{c:Nat}
  (hn:w'.heap[b]?=some (.cells #[.pointer none,.int .i64 k,.slice A l.length c,.int .i64 0] 151 (0,0)))(hlc:l.length≤c)(hc:c≤maxLen)(hs:jm M w' ix A l)(hl:∀j∈l,j<S.length) :
  StM D M w' (ix++[b]) (S++[⟨none,k,l,0⟩]) fun _=>0:=
 (h.keep hb).zh hb0 (fun hm=>by
  obtain⟨i,hi,e⟩:=List.getElem_of_mem hm
  have h1:=(h.tg (i:=i) (by rw[←h.len];exact hi)).lt
  have h2:blk ix i=b:=by unfold blk;rw[TM,Sw hi];exact e
  omega) hn hlc hc hs hl
theorem StM.Fh {w:World}{ix:List Nat}{S:St}{sz:Nat→Int}(h:StM D M w ix S sz){D':Nat→Prop}(hd:∀b,b∈ix→D' b→D b):StM D' M w ix S sz:=
 ⟨h.len,h.nodup,fun b hb hd'=>h.base b hb (hd b hb hd'),h.xlt,h.xn,h.node,h.cl⟩
theorem StM.shift {w w':World}{ix:List Nat}{S:St}{sz:Nat→Int}{M':Nat→Prop}(h:StM D M w ix S sz)(hsz:w.heap.size≤w'.heap.size)(hb:∀k,k<w.heap.size→¬M k→w'.heap[k]?=w.heap[k]?)
  (hM:∀k,M' k→M k∨w.heap.size≤k)(hn:∀k,M' k→k<w'.heap.size∧¬TgN w' k):StM D M' w' ix S sz:=by
 refine⟨h.len,h.nodup,h.base,fun k hk=>(hn k hk).1,fun k hk=>(hn k hk).2,fun i x hx=>?_,h.cl⟩
 obtain⟨A,c,h1,h2,h3,h4⟩:=h.node i x hx
 have hi:=(Sy.1 hx).1
 refine⟨A,c,(hb _ (Sz.1 h1).1 fun hk=>h.xn _ hk (h.tg hi)).trans h1,h2,h3,fun hne=>?_⟩
 obtain⟨g,o,e,k1,k2,k3,k4⟩:=h4 hne
 refine⟨g,o,e,SB k1 hsz,fun ht=>k2 ((TgN.congr (hb g k1 k3)).1 ht),fun hg=>?_,fun j k hj=>(SN (hb g k1 k3)).trans (k4 j k hj)⟩
 rcases hM g hg with h5|h5
 ·exact k3 h5
 ·omega
end Go.Proofs.Q
namespace Go.Proofs.Q
open Go Go.RowKit Go.Proofs Go.Proofs.Unify
variable {D:Nat→Prop} {M:Nat→Prop}
theorem jE {W:World}{b:Nat}{t:TypeId}{c0 c1 c2 c3:Value}(h:W.heap[b]?=some (.cells #[c0,c1,c2,c3] t (0,0))) :
  W.cell? ⟨b,0,none⟩=some c0∧W.cell? ⟨b,1,none⟩=some c1∧W.cell? ⟨b,2,none⟩=some c2∧W.cell? ⟨b,3,none⟩=some c3∧W.frozen? ⟨b,0,none⟩=false∧W.frozen? ⟨b,1,none⟩=false∧W.frozen? ⟨b,2,none⟩=false∧W.frozen? ⟨b,3,none⟩=false:=
 ⟨Sq W b 0 _ _ (0,0) h,Sq W b 1 _ _ (0,0) h,Sq W b 2 _ _ (0,0) h,Sq W b 3 _ _ (0,0) h,Sr W b 0 _ _ h,Sr W b 1 _ _ h,Sr W b 2 _ _ h,Sr W b 3 _ _ h⟩
theorem Root.inv {S:St}{i t n:Nat}(h:Root S i t n):(∃x,S[i]?=some x∧x.up=none∧t=i∧n=0)∨∃x j m,S[i]?=some x∧x.up=some j∧Root S j t m∧n=m+1:=by
 cases h with
 | here h1 h2=>exact .inl ⟨_,h1,h2,rfl,rfl⟩
 | step h1 h2 h3=>exact .inr ⟨_,_,_,h1,h2,h3,rfl⟩
theorem Ia {ix:List Nat}{sz:Nat→Int}{S:St}{i t n:Nat}(hr:Root S i t n){w:World}(hm:StM D M w ix S sz) :
  Calls Tryz.prog 100 #[nP (blk ix i)] w fun e w'=>e=.returned (nP (blk ix t))∧∃Q,Hv S Q∧StM D M w' ix Q sz∧Kn D w w':=by
 have H0:=Sk (Sn hr hm)
 clear hr hm
 unfold nP
 go_enter Tryz.func100,Tryz.ntmps100
 go_wp2
 go_loopg [0] n (fun g p wr=>∃(j:Nat) (Q:St),p=.pointer (some ⟨blk ix j,0,none⟩)∧Root Q j t g∧Hv S Q∧StM D M wr ix Q sz∧Kn D w wr)
 case atStart=>exact⟨i,S,rfl,H0.out.1,Hv.refl _,H0.out.2,Kn.refl _⟩
 case round =>
  obtain⟨j,Q,rfl,hroot,hrest⟩:=hrel
  have HR:=Sk hrest
  clear hrest
  rcases Root.inv hroot with⟨x,h1,h2,rfl,rfl⟩|⟨x,k,m,h1,h2,h3,rfl⟩
  ·clear hroot
   obtain⟨A,c,hb,_⟩:=HR.out.2.1.node t x h1
   rw[h2]at hb
   obtain⟨c0,c1,c2,c3,f0,f1,f2,f3⟩:=jE hb
   clear hb h1 h2
   simp only[upV]at c0
   go_wp2
   go_ret
   exact⟨rfl,Q,HR.out⟩
  ·clear hroot
   obtain⟨A,c,hb,_⟩:=HR.out.2.1.node j x h1
   have hb2:=hb
   rw[h2]at hb
   obtain⟨c0,c1,c2,c3,f0,f1,f2,f3⟩:=jE hb
   simp only[upV,nP]at c0
   rcases Root.inv h3 with⟨y,k1,k2,rfl,rfl⟩|⟨y,l,m',k1,k2,k3,rfl⟩
   ·clear h3
    obtain⟨A',c',hb',_⟩:=HR.out.2.1.node t y k1
    rw[k2]at hb'
    obtain⟨d0,d1,d2,d3,g0,g1,g2,g3⟩:=jE hb'
    simp only[upV]at d0
    have H1:=Sk (Root.here k1 k2)
    clear hb hb' hb2 h1 h2 k1 k2
    go_wp2
    go_roundg 0
    case measure=>omega
    case rel=>exact⟨t,Q,rfl,H1.out,HR.out⟩
   ·clear h3
    obtain⟨A',c',hb',_⟩:=HR.out.2.1.node k y k1
    rw[k2]at hb'
    obtain⟨d0,d1,d2,d3,g0,g1,g2,g3⟩:=jE hb'
    simp only[upV,nP]at d0
    have hset:=HR.out.2.1.up (k:=l) (Sy.1 h1).1 ((HR.out.2.1.cl k y k1).2 l k2)
    have hne:blk ix j≠blk ix k:=fun e=>by
     have:=HR.out.2.1.inj (Sy.1 h1).1 (Sy.1 k1).1 e
     subst this
     exact DT h1 h2 (.step k1 k2 k3) rfl
    have hk:=DU (vk:=0) h1 h2 k1 k2 (.step k1 k2 k3)
    obtain⟨m2,hm2,hr2⟩:=hk.root k3
    have HV:=Sk (Sn hset (Sn (Hv.half h1 h2 k1 k2 (.step k1 k2 k3)) hr2))
    clear hb hb' hb2 h1 h2 k1 k2 k3 hset hk hr2
    unfold nP at HV
    go_wp2
    go_roundg m2
    case measure=>omega
    case rel=>exact⟨l,aS Q j l,rfl,HV.out.2.2,HR.out.1.trans HV.out.2.1,HV.out.1.1,HR.out.2.2.trans HV.out.1.2⟩
def StH (D:Nat→Prop)(M:Nat→Prop)(w:World)(ix:List Nat)(S:St)(sz:Nat→Int):Prop:=∃Q,Hv S Q∧StM D M w ix Q sz
theorem StH.len {w:World}{ix:List Nat}{S:St}{sz:Nat→Int}(h:StH D M w ix S sz):ix.length=S.length:=by
 obtain⟨Q,h1,h2⟩:=h
 exact h2.len.trans h1.len
theorem StH.keep {w w':World}{ix:List Nat}{S:St}{sz:Nat→Int}(h:StH D M w ix S sz)(hb:Below w.heap.size w w'):StH D M w' ix S sz:=by
 obtain⟨Q,h1,h2⟩:=h
 exact⟨Q,h1,h2.keep hb⟩
theorem StH.inj {w:World}{ix:List Nat}{S:St}{sz:Nat→Int}(h:StH D M w ix S sz){i j:Nat}(hi:i<S.length)(hj:j<S.length)(e:blk ix i=blk ix j):i=j:=by
 obtain⟨Q,h1,h2⟩:=h
 exact h2.inj (by rw[h1.len];exact hi) (by rw[h1.len];exact hj) e
theorem StH.at_ {w:World}{ix:List Nat}{S:St}{sz:Nat→Int}(h:StH D M w ix S sz){i:Nat}{x:Nd}(hx:S[i]?=some x) :
  ∃u A c,w.heap[blk ix i]?=some (.cells #[u,.int .i64 x.kind,.slice A x.sub.length c,.int .i64 (sz i)] 151 (0,0))∧x.sub.length≤c∧c≤maxLen∧jm M w ix A x.sub:=by
 obtain⟨Q,h1,h2⟩:=h
 obtain⟨x',k1,k2,k3,_⟩:=h1.node i x hx
 obtain⟨A,c,e1,e2,e3,e4⟩:=h2.node i x' k1
 rw[k2,k3]at e1
 rw[k3]at e2 e4
 exact⟨_,A,c,e1,e2,e3,e4⟩
theorem StH.add {ar:Int→Nat}{w w':World}{ix:List Nat}{S:St}(hw:Wf ar S)(h:StH D M w ix S fun _=>0)(hb:Below w.heap.size w w'){b:Nat}(hb0:¬D b)(hbn:w.heap.size≤b){k:Int}{l:List Nat}{A:Option Addr}{c:Nat}
  (hn:w'.heap[b]?=some (.cells #[.pointer none,.int .i64 k,.slice A l.length c,.int .i64 0] 151 (0,0)))(hlc:l.length≤c)(hc:c≤maxLen)(hs:jm M w' ix A l)(hl:∀j∈l,j<S.length) :
  StH D M w' (ix++[b]) (S++[⟨none,k,l,0⟩]) fun _=>0:=by
 obtain⟨Q,h1,h2⟩:=h
 refine⟨_,h1.add _ rfl (fun i x j hx hj=>?_),h2.add hb hb0 hbn hn hlc hc hs (fun j hj=>by rw[h1.len];exact hl j hj)⟩
 obtain⟨t,n,hr,_⟩:=hw.root i (Sy.1 hx).1
 rcases Root.inv hr with⟨y,e1,e2,_⟩|⟨y,j',m,e1,e2,e3,_⟩
 ·rw[hx]at e1
  cases e1
  rw[hj]at e2
  cases e2
 ·rw[hx]at e1
  cases e1
  rw[hj]at e2
  cases e2
  rcases Root.inv e3 with⟨z,f1,_⟩|⟨z,_,_,f1,_⟩
  ·exact(Sy.1 f1).1
  ·exact(Sy.1 f1).1
theorem kg {ar:Int→Nat}{ix:List Nat}{sz:Nat→Int}{S:St}(hw:Wf ar S){i:Nat}(hi:i<S.length){w:World}(h:StH D M w ix S sz) :
  Calls Tryz.prog 100 #[nP (blk ix i)] w fun e w'=>e=.returned (nP (blk ix (rt S i)))∧StH D M w' ix S sz∧Kn D w w':=by
 obtain⟨Q,h1,h2⟩:=h
 obtain⟨n,hr⟩:=vF hw hi
 obtain⟨n',hr'⟩:=h1.root hr
 refine(Ia hr' h2).mono ?_
 rintro e w' ⟨rfl,Q',k1,k2,k3⟩
 exact⟨rfl,⟨Q',h1.trans k1,k2⟩,k3⟩
def AJ (D:Nat→Prop)(M:Nat→Prop)(w:World)(ix:List Nat)(S:St)(k:Int)(l:List Nat)(e:Ending)(w':World):Prop:=
 ∃b,e=.returned (nP b)∧StH D M w' (ix++[b]) (S++[⟨none,k,l,0⟩]) (fun _=>0)∧Below w.heap.size w w'
theorem kL {ar:Int→Nat}{ix:List Nat}{S:St}(hw:Wf ar S){w:World}(h:StH D M w ix S fun _=>0)(hn:∀k,D k→k<w.heap.size):Calls Tryz.prog 95 #[] w (AJ D M w ix S 5 []):=by
 have H:=Sk (Sn hw h)
 clear hw h
 go_enter Tryz.func95,Tryz.ntmps95
 go_wp2
 go_ret
 refine⟨w.heap.size,rfl,H.out.2.add H.out.1 ?_ (fun h=>Nat.lt_irrefl _ (hn _ h)) (SA _) (Sv w _) (SC _) (SC _) (fun h=>absurd rfl h) (by simp),?_⟩
 ·exact(TA _ _).alloc (SA _) _
 ·exact(TA _ _).alloc (SA _) _
theorem AL {ar:Int→Nat}{ix:List Nat}{S:St}(hw:Wf ar S){w:World}(h:StH D M w ix S fun _=>0)(hn:∀k,D k→k<w.heap.size)(k:Int)(l:List Nat){A:Option Addr}{c:Nat}(hlc:l.length≤c)(hc:c≤maxLen)(hs:jm M w ix A l)(hl:∀j∈l,j<S.length) :
  Calls Tryz.prog 98 #[.int .i64 k,.slice A l.length c] w (AJ D M w ix S k l):=by
 have H:=Sk (Sn hw (Sn h (Sn hlc (Sn hc (Sn hs hl)))))
 clear hw h hlc hc hs hl
 go_enter Tryz.func98,Tryz.ntmps98
 go_wp2
 go_ret
 have hb:∀o,Below w.heap.size w (w.alloc o):=fun o=>(TA _ _).alloc (SA _) _
 refine⟨w.heap.size,rfl,H.out.2.1.add H.out.1 (hb _) (fun h=>Nat.lt_irrefl _ (hn _ h)) (SA _) (Sv w _) H.out.2.2.1 H.out.2.2.2.1 (H.out.2.2.2.2.1.keep (Kn.below (D:=D) (hb _))) H.out.2.2.2.2.2,hb _⟩
end Go.Proofs.Q
namespace Go.Proofs.Q
open Go Go.RowKit Go.Proofs Go.Proofs.Unify
variable {D:Nat→Prop} {M:Nat→Prop}
theorem Tryz.jG:Tryz.prog.underlying 144=some (.pointer 151):=by kernel_rfl
theorem Tryz.AO:(Tryz.prog.info? 151).map (fun i=>(i.zero,i.size,i.bytes))=some (some (.agg #[.pointer none,.int .i64 0,.slice none 0 0,.int .i64 0]),4,48):=by kernel_rfl
theorem StH.eql {w:World}{ix:List Nat}{S:St}{sz:Nat→Int}(h:StH D M w ix S sz){i j:Nat}(hi:i<S.length)(hj:j<S.length) :
  (binOp .eql 144 (.pointer (some ⟨blk ix i,0,none⟩)) (.pointer (some ⟨blk ix j,0,none⟩))).run Tryz.prog w=.ok (.bool (decide (i=j))) w:=by
 obtain⟨inf,AP,_,hsz,_⟩:=info_parts Tryz.AO
 by_cases e:i=j
 ·subst e
  rw[SI rfl]
  exact run_eql_ptr_same w _ Tryz.jG AP
 ·rw[SH e]
  obtain⟨u,A,c,h1,_⟩:=h.at_ (Sw hi)
  obtain⟨u',A',c',h1',_⟩:=h.at_ (Sw hj)
  exact run_eql_ptr_other w Tryz.jG AP (by rw[hsz];decide) (fun e'=>e (h.inj hi hj (by simpa using e'))) h1 h1'
theorem StH.link {ar:Int→Nat}{w:World}{ix:List Nat}{S:St}{sz:Nat→Int}(hw:Wf ar S)(h:StH D M w ix S sz){a b:Nat}{x y:Nd}(ha:S[a]?=some x)(hx:x.up=none)(hb:S[b]?=some y)(hy:y.up=none)(hab:a≠b) :
  StH D M (w.setCell ⟨blk ix a,0,none⟩ (.pointer (some ⟨blk ix b,0,none⟩))) ix (aS S a b) sz∧Kn D w (w.setCell ⟨blk ix a,0,none⟩ (.pointer (some ⟨blk ix b,0,none⟩))):=by
 obtain⟨Q,h1,h2⟩:=h
 obtain⟨k1,k2⟩:=h2.up (i:=a) (k:=b) (by rw[h1.len];exact(Sy.1 ha).1) (by rw[h1.len];exact(Sy.1 hb).1)
 exact⟨⟨_,h1.link hw ha hx hb hy hab,k1⟩,k2⟩
def Qm (D:Nat→Prop)(M:Nat→Prop)(w:World)(ix:List Nat)(sz:Nat→Int)(R:Bool×St)(e:Ending)(w':World):Prop:=
 e=.returned (.bool R.1)∧StH D M w' ix R.2 sz∧Kn D w w'
theorem drop_cons {α:Type}{l:List α}{j:Nat}{x:α}(h:l[j]?=some x):l.drop j=x::l.drop (j+1):=by
 obtain⟨hlt,rfl⟩:=Sy.1 h
 exact TQ hlt
theorem xX (ar:Int→Nat)(har:∀k,ar k≤1000):∀(f:Nat)(S:St)(a b:Nat)(ix:List Nat)(sz:Nat→Int)(w:World),Wf ar S→a<S.length→b<S.length→nr S≤f→StH D M w ix S sz →
  Calls Tryz.prog 156 #[nP (blk ix a),nP (blk ix b)] w (Qm D M w ix sz (fK 5 f S a b))
 | 0,S,a,b,ix,sz,w,hw,ha,hb,hn,h=>by
  obtain⟨t,n,hr,_⟩:=hw.root a ha
  obtain⟨x,h1,h2⟩:=hr.top
  have:=Az h1 h2
  omega
 | f+1,S,a,b,ix,sz,w,hw,ha,hb,hn,h=>by
  obtain⟨R,HR⟩:∃R,Hid (fK 5 (f+1) S a b=R):=⟨_,Sk rfl⟩
  rw[HR.out]
  have HA:=Sk (kg hw ha h)
  have HB:=Sk (fun X (hX:StH D M X ix S sz)=>kg hw hb hX)
  have HE:=Sk (fun X (hX:StH D M X ix S sz)=>hX.eql (nu hw ha) (nu hw hb))
  obtain⟨x,hx1,hx2⟩:=iV hw ha
  obtain⟨y,hy1,hy2⟩:=iV hw hb
  have hra:=nu hw ha
  have hrb:=nu hw hb
  have HU:=Sk (show R=if rt S a=rt S b then (true,S)else if x.kind=5 then (true,aS S (rt S a) (rt S b))else if y.kind=5 then (true,aS S (rt S b) (rt S a))else if x.kind≠y.kind then (false,aS S (rt S b) (rt S a))else kF (fK 5 f) x.sub y.sub (aS S (rt S b) (rt S a)) by
   rw[←HR.out]
   show (if rt S a=rt S b then (true,S)else match S[rt S a]?,S[rt S b]? with
    | some x,some y=>if x.kind=5 then (true,aS S (rt S a) (rt S b))else if y.kind=5 then (true,aS S (rt S b) (rt S a))else if x.kind≠y.kind then (false,aS S (rt S b) (rt S a))else kF (fK 5 f) x.sub y.sub (aS S (rt S b) (rt S a))
    | _,_=>(false,S))=_
   rw[hx1,hy1])
  generalize Qn:rt S a=ra at *
  generalize Qo:rt S b=rb at *
  have H0:=Sk (Sn hw (Sn hn h))
  clear hw hn h Qn Qo
  unfold nP at HA HB ⊢
  go_enter Tryz.func156,Tryz.ntmps156
  go_wp2_with fail
  refine HA.out.mono ?_
  rintro e w1 ⟨rfl,h1,hk1⟩
  go_wp2_with fail
  refine(HB.out _ h1).mono ?_
  rintro e w2 ⟨rfl,h2,hk2⟩
  have q:=HE.out w2 h2
  have H2:=Sk (Sn h2 (hk1.trans hk2))
  by_cases e0:ra=rb
  ·have HV:=Sk (show R=(true,S) by rw[HU.out,TY e0])
   subst e0
   rw[SI rfl]at q
   clear h1 hk1 h2 hk2 hx1 hx2 hy1 hy2
   go_wp2
   go_ret
   rw[HV.out]
   exact⟨rfl,H2.out⟩
  ·rw[SH e0]at q
   obtain⟨ua,A,c,hb1,hc1⟩:=h2.at_ hx1
   obtain⟨ub,A',c',hb1',hc1'⟩:=h2.at_ hy1
   obtain⟨c0,c1,c2,c3,f0,f1,f2,f3⟩:=jE hb1
   obtain⟨d0,d1,d2,d3,g0,g1,g2,g3⟩:=jE hb1'
   have hbne:blk ix ra≠blk ix rb:=fun e=>e0 (h2.inj hra hrb e)
   by_cases k0:x.kind=5
   ·have HV:=Sk (show R=(true,aS S ra rb) by rw[HU.out,TW e0,TY k0])
    have HL:=Sk (h2.link H0.out.1 hx1 hx2 hy1 hy2 e0)
    clear h1 hk1 h2 hk2 hx1 hx2 hy1 hy2 hb1 hb1' hc1 hc1'
    go_wp2
    go_ret
    rw[HV.out]
    exact⟨rfl,HL.out.1,H2.out.2.trans HL.out.2⟩
   ·have HL:=Sk (h2.link H0.out.1 hy1 hy2 hx1 hx2 (Ne.symm e0))
    by_cases k1:y.kind=5
    ·have HV:=Sk (show R=(true,aS S rb ra) by rw[HU.out,TW e0,TW k0,TY k1])
     clear h1 hk1 h2 hk2 hx1 hx2 hy1 hy2 hb1 hb1' hc1 hc1'
     go_wp2
     go_ret
     rw[HV.out]
     exact⟨rfl,HL.out.1,H2.out.2.trans HL.out.2⟩
    ·by_cases k2:x.kind≠y.kind
     ·have HV:=Sk (show R=(false,aS S rb ra) by rw[HU.out,TW e0,TW k0,TW k1,TY k2])
      clear h1 hk1 h2 hk2 hx1 hx2 hy1 hy2 hb1 hb1' hc1 hc1'
      go_upto_region 10 with fail
      go_quiet (fail)
      go_wp2
      go_ret
      rw[HV.out]
      exact⟨rfl,HL.out.1.keep (dJ _ _),(H2.out.2.trans HL.out.2).trans (Kn.drewN _ _)⟩
     ·have k2':x.kind=y.kind:=by simpa using k2
      have HV:=Sk (show R=kF (fK 5 f) x.sub y.sub (aS S rb ra) by rw[HU.out,TW e0,TW k0,TW k1,TW k2])
      have hsx:=H0.out.1.sub ra x hx1
      have hsy:=H0.out.1.sub rb y hy1
      have hwl:=oG H0.out.1 hy1 hy2 (.here hx1 hx2) (Ne.symm e0)
      have hnl:=lY (b:=ra) hy1 hy2
      have hS0:(aS S rb ra)[ra]?=some x:=(dw (Ne.symm e0) ra).trans hx1
      have hT0:∃y',(aS S rb ra)[rb]?=some y'∧y'.sub=y.sub:=⟨_,eY hy1 ra,rfl⟩
      have hll:x.sub.length=y.sub.length:=by rw[hsx.1,hsy.1,k2']
      have hlim:x.sub.length≤1000:=by rw[hsx.1];exact har _
      have HI:=Sk (Sn hsx (Sn hsy (Sn hll (Sn hra hrb))))
      have HW:=Sk (Sn hwl (Sn (show nr (aS S rb ra)≤f by have:=H0.out.2.1;omega) (Sn (bO S rb ra) (Sn (⟨x,hS0,rfl⟩:∃x',(aS S rb ra)[ra]?=some x'∧x'.sub=x.sub) hT0))))
      have HIH:=Sk (fun (S:St) (a b:Nat) (w:World) hw ha hb hn h=>xX ar har f S a b ix sz w hw ha hb hn h)
      have HUP:=Sk (fun (S:St) (a b:Nat) hw ha hb hn=>kU (vk:=5) ar f S a b hw ha hb hn)
      obtain⟨N,HN⟩:∃N,Hid (x.sub.length=N):=⟨_,Sk rfl⟩
      rw[HN.out]at c2 hlim
      rw[k2']at c1
      have k5:(y.kind==5)=false:=by simpa using k1
      clear k0 k1 k2 k2'
      clear h1 hk1 h2 hk2 hx1 hx2 hy1 hy2 hb1 hb1' hc1 hc1' hsx hsy hwl hnl hS0 hT0 hll ha hb har
      go_upto_region 10 with fail
      go_quiet (fail)
      go_wp2
      go_loopg [5,45] N (fun g _ ct wr=>∃(j:Nat) (Q:St),g=N-j∧j≤N∧ct=.int .i64 j∧R=kF (fK 5 f) (x.sub.drop j) (y.sub.drop j) Q∧Wf ar Q∧nr Q≤f∧Q.length=S.length∧(∃x',Q[ra]?=some x'∧x'.sub=x.sub)∧(∃y',Q[rb]?=some y'∧y'.sub=y.sub)∧StH D M wr ix Q sz∧Kn D w wr)
      case atStart=>exact⟨0,aS S rb ra,rfl,SC _,rfl,HV.out,HW.out.1,HW.out.2.1,HW.out.2.2.1,HW.out.2.2.2.1,HW.out.2.2.2.2,HL.out.1.keep (dJ _ _),(H2.out.2.trans HL.out.2).trans (Kn.drewN _ _)⟩
      case round =>
       obtain⟨j,Q,hg,hj,rfl,hR,hwQ,hnQ,hlQ,hxQ,hyQ,wP,hkQ⟩:=hrel
       clear c0 c1 c2 c3 f0 f1 f2 f3 d0 d1 d2 d3 g0 g1 g2 g3
       have HQ:=Sk (Sn hwQ (Sn hnQ (Sn hlQ (Sn hxQ (Sn hyQ (Sn wP hkQ))))))
       obtain⟨x',hx',hxs⟩:=hxQ
       obtain⟨y',hy',hys⟩:=hyQ
       have HG:=Sk hg
       clear hg
       by_cases hlt:j<N
       ·obtain⟨p,hp⟩:∃p,x.sub[j]?=some p:=⟨_,Sw (by rw[HN.out];exact hlt)⟩
        obtain⟨q,hq⟩:∃q,y.sub[j]?=some q:=⟨_,Sw (by rw[←HI.out.2.2.1,HN.out];exact hlt)⟩
        obtain⟨ua,A,c,hb1,hc1,hc2,hs1⟩:=wP.at_ hx'
        obtain⟨ub,A',c',hb2,hc1',hc2',hs2⟩:=wP.at_ hy'
        rw[hxs]at hb1 hc1 hs1
        rw[hys]at hb2 hc1' hs2
        obtain⟨ga,oa,rfl,hga,hta,_,hsa⟩:=hs1 (by intro e;rw[e]at hp;simp at hp)
        obtain⟨gb,ob,rfl,hgb,htb,_,hsb⟩:=hs2 (by intro e;rw[e]at hq;simp at hq)
        have ea:=hsa j p hp
        have eb:=hsb j q hq
        obtain⟨c0,c1,c2,c3,f0,f1,f2,f3⟩:=jE hb1
        obtain⟨d0,d1,d2,d3,g0,g1,g2,g3⟩:=jE hb2
        rw[HN.out]at c2
        rw[←HI.out.2.2.1,HN.out]at d2
        have hpl:p<Q.length:=by rw[hlQ];exact HI.out.1.2 p (SV hp)
        have hql:q<Q.length:=by rw[hlQ];exact HI.out.2.1.2 q (SV hq)
        have HC:=Sk (fun (X:World) (hb:Below wr.heap.size wr X)=>HIH.out Q p q X hwQ hpl hql hnQ (wP.keep hb))
        have HP:=Sk (HUP.out Q p q hwQ hpl hql hnQ)
        have HRR:=Sk (show R=if (fK 5 f Q p q).1=true then kF (fK 5 f) (x.sub.drop (j+1)) (y.sub.drop (j+1)) (fK 5 f Q p q).2 else (false,(fK 5 f Q p q).2) by
         rw[hR,drop_cons hp,drop_cons hq]
         rfl)
        generalize hr:fK 5 f Q p q=r at HC HP HRR
        obtain⟨ok,Q'⟩:=r
        unfold nP at ea eb
        have hgl:ga<wr.heap.size∧¬TgN wr ga∧gb<wr.heap.size∧¬TgN wr gb:=⟨hga,hta,hgb,htb⟩
        have hrl:blk ix ra<wr.heap.size∧blk ix rb<wr.heap.size:=⟨(Sz.1 hb1).1,(Sz.1 hb2).1⟩
        have HF:=Sk (show ∀Y:World,Kn D wr.drew Y→Y.cell? ⟨blk ix ra,2,none⟩=some (.slice (some ⟨ga,oa,none⟩) N c)∧Y.cell? ⟨blk ix rb,2,none⟩=some (.slice (some ⟨gb,ob,none⟩) N c')∧Y.cell? ⟨ga,oa+j,none⟩=some (.pointer (some ⟨blk ix p,0,none⟩))∧Y.cell? ⟨gb,ob+j,none⟩=some (.pointer (some ⟨blk ix q,0,none⟩))from fun Y hk =>
         ⟨(hk.nd _ hrl.1 2 (.inr rfl)).trans c2,(hk.nd _ hrl.2 2 (.inr rfl)).trans d2,(hk.cell hgl.1 hgl.2.1).trans ea,(hk.cell hgl.2.2.1 hgl.2.2.2).trans eb⟩)
        clear hr hR hwQ hnQ hlQ wP hkQ hx' hy' hxs hys hs1 hs2 hsa hsb hc1 hc1' hc2 hc2' hp hq hpl hql hb1 hb2 hga hta hgb htb
        clear hgl hrl
        go_upto_region 15 with fail
        go_region_held3 (fun X=>X.cell? ⟨blk ix ra,2,none⟩=some (.slice (some ⟨ga,oa,none⟩) N c)∧X.cell? ⟨blk ix rb,2,none⟩=some (.slice (some ⟨gb,ob,none⟩) N c')∧X.cell? ⟨ga,oa+j,none⟩=some (.pointer (some ⟨blk ix p,0,none⟩))∧X.cell? ⟨gb,ob+j,none⟩=some (.pointer (some ⟨blk ix q,0,none⟩)))
         (first|exact HF.out _ hk3|exact⟨c2,d2,ea,eb⟩)
         ((go_at_call 156;unfold nP at HC;refine(HC.out _ (TA _ _).drew).mono ?_;rintro e w3 ⟨rfl,h3,hk3⟩))
        have H3:=Sk (Sn h3 ((HQ.out.2.2.2.2.2.2.trans (Kn.drew _)).trans hk3))
        clear h3 hk3 HC
        cases ok with
        | false =>
         have HE:=Sk (show R=(false,Q') by rw[HRR.out];rfl)
         go_wp2
         go_ret
         rw[HE.out]
         exact⟨rfl,H3.out⟩
        | true =>
         have HE:=Sk (show R=kF (fK 5 f) (x.sub.drop (j+1)) (y.sub.drop (j+1)) Q' by rw[HRR.out];rfl)
         go_wp2
         go_roundg (N-(j+1))
         case measure=>have:=HG.out;omega
         case rel =>
          obtain⟨x1,hx1,hs1⟩:=HQ.out.2.2.2.1
          obtain⟨y1,hy1,hs2⟩:=HQ.out.2.2.2.2.1
          obtain⟨x2,hx2,_,hs3,_⟩:=HP.out.node ra x1 hx1
          obtain⟨y2,hy2,_,hs4,_⟩:=HP.out.node rb y1 hy1
          exact⟨j+1,Q',rfl,by omega,oC (by first|(push_cast;rfl)|(push_cast;exact gP (by omega) (by omega))),HE.out,HP.out.wf,SE HP.out.nr HQ.out.2.1,HP.out.len.trans HQ.out.2.2.1,⟨x2,hx2,hs3.trans hs1⟩,⟨y2,hy2,hs4.trans hs2⟩,H3.out⟩
       ·have HE:=Sk (show R=(true,Q) by
         rw[hR,List.drop_eq_nil_of_le (by rw[HN.out];omega),List.drop_eq_nil_of_le (by rw[←HI.out.2.2.1,HN.out];omega)]
         rfl)
        clear hR hwQ hnQ hlQ wP hkQ hx' hy' hxs hys
        go_wp2
        go_ret
        rw[HE.out]
        exact⟨rfl,HQ.out.2.2.2.2.2⟩
end Go.Proofs.Q
