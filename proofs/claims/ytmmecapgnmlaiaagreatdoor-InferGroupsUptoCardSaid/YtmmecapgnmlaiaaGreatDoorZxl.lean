/- helper lemmas -/
import Derived.Test.YtmmecapgnmlaiaaGreatDoorZxi
set_option maxRecDepth 100000
set_option maxHeartbeats 16000000
namespace Go.Proofs.Q
open Go.RowKit Go.Proofs
def okC (k:Int)(len:Nat):Prop:=(k=6→1≤len)∧(k=7∨k=10∨k=12∨k=8→2≤len)∧(k=9∨k=13→3≤len)
def Fo.Cok:Fo→Prop
 | .nil=>True
 | .cons k _ _ _ _ _ _ s r=>okC k s.len∧s.Cok∧r.Cok
open Go.Shelf
theorem LW {k:Int}{n m:ByteArray}{i d:Int}{len:Nat}(h:aj k n m i d len=0):(len:Int)=(bB k).2.2.1:=by
 unfold aj at h
 obtain⟨⟨a,b,c,ok⟩,hs⟩:∃t,bB k=t:=⟨_,rfl⟩
 rw[hs]at h ⊢
 cases ok
 ·simp at h
 ·simp only at h
  cases ha:ak a b c n m i d len
  ·unfold ak at ha
   simp only[Bool.or_eq_false_iff]at ha
   have:=ha.2
   simpa using this
  ·rw[ha]at h;simp at h
theorem vE {k:Int}{n m:ByteArray}{i d:Int}{len:Nat}(h:aj k n m i d len=0):okC k len:=by
 have hl:=LW h
 refine⟨?_,?_,?_⟩
 ·rintro rfl
  have:(bB 6).2.2.1=1:=rfl
  omega
 ·rintro (rfl|rfl|rfl|rfl)
  ·have:(bB 7).2.2.1=2:=rfl
   omega
  ·have:(bB 10).2.2.1=2:=rfl
   omega
  ·have:(bB 12).2.2.1=2:=rfl
   omega
  ·have:(bB 8).2.2.1=2:=rfl
   omega
 ·rintro (rfl|rfl)
  ·have:(bB 9).2.2.1=3:=rfl
   omega
  ·have:(bB 13).2.2.1=3:=rfl
   omega
theorem Fo.pO:∀(f:Fo)(dp:Nat),(∀x∈f.pre dp,x.err=0)→f.Cok
 | .nil,_,_=>trivial
 | .cons k n m i d A c s r,dp,h=>by
  simp only[Fo.pre,TI,Td]at h
  exact⟨vE (h ⟨dp,k,n,m,i,d,A,s.len,c⟩ (.inl rfl)),s.pO (dp+1) (fun x hx=>h x (.inr (.inl hx))),r.pO dp (fun x hx=>h x (.inr (.inr hx)))⟩
theorem Fo.wN:∀(f:Fo)(dp:Nat),(∀x∈f.pre dp,x.err=0)→∀x∈f.vis,x.err=0
 | .nil,_,_,x,hx=>by simp[Fo.vis]at hx
 | .cons k n m i d A c s r,dp,h,x,hx=>by
  simp only[Fo.pre,TI,Td]at h
  simp only[Fo.vis,Td,TI]at hx
  rcases hx with hx|rfl|hx
  ·exact r.wN dp (fun x hx=>h x (.inr (.inr hx))) x hx
  ·exact h ⟨dp,k,n,m,i,d,A,s.len,c⟩ (.inl rfl)
  ·exact s.wN (dp+1) (fun x hx=>h x (.inr (.inl hx))) x hx
theorem DN {n m:ByteArray}{i d:Int}{len:Nat}(h:aj 5 n m i d len=0):n.size≤90∧1≤i∧i≤999999:=by
 have e:aj 5 n m i d len=if ak 1 1 0 n m i d len then 1 else if ah 5 n m 1=0 then bU 5 i d else ah 5 n m 1:=rfl
 rw[e]at h
 cases ha:ak 1 1 0 n m i d len
 ·rw[ha]at h
  simp only[TN,if_false]at h
  by_cases hn:ah 5 n m 1=0
  ·rw[TY hn]at h
   refine⟨?_,?_⟩
   ·have hb:nmB 5 n 1=true:=by
     cases hb:nmB 5 n 1
     ·simp[ah,hb]at hn
     ·rfl
    simp only[nmB,if_true,Ud]at hb
    rcases hb with hb|hb
    ·have:n.toList=[]:=by simpa using hb
     rw[Lib.toList_data]at this
     have:n.size=0:=by
      have h2:n.data.toList.length=n.size:=by simp
      rw[this]at h2
      simpa using h2.symm
     omega
    ·unfold bN at hb
     simp at hb
     exact hb.1
   ·unfold bU at h
    cases hb:kC 5 i d
    ·rw[hb]at h;simp at h
    ·simp[kC]at hb;exact hb
  ·rw[TW hn]at h;exact absurd h hn
 ·rw[ha]at h;simp at h
theorem Ay:∀(p:ByteArray×Int)(l:List (ByteArray×Int)),∀x∈dd p l,x∈l
 | _,[],x,h=>by simp[dd]at h
 | p,y::r,x,h=>by
  unfold dd at h
  split at h
  ·exact Tc _ (Ay y r x h)
  ·rcases TI.1 h with rfl|h
   ·exact Ta ..
   ·exact Tc _ (Ay y r x h)
theorem qR:∀(l:List (ByteArray×Int)),∀x∈cZ l,x∈l
 | [],x,h=>by simp[cZ]at h
 | y::r,x,h=>by
  rcases TI.1 h with rfl|h
  ·exact Ta ..
  ·exact Tc _ (Ay y r x h)
theorem Fb (l:List Nd):∀r∈refsOf l,∃x∈l,x.k=5∧r=(x.n,x.i):=by
 intro r hr
 have h1:=qR _ _ hr
 have h2:r∈gK l:=List.mem_mergeSort.1 h1
 simp only[gK,List.mem_filterMap]at h2
 obtain⟨x,hx,h3⟩:=h2
 by_cases hk:x.k=5
 ·rw[TY hk]at h3
  exact⟨x,hx,hk,(TL h3).symm⟩
 ·rw[TW hk]at h3;cases h3
structure DcV (label:ByteArray)(x:Dc):Prop where
 id:1≤x.id∧x.id≤999999
 kind:x.kind=1∨x.kind=2∨x.kind=3
 names:dnE x.names=0
 cnt:x.s.count≤399
 okc:okC x.k x.s.len
 cok:x.s.Cok
 err:∀y∈x.body.vis,y.err=0
 Rk:x.body.vis.any (fun y=>y.k==4)=false
 Rf:aB x.k x.n x.m x.s []=false
 Rm:x.body.vis.any (jN label)=false
theorem Fe {label:ByteArray}{x:Dc}(h:fG label x=0):DcV label x:=by
 unfold fG at h
 by_cases h1:x.id<1∨999999<x.id
 ·rw[TY h1]at h;simp at h
 rw[TW h1]at h
 by_cases h2:x.kind≠1∧x.kind≠2∧x.kind≠3
 ·rw[TY h2]at h;simp at h
 rw[TW h2]at h
 by_cases h3:dnE x.names≠0
 ·rw[TY h3]at h;exact absurd h h3
 rw[TW h3]at h
 by_cases h4:dH x.pre≠0
 ·rw[TY h4]at h;exact absurd h h4
 rw[TW h4]at h
 have h4':dH x.pre=0:=by omega
 by_cases h5:x.body.vis.any (fun y=>y.k==4)=true
 ·rw[TY h5]at h;simp at h
 rw[TW h5]at h
 by_cases h6:aB x.k x.n x.m x.s []=true
 ·rw[TY h6]at h;simp at h
 rw[TW h6]at h
 by_cases h7:x.body.vis.any (jN label)=true
 ·rw[TY h7]at h;simp at h
 obtain⟨_,_,h8⟩:=pE h4'
 have hpre:∀y∈x.body.pre 1,y.err=0:=by
  intro y hy
  refine h8 y ?_
  simpa [Dc.body,Dc.pre,Fo.pre]using hy
 exact⟨by omega,by omega,by omega,(Dc.valid h4').2.2,vE (h8 _ (Ta ..)),x.s.pO 2 fun y hy=>h8 y (Tc _ hy),x.body.wN 1 hpre,by simpa using h5,by simpa using h6,by simpa using h7⟩
theorem tu (label:ByteArray):∀(l:List Dc)(p:Option Int),cO label p l=0→∀x∈l,fG label x=0
 | [],_,_,x,hx=>by simp at hx
 | y::r,p,h,x,hx=>by
  have key:fG label y=0∧cO label (some y.id) r=0:=by
   cases p with
   | none =>
    unfold cO at h
    by_cases hy:fG label y=0
    ·rw[TY hy]at h;exact⟨hy,h⟩
    ·rw[TW hy]at h;exact absurd h hy
   | some p =>
    unfold cO at h
    by_cases hy:fG label y=0
    ·rw[TY hy]at h
     by_cases hp:y.id≤p
     ·rw[TY hp]at h;simp at h
     ·rw[TW hp]at h;exact⟨hy,h⟩
    ·rw[TW hy]at h;exact absurd h hy
  rcases TI.1 hx with rfl|hx
  ·exact key.1
  ·exact tu label r _ key.2 x hx
theorem CZ {label:ByteArray}{uses:List ByteArray}{decls:List Dc}(h:bY label uses decls=0):bN label=true∧decls.length≤100∧∀x∈decls,DcV label x:=by
 unfold bY at h
 cases h0:bN label
 ·rw[h0]at h;simp at h
 rw[h0]at h
 simp only[Bool.true_eq_false,if_false]at h
 by_cases h1:jc uses≠0
 ·rw[TY h1]at h;exact absurd h h1
 rw[TW h1]at h
 by_cases h2:fM label uses uses.length 0≠0
 ·rw[TY h2]at h;exact absurd h h2
 rw[TW h2]at h
 by_cases h3:100<decls.length
 ·rw[TY h3]at h;simp at h
 rw[TW h3]at h
 exact⟨rfl,by omega,fun x hx=>Fe (tu label decls none h x hx)⟩
theorem lq {i:Int}(h:1≤i∧i≤999999):(Lit.int .i64 i).wf=true:=by
 simp[Lit.wf,IntKind.min,IntKind.max,IntKind.bits,IntKind.signed]
 omega
theorem DcV.refs {label:ByteArray}{x:Dc}(h:DcV label x):∀r∈x.refs,r.1.size≤90∧1≤r.2∧r.2≤999999:=by
 intro r hr
 obtain⟨y,hy,hk,rfl⟩:=Fb _ r hr
 have he:=h.err y hy
 unfold Nd.err at he
 rw[hk]at he
 exact DN he
theorem DR {label:ByteArray}{decls:List Dc}(h:∀x∈decls,DcV label x):Jc decls:=by
 intro x hx s hs
 have hn:=(h x hx).names
 unfold dnE at hn
 split at hn
 ·simp at hn
 ·split at hn
  ·rename_i _ ha
   have:=List.all_eq_true.1 ha s hs
   unfold dnB at this
   simp only[Ud]at this
   rcases this with h1|h1
   ·have:=uU h1;unfold maxLen;omega
   ·simp at h1
    have h2:s.toList=[]:=h1.2
    rw[Lib.toList_data]at h2
    have h3:s.data.toList.length=s.size:=by simp
    rw[h2]at h3
    simp at h3
    unfold maxLen;omega
  ·simp at hn
def dB (X:World)(A:Option Addr)(c:Nat)(l:List ByteArray):Prop:=X.ownsRow 0 9 1 (.slice A l.length c) l.length (l.map .string)
theorem dB.keep {X Y:World}{A:Option Addr}{c:Nat}{l:List ByteArray}(h:dB X A c l)(hk:∀(k:Nat)(cur:Array Value)(fz:Nat×Nat),X.heap[k]?=some (.cells cur 9 fz)→Y.heap[k]?=X.heap[k]?):dB Y A c l:=by
 refine⟨h.1,?_⟩
 rcases h.2 with h|⟨g,cap,cur,h1,h2,h3,h4⟩
 ·exact .inl h
 ·exact .inr ⟨g,cap,cur,h1,h2,(hk g _ _ h3).trans h3,h4⟩
theorem dB.sls {X:World}{A:Option Addr}{c:Nat}{l:List ByteArray}(h:dB X A c l):SlS X X.heap.size A c l∧(A=none→c=0):=by
 rcases h.2 with⟨h1,h2⟩|⟨g,cap,cur,h1,h2,h3,h4,h5,h6,h7⟩
 ·simp only[Value.slice.injEq]at h1
  obtain⟨rfl,h1,rfl⟩:=h1
  obtain rfl:l=[]:=Tq.1 h1
  exact⟨SlS.nil _ _ _ _ (by simp[maxLen]),fun _=>rfl⟩
 ·simp only[Value.slice.injEq,true_and]at h1
  obtain⟨rfl,rfl⟩:=h1
  refine⟨⟨h4,h5,fun _=>⟨g,0,rfl,lt_of_block h3,fun j s hj=>?_⟩⟩,fun h=>by cases h⟩
  rw[Sq _ _ _ _ _ _ h3]
  have hjl:=(Sy.1 hj).1
  have e:(cur.toList.take (l.length*1))[j]?=some (.string s):=by rw[h7];simp[hj]
  rw[List.getElem?_take,TY (by omega)]at e
  simpa using e
theorem dB.nil (X:World):dB X none 0 []:=TD X 0 9 1
theorem dB.of {X:World}{base:Nat}{v:Value}{l:List ByteArray}(h:X.ownsRow base 9 1 v l.length (l.map .string)):∃A c,v=.slice A l.length c∧dB X A c l:=by
 rcases h.2 with⟨h1,h2⟩|⟨g,cap,cur,h1,h2,h3,h4⟩
 ·refine⟨none,0,by rw[h1,h2],?_⟩
  obtain rfl:l=[]:=Tq.1 h2
  exact dB.nil X
 ·exact⟨some ⟨g,0,none⟩,cap,h1,h.1,.inr ⟨g,cap,cur,rfl,SC _,h3,h4⟩⟩
end Go.Proofs.Q
