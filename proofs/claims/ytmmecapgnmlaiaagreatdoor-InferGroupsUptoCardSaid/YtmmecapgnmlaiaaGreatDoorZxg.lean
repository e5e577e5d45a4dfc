/- syntax.CheckExpr -/
import Derived.Test.YtmmecapgnmlaiaaGreatDoorZxb
import Derived.Test.YtmmecapgnmlaiaaGreatDoorZxf
set_option maxRecDepth 100000
set_option maxHeartbeats 16000000
namespace Go.Proofs.Q
open Go.RowKit Go.Proofs Go.Shelf
attribute [local go_sem] Oper.semAt_some oD jR
def Nd.err (x:Nd):Int:=aj x.k x.n x.m x.i x.d x.len
def nW (l:List Nd):Bool:=decide (400<l.length)||l.any fun x=>decide (40<x.dep)
def dS:List Nd→Int
 | []=>0
 | x::r=>if x.err=0 then dS r else x.err
def dH (l:List Nd):Int:=if nW l then 4 else dS l
theorem Ao (k:Int)(n m:ByteArray)(i d:Int)(v:Value)(w:World):Calls Tryz.prog 60 #[.agg #[.int .i64 k,.string n,.string m,.int .i64 i,.int .i64 d,v]] w fun e w' =>
  e=.returned (.func (.func 129) #[] #[.pointer (some ⟨w.heap.size,0,none⟩)])∧w.alloc (.cells #[.int .i64 k,.string n,.string m,.int .i64 i,.int .i64 d,v] 44)=w':=by
 have hmf:∀(fn:Fn) (first cap:Array Value) (w:World),(Instr.makeFunc fn first cap).run Tryz.prog w=.ok (.func fn first cap) w:=fun _ _ _ _=>rfl
 go_enter Tryz.func60,Tryz.ntmps60
 go_wp2
 go_ret
 exact⟨rfl,rfl⟩
theorem DI (l:List Nd)(pre:List Nd)(x:Nd)(h:pre++[x] <+: l)(hx:400≤pre.length∨40<x.dep):nW l=true:=by
 obtain⟨r,rfl⟩:=h
 unfold nW
 rcases hx with hx|hx
 ·simp;left;omega
 ·simp[hx]
theorem Jz (l:List Nd)(h1:l.length≤400)(h2:∀x∈l,x.dep≤40):nW l=false:=by
 unfold nW
 simp only[Bool.or_eq_false_iff,decide_eq_false_iff_not,TG,decide_eq_true_eq]
 exact⟨by omega,fun x hx=>by have:=h2 x hx;omega⟩
theorem G5 (l:List Nd)(pre:List Nd)(x:Nd)(h:pre++[x] <+: l)(hp:∀y∈pre,y.err=0)(hx:x.err≠0):dS l=x.err:=by
 obtain⟨r,rfl⟩:=h
 induction pre with
 | nil=>simp[dS,hx]
 | cons y pre ih =>
  simp only[TU,dS]
  rw[TY (hp y (Ta ..))]
  exact ih (fun z hz=>hp z (Tc _ hz))
theorem EM (l:List Nd)(h:∀x∈l,x.err=0):dS l=0:=by
 induction l with
 | nil=>rfl
 | cons y l ih=>simp only[dS];rw[TY (h y (Ta ..))];exact ih (fun z hz=>h z (Tc _ hz))
theorem jD (k:Int)(n m:ByteArray)(i d:Int)(A:Option Addr)(c:Nat)(s:Fo)(w:World)(hs:s.Sl w w.heap.size A c) :
  Calls Tryz.prog 124 #[.agg #[.int .i64 k,.string n,.string m,.int .i64 i,.int .i64 d,.slice A s.len c]] w fun e w' =>
   e=.returned (.int .i64 (dH (⟨1,k,n,m,i,d,A,s.len,c⟩::s.pre 2)))∧Below w.heap.size w w':=by
 have HS:=Sk hs
 clear hs
 obtain⟨L,HL⟩:∃L,Hid ((⟨1,k,n,m,i,d,A,s.len,c⟩::s.pre 2:List Nd)=L):=⟨_,rfl⟩
 rw[HL.out]
 refine(callsIn_wide (n:=0)).1 ?_
 refine callsIn_of_wp_marks Tryz.func124 rfl trivial ?_ rfl
 simp only[Tryz.ntmps124,List.size_toArray,TS,List.length_nil,Nat.reduceAdd,Nat.reduceSub,Array.replicate_succ,Array.replicate_zero,List.push_toArray,List.append_toArray,List.nil_append,TU]
 gi_wp2_with (gi_at_call 60;refine(callsIn_wide.2 (Ao _ _ _ _ _ _ _)).mono ?_;rintro e w' ⟨rfl,rfl⟩)
 obtain⟨W0,hW0⟩:∃W0,(((w.alloc (.cells #[.int .i64 k,.string n,.string m,.int .i64 i,.int .i64 d,.slice A s.len c] 44)).alloc (.cells #[.int .i64 0] 29)).alloc (.cells #[.int .i64 0] 3)).alloc (.cells #[.int .i64 k,.string n,.string m,.int .i64 i,.int .i64 d,.slice A s.len c] 44)=W0:=⟨_,rfl⟩
 have z0:W0.heap.size=w.heap.size+4:=by subst hW0;simp
 have c0:W0.cell? ⟨w.heap.size,0,none⟩=some (.int .i64 k):=by subst hW0;go_simp
 have c1:W0.cell? ⟨w.heap.size,1,none⟩=some (.string n):=by subst hW0;go_simp
 have c2:W0.cell? ⟨w.heap.size,2,none⟩=some (.string m):=by subst hW0;go_simp
 have c3:W0.cell? ⟨w.heap.size,3,none⟩=some (.int .i64 i):=by subst hW0;go_simp
 have c4:W0.cell? ⟨w.heap.size,4,none⟩=some (.int .i64 d):=by subst hW0;go_simp
 have c5:W0.cell? ⟨w.heap.size,5,none⟩=some (.slice A s.len c):=by subst hW0;go_simp
 have r0:W0.cell? ⟨w.heap.size+1,0,none⟩=some (.int .i64 0):=by subst hW0;go_simp
 have q0:W0.cell? ⟨w.heap.size+1+1,0,none⟩=some (.int .i64 0):=by subst hW0;go_simp
 have rf:W0.frozen? ⟨w.heap.size+1,0,none⟩=false:=by subst hW0;go_simp
 have qf:W0.frozen? ⟨w.heap.size+1+1,0,none⟩=false:=by subst hW0;go_simp
 have b0:W0.cell? ⟨w.heap.size+1+1+1,0,none⟩=some (.int .i64 k):=by subst hW0;go_simp
 have b1:W0.cell? ⟨w.heap.size+1+1+1,1,none⟩=some (.string n):=by subst hW0;go_simp
 have b2:W0.cell? ⟨w.heap.size+1+1+1,2,none⟩=some (.string m):=by subst hW0;go_simp
 have b3:W0.cell? ⟨w.heap.size+1+1+1,3,none⟩=some (.int .i64 i):=by subst hW0;go_simp
 have b4:W0.cell? ⟨w.heap.size+1+1+1,4,none⟩=some (.int .i64 d):=by subst hW0;go_simp
 have b5:W0.cell? ⟨w.heap.size+1+1+1,5,none⟩=some (.slice A s.len c):=by subst hW0;go_simp
 have hB0:Below w.heap.size w W0:=by rw[←hW0];exact((((TA _ _).alloc (SA _) _).alloc (by simp) _).alloc (by simp;omega) _).alloc (by simp;omega) _
 rw[hW0]
 clear hW0
 have hS0:s.Sl W0 w.heap.size A c:=HS.out.below hB0
 have hit:=sQ (w.heap.size+1+1+1) w.heap.size k n m i d A c s W0 b0 b1 b2 b3 b4 b5 hS0 (by omega)
 rw[HL.out]at hit
 have e0:Keeps (fun k=>k=w.heap.size) W0 W0:=Keeps.refl _ _
 refine uM (P:=Tryz.prog) (w0:=W0) (gf:=129) rfl (fun args w=>Tryz.call129 args w) hit (Keeps.refl _ _) (fun _=>rfl) (by omega) (by rintro k rfl;omega)
  (fun pre W=>W.cell? ⟨w.heap.size+1+1,0,none⟩=some (.int .i64 pre.length)∧W.frozen? ⟨w.heap.size+1+1,0,none⟩=false∧W.cell? ⟨w.heap.size+1,0,none⟩=some (.int .i64 0)∧W.frozen? ⟨w.heap.size+1,0,none⟩=false ∧
   pre.length≤400∧(∀x∈pre,x.dep≤40)∧Below w.heap.size w W∧W.heap[w.heap.size]?=W0.heap[w.heap.size]?)
  (fun c pre W=>c=.ret∧W.cell? ⟨w.heap.size+1,0,none⟩=some (.int .i64 4)∧nW L=true∧Below w.heap.size w W)
  ?EK ?EL (fun pre W h x hx=>by have:=h.2.2.2.2.2.1 x hx;omega) ⟨q0,qf,r0,rf,by simp,by simp,hB0,rfl⟩
  (fun x=>{ tmps:=#[.agg #[.int .i64 k,.string n,.string m,.int .i64 i,.int .i64 d,.slice A s.len c],.pointer (some ⟨w.heap.size,0,none⟩),.pointer (some ⟨w.heap.size+1,0,none⟩),.pointer (some ⟨w.heap.size+1+1,0,none⟩),.int .i64 x.dep,undef,undef,undef,.agg #[.int .i64 k,.string n,.string m,.int .i64 i,.int .i64 d,.slice A s.len c],.func (.func 129) #[] #[.pointer (some ⟨w.heap.size+1+1+1,0,none⟩)],.int .i64 x.dep,.agg #[.int .i64 x.k,.string x.n,.string x.m,.int .i64 x.i,.int .i64 x.d,.slice x.A x.len x.c],undef,undef,undef,undef,undef,undef,undef,undef,undef,undef,undef,undef,undef,undef,undef,undef,undef],defers:=[] })
  ?assign ?body ?done ?stop
 case EK =>
  intro pre X Y ⟨h1,h2,h3,h4,h5,h6,h7,h8⟩ hk
  have hl:w.heap.size+1+1<X.heap.size:=SS X ⟨w.heap.size+1+1,0,none⟩ h1
  exact⟨hk.cell (p:=⟨w.heap.size+1+1,0,none⟩) ⟨by simp;omega,by simp⟩ h1,(hk.frozen (p:=⟨w.heap.size+1+1,0,none⟩) hl ⟨by simp;omega,by simp⟩).trans h2,
   hk.cell (p:=⟨w.heap.size+1,0,none⟩) ⟨by simp;omega,by simp⟩ h3,(hk.frozen (p:=⟨w.heap.size+1,0,none⟩) (by simp;omega) ⟨by simp;omega,by simp⟩).trans h4,h5,h6,
   h7.trans (hk.dX (by omega) fun k hk=>⟨by omega,by omega⟩),(hk.block _ (by omega) ⟨by omega,by omega⟩).trans h8⟩
 case EL =>
  intro c pre X Y ⟨h0,h1,h3,h4⟩ hk
  have hl:w.heap.size+1<X.heap.size:=SS X ⟨w.heap.size+1,0,none⟩ h1
  exact⟨h0,hk.cell (p:=⟨w.heap.size+1,0,none⟩) ⟨by simp;omega,by simp⟩ h1,h3,h4.trans (hk.dX (by omega) fun k hk=>⟨by omega,by omega⟩)⟩
 case assign =>
  intro l x W K hK
  simp only[Nd.encs]
  gi_wp2
  exact hK
 case body =>
  rintro l pre x W hpre ⟨h1,h2,h3,h4,h5,h6,h7,h8⟩ hsz
  have HH:=Sk (Sn hpre (Sn h6 (Sn h7 h8)))
  clear hpre hit b0 b1 b2 b3 b4 b5 c0 c1 c2 c3 c4 c5 r0 q0 rf qf hB0 h6 h7 h8 e0 hS0
  have hx0:(0:Int)≤x.dep:=by omega
  by_cases Qd:pre.length=400
  ·have g1:decide (400<(pre.length:Int)+1)=true:=by simp;omega
   have hlim:=Sk (DI L pre x HH.out.1 (.inl (by omega)))
   clear Qd
   gi_wp2
   refine⟨((Keeps.refl _ _).setCell (by simp;omega) _).setCell (by simp;omega) _,rfl,World.cell?_setCell_same' _ _ _ ?_,hlim.out,(HH.out.2.2.1.setCell (by simp;omega) _).setCell (by simp) _⟩
   rw[Uk _ _ _ _ (by simp),h3];rfl
  ·have g1:decide (400<(pre.length:Int)+1)=false:=by simp;omega
   by_cases h40:40<x.dep
   ·have g2:decide (40<(x.dep:Int))=true:=by simp;omega
    have hlim:=Sk (DI L pre x HH.out.1 (.inr h40))
    clear h40
    gi_wp2
    refine⟨((Keeps.refl _ _).setCell (by simp;omega) _).setCell (by simp;omega) _,rfl,World.cell?_setCell_same' _ _ _ ?_,hlim.out,(HH.out.2.2.1.setCell (by simp;omega) _).setCell (by simp) _⟩
    rw[Uk _ _ _ _ (by simp),h3];rfl
   ·have g2:decide (40<(x.dep:Int))=false:=by simp;omega
    gi_wp2
    refine⟨(Keeps.refl _ _).setCell (by simp;omega) _,?_,?_,?_,?_,by simp;omega,?_,HH.out.2.2.1.setCell (by simp;omega) _,?_⟩
    ·rw[World.cell?_setCell_same' _ _ _ (by rw[h1];rfl)];simp
    ·rw[World.frozen?_setCell];exact h2
    ·rw[Uk _ _ _ _ (by simp)];exact h3
    ·rw[World.frozen?_setCell];exact h4
    ·intro y hy
     rcases Td.1 hy with hy|hy
     ·exact HH.out.2.1 y hy
     ·simp only[Te]at hy;subst hy;omega
    ·exact(Tx _ _ _ _ (by simp;omega)).trans HH.out.2.2.2
 case done =>
  rintro D W hD ⟨h1,h2,h3,h4,h5,h6,h7,h8⟩ hK
  have hlim:=Sk (Jz L h5 h6)
  have d0:=(SN (a:=⟨w.heap.size,0,none⟩) h8).trans c0
  have d1:=(SN (a:=⟨w.heap.size,1,none⟩) h8).trans c1
  have d2:=(SN (a:=⟨w.heap.size,2,none⟩) h8).trans c2
  have d3:=(SN (a:=⟨w.heap.size,3,none⟩) h8).trans c3
  have d4:=(SN (a:=⟨w.heap.size,4,none⟩) h8).trans c4
  have d5:=(SN (a:=⟨w.heap.size,5,none⟩) h8).trans c5
  have HH:=Sk (Sn h6 (Sn h7 h8))
  clear hit b0 b1 b2 b3 b4 b5 c0 c1 c2 c3 c4 c5 r0 q0 rf qf hB0 h5 h6 h7 h8 e0 hS0
  gi_wp2_with (gi_at_call 60;refine(callsIn_wide.2 (Ao _ _ _ _ _ _ _)).mono ?_;rintro e w' ⟨rfl,rfl⟩)
  obtain⟨V0,hV0⟩:∃V0,W.alloc (.cells #[.int .i64 k,.string n,.string m,.int .i64 i,.int .i64 d,.slice A s.len c] 44)=V0:=⟨_,rfl⟩
  have z1:V0.heap.size=W.heap.size+1:=by subst hV0;simp
  have hlr:w.heap.size+1<W.heap.size:=SS W ⟨w.heap.size+1,0,none⟩ h3
  have hDW:D<W.heap.size:=(Sz.1 hK).1
  have b0:V0.cell? ⟨W.heap.size,0,none⟩=some (.int .i64 k):=by subst hV0;go_simp
  have b1:V0.cell? ⟨W.heap.size,1,none⟩=some (.string n):=by subst hV0;go_simp
  have b2:V0.cell? ⟨W.heap.size,2,none⟩=some (.string m):=by subst hV0;go_simp
  have b3:V0.cell? ⟨W.heap.size,3,none⟩=some (.int .i64 i):=by subst hV0;go_simp
  have b4:V0.cell? ⟨W.heap.size,4,none⟩=some (.int .i64 d):=by subst hV0;go_simp
  have b5:V0.cell? ⟨W.heap.size,5,none⟩=some (.slice A s.len c):=by subst hV0;go_simp
  have hKV:Below W.heap.size W V0:=by rw[←hV0];exact(TA _ _).alloc (SA _) _
  have r3:V0.cell? ⟨w.heap.size+1,0,none⟩=some (.int .i64 0):=(hKV.cell (p:=⟨w.heap.size+1,0,none⟩) hlr).trans h3
  have r4:V0.frozen? ⟨w.heap.size+1,0,none⟩=false:=(hKV.frozen (p:=⟨w.heap.size+1,0,none⟩) hlr).trans h4
  have rD:V0.heap[D]?=some (.deferred (some [])):=(hKV.block D hDW).trans hK
  have hBV:Below w.heap.size w V0:=HH.out.2.1.trans (hKV.mono (by omega))
  have hS0:s.Sl V0 w.heap.size A c:=HS.out.below hBV
  rw[hV0]
  clear hV0 d0 d1 d2 d3 d4 d5 h1 h2 h3 h4 hK hKV
  have hit:=sQ W.heap.size w.heap.size k n m i d A c s V0 b0 b1 b2 b3 b4 b5 hS0 (by omega)
  rw[HL.out]at hit
  refine sO (P:=Tryz.prog) (w0:=V0) (gf:=129) rfl (fun args w=>Tryz.call129 args w) hit (Keeps.refl _ _) (fun _=>rfl) (by omega) (by rintro k rfl;omega)
   (fun pre X=>X.cell? ⟨w.heap.size+1,0,none⟩=some (.int .i64 0)∧X.frozen? ⟨w.heap.size+1,0,none⟩=false∧(∀x∈pre,x.err=0)∧(∀x∈pre,x.dep≤40)∧Below w.heap.size w X∧X.heap[D]?=some (.deferred (some [])))
   (fun c pre X=>c=.ret∧X.cell? ⟨w.heap.size+1,0,none⟩=some (.int .i64 (dS L))∧Below w.heap.size w X∧X.heap[D]?=some (.deferred (some [])))
   ?O0 ?O1 (fun pre X h x hx=>by have:=h.2.2.2.1 x hx;omega) ⟨r3,r4,by simp,by simp,hBV,rD⟩
   (fun x a' X=>∃bx,V0.heap.size+2≤bx∧X.heap[bx]?=some (.cells #[.int .i64 x.k,.string x.n,.string x.m,.int .i64 x.i,.int .i64 x.d,.slice x.A x.len x.c] 44 (0,0))∧a'={ tmps:=#[.agg #[.int .i64 k,.string n,.string m,.int .i64 i,.int .i64 d,.slice A s.len c],.pointer (some ⟨w.heap.size,0,none⟩),.pointer (some ⟨w.heap.size+1,0,none⟩),.pointer (some ⟨w.heap.size+1+1,0,none⟩),undef,undef,.pointer (some ⟨bx,0,none⟩),undef,.agg #[.int .i64 k,.string n,.string m,.int .i64 i,.int .i64 d,.slice A s.len c],.func (.func 129) #[] #[.pointer (some ⟨w.heap.size+1+1+1,0,none⟩)],undef,undef,undef,undef,undef,undef,undef,undef,undef,undef,.agg #[.int .i64 k,.string n,.string m,.int .i64 i,.int .i64 d,.slice A s.len c],.func (.func 129) #[] #[.pointer (some ⟨W.heap.size,0,none⟩)],.int .i64 x.dep,.agg #[.int .i64 x.k,.string x.n,.string x.m,.int .i64 x.i,.int .i64 x.d,.slice x.A x.len x.c],undef,undef,undef,undef,undef],defers:=[] })
   ?tax ?assign2 ?K4 ?O3 ?O4
  case O0 =>
   intro pre X Y ⟨h1,h2,h3,h4,h5,h6⟩ hk
   have hl:w.heap.size+1<X.heap.size:=SS X ⟨w.heap.size+1,0,none⟩ h1
   exact⟨hk.cell (p:=⟨w.heap.size+1,0,none⟩) ⟨by simp;omega,by simp;omega⟩ h1,(hk.frozen (p:=⟨w.heap.size+1,0,none⟩) hl ⟨by simp;omega,by simp;omega⟩).trans h2,h3,h4,
    h5.trans (hk.dX (by omega) fun k hk=>⟨by omega,by omega⟩),(hk.block _ (Sz.1 h6).1 ⟨by omega,by omega⟩).trans h6⟩
  case O1 =>
   intro c pre X Y ⟨h0,h1,h5,h6⟩ hk
   have hl:w.heap.size+1<X.heap.size:=SS X ⟨w.heap.size+1,0,none⟩ h1
   exact⟨h0,hk.cell (p:=⟨w.heap.size+1,0,none⟩) ⟨by simp;omega,by simp;omega⟩ h1,h5.trans (hk.dX (by omega) fun k hk=>⟨by omega,by omega⟩),(hk.block _ (Sz.1 h6).1 ⟨by omega,by omega⟩).trans h6⟩
  case tax =>
   rintro x a' X Y ⟨bx,h1,h2,h3⟩ hk
   exact⟨bx,h1,(hk.block bx (Sz.1 h2).1 ⟨by omega,by omega⟩).trans h2,h3⟩
  case assign2 =>
   rintro l pre x X K hpre ⟨h1,h2,h3,h4,h5,h6⟩ hsz hK
   have hl:w.heap.size+1<X.heap.size:=SS X ⟨w.heap.size+1,0,none⟩ h1
   have HK:=Sk hK
   clear hK
   simp only[Nd.encs]
   gi_wp2
   refine HK.out _ _ ((Keeps.refl _ _).alloc _) ⟨?_,?_,h3,h4,h5.alloc (by omega) _,(Tt _ _ _ (Sz.1 h6).1).trans h6⟩ ⟨X.heap.size,by omega,World.alloc_heap_new X _,rfl⟩
   ·exact(SQ X _ ⟨w.heap.size+1,0,none⟩ hl).trans h1
   ·exact(World.frozen?_of_block (Tt X _ _ hl)).trans h2
  case K4 =>
   rintro l pre x a' X hpre ⟨h1,h2,h3,h4,h5,h6⟩ ⟨bx,g1,g2,rfl⟩ hsz
   have hl:w.heap.size+1<X.heap.size:=SS X ⟨w.heap.size+1,0,none⟩ h1
   have x0:X.cell? ⟨bx,0,none⟩=some (.int .i64 x.k):=Sq X bx 0 _ _ (0,0) g2
   have x1:X.cell? ⟨bx,1,none⟩=some (.string x.n):=Sq X bx 1 _ _ (0,0) g2
   have x2:X.cell? ⟨bx,2,none⟩=some (.string x.m):=Sq X bx 2 _ _ (0,0) g2
   have x3:X.cell? ⟨bx,3,none⟩=some (.int .i64 x.i):=Sq X bx 3 _ _ (0,0) g2
   have x4:X.cell? ⟨bx,4,none⟩=some (.int .i64 x.d):=Sq X bx 4 _ _ (0,0) g2
   have x5:X.cell? ⟨bx,5,none⟩=some (.slice x.A x.len x.c):=Sq X bx 5 _ _ (0,0) g2
   have hDX:D<X.heap.size:=(Sz.1 h6).1
   have Nr:x.dep≤40:=HH.out.1 x (by obtain⟨r,hr⟩:=hpre;rw[←hr];simp)
   have HX:=Sk (Sn hpre (Sn h3 (Sn h4 (Sn h5 (Sn h6 Nr)))))
   clear hit b0 b1 b2 b3 b4 b5 r3 r4 rD hBV hS0 hpre h3 h4 h5 h6 g2 Nr
   by_cases he:x.err=0
   ·have he':(aj x.k x.n x.m x.i x.d x.len != 0)=false:=by simpa [Nd.err]using he
    have HE:=Sk he
    clear he
    gi_wp2_with (gi_at_call 173;refine(CallsIn.inRound l (callsIn_wide.2 (qx _ _ _ _ _ _ _ _ _))).mono ?_;rintro e w1 ⟨rfl,hb⟩)
    refine⟨Keeps.whole hb _,(hb.cell (p:=⟨w.heap.size+1,0,none⟩) hl).trans h1,(hb.frozen (p:=⟨w.heap.size+1,0,none⟩) hl).trans h2,?_,?_,HX.out.2.2.2.1.trans (hb.mono (by omega)),(hb.block D hDX).trans HX.out.2.2.2.2.1⟩
    ·intro y hy
     rcases Td.1 hy with hy|hy
     ·exact HX.out.2.1 y hy
     ·simp only[Te]at hy;subst hy;exact HE.out
    ·intro y hy
     rcases Td.1 hy with hy|hy
     ·exact HX.out.2.2.1 y hy
     ·simp only[Te]at hy;subst hy;exact HX.out.2.2.2.2.2
   ·have he':(aj x.k x.n x.m x.i x.d x.len != 0)=true:=by simpa [Nd.err]using he
    have HE:=Sk (G5 L pre x HX.out.1 HX.out.2.1 he)
    clear he
    gi_wp2_with (gi_at_call 173;refine(CallsIn.inRound l (callsIn_wide.2 (qx _ _ _ _ _ _ _ _ _))).mono ?_;rintro e w1 ⟨rfl,hb⟩;have k1:=(hb.cell (p:=⟨w.heap.size+1,0,none⟩) hl).trans h1;have k2:=(hb.frozen (p:=⟨w.heap.size+1,0,none⟩) hl).trans h2)
    refine⟨(Keeps.whole hb _).setCell (by simp;omega) _,rfl,?_,(HX.out.2.2.2.1.trans (hb.mono (by omega))).setCell (by simp) _,(Tx _ _ _ _ (by simp;omega)).trans ((hb.block D hDX).trans HX.out.2.2.2.2.1)⟩
    rw[World.cell?_setCell_same' _ _ _ (by rw[k1];rfl),HE.out]
    rfl
  case O3 =>
   rintro D' X hD' ⟨h1,h2,h3,h4,h5,h6⟩ hK
   have H3:=Sk (EM L h3)
   clear h3 h4 hit b0 b1 b2 b3 b4 b5 r3 r4 rD hBV hS0
   gi_wp2
   have hs:(X.setCell ⟨w.heap.size+1,0,none⟩ (.int .i64 0)).cell? ⟨w.heap.size+1,0,none⟩=some (.int .i64 0):=World.cell?_setCell_same' _ _ _ (by rw[h1];rfl)
   have hK':(X.setCell ⟨w.heap.size+1,0,none⟩ (.int .i64 0)).heap[D']?=some (.deferred (some [])):=(Tx _ _ _ _ (by simp;omega)).trans hK
   have hK6:(X.setCell ⟨w.heap.size+1,0,none⟩ (.int .i64 0)).heap[D]?=some (.deferred (some [])):=(Tx _ _ _ _ (by simp;omega)).trans h6
   have hc:=gI (o':=.deferred none) ((World.putObj_heap_other (by omega)).trans hK6) rfl (gI (o':=.deferred none) hK' rfl hs)
   refine xH (v:=.int .i64 0) hK' hK6 (by omega) ?_ ⟨by simp[dH,hlim.out,H3.out],fT (fT (h5.setCell (by simp) _) (by omega) _) (by omega) _⟩
   simp[results,Tryz.results124,go_sem,hc]
  case O4 =>
   rintro D' c' pre X hD' hpre ⟨rfl,h1,h5,h6⟩ hK
   clear hit b0 b1 b2 b3 b4 b5 r3 r4 rD hBV hS0
   gi_wp2
   have hc:=gI (o':=.deferred none) ((World.putObj_heap_other (by omega)).trans h6) rfl (gI (o':=.deferred none) hK rfl h1)
   refine xH (v:=.int .i64 (dS L)) hK h6 (by omega) ?_ ⟨by simp[dH,hlim.out],fT (fT h5 (by omega) _) (by omega) _⟩
   simp[results,Tryz.results124,go_sem,hc]
 case stop =>
  rintro D c pre W hD hpre ⟨rfl,h1,h3,h4⟩ hK
  have H3:=Sk h3
  clear h3
  gi_wp2
  have hc:=gI (o':=.deferred none) hK rfl h1
  refine mE (v:=.int .i64 4) hK ?_ ⟨by simp[dH,H3.out],fT h4 (by omega) _⟩
  simp[results,Tryz.results124,go_sem,hc]
end Go.Proofs.Q
namespace Go.Proofs.Q
open Go.RowKit Go.Proofs
theorem Ap (s:ByteArray):dH [⟨1,3,s,⟨#[]⟩,0,0,none,0,0⟩]=if aT s then 0 else 6:=by
 have h1:aj 3 s ⟨#[]⟩ 0 0 0=if ak 1 0 0 s ⟨#[]⟩ 0 0 0 then 1 else if ah 3 s ⟨#[]⟩ 1=0 then bU 3 0 0 else ah 3 s ⟨#[]⟩ 1:=rfl
 have h2:ak 1 0 0 s ⟨#[]⟩ 0 0 0=false:=by simp[ak,ByteArray.toList_eq]
 have h3:ah 3 s ⟨#[]⟩ 1=if aT s then 0 else 6:=by cases h:aT s <;> simp[ah,nmB,h]
 rw[h2,h3]at h1
 have h4:aj 3 s ⟨#[]⟩ 0 0 0=if aT s then 0 else 6:=by
  rw[h1]
  cases aT s <;> simp[bU,kC]
 simp only[dH,nW,dS,Nd.err,h4]
 cases aT s <;> simp
theorem pG (s:ByteArray)(w:World):Calls Tryz.prog 61 #[.string s] w fun e w'=>e=.returned (.bool (aT s))∧Below w.heap.size w w':=by
 obtain⟨E,HE⟩:∃E,Hid (dH [⟨1,3,s,⟨#[]⟩,0,0,none,0,0⟩]=E):=⟨_,rfl⟩
 cases hn:aT s
 ·have h0:=Sk (show E=6 by rw[←HE.out,Ap,hn];rfl)
  go_enter Tryz.func61,Tryz.ntmps61
  go_wp2_with fail
  refine(jD 3 s ⟨#[]⟩ 0 0 none 0 .nil _ (Fo.Sl.nil _ _ _ _ (by simp[maxLen]))).mono ?_
  rintro e w' ⟨rfl,hb⟩
  simp only[Fo.pre,Fo.len]
  rw[HE.out,h0.out]
  go_wp2
  go_ret
  exact⟨rfl,hb⟩
 ·have h0:=Sk (show E=0 by rw[←HE.out,Ap,hn];rfl)
  go_enter Tryz.func61,Tryz.ntmps61
  go_wp2_with fail
  refine(jD 3 s ⟨#[]⟩ 0 0 none 0 .nil _ (Fo.Sl.nil _ _ _ _ (by simp[maxLen]))).mono ?_
  rintro e w' ⟨rfl,hb⟩
  simp only[Fo.pre,Fo.len]
  rw[HE.out,h0.out]
  go_wp2
  go_ret
  exact⟨rfl,hb⟩
def dR (l:List UInt8)(c:UInt8):Nat→Int
 | 0=>-1
 | k+1=>if l[k]?=some c then k else dR l c k
theorem uw (l:List UInt8)(c:UInt8):∀k,-1≤dR l c k∧dR l c k<k
 | 0=>by simp[dR]
 | k+1=>by
  have:=uw l c k
  unfold dR
  split <;> omega
theorem ni (s : ByteArray)(w : World)(hs : s.size ≤ 1000) : Calls Tryz.prog 232 #[.string s,.int .u8 47] w fun e w' => e = .returned (.int .i64 (dR s.data.toList 47 s.size)) ∧ w = w':=by
  go_enter Tryz.func232,Tryz.ntmps232
  go_wp2
  go_loopg [5] s.size (fun g i wr => ∃ k : Nat,g = k ∧ k ≤ s.size ∧ i = .int .i64 ((k : Int) - 1) ∧ wr = w ∧ dR s.data.toList 47 s.size = dR s.data.toList 47 k)
  case atStart => exact⟨s.size,rfl,SA _,by go_num,rfl,rfl⟩
  case round =>
    obtain⟨k,HG,hk,rfl,rfl,HL⟩:=hrel
    have HG':=Sk HG
    clear HG
    have HL':=Sk HL
    clear HL
    cases k with
    | zero =>
      have : ¬ (0 : Int) ≤ ((0 : Nat) : Int) - 1:=by omega
      go_wp2
      go_ret
      exact⟨by rw[HL'.out];rfl,rfl⟩
    | succ k =>
      have hk1 : ((k + 1 : Nat) : Int) - 1 = k:=by omega
      rw[hk1]
      clear hk1
      have hlt : k < s.size:=by omega
      have hg:=gQ s k hlt
      by_cases h : s[k] = 47
      · have h1 : ((s[k].toNat : Int) == 47) = true:=by rw[h];rfl
        have H:=Sk (HL'.out.trans (show dR s.data.toList 47 (k + 1) = k by unfold dR;rw[hg,h,TY rfl]))
        clear hg h
        go_wp2
        go_ret
        exact⟨by rw[H.out];rfl,rfl⟩
      · have h1 : ((s[k].toNat : Int) == 47) = false:=by
          simp only[beq_eq_false_iff_ne,ne_eq]
          intro e
          exact h (UInt8.toNat.inj (by have : s[k].toNat = 47:=by omega
                                       rw[this];rfl))
        have H:=Sk (HL'.out.trans (show dR s.data.toList 47 (k + 1) = dR s.data.toList 47 k by conv => lhs;unfold dR;rw[hg,TW (by intro e;injection e with e;exact h e)]))
        clear hg h
        go_wp2
        go_roundg k
        case measure => rw[HG'.out];omega
        case rel => exact⟨k,rfl,by omega,by go_num,rfl,H.out⟩
theorem sK (s:ByteArray)(w:World)(hs:s.size≤1000):Calls Tryz.prog 172 #[.string s,.int .u8 47] w fun e w'=>e=.returned (.int .i64 (dR s.data.toList 47 s.size))∧w=w':=by
 go_enter Tryz.func172,Tryz.ntmps172
 go_wp2_with (go_at_call 232;refine(ni _ _ hs).mono ?_;rintro e w' ⟨rfl,rfl⟩)
 go_ret
 exact⟨rfl,rfl⟩
def aU (s:ByteArray):ByteArray:=if bN s then s.extract (dR s.data.toList 47 s.size+1).toNat s.size else ⟨#[]⟩
theorem nG (s:ByteArray)(w:World):Calls Tryz.prog 122 #[.string s] w fun e w'=>e=.returned (.string (aU s))∧Below w.heap.size w w':=by
 cases hl:bN s
 ·have H:=Sk (show aU s=⟨#[]⟩ by simp[aU,hl])
  go_enter Tryz.func122,Tryz.ntmps122
  go_wp2_with (go_at_call 55;refine(dQ _ _).mono ?_;rintro e w' ⟨rfl,hb⟩)
  go_ret
  exact⟨by rw[H.out];rfl,hb⟩
 ·have hs:s.size≤90:=by
   simp only[bN,Ue,decide_eq_true_eq]at hl
   exact hl.1
  obtain⟨k,hk⟩:∃k:Nat,dR s.data.toList 47 s.size+1=k:=⟨(dR s.data.toList 47 s.size+1).toNat,by have:=uw s.data.toList 47 s.size;omega⟩
  have hk2:k≤s.size:=by have:=uw s.data.toList 47 s.size;omega
  have H:=Sk (show aU s=s.extract k s.size by simp[aU,hl,hk])
  have hk3:=Sk (show dR s.data.toList 47 s.size=(k:Int)-1 by omega)
  clear hk
  go_enter Tryz.func122,Tryz.ntmps122
  go_wp2_with (first|(go_at_call 55;refine(dQ _ _).mono ?_;rintro e w' ⟨rfl,hb⟩)|(go_at_call 172;refine(sK _ _ (by omega)).mono ?_;rintro e w' ⟨rfl,rfl⟩;rw[hk3.out]))
  go_ret
  exact⟨by rw[H.out];rfl,hb⟩
def jF (label:ByteArray)(l:List ByteArray)(i:Nat):Int:=
 if aT (aU (l.getD i ⟨#[]⟩))=false then 6 else
 if ((l.take i).any fun v=>(aU v).toList==(aU (l.getD i ⟨#[]⟩)).toList)=true then 7 else
 if ((l.getD i ⟨#[]⟩).toList==label.toList)=true then 23 else 0
theorem Aq (label:ByteArray)(l:List ByteArray)(i:Nat)(A:Option Addr)(c:Nat)(w:World)(hi:i<l.length)(hs:SlS w w.heap.size A c l) :
  Calls Tryz.prog 57 #[.string label,.slice A l.length c,.int .i64 i] w fun e w'=>e=.returned (.int .i64 (jF label l i))∧Below w.heap.size w w':=by
 have hc1:=hs.1
 have hc2:=hs.2.1
 unfold maxLen at hc2
 obtain⟨b,o,rfl,hb,hcell⟩:=hs.2.2 (by intro e;subst e;simp at hi)
 have hu:l[i]?=some l[i]:=Sw hi
 have h0:=hcell i _ hu
 have hd:l.getD i ⟨#[]⟩=l[i]:=by simp[List.getD,hu]
 have HU:Hid (jF label l i=if aT (aU l[i])=false then 6 else if ((l.take i).any fun v=>(aU v).toList==(aU l[i]).toList)=true then 7 else if (l[i].toList==label.toList)=true then 23 else 0):=by
  show jF label l i=_
  unfold jF
  rw[hd]
 have HC:=Sk hcell
 clear hu hd hcell hs
 generalize l[i]=u at h0 HU
 cases hn:aT (aU u)
 ·have HR:=Sk (show jF label l i=6 by rw[HU.out,TY hn])
  go_enter Tryz.func57,Tryz.ntmps57
  go_wp2_with (first|(go_at_call 122;refine(nG _ _).mono ?_;rintro e w1 ⟨rfl,hb1⟩;obtain⟨hc1',hf1⟩:=aN hb1;have hz1:=hb1.size)|(go_at_call 61;refine(pG _ _).mono ?_;rintro e w2 ⟨rfl,hb2⟩;have hB2:=hb1.trans (hb2.mono (by omega))))
  go_ret
  exact⟨by rw[HR.out];rfl,hB2⟩
 ·have HU':=Sk (HU.out.trans (TW (by rw[hn];simp)))
  clear HU
  go_enter Tryz.func57,Tryz.ntmps57
  go_wp2_with (first|(go_at_call 122;refine(nG _ _).mono ?_;rintro e w1 ⟨rfl,hb1⟩;obtain⟨hc1',hf1⟩:=aN hb1;have hz1:=hb1.size)|(go_at_call 61;refine(pG _ _).mono ?_;rintro e w2 ⟨rfl,hb2⟩;have hB2:=hb1.trans (hb2.mono (by omega))))
  generalize aU u=au at *
  clear hc1' hf1 hb1 hb2 hz1
  go_loopg [9,22] i (fun g _ ct wr=>∃j:Nat,g=i-j∧j≤i∧ct=.int .i64 j∧((l.take j).any fun v=>(aU v).toList==au.toList)=false∧Below w.heap.size w wr)
  case atStart=>exact⟨0,rfl,by omega,rfl,by simp,hB2⟩
  case round =>
   obtain⟨j,HG,hj,rfl,HA,HB⟩:=hrel
   have HG':=Sk HG
   have HA':=Sk HA
   clear HG HA
   have hz:=HB.size
   by_cases hlt:j<i
   ·have hj2:l[j]?=some l[j]:=Sw (by omega)
    have hcj:wr.cell? ⟨b,o+j,none⟩=some (.string l[j]):=(HB.cell (p:=⟨b,o+j,none⟩) hb).trans (HC.out j _ hj2)
    have hstep:((l.take (j+1)).any fun v=>(aU v).toList==au.toList)=((aU l[j]).toList==au.toList):=by
     rw[TT (by omega),List.any_append,HA'.out]
     simp
    have htake:(aU l[j]).toList==au.toList→((l.take i).any fun v=>(aU v).toList==au.toList)=true:=by
     intro h
     rw[TF]
     exact⟨l[j],by rw[List.mem_take_iff_getElem];exact⟨j,by omega,rfl⟩,h⟩
    have HS:=Sk (Sn hstep htake)
    clear hstep htake hj2
    generalize l[j]=v at hcj HS
    cases he:(aU v).toList==au.toList
    ·go_wp2_with (go_at_call 122;refine(nG _ _).mono ?_;rintro e w3 ⟨rfl,hb3⟩)
     go_roundg (i-(j+1))
     case measure=>rw[HG'.out];omega
     case rel=>exact⟨j+1,rfl,by omega,by go_num,by rw[HS.out.1,he],HB.trans (hb3.mono (by omega))⟩
    ·have HR:=Sk (HU'.out.trans (TY (HS.out.2 he)))
     go_wp2_with (go_at_call 122;refine(nG _ _).mono ?_;rintro e w3 ⟨rfl,hb3⟩)
     go_ret
     exact⟨by rw[HR.out];rfl,HB.trans (hb3.mono (by omega))⟩
   ·obtain rfl:j=i:=by omega
    have hcu:wr.cell? ⟨b,o+j,none⟩=some (.string u):=(HB.cell (p:=⟨b,o+j,none⟩) hb).trans h0
    have HU2:=Sk (HU'.out.trans (TW (by rw[HA'.out];simp)))
    cases hq:u.toList==label.toList
    ·have HR:=Sk (HU2.out.trans (TW (by rw[hq];simp)))
     go_wp2
     go_ret
     exact⟨by rw[HR.out];rfl,HB⟩
    ·have HR:=Sk (HU2.out.trans (TY hq))
     go_wp2
     go_ret
     exact⟨by rw[HR.out];rfl,HB⟩
def dnB (n:Nat)(s:ByteArray):Bool:=aT s||(!(n==1)&&s.toList.isEmpty)
def dnE (l:List ByteArray):Int:=
 if l.length≠1∧l.length≠3 then 1 else if l.all (dnB l.length)=true then 0 else 6
theorem uY (l : List ByteArray)(A : Option Addr)(c : Nat)(w : World)(hs : SlS w w.heap.size A c l) :
    Calls Tryz.prog 123 #[.slice A l.length c] w fun e w' => e = .returned (.int .i64 (dnE l)) ∧ Below w.heap.size w w':=by
  have hc1:=hs.1
  have hc2:=hs.2.1
  unfold maxLen at hc2
  obtain⟨E,HE⟩ : ∃ E,Hid (E = dnE l):=⟨_,rfl⟩
  rw[← HE.out]
  by_cases h1 : l.length = 1 ∨ l.length = 3
  · have HE1:=Sk (HE.out.trans (show dnE l = if l.all (dnB l.length) = true then 0 else 6 by unfold dnE;rw[TW (by omega)]))
    obtain⟨n,hn⟩ : ∃ n,l.length = n:=⟨_,rfl⟩
    rw[hn]at h1 hc1 ⊢
    have HE2:=Sk (show E = if l.all (dnB n) = true then 0 else 6 by rw[HE1.out,hn])
    clear HE HE1
    have go : (n = 1 ∨ n = 3) → ∀ (bq : Bool),((n : Int) == 1) = bq → ((n : Int) == 3) = !bq → ((n : Int) != 1) = !bq → ((n : Int) != 3) = bq →
        Calls Tryz.prog 123 #[.slice A n c] w fun e w' => e = .returned (.int .i64 E) ∧ Below w.heap.size w w':=by
      intro Nt bq hq1 hq3 hq2 hq4
      have hnz : n ≠ 0:=by omega
      obtain⟨b,o,rfl,hb,hcell⟩:=hs.2.2 (by intro e;subst e;simp at hn;omega)
      have HC:=Sk hcell
      have hn3 : n ≤ 3:=by omega
      have Hbq:=Sk (show bq = (n == 1) by rw[← hq1];rcases Nt with h | h <;> subst h <;> rfl)
      clear Nt hcell hs
      cases bq <;> (
      go_enter Tryz.func123,Tryz.ntmps123
      go_wp2
      go_loopg [4,15] n (fun g _ ct wr => ∃ j : Nat,g = n - j ∧ j ≤ n ∧ ct = .int .i64 j ∧ (l.take j).all (dnB n) = true ∧ Below w.heap.size w wr)
      case atStart => exact⟨0,rfl,by omega,rfl,by simp,TA _ _⟩
      case round =>
        obtain⟨j,HG,hj,rfl,HA,HB⟩:=hrel
        have HG':=Sk HG
        have HA':=Sk HA
        clear HG HA
        have hz:=HB.size
        by_cases hlt : j < n
        · have hjl : j < l.length:=by omega
          have hj2 : l[j]? = some l[j]:=Sw hjl
          have hcj : wr.cell? ⟨b,o + j,none⟩ = some (.string l[j]):=(HB.cell (p:=⟨b,o + j,none⟩) hb).trans (HC.out j _ hj2)
          have hstep : (l.take (j + 1)).all (dnB n) = dnB n l[j]:=by
            rw[TT hjl,List.all_append,HA'.out]
            simp
          have hno : dnB n l[j] = false → l.all (dnB n) = false:=by
            intro h
            rw[List.all_eq_false]
            exact⟨l[j],Ul hjl,by rw[h];simp⟩
          have HS:=Sk (Sn hstep hno)
          clear hstep hno hj2
          generalize l[j] = v at hcj HS
          clear hjl
          have HD:=Sk (show dnB n v = (aT v || (!(n == 1) && v.toList.isEmpty))from rfl)
          cases hv : aT v <;> cases hem : v.toList.isEmpty <;> (
            rw[hv,hem,← Hbq.out]at HD
            go_wp2_with (go_at_call 61;refine(pG _ _).mono ?_;rintro e w3 ⟨rfl,hb3⟩;rw[hv])
            first
            | (go_roundg (n - (j + 1))
               case measure => rw[HG'.out];omega
               case rel => exact⟨j + 1,rfl,by omega,by go_num,by rw[HS.out.1,HD.out];rfl,HB.trans (hb3.mono (by omega))⟩)
            | (go_ret
               exact⟨by rw[HE2.out,HS.out.2 (by rw[HD.out];rfl)];rfl,HB.trans (hb3.mono (by omega))⟩))
        · obtain rfl : j = n:=by omega
          go_wp2
          go_ret
          exact⟨by rw[HE2.out,TY (by rw[← HA'.out,Tm (by omega)])];rfl,HB⟩)
    rcases h1 with h | h
    · exact go (.inl h) true (by rw[h];rfl) (by rw[h];rfl) (by rw[h];rfl) (by rw[h];rfl)
    · exact go (.inr h) false (by rw[h];rfl) (by rw[h];rfl) (by rw[h];rfl) (by rw[h];rfl)
  · have h2 : ((l.length : Int) != 1) = true:=by simp;omega
    have h3 : ((l.length : Int) != 3) = true:=by simp;omega
    have HR:=Sk (HE.out.trans (show dnE l = 1 by unfold dnE;rw[TY (by omega)]))
    clear hs
    go_enter Tryz.func123,Tryz.ntmps123
    go_wp2
    go_ret
    exact⟨by rw[HR.out];rfl,TA _ _⟩
def dN:Option ByteArray→List ByteArray→Int
 | _,[]=>0
 | none,s::r=>if bN s=true then dN (some s) r else 6
 | some q,s::r=>if bN s=true then (if Op.bytesLess q.toList s.toList=true then dN (some s) r else 10)else 6
def jc (l:List ByteArray):Int:=if 20<l.length then 4 else dN none l
def gM (l:List ByteArray):Nat→Option ByteArray
 | 0=>none
 | j+1=>l[j]?
theorem uZ (l:List ByteArray)(A:Option Addr)(c:Nat)(w:World)(hs:SlS w w.heap.size A c l) :
  Calls Tryz.prog 56 #[.agg #[.slice A l.length c,.slice none 0 0]] w fun e w'=>e=.returned (.int .i64 (jc l))∧Below w.heap.size w w':=by
 have hc1:=hs.1
 have hc2:=hs.2.1
 unfold maxLen at hc2
 have hmm:=@run_makeMap Tryz.prog
 have HS:=Sk hs
 clear hs
 obtain⟨E,HE⟩:∃E,Hid (E=jc l):=⟨_,rfl⟩
 rw[←HE.out]
 by_cases h1:20<l.length
 ·have HR:=Sk (HE.out.trans (show jc l=4 by unfold jc;rw[TY h1]))
  go_enter Tryz.func56,Tryz.ntmps56
  go_wp2
  go_ret
  exact⟨by rw[HR.out];rfl,(TA _ _).alloc (SA _) _⟩
 ·have HE1:=Sk (HE.out.trans (show jc l=dN none l by unfold jc;rw[TW h1]))
  clear HE
  go_enter Tryz.func56,Tryz.ntmps56
  go_wp2
  obtain⟨n,hn⟩:∃n,l.length=n:=⟨_,rfl⟩
  rw[hn]at h1 hc1 ⊢
  have hn1:n≤20:=by omega
  clear h1
  obtain⟨W0,hW0⟩:∃W0,w.alloc (.cells #[.slice A n c,.slice none 0 0] 106)=W0:=⟨_,rfl⟩
  have hB0:Below w.heap.size w W0:=by subst hW0;exact(TA _ _).alloc (SA _) _
  have hz0:W0.heap.size=w.heap.size+1:=by subst hW0;simp
  have hx0:W0.cell? ⟨w.heap.size,0,none⟩=some (.slice A n c):=by subst hW0;go_simp
  have hx1:W0.cell? ⟨w.heap.size,1,none⟩=some (.slice none 0 0):=by subst hW0;go_simp
  rw[hW0]
  clear hW0
  go_loopg [3,4,16] n (fun g _ _ ct wr=>∃j:Nat,g=n-j∧j≤n∧ct=.int .i64 j∧E=dN (gM l j) (l.drop j)∧Below W0.heap.size W0 wr)
  case atStart=>exact⟨0,rfl,by omega,rfl,by rw[HE1.out];rfl,TA _ _⟩
  case round =>
   obtain⟨j,HG,hj,rfl,HA,HB⟩:=hrel
   have HG':=Sk HG
   have HA':=Sk HA
   clear HG HA
   have hz:=HB.size
   have hB1:=hB0.trans (HB.mono (by omega))
   have hy0:wr.cell? ⟨w.heap.size,0,none⟩=some (.slice A n c):=(HB.cell (p:=⟨w.heap.size,0,none⟩) (by simp;omega)).trans hx0
   have hy1:wr.cell? ⟨w.heap.size,1,none⟩=some (.slice none 0 0):=(HB.cell (p:=⟨w.heap.size,1,none⟩) (by simp;omega)).trans hx1
   by_cases hlt:j<n
   ·have hjl:j<l.length:=by omega
    obtain⟨b,o,rfl,hb,hcell⟩:=HS.out.2.2 (by intro e;subst e;simp at hjl)
    have hj2:l[j]?=some l[j]:=Sw hjl
    have hcj:wr.cell? ⟨b,o+j,none⟩=some (.string l[j]):=(hB1.cell (p:=⟨b,o+j,none⟩) hb).trans (hcell j _ hj2)
    have hdrop:l.drop j=l[j]::l.drop (j+1):=TQ hjl
    have vg:gM l (j+1)=some l[j]:=hj2
    rw[hdrop]at HA'
    have HP:=Sk vg
    have HC:=Sk hcell
    clear vg hdrop hj2 hcell
    generalize l[j]=u at hcj HP HA'
    cases hu:bN u
    ·have HR:=Sk (show E=6 by rw[HA'.out];cases gM l j <;> simp[dN,hu])
     go_wp2_with (go_at_call 55;refine(dQ _ _).mono ?_;rintro e w3 ⟨rfl,hb3⟩;rw[hu])
     go_ret
     exact⟨by rw[HR.out];rfl,hB1.trans (hb3.mono (by omega))⟩
    ·cases j with
     | zero =>
      rw[Nat.add_zero]at hcj
      have HR:=Sk (HA'.out.trans (show dN (gM l 0) (u::l.drop (0+1))=dN (some u) (l.drop (0+1)) by simp[gM,dN,hu]))
      go_wp2_with (go_at_call 55;refine(dQ _ _).mono ?_;rintro e w3 ⟨rfl,hb3⟩;rw[hu])
      go_roundg (n-(0+1))
      case measure=>rw[HG'.out];omega
      case rel=>exact⟨0+1,rfl,by omega,by go_num,by rw[HR.out,HP.out],HB.trans (hb3.mono (by omega))⟩
     | succ j =>
      have hk2:l[j]?=some l[j]:=Sw (by omega)
      have hck:wr.cell? ⟨b,o+j,none⟩=some (.string l[j]):=(hB1.cell (p:=⟨b,o+j,none⟩) hb).trans (HC.out j _ hk2)
      have HQ:=Sk (show gM l (j+1)=some l[j]from hk2)
      have hidx:((j+1:Nat):Int)-1=j:=by omega
      clear hk2
      generalize l[j]=q at hck HQ
      rw[HQ.out]at HA'
      cases hq:Op.bytesLess q.toList u.toList
      ·have HR:=Sk (HA'.out.trans (show dN (some q) (u::l.drop (j+1+1))=10 by simp[dN,hu,hq]))
       go_wp2_with (go_at_call 55;refine(dQ _ _).mono ?_;rintro e w3 ⟨rfl,hb3⟩;rw[hu];have hf1:=(hb3.cell (p:=⟨w.heap.size,0,none⟩) (by simp;omega)).trans hy0;have hf2:=(hb3.cell (p:=⟨b,o+j,none⟩) (by simp;omega)).trans hck)
       go_ret
       exact⟨by rw[HR.out];rfl,hB1.trans (hb3.mono (by omega))⟩
      ·have HR:=Sk (HA'.out.trans (show dN (some q) (u::l.drop (j+1+1))=dN (some u) (l.drop (j+1+1)) by simp[dN,hu,hq]))
       go_wp2_with (go_at_call 55;refine(dQ _ _).mono ?_;rintro e w3 ⟨rfl,hb3⟩;rw[hu];have hf1:=(hb3.cell (p:=⟨w.heap.size,0,none⟩) (by simp;omega)).trans hy0;have hf2:=(hb3.cell (p:=⟨b,o+j,none⟩) (by simp;omega)).trans hck)
       go_roundg (n-(j+1+1))
       case measure=>rw[HG'.out];omega
       case rel=>exact⟨j+1+1,rfl,by omega,by go_num,by rw[HR.out,HP.out],HB.trans (hb3.mono (by omega))⟩
   ·obtain rfl:j=n:=by omega
    have HR:=Sk (HA'.out.trans (show dN (gM l j) (l.drop j)=0 by rw[List.drop_of_length_le (by omega)];cases gM l j <;> rfl))
    have hy2:(wr.alloc (.map #[] 0)).cell? ⟨w.heap.size,1,none⟩=some (.slice none 0 0):=(SQ wr _ _ (by simp;omega)).trans hy1
    go_wp2
    go_loopg [6,7,8,45] 0 (fun g _ _ _ ct wr2=>ct=.int .i64 0∧Below w.heap.size w wr2)
    case atStart=>exact⟨rfl,hB1.alloc (by omega) _⟩
    obtain⟨rfl,HB2⟩:=hrel
    go_wp2
    go_ret
    exact⟨by rw[HR.out];rfl,HB2⟩
end Go.Proofs.Q
