/- syntax.nodes: its iterator's contract -/
import Derived.Test.YtmmecapgnmlaiaaGreatDoorZxa
import Derived.Test.YtmmecapgnmlaiaaGreatDoorRng
import Derived.Shelf.Abstract
import Derived.TacticsInMore
import Derived.LoopNIn
import Derived.LoopIn
import Derived.Laws.AppendOwnNone
set_option maxRecDepth 100000
set_option maxHeartbeats 16000000
namespace Go.Proofs.Q
open Go.RowKit Go.Proofs Go.Shelf
attribute [local go_sem] Oper.semAt_some oD jR
structure Nd where
 dep:Nat
 k:Int
 n:ByteArray
 m:ByteArray
 i:Int
 d:Int
 A:Option Addr
 len:Nat
 c:Nat
def Nd.encs (x:Nd):Array Value:=#[.int .i64 x.dep,.agg #[.int .i64 x.k,.string x.n,.string x.m,.int .i64 x.i,.int .i64 x.d,.slice x.A x.len x.c]]
def Fo.pre:Nat→Fo→List Nd
 | _,.nil=>[]
 | dp,.cons k n m i d A c s r=>⟨dp,k,n,m,i,d,A,s.len,c⟩::(s.pre (dp+1)++r.pre dp)
structure Fr where
 A:Option Addr
 c:Nat
 f:Fo
def Fr.slv (x:Fr):Value:=.slice x.A x.f.len x.c
def pz:List Fr→List Nd
 | []=>[]
 | x::r=>x.f.pre (r.length+2)++pz r
def wtT:List Fr→Nat
 | []=>0
 | x::r=>2*x.f.count+1+wtT r
def iI (st:List Fr):List Value:=st.reverse.map Fr.slv
theorem jA (x:Fr)(r:List Fr):iI (x::r)=iI r++[x.slv]:=by simp[iI]
theorem iJ (st:List Fr):(iI st).length=st.length:=by simp[iI]
theorem EC (x:Fr)(r:List Fr):(iI (x::r))[r.length]?=some x.slv:=by
 rw[jA,Ti (by rw[iJ];exact SA _),iJ]
 simp
theorem ED (x y:Fr)(r:List Fr):(iI (x::r)).set r.length y.slv=iI (y::r):=by
 rw[jA,jA,List.set_append_right _ _ (by rw[iJ];exact SA _),iJ]
 simp
theorem Tryz.GY:(Tryz.prog.info? 42).map (fun i=>(i.zero,i.size,i.bytes))=some (some (.slice none 0 0),1,24):=by kernel_rfl
def StR (xs:List Nd)(J:List Nd→World→Prop)(B n₀:Nat)(g:Nat)(v:Value)(wr:World):Prop:=
 ∃(st:List Fr) (pre:List Nd),g=wtT st∧pre++pz st=xs∧J pre wr∧B≤wr.heap.size∧wr.ownsRow B 42 1 v st.length (iI st)∧(∀x∈st,x.f.Sl wr n₀ x.A x.c)∧st.length≤1001
theorem nU {R:Nat→Value→World→Prop}{v v':Value}{w w':World}{gk:Nat}(hgk:leastOf (fun g=>R g v w)=gk)(g':Nat)(hR:R g' v' w')(hlt:g'<gk) :
  (∃g,R g v' w')∧leastOf (fun g=>R g v' w')<leastOf (fun g=>R g v w):=
 ⟨⟨g',hR⟩,by rw[hgk];exact Nat.lt_of_le_of_lt ((leastOf_spec ⟨g',hR⟩).2 g' hR) hlt⟩
theorem zX {xs:List Nd}{J:List Nd→World→Prop}{B n₀ g cap:Nat}{pre:List Nd}{xA A2 fA:Option Addr}{xc c2 fc:Nat}{fk fi fd:Int}{fn fm:ByteArray}{fs fr:Fo}{r:List Fr}{Y2 w1:World}{v':Value}{o:Obj}
  (hpr:pre++pz (⟨xA,xc,.cons fk fn fm fi fd fA fc fs fr⟩::r)=xs)(hJ:J (pre++[⟨r.length+2,fk,fn,fm,fi,fd,fA,fs.len,fc⟩]) w1)(hz:B≤Y2.heap.size)(hn:n₀≤B)(hg:B≤g)
  (hown:w1.ownsRow B 42 1 v' (r.length+1+1) (iI (⟨A2,c2,fr⟩::r)++[.slice fA fs.len fc]))(hgrow:(Y2.alloc o).grownBy w1 (Value.slice (some ⟨g,0,none⟩) (r.length+1) cap).ownBlock)
  (hs:∀y∈(⟨fA,fc,fs⟩::⟨A2,c2,fr⟩::r:List Fr),y.f.Sl Y2 n₀ y.A y.c)(hl:r.length+2≤1000):StR xs J B n₀ (wtT (⟨fA,fc,fs⟩::⟨A2,c2,fr⟩::r)) v' w1:=by
 have hsz:=hgrow.size
 simp only[World.size_alloc]at hsz
 refine⟨⟨fA,fc,fs⟩::⟨A2,c2,fr⟩::r,_,rfl,?_,hJ,by omega,?_,fun y hy=>?_,by simp;omega⟩
 ·rw[←hpr];simp[pz,Fo.pre]
 ·rw[jA];exact hown
 ·refine(hs y hy).keep (SA _) fun p hp=>?_
  rw[SN (hgrow.block p.block (by simp;omega) (by simp[Value.ownBlock];omega))]
  exact SQ Y2 _ p (by omega)
theorem sQ (eb n₀:Nat)(k:Int)(n m:ByteArray)(i d:Int)(A:Option Addr)(c:Nat)(s:Fo)(w:World)
  (h0:w.cell? ⟨eb,0,none⟩=some (.int .i64 k))(h1:w.cell? ⟨eb,1,none⟩=some (.string n))(h2:w.cell? ⟨eb,2,none⟩=some (.string m))(h3:w.cell? ⟨eb,3,none⟩=some (.int .i64 i))
  (h4:w.cell? ⟨eb,4,none⟩=some (.int .i64 d))(h5:w.cell? ⟨eb,5,none⟩=some (.slice A s.len c))(hs:s.Sl w n₀ A c)(hn:n₀≤w.heap.size) :
  Iter Tryz.prog 129 #[.pointer (some ⟨eb,0,none⟩)] Nd.encs (fun k=>k=eb) n₀ (fun pre=>∀x∈pre,x.dep≤1000) (⟨1,k,n,m,i,d,A,s.len,c⟩::s.pre 2) w:=by
 obtain⟨i0,hi,hz0,hz1,hz2⟩:=info_parts Tryz.GY
 intro l J Jx W hW hJ hJx hlim hY hJ0
 have RI:eb<W.heap.size:=SB (SS w ⟨eb,0,none⟩ h0) hW.size
 have k0:=hW.cell (p:=⟨eb,0,none⟩) trivial h0
 have k1:=hW.cell (p:=⟨eb,1,none⟩) trivial h1
 have k2:=hW.cell (p:=⟨eb,2,none⟩) trivial h2
 have k3:=hW.cell (p:=⟨eb,3,none⟩) trivial h3
 have k4:=hW.cell (p:=⟨eb,4,none⟩) trivial h4
 have k5:=hW.cell (p:=⟨eb,5,none⟩) trivial h5
 have hs':=Sk (hs.keep (SA _) fun p hp=>SN (hW.block p.block (by omega) trivial):s.Sl W n₀ A c)
 have hn':n₀≤W.heap.size:=SE hn hW.size
 obtain⟨fn,tmps,assign,body,hy,hR⟩:=hY [] ⟨1,k,n,m,i,d,A,s.len,c⟩ W ⟨s.pre 2,rfl⟩ hJ0 (SA _)
 have HW:=Sk (Sn hJ (Sn hJx (Sn hlim hY)))
 change Sem.run Tryz.prog (Instr.yield l #[.int .i64 1,.agg #[.int .i64 k,.string n,.string m,.int .i64 i,.int .i64 d,.slice A s.len c]]) W=_ at hy
 clear hJ hJx hY h0 h1 h2 h3 h4 h5 hs hn hlim
 refine callsIn_of_wp Tryz.func129 rfl trivial ?_ rfl
 simp only[Tryz.ntmps129,List.size_toArray,TS,List.length_nil,Nat.reduceAdd,Nat.reduceSub,Array.replicate_succ,Array.replicate_zero,List.push_toArray,List.append_toArray,List.nil_append,TU]
 gi_wp2
 refine hR.mono ?_
 rintro e Y (⟨rfl,hJ',hk⟩|⟨rfl,hJ'⟩)
 rotate_left
 ·gi_wp2
  refine Ua (results_none rfl _ _ _) rfl ?_
  exact⟨⟨_,rfl⟩,.inr ⟨_,⟨s.pre 2,rfl⟩,hJ'⟩⟩
 ·have y5:=hk.cell (p:=⟨eb,5,none⟩) (.inl rfl) k5
  have hyz:=hk.size
  have hsY:=Sk (hs'.out.keep (SA _) fun p hp=>SN (hk.block p.block (by omega) (.inr (.inr hp))):s.Sl Y n₀ A c)
  clear k0 k1 k2 k3 k4 k5 hy hR hk hs'
  gi_wp2
  gi_loopw [3] (fun v wr=>∃g,StR (⟨1,k,n,m,i,d,A,s.len,c⟩::s.pre 2) J W.heap.size n₀ g v wr)
   (fun v wr=>leastOf fun g=>StR (⟨1,k,n,m,i,d,A,s.len,c⟩::s.pre 2) J W.heap.size n₀ g v wr)
  case atStart =>
   refine⟨_,[⟨A,c,s⟩],[⟨1,k,n,m,i,d,A,s.len,c⟩],rfl,by simp[pz],HW.out.1 _ _ _ hJ' ((Keeps.refl _ _).alloc _),by simp;omega,?_,?_,by simp⟩
   ·exact World.ownsRow_lit Y #[.slice A s.len c] 1 hyz (by simp[maxLen]) rfl
   ·intro x hx
    simp only[Te]at hx
    subst hx
    exact hsY.out.keep (SA _) fun p hp=>SQ Y _ p (by omega)
  case round =>
   obtain⟨gk,HGK⟩:∃gk,Hid (leastOf (fun g=>StR (⟨1,k,n,m,i,d,A,s.len,c⟩::s.pre 2) J W.heap.size n₀ g u3 wr)=gk):=⟨_,rfl⟩
   have hspec:=(leastOf_spec hrel).1
   rw[HGK.out]at hspec
   clear hrel
   obtain⟨st,pre,hg,hpr,hJp,hsz,hown,hst,hlen⟩:=hspec
   have HPR:=Sk (Sn hg hpr)
   clear hg hpr
   have HST:=Sk hst
   clear hst
   cases st with
   | nil =>
    have HF:=Sk (show pre=(⟨1,k,n,m,i,d,A,s.len,c⟩::s.pre 2:List Nd) by rw[←HPR.out.2];simp[pz])
    obtain⟨o3,c3,rfl⟩:∃(o3:Option Addr) (c3:Nat),u3=.slice o3 0 c3:=by
     rcases hown.2 with⟨rfl,_⟩|⟨g',cap',cur,rfl,_⟩
     ·exact⟨_,_,rfl⟩
     ·exact⟨_,_,rfl⟩
    clear hown HST
    gi_wp2
    go_end0
    exact⟨⟨_,rfl⟩,.inl (by rw[←HF.out];exact hJp)⟩
   | cons x r =>
    obtain⟨g,cap,rfl⟩:=ownsRow_succ hown
    have hcap:r.length+1≤cap:=by
     rcases hown.2 with⟨h,_⟩|⟨g',cap',cur,h,_,_,hle,_⟩
     ·cases h
     ·cases h;exact hle
    have hrl:r.length≤1000:=by simpa using hlen
    have htop:wr.cell? ⟨g,r.length,none⟩=some x.slv:=(hown.cellAt r.length (by simp)).trans (EC x r)
    have htf:wr.frozen? ⟨g,r.length,none⟩=false:=hown.frozenAt r.length
    have HOWN:=Sk hown
    clear hown hlen
    obtain⟨xA,xc,xf⟩:=x
    cases xf with
    | nil =>
     simp only[Fr.slv,Fo.len]at htop
     gi_wp2
     refine nU HGK.out (wtT r) ⟨r,pre,rfl,?_,hJp,hsz,?_,fun y hy=>HST.out y (Tc _ hy),by omega⟩ ?_
     ·rw[←HPR.out.2];simp[pz,Fo.pre]
     ·have:=HOWN.out
      rw[jA]at this
      exact ownsRow_pop (by rw[iJ];simp) this
     ·rw[HPR.out.1];simp[wtT]
    | cons fk fn' fm fi fd fA fc fs fr =>
     obtain⟨hl1,hl2,hl3⟩:=HST.out ⟨xA,xc,.cons fk fn' fm fi fd fA fc fs fr⟩ (Ta ..)
     obtain⟨b,o,rfl,hb,f0,f1,f2,f3,f4,⟨f5,hc',hm',hs'⟩,hr'⟩:=hl3 (by simp)
     simp only[Fr.slv,Fo.len]at htop
     simp only[Fo.len]at hl1
     change xc≤maxLen at hl2
     unfold maxLen at hl2
     obtain⟨c2,rfl⟩:∃c2,xc=c2+1:=⟨xc-1,by omega⟩
     have HSS:=Sk (Sn hc' (Sn hm' (Sn hs' hr')))
     clear hc' hm' hs' hr' hl3
     have hgl:g<wr.heap.size:=SS wr ⟨g,r.length,none⟩ htop
     have hgW:W.heap.size≤g:=(HOWN.out.lt g rfl).1
     have hbl:b<wr.heap.size:=by omega
     have hbg:b≠g:=by omega
     obtain⟨A2,hA2,hrr⟩:∃A2:Option Addr,(if c2=0 then some (⟨b,o,none⟩:Addr)else some ⟨b,o+6,none⟩)=A2∧(fr≠.nil→A2=some ⟨b,o+6,none⟩):=by
      refine⟨_,rfl,fun hne=>?_⟩
      have:fr.len≠0:=by cases fr <;> simp[Fo.len]at hne ⊢
      rw[TW (by omega)]
     obtain⟨W2,hW2⟩:∃W2,(wr.setCell ⟨g,r.length,none⟩ (.slice A2 fr.len c2)).alloc (.cells #[.int .i64 fk,.string fn',.string fm,.int .i64 fi,.int .i64 fd,.slice fA fs.len fc] 44)=W2:=⟨_,rfl⟩
     have hk2:Keeps (fun k=>k≠g) wr W2:=by rw[←hW2];exact((Keeps.refl _ wr).setCell (by simp) _).alloc _
     have hJ2:J pre W2:=HW.out.1 _ _ _ hJp (hk2.mono fun k hk=>by omega)
     have HPX:Hid (pre++[⟨r.length+2,fk,fn',fm,fi,fd,fA,fs.len,fc⟩] <+: (⟨1,k,n,m,i,d,A,s.len,c⟩::s.pre 2:List Nd)):=by
      show _ <+: _
      rw[←HPR.out.2]
      exact⟨fs.pre (r.length+3)++fr.pre (r.length+2)++pz r,by simp[pz,Fo.pre]⟩
     obtain⟨fn2,Ri,assign2,K4,hy2,hR2⟩:=HW.out.2.2.2 pre ⟨r.length+2,fk,fn',fm,fi,fd,fA,fs.len,fc⟩ W2 HPX.out hJ2 (SE hsz hk2.size)
     have e2:((r.length+2:Nat):Int)=(r.length:Int)+1+1:=by omega
     simp only[Nd.encs]at hy2
     rw[e2]at hy2
     clear e2
     have H2:=Sk (Sn hA2 (Sn hrr hW2))
     clear hA2 hrr hW2
     have hown2:W2.ownsRow W.heap.size 42 1 (.slice (some ⟨g,0,none⟩) (r.length+1) cap) (r.length+1) (iI (⟨A2,c2,fr⟩::r)):=by
      rw[←H2.out.2.2,←ED ⟨some ⟨b,o,none⟩,c2+1,.cons fk fn' fm fi fd fA fc fs fr⟩ ⟨A2,c2,fr⟩ r]
      exact(HOWN.out.stored r.length _).1.alloc _
     have hwz:wr.heap.size<W2.heap.size:=by rw[←H2.out.2.2];simp[World.setCell]
     have hbx:∀j,W2.cell? ⟨wr.heap.size,j,none⟩=(#[.int .i64 fk,.string fn',.string fm,.int .i64 fi,.int .i64 fd,.slice fA fs.len fc]:Array Value)[j]?:=by
      intro j
      have e:(wr.setCell ⟨g,r.length,none⟩ (.slice A2 fr.len c2)).heap.size=wr.heap.size:=by simp[World.setCell]
      have h:=World.alloc_heap_new (wr.setCell ⟨g,r.length,none⟩ (.slice A2 fr.len c2)) (.cells #[.int .i64 fk,.string fn',.string fm,.int .i64 fi,.int .i64 fd,.slice fA fs.len fc] 44)
      rw[e,H2.out.2.2]at h
      exact Sq W2 wr.heap.size j _ _ (0,0) h
     have x0:W2.cell? ⟨wr.heap.size,0,none⟩=some (.int .i64 fk):=hbx 0
     have x1:W2.cell? ⟨wr.heap.size,1,none⟩=some (.string fn'):=hbx 1
     have x2:W2.cell? ⟨wr.heap.size,2,none⟩=some (.string fm):=hbx 2
     have x3:W2.cell? ⟨wr.heap.size,3,none⟩=some (.int .i64 fi):=hbx 3
     have x4:W2.cell? ⟨wr.heap.size,4,none⟩=some (.int .i64 fd):=hbx 4
     have x5:W2.cell? ⟨wr.heap.size,5,none⟩=some (.slice fA fs.len fc):=hbx 5
     clear hbx
     have HO2:=Sk hown2
     clear hown2
     have HK2:=Sk hk2
     clear hk2
     have fin:∀(Y2:World),J (pre++[⟨r.length+2,fk,fn',fm,fi,fd,fA,fs.len,fc⟩]) Y2→Keeps (fun k=>k=eb∨W.heap.size≤k∨k<n₀) W2 Y2 →
       Y2.ownsRow W.heap.size 42 1 (.slice (some ⟨g,0,none⟩) (r.length+1) cap) (r.length+1) (iI (⟨A2,c2,fr⟩::r))∧r.length+2≤1000 ∧
       (∀y∈(⟨fA,fc,fs⟩::⟨A2,c2,fr⟩::r:List Fr),y.f.Sl Y2 n₀ y.A y.c):=by
      intro Y2 hJ3 hk3
      have hcell:∀p:Addr,p.block<n₀→Y2.cell? p=wr.cell? p:=fun p hp =>
       (SN (hk3.block p.block (by omega) (.inr (.inr hp)))).trans (SN (HK2.out.block p.block (by omega) (by omega)))
      refine⟨?_,HW.out.2.2.1 _ _ hJ3 ⟨r.length+2,fk,fn',fm,fi,fd,fA,fs.len,fc⟩ (by simp),?_⟩
      ·refine hk3.ownsRow HO2.out fun g' hg'=>?_
       simp only[Value.ownBlock,TK]at hg'
       exact .inr (.inl (by omega))
      ·intro y hy
       rcases TI.1 hy with rfl|hy
       ·exact⟨HSS.out.1,HSS.out.2.1,fun hne=>by
         obtain⟨b',o',e,hb',h'⟩:=HSS.out.2.2.1 hne
         exact⟨b',o',e,hb',h'.keep (SA _) hcell hb'⟩⟩
       ·rcases TI.1 hy with rfl|hy
        ·refine⟨by show fr.len≤c2;omega,by show c2≤maxLen;unfold maxLen;omega,fun hne=>⟨b,o+6,H2.out.2.1 hne,hb,?_⟩⟩
         exact HSS.out.2.2.2.keep (SA _) hcell hb
        ·exact(HST.out y (Tc _ hy)).keep (SA _) hcell
     have FIN:=Sk fin
     clear fin
     have hW2:=H2.out.2.2
     have hA2:=H2.out.1
     by_cases hx1:c2=0
     ·subst hx1
      rw[TY rfl]at hA2
      subst hA2
      obtain rfl:fr=.nil:=by
       cases fr with
       | nil=>rfl
       | cons=>simp[Fo.len]at hl1
      simp only[Fo.len,Nat.zero_add]at hW2 htop hl1
      gi_wp2
      refine hR2.mono ?_
      rintro e Y2 (⟨rfl,hJ3,hk3⟩|⟨rfl,hJ3⟩)
      ·have y5':=hk3.cell (p:=⟨wr.heap.size,5,none⟩) (.inr (.inl hsz)) x5
       obtain⟨ho3,hl3,hs3⟩:=FIN.out Y2 hJ3 hk3
       have hz3:W.heap.size≤Y2.heap.size:=by have:=hk3.size;omega
       have hJ4:=HW.out.1 _ _ _ hJ3 ((Keeps.refl _ Y2).alloc (.cells #[.slice fA fs.len fc] 42))
       have HO3:=Sk (Sn ho3 (Sn hJ3 hs3))
       clear hk3 hJ3 hR2 hy2 hW2 x0 x1 x2 x3 x4 x5 f0 f1 f2 f3 f4 f5 htop htf hs3 ho3
       gi_wp2_with (gi_at_builtin;refine wpListIn_append_own _ rfl _ _ 188 rfl W.heap.size 42 i0 (.slice none 0 0) 1 24 Tryz.underlying188 hi hz0 hz1 hz2 rfl (by decide) _ _ _ rfl (HO3.out.1.alloc _) ⟨Y2.heap.size,0,none⟩ 1 1 [.slice fA fs.len fc] rfl rfl (cell_one_new _ _ _) (by simp[Value.oneCell']) (by unfold maxLen;omega) (by omega) (by simp;omega) ?_;intro v' w1 hown' hgrow _)
       refine nU HGK.out _ (zX HPR.out.2 (HW.out.1 _ _ _ hJ4 ((Keeps.refl _ _).grown hgrow (by rintro k hk;cases hk;dsimp only;omega))) hz3 hn' hgW hown' hgrow HO3.out.2.2 hl3) ?_
       rw[HPR.out.1]
       simp[wtT,Fo.count]
       omega
      ·gi_wp2
       refine Ua (results_none rfl _ _ _) rfl ?_
       exact⟨⟨_,rfl⟩,.inr ⟨_,HPX.out,hJ3⟩⟩
     ·rw[TW hx1]at hA2
      subst hA2
      gi_wp2
      refine hR2.mono ?_
      rintro e Y2 (⟨rfl,hJ3,hk3⟩|⟨rfl,hJ3⟩)
      ·have y5':=hk3.cell (p:=⟨wr.heap.size,5,none⟩) (.inr (.inl hsz)) x5
       obtain⟨ho3,hl3,hs3⟩:=FIN.out Y2 hJ3 hk3
       have hz3:W.heap.size≤Y2.heap.size:=by have:=hk3.size;omega
       have hJ4:=HW.out.1 _ _ _ hJ3 ((Keeps.refl _ Y2).alloc (.cells #[.slice fA fs.len fc] 42))
       have HO3:=Sk (Sn ho3 (Sn hJ3 hs3))
       clear hk3 hJ3 hR2 hy2 hW2 x0 x1 x2 x3 x4 x5 f0 f1 f2 f3 f4 f5 htop htf hs3 ho3
       gi_wp2_with (gi_at_builtin;refine wpListIn_append_own _ rfl _ _ 188 rfl W.heap.size 42 i0 (.slice none 0 0) 1 24 Tryz.underlying188 hi hz0 hz1 hz2 rfl (by decide) _ _ _ rfl (HO3.out.1.alloc _) ⟨Y2.heap.size,0,none⟩ 1 1 [.slice fA fs.len fc] rfl rfl (cell_one_new _ _ _) (by simp[Value.oneCell']) (by unfold maxLen;omega) (by omega) (by simp;omega) ?_;intro v' w1 hown' hgrow _)
       refine nU HGK.out _ (zX HPR.out.2 (HW.out.1 _ _ _ hJ4 ((Keeps.refl _ _).grown hgrow (by rintro k hk;cases hk;dsimp only;omega))) hz3 hn' hgW hown' hgrow HO3.out.2.2 hl3) ?_
       rw[HPR.out.1]
       simp[wtT,Fo.count]
       omega
      ·gi_wp2
       refine Ua (results_none rfl _ _ _) rfl ?_
       exact⟨⟨_,rfl⟩,.inr ⟨_,HPX.out,hJ3⟩⟩
end Go.Proofs.Q
namespace Go.Proofs.Q
open Go.RowKit Go.Proofs Go.Shelf
section
variable {P:Program} {w:World}
theorem jZ (base:Nat)(t ty e:TypeId)(i:TypeInfo)(size:Nat)(ht:P.underlying t=some (.slice e))(hi:P.info? e=some i)
  (v:Value)(n c:Nat)(xs:List Value)(hown:w.ownsRow base e size v n xs) :
  (Builtin.append_ #[t,t] ty #[v,.slice none 0 c]).run P w=.ok v w:=by
 rcases hown.2 with⟨rfl,rfl⟩|⟨g,cap,cur,rfl,_,_,hnc,_⟩
 ·simp[Builtin.append_,run_underlying ht,sizeOf,typeInfo,hi,Builtin.lenOf,Builtin.firstCells]
 ·simp[Builtin.append_,run_underlying ht,sizeOf,typeInfo,hi,Builtin.lenOf,Builtin.firstCells,hnc,storeCells]
theorem aC (w:World){ops:Array Oper}{rest:List Oper}{o:Oper}{a:Act}{Q:Exit→Act→World→Prop}(hgd:o.guard=none)(s x:Operand)(t:TypeId)
  (ho:o.op=.call { callee:=.builtin .append,args:=#[s,x],argTypes:=#[t,t] })
  (base:Nat)(e:TypeId)(i:TypeInfo)(z:Value)(size bytes:Nat)(ht:P.underlying t=some (.slice e))(hi:P.info? e=some i)(hz:i.zero=some z)
  (hsize:i.size=size)(hby:i.bytes=bytes)(hzs:z.cells.size=size)(hsz:0<size)
  (v:Value)(n:Nat)(xs:List Value)(hs:a.eval s=v)(hown:w.ownsRow base e size v n xs)
  (A:Option Addr)(m c:Nat)(news:List Value)(hx:a.eval x=.slice A m c)(hl:news.length=m*size)(hA:A=none→m=0)(hnews:∀ad,A=some ad→∀j u,news[j]?=some u→w.cell? (ad.add j)=some u)(h1:∀u∈news,u.oneCell'=true)
  (h63:n+m≤maxLen)(hbytes:(n+m)*bytes≤140737488355328)(hbase:base≤w.heap.size)
  (h:∀v' w',w'.ownsRow base e size v' (n+m) (xs++news)→w.grownBy w' v.ownBlock→wpList P ops Q rest (a.put o.dst v') w'):wpList P ops Q (o::rest) a w:=by
 cases A with
 | some ad=>exact wpList_append_own w hgd s x t ho base e i z size bytes ht hi hz hsize hby hzs hsz v n xs hs hown ad m c news hx hl (hnews ad rfl) h1 h63 hbytes hbase fun v' w' h2 h3 _=>h v' w' h2 h3
 | none =>
  obtain rfl:=hA rfl
  refine wpList_plain hgd fun K hK=>?_
  have hrun:=jZ (P:=P) (w:=w) base t o.type e i size ht hi v n c xs hown
  unfold Oper.wp
  simp[execOp,ho,resolve,invoke,builtin,hs,hx,hrun,Result.andThen]
  have hn:news=[]:=Tq.1 (by simpa using hl)
  subst hn
  exact hK _ _ (h v w (by simpa using hown) (World.grownBy.refl _ _))
end
namespace Fo
def cells:Fo→List Value
 | .nil=>[]
 | .cons k n m i d A c s r=>[.int .i64 k,.string n,.string m,.int .i64 i,.int .i64 d,.slice A s.len c]++r.cells
def gT (w:World)(B:Nat):Fo→Prop
 | .nil=>True
 | .cons _ _ _ _ _ A c s r=>s.Sl w B A c∧r.gT w B
def app:Fo→Fo→Fo
 | .nil,g=>g
 | .cons k n m i d A c s r,g=>.cons k n m i d A c s (r.app g)
def vis:Fo→List Nd
 | .nil=>[]
 | .cons k n m i d A c s r=>r.vis++⟨0,k,n,m,i,d,A,s.len,c⟩::s.vis
theorem mJ:∀f:Fo,f.cells.length=f.len*6
 | .nil=>rfl
 | .cons _ _ _ _ _ _ _ _ r=>by simp[cells,len,r.mJ];omega
theorem cells_one:∀f:Fo,∀u∈f.cells,u.oneCell'=true
 | .nil,u,h=>by simp[cells]at h
 | .cons _ _ _ _ _ _ _ _ r,u,h=>by
  simp only[cells,Td,TI,List.not_mem_nil,or_false]at h
  rcases h with (rfl|rfl|rfl|rfl|rfl|rfl)|h
  all_goals first|rfl|exact r.cells_one u h
theorem At.cells {w:World}{B:Nat}:∀{f:Fo}{b o:Nat},f.At w B b o→∀j u,f.cells[j]?=some u→w.cell? ⟨b,o+j,none⟩=some u
 | .nil,_,_,_,_,_,h=>by simp[Fo.cells]at h
 | .cons _ _ _ _ _ _ _ _ r,b,o,⟨h0,h1,h2,h3,h4,⟨h5,_⟩,hr⟩,j,u,h=>by
  simp only[Fo.cells]at h
  match j with
  | 0=>simpa using h0.trans (by simpa using h)
  | 1=>simpa using h1.trans (by simpa using h)
  | 2=>simpa using h2.trans (by simpa using h)
  | 3=>simpa using h3.trans (by simpa using h)
  | 4=>simpa using h4.trans (by simpa using h)
  | 5=>simpa using h5.trans (by simpa using h)
  | j+6 =>
   have:=At.cells hr j u (by simpa using h)
   rw[show o+(j+6)=o+6+j by omega]
   exact this
theorem At.subs {w:World}{B:Nat}:∀{f:Fo}{b o:Nat},f.At w B b o→f.gT w B
 | .nil,_,_,_=>trivial
 | .cons _ _ _ _ _ _ _ _ _,_,_,⟨_,_,_,_,_,⟨_,hc,hm,hs⟩,hr⟩=>⟨⟨hc,hm,hs⟩,At.subs hr⟩
theorem Sl.subs {w:World}{B:Nat}{A:Option Addr}{c:Nat}{f:Fo}(h:f.Sl w B A c):f.gT w B:=by
 cases f with
 | nil=>trivial
 | cons=>obtain⟨b,o,_,_,h⟩:=h.2.2 (by simp);exact h.subs
theorem gT.keep {w w':World}{B B':Nat}(hB:B≤B')(hk:∀p:Addr,p.block<B→w'.cell? p=w.cell? p):∀{f:Fo},f.gT w B→f.gT w' B'
 | .nil,_=>trivial
 | .cons _ _ _ _ _ _ _ _ _,⟨h1,h2⟩=>⟨h1.keep hB hk,gT.keep hB hk h2⟩
theorem gT.app {w:World}{B:Nat}{g:Fo}(hg:g.gT w B):∀{f:Fo},f.gT w B→(f.app g).gT w B
 | .nil,_=>hg
 | .cons _ _ _ _ _ _ _ _ _,⟨h1,h2⟩=>⟨h1,gT.app hg h2⟩
theorem gT.split {w:World}{B:Nat}{g:Fo}:∀{f:Fo},(f.app g).gT w B→f.gT w B∧g.gT w B
 | .nil,h=>⟨trivial,h⟩
 | .cons _ _ _ _ _ _ _ _ _,⟨h1,h2⟩=>⟨⟨h1,(gT.split h2).1⟩,(gT.split h2).2⟩
theorem qI (g:Fo):∀f:Fo,(f.app g).cells=f.cells++g.cells
 | .nil=>rfl
 | .cons _ _ _ _ _ _ _ _ r=>by simp[app,cells,qI g r]
theorem wI (g:Fo):∀f:Fo,(f.app g).len=f.len+g.len
 | .nil=>by simp[app,len]
 | .cons _ _ _ _ _ _ _ _ r=>by simp[app,len,wI g r];omega
theorem kR (g:Fo):∀f:Fo,(f.app g).count=f.count+g.count
 | .nil=>by simp[app,count]
 | .cons _ _ _ _ _ _ _ _ r=>by simp[app,count,kR g r];omega
theorem sw (g:Fo):∀f:Fo,(f.app g).vis=g.vis++f.vis
 | .nil=>by simp[app,vis]
 | .cons _ _ _ _ _ _ _ _ r=>by simp[app,vis,sw g r]
theorem qJ:∀f:Fo,f.len≤f.count
 | .nil=>by simp[len,count]
 | .cons _ _ _ _ _ _ _ _ r=>by have:=r.qJ;simp[len,count];omega
theorem snoc:∀f:Fo,f=.nil∨∃g k n m i d A c s,f=app g (.cons k n m i d A c s .nil)
 | .nil=>.inl rfl
 | .cons k n m i d A c s r=>by
  rcases r.snoc with rfl|⟨g,k',n',m',i',d',A',c',s',rfl⟩
  ·exact .inr ⟨.nil,k,n,m,i,d,A,c,s,rfl⟩
  ·exact .inr ⟨.cons k n m i d A c s g,k',n',m',i',d',A',c',s',rfl⟩
end Fo
theorem Tryz.Jq:(Tryz.prog.info? 44).map (fun i=>(i.zero,i.size,i.bytes))=some (some (.agg #[.int .i64 0,.string ⟨#[]⟩,.string ⟨#[]⟩,.int .i64 0,.int .i64 0,.slice none 0 0]),6,80):=by kernel_rfl
end Go.Proofs.Q
namespace Go.Proofs.Q
open Go.RowKit Go.Proofs Go.Shelf
def gU (l:List ByteArray)(s:ByteArray):Bool:=l.any fun v=>s.toList==v.toList
def qK (l:List ByteArray)(s:ByteArray):Int:=match l.findIdx? (fun v=>s.toList==v.toList)with|some j=>j|none=>-1
theorem LH {l:List ByteArray}{s v:ByteArray}{j:Nat}(hj:l[j]?=some v)(hv:(s.toList==v.toList)=true)(h:∀i,i<j→∀u,l[i]?=some u→(s.toList==u.toList)=false):qK l s=j:=by
 obtain⟨hlt,rfl⟩:=Sy.1 hj
 unfold qK
 rw[Ug.2 ⟨hlt,hv,fun i hi=>by simp[h i hi _ (Sw (by omega))]⟩]
theorem zY (l:List ByteArray)(s:ByteArray)(A:Option Addr)(c:Nat)(w:World)(hs:SlS w w.heap.size A c l) :
  Calls Tryz.prog 212 #[.slice A l.length c,.string s] w fun e w'=>e=.returned (.int .i64 (qK l s))∧w=w':=by
 have hc1:=hs.1
 have hc2:=hs.2.1
 unfold maxLen at hc2
 have HS:=Sk hs
 clear hs
 obtain⟨E,HE⟩:∃E,Hid (E=qK l s):=⟨_,rfl⟩
 rw[←HE.out]
 obtain⟨n,hn⟩:∃n,l.length=n:=⟨_,rfl⟩
 rw[hn]at hc1 ⊢
 go_enter Tryz.func212,Tryz.ntmps212
 go_wp2
 go_loopg [5,8] n (fun g _ ct wr=>∃j:Nat,g=n-j∧j≤n∧ct=.int .i64 j∧(∀i,i<j→∀v,l[i]?=some v→(s.toList==v.toList)=false)∧wr=w)
 case atStart=>exact⟨0,rfl,by omega,rfl,by intro i hi;omega,rfl⟩
 case round =>
  obtain⟨j,HG,hj,rfl,HA,rfl⟩:=hrel
  have HG':=Sk HG
  have HA':=Sk HA
  clear HG HA
  by_cases hlt:j<n
  ·have hjl:j<l.length:=by omega
   obtain⟨b,o,rfl,hb,hcell⟩:=HS.out.at_ hjl
   have hj2:=Sk (Sw hjl)
   generalize l[j]=v at hcell hj2
   clear hjl
   cases hv:s.toList==v.toList
   ·go_wp2
    go_roundg (n-(j+1))
    case measure=>rw[HG'.out];omega
    case rel =>
     refine⟨j+1,rfl,by omega,by go_num,fun i hi u hu=>?_,rfl⟩
     by_cases hij:i=j
     ·subst hij
      rw[hj2.out]at hu
      cases hu
      exact hv
     ·exact HA'.out i (by omega) u hu
   ·have HR:=Sk (HE.out.trans (LH hj2.out hv HA'.out))
    go_wp2
    go_ret
    exact⟨by rw[HR.out];rfl,rfl⟩
  ·obtain rfl:j=n:=by omega
   have HR:=Sk (show E=-1 by
    rw[HE.out]
    unfold qK
    rw[Uh.2 fun v hv=>by
     obtain⟨i,hi,rfl⟩:=List.getElem_of_mem hv
     exact HA'.out i (by omega) _ (Sw hi)])
   go_wp2
   go_ret
   exact⟨by rw[HR.out];rfl,rfl⟩
theorem Jr (l:List ByteArray)(s:ByteArray):decide (0≤qK l s)=gU l s:=by
 unfold qK gU
 cases h:l.findIdx? (fun v=>s.toList==v.toList)with
 | none =>
  have:=Uh.1 h
  symm
  simpa using this
 | some j =>
  obtain⟨hj,h1,_⟩:=Ug.1 h
  have:(l.any fun v=>s.toList==v.toList)=true:=TF.2 ⟨l[j],Ul hj,h1⟩
  rw[this]
  simp
theorem nE (l:List ByteArray)(s:ByteArray)(A:Option Addr)(c:Nat)(w:World)(hs:SlS w w.heap.size A c l) :
  Calls Tryz.prog 152 #[.slice A l.length c,.string s] w fun e w'=>e=.returned (.bool (gU l s))∧w=w':=by
 have H:=Jr l s
 obtain⟨E,HE⟩:∃E,Hid (qK l s=E):=⟨_,rfl⟩
 rw[HE.out]at H
 have HH:=Sk H.symm
 clear H
 rw[HH.out]
 go_enter Tryz.func152,Tryz.ntmps152
 go_wp2_with (go_at_call 212;refine(zY l s A c _ hs).mono ?_;rintro e w' ⟨rfl,rfl⟩;rw[HE.out])
 go_ret
 exact⟨rfl,rfl⟩
theorem Tryz.iD:(Tryz.prog.info? 9).map (fun i=>(i.zero,i.size,i.bytes))=some (some (.string ⟨#[]⟩),1,16):=by kernel_rfl
def Nk (l:List ByteArray)(w:World)(e:Ending)(w':World):Prop:=
 ∃v,e=.returned v∧w'.ownsRow w.heap.size 9 1 v l.length (l.map .string)∧Below w.heap.size w w'
theorem mK (l:List ByteArray)(A:Option Addr)(c:Nat)(w:World)(hs:SlS w w.heap.size A c l)(hA:A=none→c=0)(hl:l.length≤1000000) :
  Calls Tryz.prog 236 #[.slice A l.length c] w (Nk l w):=by
 obtain⟨i0,hi,hz0,hz1,hz2⟩:=info_parts Tryz.iD
 have hc1:=hs.1
 have q22:∀(w:World) (a:Option Addr) (n c n' c':Nat),(binOp .eql 22 (.slice a n c) (.slice none n' c')).run Tryz.prog w=.ok (.bool a.isNone) w:=fun w a n c n' c'=>Lib.run_eql_slice_nil w _ _ a n c n' c' Tryz.underlying22
 cases A with
 | none =>
  obtain rfl:=hA rfl
  have:l=[]:=Tq.1 (by omega)
  subst this
  go_enter Tryz.func236,Tryz.ntmps236
  go_wp2
  go_ret
  exact⟨_,rfl,TD _ _ _ _,TA _ _⟩
 | some ad =>
  have hnews:∀a',some ad=some a'→∀j u,(l.map Value.string)[j]?=some u→(w.alloc (.cells #[] 9)).cell? (a'.add j)=some u:=by
   intro a' e j u hu
   cases e
   rw[Tk]at hu
   obtain⟨s,hs1,rfl⟩:=Option.map_eq_some_iff.1 hu
   obtain⟨b,o,e,hb,hcell⟩:=hs.2.2 (by intro e;subst e;simp at hs1)
   cases e
   have:=(SQ w (.cells #[] 9) ⟨b,o+j,none⟩ hb).trans (hcell j s hs1)
   cases j <;> simpa [Addr.add]using this
  have HN:=Sk hnews
  clear hnews hs
  have hrow:=World.ownsRow_lit (base:=w.heap.size) (e:=9) (size:=1) w #[] 0 (SA _) (by simp) rfl
  have HW:=Sk hrow
  clear hrow
  go_enter Tryz.func236,Tryz.ntmps236
  go_wp2_with (at_builtin;refine aC _ rfl _ _ 22 rfl w.heap.size 9 i0 _ 1 16 Tryz.underlying22 hi hz0 hz1 hz2 rfl (by decide) _ 0 [] rfl HW.out (some ad) l.length c (l.map Value.string) rfl (by simp) (by simp) HN.out (by simp[Value.oneCell']) (by unfold maxLen;omega) (by omega) (by simp) ?_;intro v' w1 hown' hgrow)
  go_ret
  refine⟨_,rfl,?_,?_⟩
  ·simpa using hown'
  ·exact((TA _ _).alloc (SA _) _).trans (Keeps.dX ((Keeps.refl (fun k=>k<w.heap.size) _).grown hgrow (by rintro k hk;cases hk;simp)) (by simp) (by simp))
theorem uo:Maps.Keyed Tryz.prog 9:=Maps.string_keyed Tryz.underlying9
def aW (w:World)(b q:Nat)(fb:Bool):Prop:=∃n D,w.ownsMap (H:=Unit) Tryz.prog 9 (plainElem Tryz.prog 4) b n D∧n≤q∧Maps.IsMap D∧(Maps.size D=0↔fb=false)
theorem aW.lt {w:World}{b q:Nat}{fb:Bool}(h:aW w b q fb):b<w.heap.size:=by
 obtain⟨n,D,⟨es,cl,h,_⟩,_⟩:=h
 exact(Sz.1 h).1
theorem aW.keep {w w':World}{b q:Nat}{fb:Bool}(h:aW w b q fb)(e:w'.heap[b]?=w.heap[b]?):aW w' b q fb:=by
 obtain⟨n,D,⟨es,cl,h,r⟩,h2⟩:=h
 exact⟨n,D,⟨es,cl,e.trans h,r⟩,h2⟩
theorem aW.mono {w:World}{b q q':Nat}{fb:Bool}(h:aW w b q fb)(hq:q≤q'):aW w b q' fb:=by
 obtain⟨n,D,h,h2,h3⟩:=h
 exact⟨n,D,h,by omega,h3⟩
theorem aW.made (w:World):aW (w.alloc (.map #[] 0)) w.heap.size 0 false:=
 ⟨0,_,World.ownsMap_made _ _ _ _,SA _,⟨_,rfl⟩,by simp[Maps.size]⟩
theorem EF {H:Type}(p:Lit×DataW H):∀l:List (Lit×DataW H),(DataW.insert p l).length≠0
 | []=>by simp[DataW.insert]
 | _::_=>by simp only[DataW.insert];split <;> simp
def okN (k:Int)(n:ByteArray)(len:Nat):Prop:=(k=6→len=1)∧(k=8→len=2)∧(k=13→len=3)∧(k=3→n.size≤maxLen)
def Fo.Vld:Fo→Prop
 | .nil=>True
 | .cons k n _ _ _ _ _ s r=>okN k n s.len∧s.Vld∧r.Vld
def dG (k:Int)(n m:ByteArray)(j:Nat):List ByteArray:=
 if k=6 then [n]else if k=8∧j=1 then [n]else if k=13∧j=2 then [n,m]else []
def Fo.free:Fo→(Nat→List ByteArray)→Nat→Bool
 | .nil,_,_=>false
 | .cons k n m _ _ _ _ s r,bd,j=>(if k=3 then !gU (bd j) n else s.free (fun q=>bd j++dG k n m q) 0)||r.free bd (j+1)
def aB (k:Int)(n m:ByteArray)(s:Fo)(bd:List ByteArray):Bool:=
 if k=3 then !gU bd n else s.free (fun q=>bd++dG k n m q) 0
theorem Fo.kS (k:Int)(n m:ByteArray)(i d:Int)(A:Option Addr)(c:Nat)(s r:Fo)(bd:Nat→List ByteArray)(j:Nat):(Fo.cons k n m i d A c s r).free bd j=(aB k n m s (bd j)||r.free bd (j+1)):=rfl
def mM (s:Fo):Prop:=∀(k:Int)(n m:ByteArray)(i d:Int)(A:Option Addr)(c:Nat)(bd:List ByteArray)(B:Option Addr)(cB b q:Nat)(fb:Bool)(w:World),
  s.Sl w w.heap.size A c→okN k n s.len→s.Vld→SlS w w.heap.size B cB bd→(B=none→cB=0)→aW w b q fb→q+1+s.count≤1000000→bd.length+2*(1+s.count)≤1000000 →
  Calls Tryz.prog 175 #[.agg #[.int .i64 k,.string n,.string m,.int .i64 i,.int .i64 d,.slice A s.len c],.slice B bd.length cB,.map (some b)] w fun e w' =>
   (∃v,e=.returned v)∧aW w' b (q+1+s.count) (fb||aB k n m s bd)∧Keeps (fun k=>k≠b) w w'
end Go.Proofs.Q
