/- syntax.nodes: its iterator's contract -/
import Derived.Test.YtnfndgmlnoeelaaGreatDoorZla
import Derived.Test.YtnfndgmlnoeelaaGreatDoorZlb
import Derived.Test.YtnfndgmlnoeelaaGreatDoorProg
import Derived.Shelf.Abstract
import Derived.OwnWalkIn
import Derived.TacticsInMore
import Derived.LoopNIn
import Derived.LoopIn
import Derived.Deep.LoopGhost
import Derived.WalkSmall
import Derived.Maps.AppendAt
import Derived.Laws.AppendOwnNone
namespace Go.Proofs.YtnfndgmlnoeelaaGreatDoor
open Go.RowKit Go.Proofs Go.Shelf
attribute [local go_sem] Oper.semAt_some wide_fn wide_depth
structure Nd where
 dep : Nat
 k : Int
 n : ByteArray
 m : ByteArray
 i : Int
 d : Int
 A : Option Addr
 len : Nat
 c : Nat
def Nd.encs (x : Nd) : Array Value:=#[.int .i64 x.dep,.agg #[.int .i64 x.k,.string x.n,.string x.m,.int .i64 x.i,.int .i64 x.d,.slice x.A x.len x.c]]
def Fo.pre : Nat → Fo → List Nd
 | _,.nil => []
 | dp,.cons k n m i d A c s r => ⟨dp,k,n,m,i,d,A,s.len,c⟩ :: (s.pre (dp + 1) ++ r.pre dp)
structure Fr where
 A : Option Addr
 c : Nat
 f : Fo
def Fr.slv (x : Fr) : Value:=.slice x.A x.f.len x.c
def remT : List Fr → List Nd
 | [] => []
 | x :: r => x.f.pre (r.length + 2) ++ remT r
def wtT : List Fr → Nat
 | [] => 0
 | x :: r => 2 * x.f.count + 1 + wtT r
def cellsT (st : List Fr) : List Value:=st.reverse.map Fr.slv
theorem cellsT_cons (x : Fr) (r : List Fr) : cellsT (x :: r) = cellsT r ++ [x.slv]:=by simp [cellsT]
theorem cellsT_length (st : List Fr) : (cellsT st).length = st.length:=by simp [cellsT]
theorem cellsT_top (x : Fr) (r : List Fr) : (cellsT (x :: r))[r.length]? = some x.slv:=by
 rw [cellsT_cons,List.getElem?_append_right (by rw [cellsT_length];exact Nat.le_refl _),cellsT_length]
 simp
theorem cellsT_set (x y : Fr) (r : List Fr) : (cellsT (x :: r)).set r.length y.slv = cellsT (y :: r):=by
 rw [cellsT_cons,cellsT_cons,List.set_append_right _ _ (by rw [cellsT_length];exact Nat.le_refl _),cellsT_length]
 simp
theorem Tryz.infoExprs : (Tryz.prog.info? 33).map (fun i => (i.zero,i.size,i.bytes)) = some (some (.slice none 0 0),1,24):=by kernel_rfl
def StR (xs : List Nd) (J : List Nd → World → Prop) (B n₀ : Nat) (g : Nat) (v : Value) (wr : World) : Prop:=
 ∃ (st : List Fr) (pre : List Nd),g = wtT st ∧ pre ++ remT st = xs ∧ J pre wr ∧ B ≤ wr.heap.size ∧ wr.ownsRow B 33 1 v st.length (cellsT st) ∧ (∀ x ∈ st,x.f.Sl wr n₀ x.A x.c) ∧ st.length ≤ 1001
theorem least_round {R : Nat → Value → World → Prop} {v v' : Value} {w w' : World} {gk : Nat} (hgk : leastOf (fun g => R g v w) = gk) (g' : Nat) (hR : R g' v' w') (hlt : g' < gk) :
  (∃ g,R g v' w') ∧ leastOf (fun g => R g v' w') < leastOf (fun g => R g v w):=
 ⟨⟨g',hR⟩,by rw [hgk];exact Nat.lt_of_le_of_lt ((leastOf_spec ⟨g',hR⟩).2 g' hR) hlt⟩
theorem stR_next {xs : List Nd} {J : List Nd → World → Prop} {B n₀ g cap : Nat} {pre : List Nd} {xA A2 fA : Option Addr} {xc c2 fc : Nat} {fk fi fd : Int} {fn fm : ByteArray} {fs fr : Fo} {r : List Fr} {Y2 w1 : World} {v' : Value} {o : Obj}
  (hpr : pre ++ remT (⟨xA,xc,.cons fk fn fm fi fd fA fc fs fr⟩ :: r) = xs) (hJ : J (pre ++ [⟨r.length + 2,fk,fn,fm,fi,fd,fA,fs.len,fc⟩]) w1) (hz : B ≤ Y2.heap.size) (hn : n₀ ≤ B) (hg : B ≤ g)
  (hown : w1.ownsRow B 33 1 v' (r.length + 1 + 1) (cellsT (⟨A2,c2,fr⟩ :: r) ++ [.slice fA fs.len fc])) (hgrow : (Y2.alloc o).grownBy w1 (Value.slice (some ⟨g,0,none⟩) (r.length + 1) cap).ownBlock)
  (hs : ∀ y ∈ (⟨fA,fc,fs⟩ :: ⟨A2,c2,fr⟩ :: r : List Fr),y.f.Sl Y2 n₀ y.A y.c) (hl : r.length + 2 ≤ 1000) : StR xs J B n₀ (wtT (⟨fA,fc,fs⟩ :: ⟨A2,c2,fr⟩ :: r)) v' w1:=by
 have hsz:=hgrow.size
 simp only [World.size_alloc] at hsz
 refine ⟨⟨fA,fc,fs⟩ :: ⟨A2,c2,fr⟩ :: r,_,rfl,?_,hJ,by omega,?_,fun y hy => ?_,by simp;omega⟩
 ·rw [← hpr];simp [remT,Fo.pre]
 ·rw [cellsT_cons];exact hown
 ·refine (hs y hy).keep (Nat.le_refl _) fun p hp => ?_
  rw [World.cell?_of_block (hgrow.block p.block (by simp;omega) (by simp [Value.ownBlock];omega))]
  exact World.cell?_alloc_lt Y2 _ p (by omega)
set_option maxRecDepth 100000 in
set_option maxHeartbeats 2000000 in
theorem nodes1_iter (eb n₀ : Nat) (k : Int) (n m : ByteArray) (i d : Int) (A : Option Addr) (c : Nat) (s : Fo) (w : World)
  (h0 : w.cell? ⟨eb,0,none⟩ = some (.int .i64 k)) (h1 : w.cell? ⟨eb,1,none⟩ = some (.string n)) (h2 : w.cell? ⟨eb,2,none⟩ = some (.string m)) (h3 : w.cell? ⟨eb,3,none⟩ = some (.int .i64 i))
  (h4 : w.cell? ⟨eb,4,none⟩ = some (.int .i64 d)) (h5 : w.cell? ⟨eb,5,none⟩ = some (.slice A s.len c)) (hs : s.Sl w n₀ A c) (hn : n₀ ≤ w.heap.size) :
  Iter Tryz.prog 169 #[.pointer (some ⟨eb,0,none⟩)] Nd.encs (fun k => k = eb) n₀ (fun pre => ∀ x ∈ pre,x.dep ≤ 1000) (⟨1,k,n,m,i,d,A,s.len,c⟩ :: s.pre 2) w:=by
 obtain ⟨i0,hi,hz0,hz1,hz2⟩:=info_parts Tryz.infoExprs
 intro l J Jx W hW hJ hJx hlim hY hJ0
 have hebl : eb < W.heap.size:=Nat.lt_of_lt_of_le (World.block_lt_of_cell? w ⟨eb,0,none⟩ h0) hW.size
 have k0:=hW.cell (p:=⟨eb,0,none⟩) trivial h0
 have k1:=hW.cell (p:=⟨eb,1,none⟩) trivial h1
 have k2:=hW.cell (p:=⟨eb,2,none⟩) trivial h2
 have k3:=hW.cell (p:=⟨eb,3,none⟩) trivial h3
 have k4:=hW.cell (p:=⟨eb,4,none⟩) trivial h4
 have k5:=hW.cell (p:=⟨eb,5,none⟩) trivial h5
 have hs':=Lib.hid (hs.keep (Nat.le_refl _) fun p hp => World.cell?_of_block (hW.block p.block (by omega) trivial) : s.Sl W n₀ A c)
 have hn' : n₀ ≤ W.heap.size:=Nat.le_trans hn hW.size
 obtain ⟨fn,tmps,assign,body,hy,hR⟩:=hY [] ⟨1,k,n,m,i,d,A,s.len,c⟩ W ⟨s.pre 2,rfl⟩ hJ0 (Nat.le_refl _)
 have HW:=Lib.hid (And.intro hJ (And.intro hJx (And.intro hlim hY)))
 change Sem.run Tryz.prog (Instr.yield l #[.int .i64 1,.agg #[.int .i64 k,.string n,.string m,.int .i64 i,.int .i64 d,.slice A s.len c]]) W = _ at hy
 clear hJ hJx hY h0 h1 h2 h3 h4 h5 hs hn hlim
 refine callsIn_of_wp Tryz.func169 rfl trivial ?_ rfl
 simp only [Tryz.ntmps169,List.size_toArray,List.length_cons,List.length_nil,Nat.reduceAdd,Nat.reduceSub,Array.replicate_succ,Array.replicate_zero,List.push_toArray,List.append_toArray,List.nil_append,List.cons_append]
 gi_wp2
 refine hR.mono ?_
 rintro e Y (⟨rfl,hJ',hk⟩ | ⟨rfl,hJ'⟩)
 rotate_left
 ·gi_wp2
  refine bodyPost_ret (results_none rfl _ _ _) rfl ?_
  exact ⟨⟨_,rfl⟩,.inr ⟨_,⟨s.pre 2,rfl⟩,hJ'⟩⟩
 ·have y5:=hk.cell (p:=⟨eb,5,none⟩) (.inl rfl) k5
  have hyz:=hk.size
  have hsY:=Lib.hid (hs'.out.keep (Nat.le_refl _) fun p hp => World.cell?_of_block (hk.block p.block (by omega) (.inr (.inr hp))) : s.Sl Y n₀ A c)
  clear k0 k1 k2 k3 k4 k5 hy hR hk hs'
  gi_wp2
  gi_loopw [3] (fun v wr => ∃ g,StR (⟨1,k,n,m,i,d,A,s.len,c⟩ :: s.pre 2) J W.heap.size n₀ g v wr)
   (fun v wr => leastOf fun g => StR (⟨1,k,n,m,i,d,A,s.len,c⟩ :: s.pre 2) J W.heap.size n₀ g v wr)
  case atStart =>
   refine ⟨_,[⟨A,c,s⟩],[⟨1,k,n,m,i,d,A,s.len,c⟩],rfl,by simp [remT],HW.out.1 _ _ _ hJ' ((Keeps.refl _ _).alloc _),by simp;omega,?_,?_,by simp⟩
   ·exact World.ownsRow_lit Y #[.slice A s.len c] 1 hyz (by simp [maxLen]) rfl
   ·intro x hx
    simp only [List.mem_singleton] at hx
    subst hx
    exact hsY.out.keep (Nat.le_refl _) fun p hp => World.cell?_alloc_lt Y _ p (by omega)
  case round =>
   obtain ⟨gk,HGK⟩ : ∃ gk,Hid (leastOf (fun g => StR (⟨1,k,n,m,i,d,A,s.len,c⟩ :: s.pre 2) J W.heap.size n₀ g u3 wr) = gk):=⟨_,rfl⟩
   have hspec:=(leastOf_spec hrel).1
   rw [HGK.out] at hspec
   clear hrel
   obtain ⟨st,pre,hg,hpr,hJp,hsz,hown,hst,hlen⟩:=hspec
   have HPR:=Lib.hid (And.intro hg hpr)
   clear hg hpr
   have HST:=Lib.hid hst
   clear hst
   cases st with
   | nil =>
    have HF:=Lib.hid (show pre = (⟨1,k,n,m,i,d,A,s.len,c⟩ :: s.pre 2 : List Nd) by rw [← HPR.out.2];simp [remT])
    obtain ⟨o3,c3,rfl⟩ : ∃ (o3 : Option Addr) (c3 : Nat),u3 = .slice o3 0 c3:=by
     rcases hown.2 with ⟨rfl,_⟩ | ⟨g',cap',cur,rfl,_⟩
     ·exact ⟨_,_,rfl⟩
     ·exact ⟨_,_,rfl⟩
    clear hown HST
    gi_wp2
    go_end0
    exact ⟨⟨_,rfl⟩,.inl (by rw [← HF.out];exact hJp)⟩
   | cons x r =>
    obtain ⟨g,cap,rfl⟩:=ownsRow_succ hown
    have hcap : r.length + 1 ≤ cap:=by
     rcases hown.2 with ⟨h,_⟩ | ⟨g',cap',cur,h,_,_,hle,_⟩
     ·cases h
     ·cases h;exact hle
    have hrl : r.length ≤ 1000:=by simpa using hlen
    have htop : wr.cell? ⟨g,r.length,none⟩ = some x.slv:=(hown.cellAt r.length (by simp)).trans (cellsT_top x r)
    have htf : wr.frozen? ⟨g,r.length,none⟩ = false:=hown.frozenAt r.length
    have HOWN:=Lib.hid hown
    clear hown hlen
    obtain ⟨xA,xc,xf⟩:=x
    cases xf with
    | nil =>
     simp only [Fr.slv,Fo.len] at htop
     gi_wp2
     refine least_round HGK.out (wtT r) ⟨r,pre,rfl,?_,hJp,hsz,?_,fun y hy => HST.out y (List.mem_cons_of_mem _ hy),by omega⟩ ?_
     ·rw [← HPR.out.2];simp [remT,Fo.pre]
     ·have:=HOWN.out
      rw [cellsT_cons] at this
      exact ownsRow_pop (by rw [cellsT_length];simp) this
     ·rw [HPR.out.1];simp [wtT]
    | cons fk fn' fm fi fd fA fc fs fr =>
     obtain ⟨hl1,hl2,hl3⟩:=HST.out ⟨xA,xc,.cons fk fn' fm fi fd fA fc fs fr⟩ (List.mem_cons_self ..)
     obtain ⟨b,o,rfl,hb,f0,f1,f2,f3,f4,⟨f5,hc',hm',hs'⟩,hr'⟩:=hl3 (by simp)
     simp only [Fr.slv,Fo.len] at htop
     simp only [Fo.len] at hl1
     change xc ≤ maxLen at hl2
     unfold maxLen at hl2
     obtain ⟨c2,rfl⟩ : ∃ c2,xc = c2 + 1:=⟨xc - 1,by omega⟩
     have HSS:=Lib.hid (And.intro hc' (And.intro hm' (And.intro hs' hr')))
     clear hc' hm' hs' hr' hl3
     have hgl : g < wr.heap.size:=World.block_lt_of_cell? wr ⟨g,r.length,none⟩ htop
     have hgW : W.heap.size ≤ g:=(HOWN.out.lt g rfl).1
     have hbl : b < wr.heap.size:=by omega
     have hbg : b ≠ g:=by omega
     obtain ⟨A2,hA2,hrr⟩ : ∃ A2 : Option Addr,(if c2 = 0 then some (⟨b,o,none⟩ : Addr) else some ⟨b,o + 6,none⟩) = A2 ∧ (fr ≠ .nil → A2 = some ⟨b,o + 6,none⟩):=by
      refine ⟨_,rfl,fun hne => ?_⟩
      have : fr.len ≠ 0:=by cases fr <;> simp [Fo.len] at hne ⊢
      rw [if_neg (by omega)]
     obtain ⟨W2,hW2⟩ : ∃ W2,(wr.setCell ⟨g,r.length,none⟩ (.slice A2 fr.len c2)).alloc (.cells #[.int .i64 fk,.string fn',.string fm,.int .i64 fi,.int .i64 fd,.slice fA fs.len fc] 60) = W2:=⟨_,rfl⟩
     have hk2 : Keeps (fun k => k ≠ g) wr W2:=by rw [← hW2];exact ((Keeps.refl _ wr).setCell (by simp) _).alloc _
     have hJ2 : J pre W2:=HW.out.1 _ _ _ hJp (hk2.mono fun k hk => by omega)
     have HPX : Hid (pre ++ [⟨r.length + 2,fk,fn',fm,fi,fd,fA,fs.len,fc⟩] <+: (⟨1,k,n,m,i,d,A,s.len,c⟩ :: s.pre 2 : List Nd)):=by
      show _ <+: _
      rw [← HPR.out.2]
      exact ⟨fs.pre (r.length + 3) ++ fr.pre (r.length + 2) ++ remT r,by simp [remT,Fo.pre]⟩
     obtain ⟨fn2,tmps2,assign2,body2,hy2,hR2⟩:=HW.out.2.2.2 pre ⟨r.length + 2,fk,fn',fm,fi,fd,fA,fs.len,fc⟩ W2 HPX.out hJ2 (Nat.le_trans hsz hk2.size)
     have e2 : ((r.length + 2 : Nat) : Int) = (r.length : Int) + 1 + 1:=by omega
     simp only [Nd.encs] at hy2
     rw [e2] at hy2
     clear e2
     have H2:=Lib.hid (And.intro hA2 (And.intro hrr hW2))
     clear hA2 hrr hW2
     have hown2 : W2.ownsRow W.heap.size 33 1 (.slice (some ⟨g,0,none⟩) (r.length + 1) cap) (r.length + 1) (cellsT (⟨A2,c2,fr⟩ :: r)):=by
      rw [← H2.out.2.2,← cellsT_set ⟨some ⟨b,o,none⟩,c2 + 1,.cons fk fn' fm fi fd fA fc fs fr⟩ ⟨A2,c2,fr⟩ r]
      exact (HOWN.out.stored r.length _).1.alloc _
     have hwz : wr.heap.size < W2.heap.size:=by rw [← H2.out.2.2];simp [World.setCell]
     have hbx : ∀ j,W2.cell? ⟨wr.heap.size,j,none⟩ = (#[.int .i64 fk,.string fn',.string fm,.int .i64 fi,.int .i64 fd,.slice fA fs.len fc] : Array Value)[j]?:=by
      intro j
      have e : (wr.setCell ⟨g,r.length,none⟩ (.slice A2 fr.len c2)).heap.size = wr.heap.size:=by simp [World.setCell]
      have h:=World.alloc_heap_new (wr.setCell ⟨g,r.length,none⟩ (.slice A2 fr.len c2)) (.cells #[.int .i64 fk,.string fn',.string fm,.int .i64 fi,.int .i64 fd,.slice fA fs.len fc] 60)
      rw [e,H2.out.2.2] at h
      exact cell_of_row W2 wr.heap.size j _ _ (0,0) h
     have x0 : W2.cell? ⟨wr.heap.size,0,none⟩ = some (.int .i64 fk):=hbx 0
     have x1 : W2.cell? ⟨wr.heap.size,1,none⟩ = some (.string fn'):=hbx 1
     have x2 : W2.cell? ⟨wr.heap.size,2,none⟩ = some (.string fm):=hbx 2
     have x3 : W2.cell? ⟨wr.heap.size,3,none⟩ = some (.int .i64 fi):=hbx 3
     have x4 : W2.cell? ⟨wr.heap.size,4,none⟩ = some (.int .i64 fd):=hbx 4
     have x5 : W2.cell? ⟨wr.heap.size,5,none⟩ = some (.slice fA fs.len fc):=hbx 5
     clear hbx
     have HO2:=Lib.hid hown2
     clear hown2
     have HK2:=Lib.hid hk2
     clear hk2
     have fin : ∀ (Y2 : World),J (pre ++ [⟨r.length + 2,fk,fn',fm,fi,fd,fA,fs.len,fc⟩]) Y2 → Keeps (fun k => k = eb ∨ W.heap.size ≤ k ∨ k < n₀) W2 Y2 →
       Y2.ownsRow W.heap.size 33 1 (.slice (some ⟨g,0,none⟩) (r.length + 1) cap) (r.length + 1) (cellsT (⟨A2,c2,fr⟩ :: r)) ∧ r.length + 2 ≤ 1000 ∧
       (∀ y ∈ (⟨fA,fc,fs⟩ :: ⟨A2,c2,fr⟩ :: r : List Fr),y.f.Sl Y2 n₀ y.A y.c):=by
      intro Y2 hJ3 hk3
      have hcell : ∀ p : Addr,p.block < n₀ → Y2.cell? p = wr.cell? p:=fun p hp =>
       (World.cell?_of_block (hk3.block p.block (by omega) (.inr (.inr hp)))).trans (World.cell?_of_block (HK2.out.block p.block (by omega) (by omega)))
      refine ⟨?_,HW.out.2.2.1 _ _ hJ3 ⟨r.length + 2,fk,fn',fm,fi,fd,fA,fs.len,fc⟩ (by simp),?_⟩
      ·refine hk3.ownsRow HO2.out fun g' hg' => ?_
       simp only [Value.ownBlock,Option.some.injEq] at hg'
       exact .inr (.inl (by omega))
      ·intro y hy
       rcases List.mem_cons.1 hy with rfl | hy
       ·exact ⟨HSS.out.1,HSS.out.2.1,fun hne => by
         obtain ⟨b',o',e,hb',h'⟩:=HSS.out.2.2.1 hne
         exact ⟨b',o',e,hb',h'.keep (Nat.le_refl _) hcell hb'⟩⟩
       ·rcases List.mem_cons.1 hy with rfl | hy
        ·refine ⟨by show fr.len ≤ c2;omega,by show c2 ≤ maxLen;unfold maxLen;omega,fun hne => ⟨b,o + 6,H2.out.2.1 hne,hb,?_⟩⟩
         exact HSS.out.2.2.2.keep (Nat.le_refl _) hcell hb
        ·exact (HST.out y (List.mem_cons_of_mem _ hy)).keep (Nat.le_refl _) hcell
     have FIN:=Lib.hid fin
     clear fin
     have hW2:=H2.out.2.2
     have hA2:=H2.out.1
     by_cases hx1 : c2 = 0
     ·subst hx1
      rw [if_pos rfl] at hA2
      subst hA2
      obtain rfl : fr = .nil:=by
       cases fr with
       | nil => rfl
       | cons => simp [Fo.len] at hl1
      simp only [Fo.len,Nat.zero_add] at hW2 htop hl1
      gi_wp2
      refine hR2.mono ?_
      rintro e Y2 (⟨rfl,hJ3,hk3⟩ | ⟨rfl,hJ3⟩)
      ·have y5':=hk3.cell (p:=⟨wr.heap.size,5,none⟩) (.inr (.inl hsz)) x5
       obtain ⟨ho3,hl3,hs3⟩:=FIN.out Y2 hJ3 hk3
       have hz3 : W.heap.size ≤ Y2.heap.size:=by have:=hk3.size;omega
       have hJ4:=HW.out.1 _ _ _ hJ3 ((Keeps.refl _ Y2).alloc (.cells #[.slice fA fs.len fc] 33))
       have HO3:=Lib.hid (And.intro ho3 (And.intro hJ3 hs3))
       clear hk3 hJ3 hR2 hy2 hW2 x0 x1 x2 x3 x4 x5 f0 f1 f2 f3 f4 f5 htop htf hs3 ho3
       gi_wp2_with (gi_at_builtin;refine wpListIn_append_own _ rfl _ _ 238 rfl W.heap.size 33 i0 (.slice none 0 0) 1 24 Tryz.underlying238 hi hz0 hz1 hz2 rfl (by decide) _ _ _ rfl (HO3.out.1.alloc _) ⟨Y2.heap.size,0,none⟩ 1 1 [.slice fA fs.len fc] rfl rfl (cell_one_new _ _ _) (by simp [Value.oneCell']) (by unfold maxLen;omega) (by omega) (by simp;omega) ?_;intro v' w1 hown' hgrow _)
       refine least_round HGK.out _ (stR_next HPR.out.2 (HW.out.1 _ _ _ hJ4 ((Keeps.refl _ _).grown hgrow (by rintro k hk;cases hk;dsimp only;omega))) hz3 hn' hgW hown' hgrow HO3.out.2.2 hl3) ?_
       rw [HPR.out.1]
       simp [wtT,Fo.count]
       omega
      ·gi_wp2
       refine bodyPost_ret (results_none rfl _ _ _) rfl ?_
       exact ⟨⟨_,rfl⟩,.inr ⟨_,HPX.out,hJ3⟩⟩
     ·rw [if_neg hx1] at hA2
      subst hA2
      gi_wp2
      refine hR2.mono ?_
      rintro e Y2 (⟨rfl,hJ3,hk3⟩ | ⟨rfl,hJ3⟩)
      ·have y5':=hk3.cell (p:=⟨wr.heap.size,5,none⟩) (.inr (.inl hsz)) x5
       obtain ⟨ho3,hl3,hs3⟩:=FIN.out Y2 hJ3 hk3
       have hz3 : W.heap.size ≤ Y2.heap.size:=by have:=hk3.size;omega
       have hJ4:=HW.out.1 _ _ _ hJ3 ((Keeps.refl _ Y2).alloc (.cells #[.slice fA fs.len fc] 33))
       have HO3:=Lib.hid (And.intro ho3 (And.intro hJ3 hs3))
       clear hk3 hJ3 hR2 hy2 hW2 x0 x1 x2 x3 x4 x5 f0 f1 f2 f3 f4 f5 htop htf hs3 ho3
       gi_wp2_with (gi_at_builtin;refine wpListIn_append_own _ rfl _ _ 238 rfl W.heap.size 33 i0 (.slice none 0 0) 1 24 Tryz.underlying238 hi hz0 hz1 hz2 rfl (by decide) _ _ _ rfl (HO3.out.1.alloc _) ⟨Y2.heap.size,0,none⟩ 1 1 [.slice fA fs.len fc] rfl rfl (cell_one_new _ _ _) (by simp [Value.oneCell']) (by unfold maxLen;omega) (by omega) (by simp;omega) ?_;intro v' w1 hown' hgrow _)
       refine least_round HGK.out _ (stR_next HPR.out.2 (HW.out.1 _ _ _ hJ4 ((Keeps.refl _ _).grown hgrow (by rintro k hk;cases hk;dsimp only;omega))) hz3 hn' hgW hown' hgrow HO3.out.2.2 hl3) ?_
       rw [HPR.out.1]
       simp [wtT,Fo.count]
       omega
      ·gi_wp2
       refine bodyPost_ret (results_none rfl _ _ _) rfl ?_
       exact ⟨⟨_,rfl⟩,.inr ⟨_,HPX.out,hJ3⟩⟩
end Go.Proofs.YtnfndgmlnoeelaaGreatDoor
/- bind.visit: forests as stacks, and the law of a visit -/
namespace Go.Proofs.YtnfndgmlnoeelaaGreatDoor
open Go.RowKit Go.Proofs Go.Shelf
section
variable {P : Program} {w : World}
theorem run_append_owned_no (base : Nat) (t ty e : TypeId) (i : TypeInfo) (size : Nat) (ht : P.underlying t = some (.slice e)) (hi : P.info? e = some i)
  (v : Value) (n c : Nat) (xs : List Value) (hown : w.ownsRow base e size v n xs) :
  (Builtin.append_ #[t,t] ty #[v,.slice none 0 c]).run P w = .ok v w:=by
 rcases hown.2 with ⟨rfl,rfl⟩ | ⟨g,cap,cur,rfl,_,_,hnc,_⟩
 ·simp [Builtin.append_,run_underlying ht,sizeOf,typeInfo,hi,Builtin.lenOf,Builtin.firstCells]
 ·simp [Builtin.append_,run_underlying ht,sizeOf,typeInfo,hi,Builtin.lenOf,Builtin.firstCells,hnc,storeCells]
theorem wpList_append_own_any (w : World) {ops : Array Oper} {rest : List Oper} {o : Oper} {a : Act} {Q : Exit → Act → World → Prop} (hgd : o.guard = none) (s x : Operand) (t : TypeId)
  (ho : o.op = .call { callee:=.builtin .append,args:=#[s,x],argTypes:=#[t,t] })
  (base : Nat) (e : TypeId) (i : TypeInfo) (z : Value) (size bytes : Nat) (ht : P.underlying t = some (.slice e)) (hi : P.info? e = some i) (hz : i.zero = some z)
  (hsize : i.size = size) (hby : i.bytes = bytes) (hzs : z.cells.size = size) (hsz : 0 < size)
  (v : Value) (n : Nat) (xs : List Value) (hs : a.eval s = v) (hown : w.ownsRow base e size v n xs)
  (A : Option Addr) (m c : Nat) (news : List Value) (hx : a.eval x = .slice A m c) (hl : news.length = m * size) (hA : A = none → m = 0) (hnews : ∀ ad,A = some ad → ∀ j u,news[j]? = some u → w.cell? (ad.add j) = some u) (h1 : ∀ u ∈ news,u.oneCell' = true)
  (h63 : n + m ≤ maxLen) (hbytes : (n + m) * bytes ≤ 140737488355328) (hbase : base ≤ w.heap.size)
  (h : ∀ v' w',w'.ownsRow base e size v' (n + m) (xs ++ news) → w.grownBy w' v.ownBlock → wpList P ops Q rest (a.put o.dst v') w') : wpList P ops Q (o :: rest) a w:=by
 cases A with
 | some ad => exact wpList_append_own w hgd s x t ho base e i z size bytes ht hi hz hsize hby hzs hsz v n xs hs hown ad m c news hx hl (hnews ad rfl) h1 h63 hbytes hbase fun v' w' h2 h3 _ => h v' w' h2 h3
 | none =>
  obtain rfl:=hA rfl
  refine wpList_plain hgd fun K hK => ?_
  have hrun:=run_append_owned_no (P:=P) (w:=w) base t o.type e i size ht hi v n c xs hown
  unfold Oper.wp
  simp [execOp,ho,resolve,invoke,builtin,hs,hx,hrun,Result.andThen]
  have hn : news = []:=List.length_eq_zero_iff.1 (by simpa using hl)
  subst hn
  exact hK _ _ (h v w (by simpa using hown) (World.grownBy.refl _ _))
end
namespace Fo
def cells : Fo → List Value
 | .nil => []
 | .cons k n m i d A c s r => [.int .i64 k,.string n,.string m,.int .i64 i,.int .i64 d,.slice A s.len c] ++ r.cells
def Subs (w : World) (B : Nat) : Fo → Prop
 | .nil => True
 | .cons _ _ _ _ _ A c s r => s.Sl w B A c ∧ r.Subs w B
def app : Fo → Fo → Fo
 | .nil,g => g
 | .cons k n m i d A c s r,g => .cons k n m i d A c s (r.app g)
def vis : Fo → List Nd
 | .nil => []
 | .cons k n m i d A c s r => r.vis ++ ⟨0,k,n,m,i,d,A,s.len,c⟩ :: s.vis
theorem cells_length : ∀ f : Fo,f.cells.length = f.len * 6
 | .nil => rfl
 | .cons _ _ _ _ _ _ _ _ r => by simp [cells,len,r.cells_length];omega
theorem cells_one : ∀ f : Fo,∀ u ∈ f.cells,u.oneCell' = true
 | .nil,u,h => by simp [cells] at h
 | .cons _ _ _ _ _ _ _ _ r,u,h => by
  simp only [cells,List.mem_append,List.mem_cons,List.not_mem_nil,or_false] at h
  rcases h with (rfl | rfl | rfl | rfl | rfl | rfl) | h
  all_goals first | rfl | exact r.cells_one u h
theorem At.cells {w : World} {B : Nat} : ∀ {f : Fo} {b o : Nat},f.At w B b o → ∀ j u,f.cells[j]? = some u → w.cell? ⟨b,o + j,none⟩ = some u
 | .nil,_,_,_,_,_,h => by simp [Fo.cells] at h
 | .cons _ _ _ _ _ _ _ _ r,b,o,⟨h0,h1,h2,h3,h4,⟨h5,_⟩,hr⟩,j,u,h => by
  simp only [Fo.cells] at h
  match j with
  | 0 => simpa using h0.trans (by simpa using h)
  | 1 => simpa using h1.trans (by simpa using h)
  | 2 => simpa using h2.trans (by simpa using h)
  | 3 => simpa using h3.trans (by simpa using h)
  | 4 => simpa using h4.trans (by simpa using h)
  | 5 => simpa using h5.trans (by simpa using h)
  | j + 6 =>
   have:=At.cells hr j u (by simpa using h)
   rw [show o + (j + 6) = o + 6 + j by omega]
   exact this
theorem At.subs {w : World} {B : Nat} : ∀ {f : Fo} {b o : Nat},f.At w B b o → f.Subs w B
 | .nil,_,_,_ => trivial
 | .cons _ _ _ _ _ _ _ _ _,_,_,⟨_,_,_,_,_,⟨_,hc,hm,hs⟩,hr⟩ => ⟨⟨hc,hm,hs⟩,At.subs hr⟩
theorem Sl.subs {w : World} {B : Nat} {A : Option Addr} {c : Nat} {f : Fo} (h : f.Sl w B A c) : f.Subs w B:=by
 cases f with
 | nil => trivial
 | cons => obtain ⟨b,o,_,_,h⟩:=h.2.2 (by simp);exact h.subs
theorem Subs.keep {w w' : World} {B B' : Nat} (hB : B ≤ B') (hk : ∀ p : Addr,p.block < B → w'.cell? p = w.cell? p) : ∀ {f : Fo},f.Subs w B → f.Subs w' B'
 | .nil,_ => trivial
 | .cons _ _ _ _ _ _ _ _ _,⟨h1,h2⟩ => ⟨h1.keep hB hk,Subs.keep hB hk h2⟩
theorem Subs.app {w : World} {B : Nat} {g : Fo} (hg : g.Subs w B) : ∀ {f : Fo},f.Subs w B → (f.app g).Subs w B
 | .nil,_ => hg
 | .cons _ _ _ _ _ _ _ _ _,⟨h1,h2⟩ => ⟨h1,Subs.app hg h2⟩
theorem Subs.split {w : World} {B : Nat} {g : Fo} : ∀ {f : Fo},(f.app g).Subs w B → f.Subs w B ∧ g.Subs w B
 | .nil,h => ⟨trivial,h⟩
 | .cons _ _ _ _ _ _ _ _ _,⟨h1,h2⟩ => ⟨⟨h1,(Subs.split h2).1⟩,(Subs.split h2).2⟩
theorem cells_app (g : Fo) : ∀ f : Fo,(f.app g).cells = f.cells ++ g.cells
 | .nil => rfl
 | .cons _ _ _ _ _ _ _ _ r => by simp [app,cells,cells_app g r]
theorem len_app (g : Fo) : ∀ f : Fo,(f.app g).len = f.len + g.len
 | .nil => by simp [app,len]
 | .cons _ _ _ _ _ _ _ _ r => by simp [app,len,len_app g r];omega
theorem count_app (g : Fo) : ∀ f : Fo,(f.app g).count = f.count + g.count
 | .nil => by simp [app,count]
 | .cons _ _ _ _ _ _ _ _ r => by simp [app,count,count_app g r];omega
theorem vis_app (g : Fo) : ∀ f : Fo,(f.app g).vis = g.vis ++ f.vis
 | .nil => by simp [app,vis]
 | .cons _ _ _ _ _ _ _ _ r => by simp [app,vis,vis_app g r]
theorem len_count : ∀ f : Fo,f.len ≤ f.count
 | .nil => by simp [len,count]
 | .cons _ _ _ _ _ _ _ _ r => by have:=r.len_count;simp [len,count];omega
theorem snoc : ∀ f : Fo,f = .nil ∨ ∃ g k n m i d A c s,f = app g (.cons k n m i d A c s .nil)
 | .nil => .inl rfl
 | .cons k n m i d A c s r => by
  rcases r.snoc with rfl | ⟨g,k',n',m',i',d',A',c',s',rfl⟩
  ·exact .inr ⟨.nil,k,n,m,i,d,A,c,s,rfl⟩
  ·exact .inr ⟨.cons k n m i d A c s g,k',n',m',i',d',A',c',s',rfl⟩
end Fo
theorem Tryz.infoExpr : (Tryz.prog.info? 60).map (fun i => (i.zero,i.size,i.bytes)) = some (some (.agg #[.int .i64 0,.string ⟨#[]⟩,.string ⟨#[]⟩,.int .i64 0,.int .i64 0,.slice none 0 0]),6,80):=by kernel_rfl
end Go.Proofs.YtnfndgmlnoeelaaGreatDoor
/- bind.visit: the law of a visit -/
namespace Go.Proofs.YtnfndgmlnoeelaaGreatDoor
open Go.RowKit Go.Proofs Go.Shelf
def Nd.enc (x : Nd) : Value:=.agg #[.int .i64 x.k,.string x.n,.string x.m,.int .i64 x.i,.int .i64 x.d,.slice x.A x.len x.c]
def IsE (X : World) (k : Nat) : Prop:=∃ cur fz,X.heap[k]? = some (.cells cur 60 fz)
theorem IsE.alloc {X : World} {k : Nat} (h : IsE X k) (o : Obj) : IsE (X.alloc o) k:=by
 obtain ⟨cur,fz,h⟩:=h
 exact ⟨cur,fz,(Below.heap_alloc _ _ _ (Array.getElem?_eq_some_iff.1 h).1).trans h⟩
theorem isE_row {X : World} {base g n cap : Nat} {xs : List Value} (h : X.ownsRow base 60 6 (.slice (some ⟨g,0,none⟩) n cap) n xs) : IsE X g:=by
 rcases h.2 with ⟨h,_⟩ | ⟨g',cap',cur,h,_,hg,_⟩
 ·cases h
 ·cases h;exact ⟨cur,(0,0),hg⟩
theorem isE_own {X : World} {base g n cap : Nat} {xs : List Value} (h : X.ownsRow base 60 6 (.slice (some ⟨g,0,none⟩) n cap) n xs) : IsE X g:=isE_row h
def TellsE (N : Nat) (J : List Nd → World → Prop) : Prop:=∀ pre X Y g,J pre X → N ≤ g → (g < X.heap.size → IsE X g) → Keeps (fun k => k ≠ g) X Y → J pre Y
theorem TellsE.alloc {N : Nat} {J : List Nd → World → Prop} (h : TellsE N J) {pre : List Nd} {X : World} (hJ : J pre X) (hX : N ≤ X.heap.size) (o : Obj) : J pre (X.alloc o):=
 h pre X _ X.heap.size hJ hX (fun h => absurd h (by omega)) ((Keeps.refl _ X).alloc o)
def VsR (xs : List Nd) (J : List Nd → World → Prop) (B n₀ : Nat) (g : Nat) (v : Value) (wr : World) : Prop:=
 ∃ (st : Fo) (pre : List Nd),g = st.count ∧ pre ++ st.vis = xs ∧ J pre wr ∧ B ≤ wr.heap.size ∧ wr.ownsRow B 60 6 v st.len st.cells ∧ st.Subs wr n₀ ∧ st.count ≤ 100001
set_option maxRecDepth 100000 in
set_option maxHeartbeats 2000000 in
theorem visit_law2 (fid : Nat) (hfn : ∀ (args : Array Value) (W : World),(callFunc fid args).run Tryz.prog W = .ok (.enter fid args) W) (lb : Array Value) (n₀ : Nat) (J Jx : List Nd → World → Prop) (k : Int) (n m : ByteArray) (i d : Int) (A : Option Addr) (c : Nat) (s : Fo) (w : World)
  (hs : s.Sl w n₀ A c) (hn : n₀ ≤ w.heap.size) (hcnt : s.count ≤ 100000) (hJ : TellsE w.heap.size J)
  (hF : ∀ pre x X,pre ++ [x] <+: (Fo.cons k n m i d A c s .nil).vis → J pre X → w.heap.size ≤ X.heap.size → Calls Tryz.prog fid (#[x.enc] ++ lb) X fun e Y =>
   (e = .returned (.bool true) ∧ J (pre ++ [x]) Y ∧ Keeps (fun k => k < n₀ ∨ (w.heap.size ≤ k ∧ IsE X k)) X Y) ∨ (e = .returned (.bool false) ∧ Jx (pre ++ [x]) Y))
  (hJ0 : J [] w) :
  Calls Tryz.prog 110 #[.agg #[.int .i64 k,.string n,.string m,.int .i64 i,.int .i64 d,.slice A s.len c],.func (.func fid) #[] lb] w fun e w' =>
   (∃ v,e = .returned v) ∧ (J (Fo.cons k n m i d A c s .nil).vis w' ∨ ∃ pre,pre <+: (Fo.cons k n m i d A c s .nil).vis ∧ Jx pre w'):=by
 obtain ⟨i0,hi,hz0,hz1,hz2⟩:=info_parts Tryz.infoExpr
 have HH:=Lib.hid (And.intro hJ (And.intro trivial (And.intro hF (And.intro hs hJ0))))
 clear hJ hF hs hJ0
 obtain ⟨xs,Hxs⟩ : ∃ xs,Hid ((Fo.cons k n m i d A c s .nil).vis = xs):=⟨_,rfl⟩
 rw [Hxs.out] at HH ⊢
 go_enter Tryz.func110,Tryz.ntmps110
 go_wp2
 go_loopg [4,5] (s.count + 1) (fun g v _ wr => VsR xs J w.heap.size n₀ g v wr)
 case atStart =>
  refine ⟨.cons k n m i d A c s .nil,[],by simp [Fo.count],by simpa using Hxs.out,?_,?_,?_,?_,by simp [Fo.count];omega⟩
  ·exact HH.out.1.alloc (HH.out.1.alloc HH.out.2.2.2.2 (Nat.le_refl _) _) (by simp) _
  ·simp only [World.size_alloc];omega
  ·have h:=World.ownsRow_lit (e:=60) (base:=w.heap.size) (size:=6) (w.alloc (.cells #[.int .i64 k,.string n,.string m,.int .i64 i,.int .i64 d,.slice A s.len c] 60)) #[.int .i64 k,.string n,.string m,.int .i64 i,.int .i64 d,.slice A s.len c] 1 (by simp only [World.size_alloc];omega) (by simp [maxLen]) rfl
   simp only [World.size_alloc] at h
   exact h
  ·refine ⟨HH.out.2.2.2.1.keep (Nat.le_refl _) fun p hp => ?_,trivial⟩
   rw [World.cell?_alloc_lt _ _ p (by simp;omega),World.cell?_alloc_lt _ _ p (by omega)]
 case round =>
  obtain ⟨st,pre,hg,hpr,hJp,hsz,hown,hst,hct⟩:=hrel
  have HP:=Lib.hid (And.intro hg (And.intro hpr (And.intro hst hJp)))
  clear hg hpr hst hJp
  rcases st.snoc with rfl | ⟨g,tk,tn,tm,ti,td,tA,tc,ts,rfl⟩
  ·obtain ⟨o3,c3,rfl⟩ : ∃ (o3 : Option Addr) (c3 : Nat),u4 = .slice o3 0 c3:=by
    rcases hown.2 with ⟨rfl,_⟩ | ⟨g',cap',cur,rfl,_⟩
    ·exact ⟨_,_,rfl⟩
    ·exact ⟨_,_,rfl⟩
   clear hown
   go_wp2
   go_end0
   refine ⟨⟨_,rfl⟩,.inl ?_⟩
   have:=HP.out.2.1
   simp only [Fo.vis,List.append_nil] at this
   rw [← this]
   exact HP.out.2.2.2
  ·rw [Fo.len_app,Fo.cells_app] at hown
   simp only [Fo.len,Fo.cells,Nat.zero_add,List.append_nil] at hown
   obtain ⟨gb,cap,rfl⟩:=ownsRow_succ hown
   have hcap : g.len + 1 ≤ cap ∧ cap ≤ 9223372036854775807:=by
    rcases hown.2 with ⟨h,_⟩ | ⟨g',cap',cur,h,_,_,hle,hmx,_⟩
    ·cases h
    ·cases h;unfold maxLen at hmx;omega
   have hcl:=g.cells_length
   have htop : ∀ j : Nat,j < 6 → wr.cell? ⟨gb,g.len * 6 + j,none⟩ = ([.int .i64 tk,.string tn,.string tm,.int .i64 ti,.int .i64 td,.slice tA ts.len tc] : List Value)[j]?:=by
    intro j hj
    rw [hown.cellAt (g.len * 6 + j) (by omega),List.getElem?_append_right (by omega),hcl]
    congr 1
    omega
   have t0 : wr.cell? ⟨gb,g.len * 6,none⟩ = some (.int .i64 tk):=htop 0 (by omega)
   have t1 : wr.cell? ⟨gb,g.len * 6 + 1,none⟩ = some (.string tn):=htop 1 (by omega)
   have t2 : wr.cell? ⟨gb,g.len * 6 + 2,none⟩ = some (.string tm):=htop 2 (by omega)
   have t3 : wr.cell? ⟨gb,g.len * 6 + 3,none⟩ = some (.int .i64 ti):=htop 3 (by omega)
   have t4 : wr.cell? ⟨gb,g.len * 6 + 4,none⟩ = some (.int .i64 td):=htop 4 (by omega)
   have t5 : wr.cell? ⟨gb,g.len * 6 + 5,none⟩ = some (.slice tA ts.len tc):=htop 5 (by omega)
   have hgb:=(hown.lt gb rfl).1
   have HGE:=Lib.hid (isE_own hown)
   have hpop:=Lib.hid (ownsRow_pop (by rw [hcl]) hown)
   have HC:=Lib.hid (And.intro hct hcl)
   clear hown htop hct hcl
   have hsub:=HP.out.2.2.1.split
   have HX : Hid (pre ++ [⟨0,tk,tn,tm,ti,td,tA,ts.len,tc⟩] <+: xs):=by
    show _ <+: _
    rw [← HP.out.2.1,Fo.vis_app]
    exact ⟨ts.vis ++ g.vis,by simp [Fo.vis]⟩
   have hz1' : wr.heap.size < (wr.alloc (.cells #[.int .i64 tk,.string tn,.string tm,.int .i64 ti,.int .i64 td,.slice tA ts.len tc] 60)).heap.size:=by simp
   have hJ1:=HH.out.1.alloc HP.out.2.2.2 hsz (.cells #[.int .i64 tk,.string tn,.string tm,.int .i64 ti,.int .i64 td,.slice tA ts.len tc] 60)
   have HF:=Lib.hid (HH.out.2.2.1 pre ⟨0,tk,tn,tm,ti,td,tA,ts.len,tc⟩ _ HX.out hJ1 (by omega))
   go_wp2_with fail
   refine HF.out.mono ?_
   rintro e Y (⟨rfl,hJ2,hk2⟩ | ⟨rfl,hJ2⟩)
   ·have hyz:=hk2.size
    have hbx:=Lib.hid (hk2.cell (p:=⟨wr.heap.size,5,none⟩) (v:=.slice tA ts.len tc) (.inr ⟨by simp;omega,_,_,heap_alloc_new wr _⟩) (by go_simp))
    have b5:=hbx.out
    have hpop2:=Lib.hid (hk2.ownsRow (hpop.out.alloc _) (fun g' hg' => by simp only [Value.ownBlock,Option.some.injEq] at hg';subst hg';exact .inr ⟨hgb,HGE.out.alloc _⟩))
    have hcell : ∀ p : Addr,p.block < n₀ → Y.cell? p = wr.cell? p:=fun p hp =>
     (World.cell?_of_block (hk2.block p.block (by omega) (.inl hp))).trans (World.cell?_alloc_lt wr _ p (by omega))
    have hts:=hsub.2.1.keep (Nat.le_refl _) hcell
    have hgs:=hsub.1.keep (Nat.le_refl _) hcell
    have HT:=Lib.hid (And.intro hts hgs)
    have hcount : g.count + (ts.count + 1) ≤ 100001:=by have:=HC.out.1;rw [Fo.count_app] at this;simpa [Fo.count] using this
    have hl1:=g.len_count
    have hl2:=ts.len_count
    have HGE2:=Lib.hid (isE_row hpop2.out)
    clear hts hgs hsub hcell hk2 HF t0 t1 t2 t3 t4 t5 hJ1
    have hcase : tA = none → ts.len = 0:=by
     intro h
     cases ts with
     | nil => rfl
     | cons => obtain ⟨b',o',e,_⟩:=HT.out.1.2.2 (by simp);rw [h] at e;cases e
    have hnews : ∀ ad,tA = some ad → ∀ j u,ts.cells[j]? = some u → Y.cell? (ad.add j) = some u:=by
     intro ad had j u hu
     cases ts with
     | nil => simp [Fo.cells] at hu
     | cons =>
      obtain ⟨b',o',e,_,hat⟩:=HT.out.1.2.2 (by simp)
      rw [had] at e
      cases e
      have:=hat.cells j u hu
      cases j <;> simpa [Addr.add] using this
    have HN:=Lib.hid (And.intro hcase hnews)
    clear hcase hnews
    go_wp2_with (at_builtin;refine wpList_append_own_any _ rfl _ _ 33 rfl w.heap.size 60 i0 _ 6 80 Tryz.underlying33 hi hz0 hz1 hz2 rfl (by decide) _ _ _ rfl hpop2.out tA ts.len tc ts.cells rfl (Fo.cells_length ts) HN.out.1 HN.out.2 (Fo.cells_one ts) (by unfold maxLen;omega) (by omega) (by omega) ?_;intro v' w1 hown' hgrow)
    go_roundg (g.count + ts.count)
    case measure =>
     rw [HP.out.1,Fo.count_app]
     simp [Fo.count]
    case rel =>
     refine ⟨g.app ts,_,(Fo.count_app _ _).symm,?_,HH.out.1 _ _ _ gb hJ2 hgb (fun _ => HGE2.out) ((Keeps.refl _ _).grown hgrow (by rintro k hk;cases hk;simp)),by have:=hgrow.size;omega,?_,?_,by rw [Fo.count_app];omega⟩
     ·rw [← HP.out.2.1,Fo.vis_app,Fo.vis_app];simp [Fo.vis]
     ·rw [Fo.len_app,Fo.cells_app];exact hown'
     ·have hcell : ∀ p : Addr,p.block < n₀ → w1.cell? p = Y.cell? p:=fun p hp =>
       World.cell?_of_block (hgrow.block p.block (by omega) (by intro e;have e' : p.block = gb:=Option.some.inj e;omega))
      exact Fo.Subs.app (HT.out.1.subs.keep (Nat.le_refl _) hcell) (HT.out.2.keep (Nat.le_refl _) hcell)
   ·go_wp2
    refine bodyPost_ret (results_none rfl _ _ _) rfl ?_
    exact ⟨⟨_,rfl⟩,.inr ⟨_,HX.out,hJ2⟩⟩
theorem visit_law (fid : Nat) (hfn : ∀ (args : Array Value) (W : World),(callFunc fid args).run Tryz.prog W = .ok (.enter fid args) W) (lb : Array Value) (n₀ : Nat) (J Jx : List Nd → World → Prop) (k : Int) (n m : ByteArray) (i d : Int) (A : Option Addr) (c : Nat) (s : Fo) (w : World)
  (hs : s.Sl w n₀ A c) (hn : n₀ ≤ w.heap.size) (hcnt : s.count ≤ 100000) (hJ : Told (fun k => k < w.heap.size) J)
  (hF : ∀ pre x X,pre ++ [x] <+: (Fo.cons k n m i d A c s .nil).vis → J pre X → w.heap.size ≤ X.heap.size → Calls Tryz.prog fid (#[x.enc] ++ lb) X fun e Y =>
   (e = .returned (.bool true) ∧ J (pre ++ [x]) Y ∧ Keeps (fun k => w.heap.size ≤ k ∨ k < n₀) X Y) ∨ (e = .returned (.bool false) ∧ Jx (pre ++ [x]) Y))
  (hJ0 : J [] w) :
  Calls Tryz.prog 110 #[.agg #[.int .i64 k,.string n,.string m,.int .i64 i,.int .i64 d,.slice A s.len c],.func (.func fid) #[] lb] w fun e w' =>
   (∃ v,e = .returned v) ∧ (J (Fo.cons k n m i d A c s .nil).vis w' ∨ ∃ pre,pre <+: (Fo.cons k n m i d A c s .nil).vis ∧ Jx pre w'):=
 visit_law2 fid hfn lb n₀ J Jx k n m i d A c s w hs hn hcnt (fun pre X Y g hJX hg _ hk => hJ pre X Y hJX (hk.mono fun k hk => by omega))
  (fun pre x X hpx hJX hX => (hF pre x X hpx hJX hX).mono fun e Y h => h.elim (fun ⟨h1,h2,h3⟩ => .inl ⟨h1,h2,h3.mono fun k hk => by rcases hk with h | h;exact .inr h;exact .inl h.1⟩) .inr) hJ0
end Go.Proofs.YtnfndgmlnoeelaaGreatDoor
/- bind.contains -/
namespace Go.Proofs.YtnfndgmlnoeelaaGreatDoor
open Go.RowKit Go.Proofs Go.Shelf
theorem enterFn {fid : Nat} {fn : Func} {body : Code} (h : Tryz.prog.funcs[fid]? = some fn) (hn : (fn.name == "runtime.NumGoroutine") = false) (hb : fn.body = some body) (args : Array Value) (W : World) : (callFunc fid args).run Tryz.prog W = .ok (.enter fid args) W := by
 have hn' : fn.name ≠ "runtime.NumGoroutine" := by simpa using hn
 simp [callFunc,h,hb,hn']
set_option maxRecDepth 100000 in
set_option maxHeartbeats 1000000 in
theorem contains1_any (gid : Nat) (hgn : ∀ (args : Array Value) (W : World),(callFunc gid args).run Tryz.prog W = .ok (.enter gid args) W) (gb : Array Value) (bf bd : Nat) (x : Nd) (q : Bool) (X : World)
  (hf : X.cell? ⟨bf,0,none⟩ = some (.func (.func gid) #[] gb)) (hd : X.heap[bd]? = some (.cells #[.bool false] 4 (0,0)))
  (hG : ∀ Z,Below X.heap.size X Z → Calls Tryz.prog gid (#[x.enc] ++ gb) Z fun e Y => e = .returned (.bool q) ∧ Below Z.heap.size Z Y) :
  Calls Tryz.prog 154 #[x.enc,.pointer (some ⟨bf,0,none⟩),.pointer (some ⟨bd,0,none⟩)] X fun e Y => e = .returned (.bool (!q)) ∧ Y.heap[bd]? = some (.cells #[.bool q] 4 (0,0)) ∧ Keeps (fun k => k ≠ bd) X Y:=by
 have hbd : bd < X.heap.size:=lt_of_block hd
 have hbf : bf < X.heap.size:=World.block_lt_of_cell? X ⟨bf,0,none⟩ hf
 obtain ⟨dp,k,n,m,i,d,A,len,c⟩:=x
 simp only [Nd.enc] at hG ⊢
 have HG:=Lib.hid hG
 clear hG
 have hf1 : (X.alloc (.cells #[.int .i64 k,.string n,.string m,.int .i64 i,.int .i64 d,.slice A len c] 60)).cell? ⟨bf,0,none⟩ = some (.func (.func gid) #[] gb):=(World.cell?_alloc_lt X _ _ hbf).trans hf
 have hbe:=(Below.refl X.heap.size X).alloc (Nat.le_refl _) (.cells #[.int .i64 k,.string n,.string m,.int .i64 i,.int .i64 d,.slice A len c] 60)
 have HB:=Lib.hid hbe
 have HD:=Lib.hid hd
 clear hbe hf hd
 go_enter Tryz.func154,Tryz.ntmps154
 go_wp2_with fail
 refine (HG.out _ HB.out).mono ?_
 rintro e Y ⟨rfl,hY⟩
 have hYd : Y.heap[bd]? = some (.cells #[.bool false] 4 (0,0)):=(hY.block bd (by simp;omega)).trans ((HB.out.block bd hbd).trans HD.out)
 have hc:=cell_of_one hYd
 have hfr:=free_of_one hYd
 have hY2:=one_setCell (u:=.bool q) hYd
 have hc2:=cell_of_one hY2
 have HK : Keeps (fun k => k ≠ bd) X (Y.setCell ⟨bd,0,none⟩ (.bool q)):=(((Keeps.refl _ X).alloc _).trans (Keeps.whole hY _)).setCell (by simp) _
 have HF:=Lib.hid (And.intro hY2 HK)
 clear hY2 HK hYd hY
 cases q <;> (
  go_wp2
  go_ret
  exact ⟨rfl,HF.out⟩)
theorem any_prefix {α : Type} {p : α → Bool} {a b : List α} (h : a <+: b) (ha : a.any p = true) : b.any p = true:=by
 obtain ⟨c,rfl⟩:=h
 rw [List.any_append,ha]
 rfl
set_option maxRecDepth 100000 in
set_option maxHeartbeats 1000000 in
theorem contains_any (gid : Nat) (hgn : ∀ (args : Array Value) (W : World),(callFunc gid args).run Tryz.prog W = .ok (.enter gid args) W) (gb : Array Value) (p : Nd → Bool)
  (k : Int) (n m : ByteArray) (i d : Int) (A : Option Addr) (c : Nat) (s : Fo) (w : World) (hs : s.Sl w w.heap.size A c) (hcnt : s.count ≤ 100000)
  (hG : ∀ (x : Nd) Z,Below w.heap.size w Z → Calls Tryz.prog gid (#[x.enc] ++ gb) Z fun e Y => e = .returned (.bool (p x)) ∧ Below Z.heap.size Z Y) :
  Calls Tryz.prog 121 #[.agg #[.int .i64 k,.string n,.string m,.int .i64 i,.int .i64 d,.slice A s.len c],.func (.func gid) #[] gb] w fun e w' =>
   e = .returned (.bool ((Fo.cons k n m i d A c s .nil).vis.any p)) ∧ Below w.heap.size w w':=by
 obtain ⟨xs,Hxs⟩ : ∃ xs,Hid ((Fo.cons k n m i d A c s .nil).vis = xs):=⟨_,rfl⟩
 have HS:=Lib.hid (And.intro hs hG)
 clear hs hG
 rw [Hxs.out]
 have hfn1:=enterFn (fid:=154) rfl rfl rfl
 go_enter Tryz.func121,Tryz.ntmps121
 go_wp2_with fail
 obtain ⟨W0,hW0⟩ : ∃ W0,((w.alloc (.cells #[.int .i64 k,.string n,.string m,.int .i64 i,.int .i64 d,.slice A s.len c] 60)).alloc (.cells #[.func (.func gid) #[] gb] 72)).alloc (.cells #[.bool false] 4) = W0:=⟨_,rfl⟩
 have hB0 : Below w.heap.size w W0:=by subst hW0;exact (((Below.refl _ _).alloc (Nat.le_refl _) _).alloc (by simp) _).alloc (by simp;omega) _
 have hz0 : W0.heap.size = w.heap.size + 3:=by subst hW0;simp
 have hx0 : W0.cell? ⟨w.heap.size + 1,0,none⟩ = some (.func (.func gid) #[] gb):=by subst hW0;go_simp
 have hx1 : W0.heap[w.heap.size + 1 + 1]? = some (.cells #[.bool false] 4 (0,0)):=by
  have h:=World.alloc_heap_new ((w.alloc (.cells #[.int .i64 k,.string n,.string m,.int .i64 i,.int .i64 d,.slice A s.len c] 60)).alloc (.cells #[.func (.func gid) #[] gb] 72)) (.cells #[.bool false] 4)
  rw [hW0] at h
  simpa using h
 rw [hW0]
 clear hW0
 refine (visit_law 154 hfn1 _ w.heap.size
  (fun pre X => Below w.heap.size w X ∧ w.heap.size + 3 ≤ X.heap.size ∧ X.cell? ⟨w.heap.size + 1,0,none⟩ = some (.func (.func gid) #[] gb) ∧ X.heap[w.heap.size + 1 + 1]? = some (.cells #[.bool false] 4 (0,0)) ∧ pre.any p = false)
  (fun pre X => Below w.heap.size w X ∧ w.heap.size + 3 ≤ X.heap.size ∧ X.heap[w.heap.size + 1 + 1]? = some (.cells #[.bool true] 4 (0,0)) ∧ pre.any p = true)
  k n m i d A c s W0 (HS.out.1.below hB0) hB0.size hcnt ?_ ?_ ⟨hB0,by omega,hx0,hx1,rfl⟩).mono ?_
 ·rintro pre X Y ⟨h1,h2,h3,h4,h5⟩ hk
  have:=hk.size
  refine ⟨h1.trans (hk.to_below (by omega) fun k hk => by omega),by omega,hk.cell (p:=⟨w.heap.size + 1,0,none⟩) (by simp;omega) h3,(hk.block _ (by omega) (by omega)).trans h4,h5⟩
 ·rintro pre x X hpx ⟨h1,h2,h3,h4,h5⟩ hX
  have hc:=contains1_any gid hgn gb (w.heap.size + 1) (w.heap.size + 1 + 1) x (p x) X h3 h4 (fun Z hZ => HS.out.2 x Z (h1.trans (hZ.mono h1.size)))
  refine hc.mono ?_
  rintro e Y ⟨rfl,hd,hk⟩
  have:=hk.size
  have hb:=h1.trans (hk.to_below (B:=w.heap.size) (by omega) fun k hk => by omega)
  cases hp : p x
  ·rw [hp] at hd
   exact .inl ⟨rfl,⟨hb,by omega,hk.cell (p:=⟨w.heap.size + 1,0,none⟩) (by simp) h3,hd,by simp [h5,hp]⟩,hk.mono fun k hk => by omega⟩
  ·rw [hp] at hd
   exact .inr ⟨rfl,hb,by omega,hd,by simp [hp]⟩
 ·rintro e w' ⟨⟨v,rfl⟩,hpost⟩
  rw [Hxs.out] at hpost
  have hfin : w'.cell? ⟨w.heap.size + 1 + 1,0,none⟩ = some (.bool (xs.any p)) ∧ Below w.heap.size w w':=by
   rcases hpost with ⟨h1,h2,h3,h4,h5⟩ | ⟨pre,hpre,h1,h2,h4,h5⟩
   ·rw [h5];exact ⟨cell_of_one h4,h1⟩
   ·rw [any_prefix hpre h5];exact ⟨cell_of_one h4,h1⟩
  obtain ⟨hf1,hf2⟩:=hfin
  clear hpost
  go_wp2
  go_ret
  exact ⟨rfl,hf2⟩
end Go.Proofs.YtnfndgmlnoeelaaGreatDoor
