/- syntax.nodes: its iterator's contract -/
import Derived.Test.YtmmecapgnmlaiaaGreatDoorZxa
import Derived.Test.YtmmecapgnmlaiaaGreatDoorRng
import Derived.Test.YtmmecapgnmlaiaaGreatDoorProg
import Derived.Shelf.Abstract
import Derived.OwnWalkIn
import Derived.TacticsInMore
import Derived.LoopNIn
import Derived.LoopIn
import Derived.Deep.LoopGhost
import Derived.WalkSmall
import Derived.Maps.AppendAt
namespace Go.Proofs.YtmmecapgnmlaiaaGreatDoor
open Go.RowKit Go.Proofs Go.Shelf
attribute [local go_sem] Oper.semAt_some wide_fn wide_depth
structure Nd where
 dep : Nat
 k : Int
 n : ByteArray
 m : ByteArray
 i : Int
 d : Int
 A : Option Addr
 len : Nat
 c : Nat
def Nd.encs (x : Nd) : Array Value:=#[.int .i64 x.dep,.agg #[.int .i64 x.k,.string x.n,.string x.m,.int .i64 x.i,.int .i64 x.d,.slice x.A x.len x.c]]
def Fo.pre : Nat → Fo → List Nd
 | _,.nil => []
 | dp,.cons k n m i d A c s r => ⟨dp,k,n,m,i,d,A,s.len,c⟩ :: (s.pre (dp + 1) ++ r.pre dp)
structure Fr where
 A : Option Addr
 c : Nat
 f : Fo
def Fr.slv (x : Fr) : Value:=.slice x.A x.f.len x.c
def remT : List Fr → List Nd
 | [] => []
 | x :: r => x.f.pre (r.length + 2) ++ remT r
def wtT : List Fr → Nat
 | [] => 0
 | x :: r => 2 * x.f.count + 1 + wtT r
def cellsT (st : List Fr) : List Value:=st.reverse.map Fr.slv
theorem cellsT_cons (x : Fr) (r : List Fr) : cellsT (x :: r) = cellsT r ++ [x.slv]:=by simp [cellsT]
theorem cellsT_length (st : List Fr) : (cellsT st).length = st.length:=by simp [cellsT]
theorem cellsT_top (x : Fr) (r : List Fr) : (cellsT (x :: r))[r.length]? = some x.slv:=by
 rw [cellsT_cons,List.getElem?_append_right (by rw [cellsT_length];exact Nat.le_refl _),cellsT_length]
 simp
theorem cellsT_set (x y : Fr) (r : List Fr) : (cellsT (x :: r)).set r.length y.slv = cellsT (y :: r):=by
 rw [cellsT_cons,cellsT_cons,List.set_append_right _ _ (by rw [cellsT_length];exact Nat.le_refl _),cellsT_length]
 simp
theorem Tryz.infoExprs : (Tryz.prog.info? 42).map (fun i => (i.zero,i.size,i.bytes)) = some (some (.slice none 0 0),1,24):=by kernel_rfl
def StR (xs : List Nd) (J : List Nd → World → Prop) (B n₀ : Nat) (g : Nat) (v : Value) (wr : World) : Prop:=
 ∃ (st : List Fr) (pre : List Nd),g = wtT st ∧ pre ++ remT st = xs ∧ J pre wr ∧ B ≤ wr.heap.size ∧ wr.ownsRow B 42 1 v st.length (cellsT st) ∧ (∀ x ∈ st,x.f.Sl wr n₀ x.A x.c) ∧ st.length ≤ 1001
theorem least_round {R : Nat → Value → World → Prop} {v v' : Value} {w w' : World} {gk : Nat} (hgk : leastOf (fun g => R g v w) = gk) (g' : Nat) (hR : R g' v' w') (hlt : g' < gk) :
  (∃ g,R g v' w') ∧ leastOf (fun g => R g v' w') < leastOf (fun g => R g v w):=
 ⟨⟨g',hR⟩,by rw [hgk];exact Nat.lt_of_le_of_lt ((leastOf_spec ⟨g',hR⟩).2 g' hR) hlt⟩
theorem stR_next {xs : List Nd} {J : List Nd → World → Prop} {B n₀ g cap : Nat} {pre : List Nd} {xA A2 fA : Option Addr} {xc c2 fc : Nat} {fk fi fd : Int} {fn fm : ByteArray} {fs fr : Fo} {r : List Fr} {Y2 w1 : World} {v' : Value} {o : Obj}
  (hpr : pre ++ remT (⟨xA,xc,.cons fk fn fm fi fd fA fc fs fr⟩ :: r) = xs) (hJ : J (pre ++ [⟨r.length + 2,fk,fn,fm,fi,fd,fA,fs.len,fc⟩]) w1) (hz : B ≤ Y2.heap.size) (hn : n₀ ≤ B) (hg : B ≤ g)
  (hown : w1.ownsRow B 42 1 v' (r.length + 1 + 1) (cellsT (⟨A2,c2,fr⟩ :: r) ++ [.slice fA fs.len fc])) (hgrow : (Y2.alloc o).grownBy w1 (Value.slice (some ⟨g,0,none⟩) (r.length + 1) cap).ownBlock)
  (hs : ∀ y ∈ (⟨fA,fc,fs⟩ :: ⟨A2,c2,fr⟩ :: r : List Fr),y.f.Sl Y2 n₀ y.A y.c) (hl : r.length + 2 ≤ 1000) : StR xs J B n₀ (wtT (⟨fA,fc,fs⟩ :: ⟨A2,c2,fr⟩ :: r)) v' w1:=by
 have hsz:=hgrow.size
 simp only [World.size_alloc] at hsz
 refine ⟨⟨fA,fc,fs⟩ :: ⟨A2,c2,fr⟩ :: r,_,rfl,?_,hJ,by omega,?_,fun y hy => ?_,by simp;omega⟩
 ·rw [← hpr];simp [remT,Fo.pre]
 ·rw [cellsT_cons];exact hown
 ·refine (hs y hy).keep (Nat.le_refl _) fun p hp => ?_
  rw [World.cell?_of_block (hgrow.block p.block (by simp;omega) (by simp [Value.ownBlock];omega))]
  exact World.cell?_alloc_lt Y2 _ p (by omega)
set_option maxRecDepth 100000 in
set_option maxHeartbeats 2000000 in
theorem nodes1_iter (eb n₀ : Nat) (k : Int) (n m : ByteArray) (i d : Int) (A : Option Addr) (c : Nat) (s : Fo) (w : World)
  (h0 : w.cell? ⟨eb,0,none⟩ = some (.int .i64 k)) (h1 : w.cell? ⟨eb,1,none⟩ = some (.string n)) (h2 : w.cell? ⟨eb,2,none⟩ = some (.string m)) (h3 : w.cell? ⟨eb,3,none⟩ = some (.int .i64 i))
  (h4 : w.cell? ⟨eb,4,none⟩ = some (.int .i64 d)) (h5 : w.cell? ⟨eb,5,none⟩ = some (.slice A s.len c)) (hs : s.Sl w n₀ A c) (hn : n₀ ≤ w.heap.size) :
  Iter Tryz.prog 129 #[.pointer (some ⟨eb,0,none⟩)] Nd.encs (fun k => k = eb) n₀ (fun pre => ∀ x ∈ pre,x.dep ≤ 1000) (⟨1,k,n,m,i,d,A,s.len,c⟩ :: s.pre 2) w:=by
 obtain ⟨i0,hi,hz0,hz1,hz2⟩:=info_parts Tryz.infoExprs
 intro l J Jx W hW hJ hJx hlim hY hJ0
 have hebl : eb < W.heap.size:=Nat.lt_of_lt_of_le (World.block_lt_of_cell? w ⟨eb,0,none⟩ h0) hW.size
 have k0:=hW.cell (p:=⟨eb,0,none⟩) trivial h0
 have k1:=hW.cell (p:=⟨eb,1,none⟩) trivial h1
 have k2:=hW.cell (p:=⟨eb,2,none⟩) trivial h2
 have k3:=hW.cell (p:=⟨eb,3,none⟩) trivial h3
 have k4:=hW.cell (p:=⟨eb,4,none⟩) trivial h4
 have k5:=hW.cell (p:=⟨eb,5,none⟩) trivial h5
 have hs':=Lib.hid (hs.keep (Nat.le_refl _) fun p hp => World.cell?_of_block (hW.block p.block (by omega) trivial) : s.Sl W n₀ A c)
 have hn' : n₀ ≤ W.heap.size:=Nat.le_trans hn hW.size
 obtain ⟨fn,tmps,assign,body,hy,hR⟩:=hY [] ⟨1,k,n,m,i,d,A,s.len,c⟩ W ⟨s.pre 2,rfl⟩ hJ0 (Nat.le_refl _)
 have HW:=Lib.hid (And.intro hJ (And.intro hJx (And.intro hlim hY)))
 change Sem.run Tryz.prog (Instr.yield l #[.int .i64 1,.agg #[.int .i64 k,.string n,.string m,.int .i64 i,.int .i64 d,.slice A s.len c]]) W = _ at hy
 clear hJ hJx hY h0 h1 h2 h3 h4 h5 hs hn hlim
 refine callsIn_of_wp Tryz.func129 rfl trivial ?_ rfl
 simp only [Tryz.ntmps129,List.size_toArray,List.length_cons,List.length_nil,Nat.reduceAdd,Nat.reduceSub,Array.replicate_succ,Array.replicate_zero,List.push_toArray,List.append_toArray,List.nil_append,List.cons_append]
 gi_wp2
 refine hR.mono ?_
 rintro e Y (⟨rfl,hJ',hk⟩ | ⟨rfl,hJ'⟩)
 rotate_left
 ·gi_wp2
  refine bodyPost_ret (results_none rfl _ _ _) rfl ?_
  exact ⟨⟨_,rfl⟩,.inr ⟨_,⟨s.pre 2,rfl⟩,hJ'⟩⟩
 ·have y5:=hk.cell (p:=⟨eb,5,none⟩) (.inl rfl) k5
  have hyz:=hk.size
  have hsY:=Lib.hid (hs'.out.keep (Nat.le_refl _) fun p hp => World.cell?_of_block (hk.block p.block (by omega) (.inr (.inr hp))) : s.Sl Y n₀ A c)
  clear k0 k1 k2 k3 k4 k5 hy hR hk hs'
  gi_wp2
  gi_loopw [3] (fun v wr => ∃ g,StR (⟨1,k,n,m,i,d,A,s.len,c⟩ :: s.pre 2) J W.heap.size n₀ g v wr)
   (fun v wr => leastOf fun g => StR (⟨1,k,n,m,i,d,A,s.len,c⟩ :: s.pre 2) J W.heap.size n₀ g v wr)
  case atStart =>
   refine ⟨_,[⟨A,c,s⟩],[⟨1,k,n,m,i,d,A,s.len,c⟩],rfl,by simp [remT],HW.out.1 _ _ _ hJ' ((Keeps.refl _ _).alloc _),by simp;omega,?_,?_,by simp⟩
   ·exact World.ownsRow_lit Y #[.slice A s.len c] 1 hyz (by simp [maxLen]) rfl
   ·intro x hx
    simp only [List.mem_singleton] at hx
    subst hx
    exact hsY.out.keep (Nat.le_refl _) fun p hp => World.cell?_alloc_lt Y _ p (by omega)
  case round =>
   obtain ⟨gk,HGK⟩ : ∃ gk,Hid (leastOf (fun g => StR (⟨1,k,n,m,i,d,A,s.len,c⟩ :: s.pre 2) J W.heap.size n₀ g u3 wr) = gk):=⟨_,rfl⟩
   have hspec:=(leastOf_spec hrel).1
   rw [HGK.out] at hspec
   clear hrel
   obtain ⟨st,pre,hg,hpr,hJp,hsz,hown,hst,hlen⟩:=hspec
   have HPR:=Lib.hid (And.intro hg hpr)
   clear hg hpr
   have HST:=Lib.hid hst
   clear hst
   cases st with
   | nil =>
    have HF:=Lib.hid (show pre = (⟨1,k,n,m,i,d,A,s.len,c⟩ :: s.pre 2 : List Nd) by rw [← HPR.out.2];simp [remT])
    obtain ⟨o3,c3,rfl⟩ : ∃ (o3 : Option Addr) (c3 : Nat),u3 = .slice o3 0 c3:=by
     rcases hown.2 with ⟨rfl,_⟩ | ⟨g',cap',cur,rfl,_⟩
     ·exact ⟨_,_,rfl⟩
     ·exact ⟨_,_,rfl⟩
    clear hown HST
    gi_wp2
    go_end0
    exact ⟨⟨_,rfl⟩,.inl (by rw [← HF.out];exact hJp)⟩
   | cons x r =>
    obtain ⟨g,cap,rfl⟩:=ownsRow_succ hown
    have hcap : r.length + 1 ≤ cap:=by
     rcases hown.2 with ⟨h,_⟩ | ⟨g',cap',cur,h,_,_,hle,_⟩
     ·cases h
     ·cases h;exact hle
    have hrl : r.length ≤ 1000:=by simpa using hlen
    have htop : wr.cell? ⟨g,r.length,none⟩ = some x.slv:=(hown.cellAt r.length (by simp)).trans (cellsT_top x r)
    have htf : wr.frozen? ⟨g,r.length,none⟩ = false:=hown.frozenAt r.length
    have HOWN:=Lib.hid hown
    clear hown hlen
    obtain ⟨xA,xc,xf⟩:=x
    cases xf with
    | nil =>
     simp only [Fr.slv,Fo.len] at htop
     gi_wp2
     refine least_round HGK.out (wtT r) ⟨r,pre,rfl,?_,hJp,hsz,?_,fun y hy => HST.out y (List.mem_cons_of_mem _ hy),by omega⟩ ?_
     ·rw [← HPR.out.2];simp [remT,Fo.pre]
     ·have:=HOWN.out
      rw [cellsT_cons] at this
      exact ownsRow_pop (by rw [cellsT_length];simp) this
     ·rw [HPR.out.1];simp [wtT]
    | cons fk fn' fm fi fd fA fc fs fr =>
     obtain ⟨hl1,hl2,hl3⟩:=HST.out ⟨xA,xc,.cons fk fn' fm fi fd fA fc fs fr⟩ (List.mem_cons_self ..)
     obtain ⟨b,o,rfl,hb,f0,f1,f2,f3,f4,⟨f5,hc',hm',hs'⟩,hr'⟩:=hl3 (by simp)
     simp only [Fr.slv,Fo.len] at htop
     simp only [Fo.len] at hl1
     change xc ≤ maxLen at hl2
     unfold maxLen at hl2
     obtain ⟨c2,rfl⟩ : ∃ c2,xc = c2 + 1:=⟨xc - 1,by omega⟩
     have HSS:=Lib.hid (And.intro hc' (And.intro hm' (And.intro hs' hr')))
     clear hc' hm' hs' hr' hl3
     have hgl : g < wr.heap.size:=World.block_lt_of_cell? wr ⟨g,r.length,none⟩ htop
     have hgW : W.heap.size ≤ g:=(HOWN.out.lt g rfl).1
     have hbl : b < wr.heap.size:=by omega
     have hbg : b ≠ g:=by omega
     obtain ⟨A2,hA2,hrr⟩ : ∃ A2 : Option Addr,(if c2 = 0 then some (⟨b,o,none⟩ : Addr) else some ⟨b,o + 6,none⟩) = A2 ∧ (fr ≠ .nil → A2 = some ⟨b,o + 6,none⟩):=by
      refine ⟨_,rfl,fun hne => ?_⟩
      have : fr.len ≠ 0:=by cases fr <;> simp [Fo.len] at hne ⊢
      rw [if_neg (by omega)]
     obtain ⟨W2,hW2⟩ : ∃ W2,(wr.setCell ⟨g,r.length,none⟩ (.slice A2 fr.len c2)).alloc (.cells #[.int .i64 fk,.string fn',.string fm,.int .i64 fi,.int .i64 fd,.slice fA fs.len fc] 44) = W2:=⟨_,rfl⟩
     have hk2 : Keeps (fun k => k ≠ g) wr W2:=by rw [← hW2];exact ((Keeps.refl _ wr).setCell (by simp) _).alloc _
     have hJ2 : J pre W2:=HW.out.1 _ _ _ hJp (hk2.mono fun k hk => by omega)
     have HPX : Hid (pre ++ [⟨r.length + 2,fk,fn',fm,fi,fd,fA,fs.len,fc⟩] <+: (⟨1,k,n,m,i,d,A,s.len,c⟩ :: s.pre 2 : List Nd)):=by
      show _ <+: _
      rw [← HPR.out.2]
      exact ⟨fs.pre (r.length + 3) ++ fr.pre (r.length + 2) ++ remT r,by simp [remT,Fo.pre]⟩
     obtain ⟨fn2,tmps2,assign2,body2,hy2,hR2⟩:=HW.out.2.2.2 pre ⟨r.length + 2,fk,fn',fm,fi,fd,fA,fs.len,fc⟩ W2 HPX.out hJ2 (Nat.le_trans hsz hk2.size)
     have e2 : ((r.length + 2 : Nat) : Int) = (r.length : Int) + 1 + 1:=by omega
     simp only [Nd.encs] at hy2
     rw [e2] at hy2
     clear e2
     have H2:=Lib.hid (And.intro hA2 (And.intro hrr hW2))
     clear hA2 hrr hW2
     have hown2 : W2.ownsRow W.heap.size 42 1 (.slice (some ⟨g,0,none⟩) (r.length + 1) cap) (r.length + 1) (cellsT (⟨A2,c2,fr⟩ :: r)):=by
      rw [← H2.out.2.2,← cellsT_set ⟨some ⟨b,o,none⟩,c2 + 1,.cons fk fn' fm fi fd fA fc fs fr⟩ ⟨A2,c2,fr⟩ r]
      exact (HOWN.out.stored r.length _).1.alloc _
     have hwz : wr.heap.size < W2.heap.size:=by rw [← H2.out.2.2];simp [World.setCell]
     have hbx : ∀ j,W2.cell? ⟨wr.heap.size,j,none⟩ = (#[.int .i64 fk,.string fn',.string fm,.int .i64 fi,.int .i64 fd,.slice fA fs.len fc] : Array Value)[j]?:=by
      intro j
      have e : (wr.setCell ⟨g,r.length,none⟩ (.slice A2 fr.len c2)).heap.size = wr.heap.size:=by simp [World.setCell]
      have h:=World.alloc_heap_new (wr.setCell ⟨g,r.length,none⟩ (.slice A2 fr.len c2)) (.cells #[.int .i64 fk,.string fn',.string fm,.int .i64 fi,.int .i64 fd,.slice fA fs.len fc] 44)
      rw [e,H2.out.2.2] at h
      exact cell_of_row W2 wr.heap.size j _ _ (0,0) h
     have x0 : W2.cell? ⟨wr.heap.size,0,none⟩ = some (.int .i64 fk):=hbx 0
     have x1 : W2.cell? ⟨wr.heap.size,1,none⟩ = some (.string fn'):=hbx 1
     have x2 : W2.cell? ⟨wr.heap.size,2,none⟩ = some (.string fm):=hbx 2
     have x3 : W2.cell? ⟨wr.heap.size,3,none⟩ = some (.int .i64 fi):=hbx 3
     have x4 : W2.cell? ⟨wr.heap.size,4,none⟩ = some (.int .i64 fd):=hbx 4
     have x5 : W2.cell? ⟨wr.heap.size,5,none⟩ = some (.slice fA fs.len fc):=hbx 5
     clear hbx
     have HO2:=Lib.hid hown2
     clear hown2
     have HK2:=Lib.hid hk2
     clear hk2
     have fin : ∀ (Y2 : World),J (pre ++ [⟨r.length + 2,fk,fn',fm,fi,fd,fA,fs.len,fc⟩]) Y2 → Keeps (fun k => k = eb ∨ W.heap.size ≤ k ∨ k < n₀) W2 Y2 →
       Y2.ownsRow W.heap.size 42 1 (.slice (some ⟨g,0,none⟩) (r.length + 1) cap) (r.length + 1) (cellsT (⟨A2,c2,fr⟩ :: r)) ∧ r.length + 2 ≤ 1000 ∧
       (∀ y ∈ (⟨fA,fc,fs⟩ :: ⟨A2,c2,fr⟩ :: r : List Fr),y.f.Sl Y2 n₀ y.A y.c):=by
      intro Y2 hJ3 hk3
      have hcell : ∀ p : Addr,p.block < n₀ → Y2.cell? p = wr.cell? p:=fun p hp =>
       (World.cell?_of_block (hk3.block p.block (by omega) (.inr (.inr hp)))).trans (World.cell?_of_block (HK2.out.block p.block (by omega) (by omega)))
      refine ⟨?_,HW.out.2.2.1 _ _ hJ3 ⟨r.length + 2,fk,fn',fm,fi,fd,fA,fs.len,fc⟩ (by simp),?_⟩
      ·refine hk3.ownsRow HO2.out fun g' hg' => ?_
       simp only [Value.ownBlock,Option.some.injEq] at hg'
       exact .inr (.inl (by omega))
      ·intro y hy
       rcases List.mem_cons.1 hy with rfl | hy
       ·exact ⟨HSS.out.1,HSS.out.2.1,fun hne => by
         obtain ⟨b',o',e,hb',h'⟩:=HSS.out.2.2.1 hne
         exact ⟨b',o',e,hb',h'.keep (Nat.le_refl _) hcell hb'⟩⟩
       ·rcases List.mem_cons.1 hy with rfl | hy
        ·refine ⟨by show fr.len ≤ c2;omega,by show c2 ≤ maxLen;unfold maxLen;omega,fun hne => ⟨b,o + 6,H2.out.2.1 hne,hb,?_⟩⟩
         exact HSS.out.2.2.2.keep (Nat.le_refl _) hcell hb
        ·exact (HST.out y (List.mem_cons_of_mem _ hy)).keep (Nat.le_refl _) hcell
     have FIN:=Lib.hid fin
     clear fin
     have hW2:=H2.out.2.2
     have hA2:=H2.out.1
     by_cases hx1 : c2 = 0
     ·subst hx1
      rw [if_pos rfl] at hA2
      subst hA2
      obtain rfl : fr = .nil:=by
       cases fr with
       | nil => rfl
       | cons => simp [Fo.len] at hl1
      simp only [Fo.len,Nat.zero_add] at hW2 htop hl1
      gi_wp2
      refine hR2.mono ?_
      rintro e Y2 (⟨rfl,hJ3,hk3⟩ | ⟨rfl,hJ3⟩)
      ·have y5':=hk3.cell (p:=⟨wr.heap.size,5,none⟩) (.inr (.inl hsz)) x5
       obtain ⟨ho3,hl3,hs3⟩:=FIN.out Y2 hJ3 hk3
       have hz3 : W.heap.size ≤ Y2.heap.size:=by have:=hk3.size;omega
       have hJ4:=HW.out.1 _ _ _ hJ3 ((Keeps.refl _ Y2).alloc (.cells #[.slice fA fs.len fc] 42))
       have HO3:=Lib.hid (And.intro ho3 (And.intro hJ3 hs3))
       clear hk3 hJ3 hR2 hy2 hW2 x0 x1 x2 x3 x4 x5 f0 f1 f2 f3 f4 f5 htop htf hs3 ho3
       gi_wp2_with (gi_at_builtin;refine wpListIn_append_own _ rfl _ _ 188 rfl W.heap.size 42 i0 (.slice none 0 0) 1 24 Tryz.underlying188 hi hz0 hz1 hz2 rfl (by decide) _ _ _ rfl (HO3.out.1.alloc _) ⟨Y2.heap.size,0,none⟩ 1 1 [.slice fA fs.len fc] rfl rfl (cell_one_new _ _ _) (by simp [Value.oneCell']) (by unfold maxLen;omega) (by omega) (by simp;omega) ?_;intro v' w1 hown' hgrow _)
       refine least_round HGK.out _ (stR_next HPR.out.2 (HW.out.1 _ _ _ hJ4 ((Keeps.refl _ _).grown hgrow (by rintro k hk;cases hk;dsimp only;omega))) hz3 hn' hgW hown' hgrow HO3.out.2.2 hl3) ?_
       rw [HPR.out.1]
       simp [wtT,Fo.count]
       omega
      ·gi_wp2
       refine bodyPost_ret (results_none rfl _ _ _) rfl ?_
       exact ⟨⟨_,rfl⟩,.inr ⟨_,HPX.out,hJ3⟩⟩
     ·rw [if_neg hx1] at hA2
      subst hA2
      gi_wp2
      refine hR2.mono ?_
      rintro e Y2 (⟨rfl,hJ3,hk3⟩ | ⟨rfl,hJ3⟩)
      ·have y5':=hk3.cell (p:=⟨wr.heap.size,5,none⟩) (.inr (.inl hsz)) x5
       obtain ⟨ho3,hl3,hs3⟩:=FIN.out Y2 hJ3 hk3
       have hz3 : W.heap.size ≤ Y2.heap.size:=by have:=hk3.size;omega
       have hJ4:=HW.out.1 _ _ _ hJ3 ((Keeps.refl _ Y2).alloc (.cells #[.slice fA fs.len fc] 42))
       have HO3:=Lib.hid (And.intro ho3 (And.intro hJ3 hs3))
       clear hk3 hJ3 hR2 hy2 hW2 x0 x1 x2 x3 x4 x5 f0 f1 f2 f3 f4 f5 htop htf hs3 ho3
       gi_wp2_with (gi_at_builtin;refine wpListIn_append_own _ rfl _ _ 188 rfl W.heap.size 42 i0 (.slice none 0 0) 1 24 Tryz.underlying188 hi hz0 hz1 hz2 rfl (by decide) _ _ _ rfl (HO3.out.1.alloc _) ⟨Y2.heap.size,0,none⟩ 1 1 [.slice fA fs.len fc] rfl rfl (cell_one_new _ _ _) (by simp [Value.oneCell']) (by unfold maxLen;omega) (by omega) (by simp;omega) ?_;intro v' w1 hown' hgrow _)
       refine least_round HGK.out _ (stR_next HPR.out.2 (HW.out.1 _ _ _ hJ4 ((Keeps.refl _ _).grown hgrow (by rintro k hk;cases hk;dsimp only;omega))) hz3 hn' hgW hown' hgrow HO3.out.2.2 hl3) ?_
       rw [HPR.out.1]
       simp [wtT,Fo.count]
       omega
      ·gi_wp2
       refine bodyPost_ret (results_none rfl _ _ _) rfl ?_
       exact ⟨⟨_,rfl⟩,.inr ⟨_,HPX.out,hJ3⟩⟩
end Go.Proofs.YtmmecapgnmlaiaaGreatDoor
