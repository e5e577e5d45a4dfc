/- eval: variables -/
import Derived.Test.YtnfndgmlnoeelaaGreatDoorZev
import Derived.RegionIn
import Derived.Test.YtnfndgmlnoeelaaGreatDoorZeg
import Derived.Test.YtnfndgmlnoeelaaGreatDoorZea
import Derived.Test.YtnfndgmlnoeelaaGreatDoorZei
import Derived.Test.YtnfndgmlnoeelaaGreatDoorZef
import Derived.Test.YtnfndgmlnoeelaaGreatDoorZee
import Derived.Defers
import Derived.Recover
import Derived.Laws.Pointers
namespace Go.Proofs.YtnfndgmlnoeelaaGreatDoor
open Go Go.RowKit Go.Proofs
attribute [local go_sem] Oper.semAt_some wide_fn wide_depth
theorem bytesE {a b : ByteArray} (h : (a.toList == b.toList) = true) : a = b:=by
 have h:=eq_of_beq h
 rw [ByteArray.toList_eq,ByteArray.toList_eq] at h
 exact ByteArray.ext (Array.ext' h)
theorem meet1 {P Q : Prop} (g : P → Q) (x : P) : Q:=g x
theorem panic_mark {P : Program} {fn : Func} {R : Ending → World → Prop} {tmps : Array Value} {D : Nat} {W : World} {ch : List PanicEntry} (hD : W.heap[D]? = some (.deferred (some []))) (hR : R (.panicked ch) (W.putObj D (.deferred none))) :
  bodyPostM Fence.wide 0 P fn R (.panic ch) { tmps,defers:=[{ target:=.collected D,args:=#[] }] } W:=
 ⟨by simp,.inl ⟨_,_,rfl,run_takeDeferred hD,hR⟩⟩
theorem no_cells {w : World} {D : Nat} {o : Obj} (h : w.heap[D]? = some o) (ho : o.isCells = false) (x : Nat) : w.cell? ⟨D,x,none⟩ = none:=by
 cases o <;> simp_all [World.cell?,Obj.isCells]
section
variable {W0 : World} {B0 vb rb base : Nat} {m : Value} {L : Int} {w : World} {fv : Value} {fc : List Value} {gv : Value} {gc : List Value} {rs : List Rm}
theorem EvI.put {s : Es} (h : EvI W0 B0 vb rb base m L w s fv fc gv gc rs) {D : Nat} {o o' : Obj} (hD : w.heap[D]? = some o) (ho : o.isCells = false) (hm : ∀ es c,o ≠ .map es c) (ho' : o'.isCells = false) (hb : base ≤ D) :
  EvI W0 B0 vb rb base m L (w.putObj D o') s fv fc gv gc rs ∧ Kp (Dd vb rb fv gv rs) w (Dd vb rb fv gv rs) (w.putObj D o') ∧ St w (w.putObj D o'):=by
 have hlt:=(Array.getElem?_eq_some_iff.1 hD).1
 have hot : Oth (· = D) w (w.putObj D o'):=⟨rfl,rfl,rfl,by simp,fun k _ hk => World.putObj_heap_other hk⟩
 have hDn : (w.putObj D o').heap[D]? = some o':=World.putObj_heap_same hlt
 have hnc : ∀ {k : Nat} {cs : Array Value} {t : TypeId} {fr : Nat × Nat},w.heap[k]? = some (.cells cs t fr) → ¬ k = D:=fun hk e => by
  subst e
  rw [hD] at hk
  cases hk
  simp [Obj.isCells] at ho
 have hrow : ∀ {bs : Nat} {t : TypeId} {sz : Nat} {v : Value} {n : Nat} {xs : List Value},w.ownsRow bs t sz v n xs → ∀ k,v.ownBlock = some k → ¬ k = D:=fun hr k hk => by
  rcases hr.2 with ⟨rfl,_⟩ | ⟨g,cap,cur,rfl,_,hg,_⟩
  ·cases hk
  ·simp only [Value.ownBlock,Option.some.injEq] at hk
   subst hk
   exact hnc hg
 have hk : Kp (Dd vb rb fv gv rs) w (Dd vb rb fv gv rs) (w.putObj D o'):=⟨hot.size,fun b x hbl hd => by
  refine ⟨?_,hd⟩
  by_cases e : b = D
  ·subst e
   rw [no_cells hD ho,no_cells hDn ho']
  ·exact World.cell?_of_block (hot.block b hbl e),fun b x n hbl _ ⟨cs,hcs,hn⟩ => ⟨cs,(hot.block b hbl (hnc hcs)).trans hcs,hn⟩⟩
 refine ⟨⟨h.ev.oth hot (hnc h.ev.blk) (hrow h.ev.fr) (hrow h.ev.va),h.fr.keep hk,h.va.keep hk,⟨?_,fun x hx => ?_,h.rm.own,h.rm.dis⟩,fun k hkb h1 h2 => (hot.block k (Nat.lt_of_lt_of_le hkb h.ev.le) (by omega)).trans (h.old k hkb h1 h2),h.lv,h.lr,h.rlt,h.rne⟩,hk,hot.st⟩
 ·obtain ⟨es,cl,h1,h2⟩:=h.rm.mp
  exact ⟨es,cl,(hot.block rb (lt_of_block h1) (fun e => by rw [e,hD] at h1;cases h1;exact hm _ _ rfl)).trans h1,h2⟩
 ·obtain ⟨h1,h2,N,cur,h3,h4,h5⟩:=h.rm.at_ x hx
  exact ⟨h1,h2,N,cur,(hot.block _ (lt_of_block h3) (hnc h3)).trans h3,(hot.block _ (lt_of_block h4) (hnc h4)).trans h4,h5⟩
set_option maxRecDepth 100000 in
set_option maxHeartbeats 4000000 in
theorem evVar_any {n z : Int} {f : Fe} {fs : List Fe} {vs : List Va} {g cap : Nat} (h : EvI W0 B0 vb rb base m L w ⟨n,z,f :: fs,vs⟩ (.slice (some ⟨g,0,none⟩) (fs.length + 1) cap) fc gv gc rs) (hs : Sm L ⟨n,z,f :: fs,vs⟩) (hvl : f.v.len ≤ 1000000) :
  Calls Tryz.prog 87 #[.pointer (some ⟨vb,0,none⟩),.pointer (some ⟨g,fs.length * 3,none⟩)] w (MethR W0 B0 vb rb base m L (.slice (some ⟨g,0,none⟩) (fs.length + 1) cap) gv rs w (sVar L n z f fs vs)):=by
 obtain ⟨R,HR⟩ : ∃ R,Hid (sVar L n z f fs vs = R):=⟨_,Lib.hid rfl⟩
 rw [HR.out]
 obtain ⟨Wa,hWa⟩ : ∃ Q9,(w.alloc (.cells #[.pointer (some ⟨vb,0,none⟩)] 75)).alloc (.cells #[.pointer (some ⟨g,fs.length * 3,none⟩)] 141) = Q9:=⟨_,rfl⟩
 have hoa : Oth (fun _ => False) w Wa:=by rw [← hWa];exact ((Oth.refl _ _).alloc _).alloc _
 have hb2 : Wa.heap[w.heap.size]? = some (.cells #[.pointer (some ⟨vb,0,none⟩)] 75 (0,0)):=by rw [← hWa];exact (Below.heap_alloc _ _ _ (by simp)).trans (heap_alloc_new _ _)
 have hb3 : Wa.heap[w.heap.size + 1]? = some (.cells #[.pointer (some ⟨g,fs.length * 3,none⟩)] 141 (0,0)):=by
  rw [← hWa]
  have:=heap_alloc_new (w.alloc (.cells #[.pointer (some ⟨vb,0,none⟩)] 75)) (.cells #[.pointer (some ⟨g,fs.length * 3,none⟩)] 141)
  rw [show (w.alloc (.cells #[.pointer (some ⟨vb,0,none⟩)] 75)).heap.size = w.heap.size + 1 by simp] at this
  exact this
 have b2:=cell_of_row Wa w.heap.size 0 _ _ (0,0) hb2
 have ha:=h.same hoa
 have HA:=Lib.hid ha.2
 refine (callsIn_wide (n:=0)).1 ?_
 refine callsIn_of_wp_marks Tryz.func87 rfl trivial ?_ rfl
 simp only [Tryz.ntmps87,List.size_toArray,List.length_cons,List.length_nil,Nat.reduceAdd,Nat.reduceSub,Array.replicate_succ,Array.replicate_zero,List.push_toArray,List.append_toArray,List.nil_append,List.cons_append]
 by_cases hl : L ≤ n
 ·have HN:=Lib.hid (show R = .bad 27 n by rw [← HR.out];exact if_pos hl)
  have HS:=Lib.hid (stepI_no ha.1 hl)
  clear ha h hl hs hb2 hb3 hoa
  gi_wp2_with (gi_at_call 61;refine (callsIn_wide.2 HS.out).mono ?_;rintro e w1 ⟨he,hE,hst⟩;have HE:=Lib.hid (And.intro hE hst);clear hE hst;unfold failed at he;subst he)
  rw [HN.out]
  exact ⟨rfl,_,_,_,_,_,_,HE.out.1,rfl,HA.out.2.trans HE.out.2⟩
 ·have HS:=Lib.hid (stepI_ok ha.1 hs (by show n < L;omega))
  have HM:=Lib.hid (show Sm L ⟨n + 1,z,f :: fs,vs⟩ from ⟨by have:=hs.n0;show 0 ≤ n + 1;simp only at this;omega,hs.l,hs.f,hs.v⟩)
  have HL:=Lib.hid (show n < L by omega)
  have HBX:=Lib.hid (And.intro hb2 hb3)
  have HND:=Lib.hid (show ∀ k o,w.heap.size ≤ k → ¬ Dd vb rb (.slice (some ⟨g,0,none⟩) (fs.length + 1) cap) gv rs k o from fun k o hk hd => by have:=h.dead_lt hd;omega)
  clear ha h hl hs hb2 hb3 hoa
  gi_wp2_with (gi_at_call 61;refine (callsIn_wide.2 HS.out).mono ?_;rintro e w1 ⟨rfl,hE,hkp,hst⟩;obtain ⟨eb,eo,pb,sA,sc,vA,vc,hT⟩:=hE.facts;obtain ⟨l,hbd,hsb⟩:=hT.vs.bds;have HE:=Lib.hid (And.intro hE (And.intro hkp (And.intro hst (And.intro hT (And.intro hbd hsb)))));have b2:=((hkp.cell w.heap.size 0 (lt_of_block HBX.out.1) (HND.out _ _ (Nat.le_refl _))).1).trans (cell_of_row Wa _ 0 _ _ (0,0) HBX.out.1);have b3:=((hkp.cell (w.heap.size + 1) 0 (lt_of_block HBX.out.2) (HND.out _ _ (by omega))).1).trans (cell_of_row Wa _ 0 _ _ (0,0) HBX.out.2);have p0:=hT.p0;have p2:=hT.p2;have v1:=hT.v1;rw [← hbd.1] at v1;simp at b2 b3;clear hE hkp hst hT hbd hsb;gi_wp2_with (gi_at_call 126;refine (callsIn_wide.2 (backB_any l vA vc w1)).mono ?_;rintro e w2 ⟨rfl,hw2⟩))
  have hE1:=HE.out.1
  have hw2o : Oth (fun _ => False) w1 w2:=by rw [← hw2];exact (Oth.refl _ _).alloc _
  have hw2r : w2.heap[w1.heap.size]? = some (.cells #[.slice vA l.length vc] 34 (0,0)):=by rw [← hw2];exact heap_alloc_new _ _
  have hs2:=hE1.same hw2o
  have HF:=Lib.hid (show R = match f.v.look f.e.n f.v.len with | some v => .go ⟨n + 1,z,fs,v :: vs⟩ | none => .bad 21 (n + 1) by rw [← HR.out];exact if_neg (Int.not_le.2 HL.out))
  have H2:=Lib.hid (And.intro hs2.1 (And.intro (HE.out.2.1.trans hs2.2.1) (HE.out.2.2.1.trans hs2.2.2)))
  have hsl2 : SlB w2 w2.heap.size vA vc l:=by
   obtain ⟨c1,c2,c3⟩:=HE.out.2.2.2.2.2
   refine ⟨c1,c2,fun hne => ?_⟩
   obtain ⟨b,o,e1,hb,hc⟩:=c3 hne
   exact ⟨b,o,e1,Nat.lt_of_lt_of_le hb hw2o.size,fun j e hj t u hu => (World.cell?_of_block (hw2o.block b hb (fun e => e))).trans (hc j e hj t u hu)⟩
  have hkk : ∀ (W : World),Oth (fun _ => False) w2 W → ∀ (p : Addr) (u : Value),w1.cell? p = some u → W.cell? p = some u:=fun W ho p u hp => by
   have hbl:=World.block_lt_of_cell? w1 p hp
   exact (World.cell?_of_block (ho.block p.block (Nat.lt_of_lt_of_le hbl hw2o.size) (fun e => e))).trans ((World.cell?_of_block (hw2o.block p.block hbl (fun e => e))).trans hp)
  have hpt : ∀ {o : Obj} {W : World},Oth (fun _ => False) w2 W → Oth (fun _ => False) w2 (W.putObj (w2.heap.size + 1) o):=fun ho =>
   ⟨ho.os,ho.tape,ho.output,by have:=ho.size;simpa using this,fun k hk e => (World.putObj_heap_other (by omega)).trans (ho.block k hk e)⟩
  have hll : l.length ≤ 1000000:=by rw [HE.out.2.2.2.2.1.1];exact hvl
  have HK:=Lib.hid hkk
  have hbs : base ≤ w2.heap.size:=Nat.le_trans hE1.ev.le hw2o.size
  have hvw : vb < w2.heap.size:=Nat.lt_of_lt_of_le (lt_of_block hE1.ev.blk) hw2o.size
  have hgw : ∀ k,gv.ownBlock = some k → k < w2.heap.size:=fun k hk => Nat.lt_of_lt_of_le (hE1.ev.va.lt k hk).2 hw2o.size
  have HG:=Lib.hid (And.intro hbs (And.intro hvw hgw))
  have HB2:=Lib.hid b2
  have HB3:=Lib.hid b3
  have HP0:=Lib.hid p0
  clear b2 b3 p0 p2 v1 hw2 hE1 hs2 hbs hvw hgw
  refine wpIn_rangeP (P:=Tryz.prog) (gf:=157) rfl (fun args w => Tryz.call157 args w) (backB1_iter l vA vc w1.heap.size w2.heap.size hll) (fun _ => rfl)
   (fun pre W => Oth (fun _ => False) w2 W ∧ ∀ y ∈ pre,y.2.x ≠ f.e.n)
   (fun pre W => ∃ u,f.v.look f.e.n f.v.len = some u ∧ EvK W0 B0 vb rb base m L (.slice (some ⟨g,0,none⟩) (fs.length + 1) cap) gv rs w2 W ⟨n + 1,z,fs,u :: vs⟩)
   ?rd ?ip ?xp ?h0 (fun x a' W => ∃ bx,a' = { tmps:=#[.pointer (some ⟨vb,0,none⟩),.pointer (some ⟨g,fs.length * 3,none⟩),.pointer (some ⟨w.heap.size,0,none⟩),.pointer (some ⟨w.heap.size + 1,0,none⟩),undef,.pointer (some ⟨bx,0,none⟩),.pointer (some ⟨vb,0,none⟩),.tuple #[],.pointer (some ⟨g,fs.length * 3,none⟩),.pointer (some ⟨g,fs.length * 3,none⟩),.pointer (some ⟨g,fs.length * 3 + 2,none⟩),.pointer (some ⟨pb,0,none⟩),.pointer (some ⟨pb,0,none⟩),.pointer (some ⟨pb,1,none⟩),.slice vA l.length vc,.func (.func 157) #[] #[.pointer (some ⟨w1.heap.size,0,none⟩)],.int .i64 x.1,.agg x.2.cells,undef,undef,undef,undef,undef,undef,undef,undef,undef,undef,undef,undef,undef,undef,undef,undef],defers:=[] } ∧ W.heap[bx]? = some (.cells x.2.cells 147 (0,0)) ∧ w2.heap.size + 2 ≤ bx) ?ax ?assign ?body ?done ?stop
  case rd =>
   rintro pre W ⟨ho,_⟩
   exact ⟨(World.cell?_of_block (ho.block w1.heap.size (lt_of_block hw2r) (fun e => e))).trans (cell_of_row w2 _ 0 _ _ (0,0) hw2r),hsl2.keep fun p hp => World.cell?_of_block (ho.block p.block hp (fun e => e))⟩
  case ip =>
   rintro pre X r r' ⟨ho,h1⟩ _
   exact ⟨hpt ho,h1⟩
  case xp =>
   rintro pre X r r' ⟨u,h1,a1,a2,a3,a4,a5,h2,h3,h4⟩ hl
   obtain ⟨e1,e2,e3⟩:=h2.put (o':=.loop r') hl rfl (fun _ _ e => by cases e) rfl (by have:=HG.out.1;omega)
   exact ⟨u,h1,a1,a2,a3,a4,a5,e1,h3.trans e2,h4.trans e3⟩
  case h0 => exact fun r => ⟨((Oth.refl _ _).alloc _).alloc _,fun y hy => by simp at hy⟩
  case ax =>
   rintro x a' X r r' ⟨bx,h1,h2,h3⟩ hl
   exact ⟨bx,h1,(World.putObj_heap_other (by omega)).trans h2,h3⟩
  case assign =>
   rintro l' pre x W K hpre ⟨ho,hi⟩ hsz hK
   gi_wp2
   exact hK _ _ ⟨Below.heap_alloc _ _ _ (by omega),Below.heap_alloc _ _ _ (by omega)⟩ ⟨ho.alloc _,hi⟩ ⟨W.heap.size,rfl,heap_alloc_new _ _,hsz⟩
  case body =>
   rintro l' pre x a' W hpre ⟨ho,hi⟩ ⟨bx,rfl,hbx,hbl⟩ hsz
   have hT:=HE.out.2.2.2.1
   have b2:=HK.out W ho _ _ HB2.out
   have b3:=HK.out W ho _ _ HB3.out
   have p0:=HK.out W ho _ _ HP0.out
   have k1:=HK.out W ho _ _ hT.k1
   have x0:=cell_of_row W bx 0 _ _ (0,0) hbx
   have x1:=cell_of_row W bx 1 _ _ (0,0) hbx
   have x2:=cell_of_row W bx 2 _ _ (0,0) hbx
   have x3:=cell_of_row W bx 3 _ _ (0,0) hbx
   have x4:=cell_of_row W bx 4 _ _ (0,0) hbx
   have x5:=cell_of_row W bx 5 _ _ (0,0) hbx
   have x6:=cell_of_row W bx 6 _ _ (0,0) hbx
   have x7:=cell_of_row W bx 7 _ _ (0,0) hbx
   have x8:=cell_of_row W bx 8 _ _ (0,0) hbx
   simp at x0 x1 x2 x3 x4 x5 x6 x7 x8
   have HO:=Lib.hid (And.intro ho (And.intro hi hpre))
   clear hT ho hi hpre hbx hw2r hsl2 hkk hpt
   cases hc : (x.2.x.toList == f.e.n.toList)
   ·gi_wp2
    apply meet1
    case g =>
     intro key
     gi_region
     all_goals exact key
    gi_wp2
    have ho2 : Oth (fun _ => False) W W.drew:=(Oth.refl _ _).drew
    refine ⟨⟨ho2.block _ (by omega) (fun e => e),ho2.block _ (by omega) (fun e => e)⟩,HO.out.1.trans ho2,fun y hy => ?_⟩
    rcases List.mem_append.1 hy with hy | hy
    ·exact HO.out.2.1 y hy
    ·rw [List.mem_singleton.1 hy]
     intro e
     rw [e] at hc
     simp at hc
   ·gi_wp2
    apply meet1
    case g =>
     intro key
     gi_region
     all_goals exact key
    have hx : x.2.x = f.e.n:=bytesE hc
    obtain ⟨hlk,j,hj⟩:=backV_mem HE.out.2.2.2.2.1 f.e.n l.length pre x (Nat.le_refl _) HO.out.2.2 HO.out.2.1 hx
    have ho2 : Oth (fun _ => False) w2 W.drew:=HO.out.1.trans (Oth.refl _ _).drew
    have hv:=((HE.out.2.2.2.2.1.2 j _ hj).2).keep (HE.out.1.same (hw2o.trans ho2)).2.1
    have hs3:=H2.out.1.same ho2
    have HR3:=Lib.hid (resultO hs3.1 HM.out hv)
    have HS3:=Lib.hid (And.intro hs3.2 (And.intro hlk ho2))
    clear hx hlk hj ho2 hv hs3
    gi_wp2_with (gi_at_call 125;refine CallsIn.mono (CallsIn.inRound l' (callsIn_wide.2 HR3.out)) ?_;rintro e w3 ⟨rfl,hE3,ho3⟩)
    have hkeep : ∀ k,w2.heap.size ≤ k → k < W.heap.size → w3.heap[k]? = W.heap[k]?:=fun k h1 h2 => ho3.block k h2 fun e => by
     rcases e with e | e
     ·have:=HG.out.2.1
      omega
     ·have:=HG.out.2.2 k e
      omega
    exact ⟨⟨hkeep _ (by omega) (by omega),hkeep _ (by omega) (by omega)⟩,x.2.v,HE.out.2.2.2.2.1.1 ▸ HS3.out.2.1,hE3.next HS3.out.1.1 HS3.out.1.2⟩
  case done =>
   rintro W ⟨ho,hi⟩ hD
   have b2:=HK.out W ho _ _ HB2.out
   have HQ:=Lib.hid (show R = .bad 21 (n + 1) by rw [HF.out,← HE.out.2.2.2.2.1.1,backV_none HE.out.2.2.2.2.1 f.e.n l.length (Nat.le_refl _) hi])
   have HO:=Lib.hid (And.intro ho hD)
   clear ho hi hD hw2r hsl2 hkk hpt
   have HFl:=Lib.hid (evFail_any (.pointer (some ⟨vb,0,none⟩)) 21 W)
   gi_wp2_with (gi_at_call 99;refine (callsIn_wide.2 HFl.out).mono ?_;rintro e w3 ⟨he,rfl⟩;unfold failed at he;subst he)
   obtain ⟨e1,e2,e3⟩:=(H2.out.1.same HO.out.1).1.put (o':=.deferred none) HO.out.2 rfl (fun _ _ e => by cases e) rfl HG.out.1
   refine panic_mark HO.out.2 ?_
   rw [HQ.out]
   exact ⟨rfl,_,_,_,_,_,_,e1,rfl,((HA.out.2.trans H2.out.2.2).trans HO.out.1.st).trans e3⟩
  case stop =>
   rintro pre W hpre ⟨u,hu,a1,a2,a3,a4,a5,h2,h3,h4⟩ hD
   gi_wp2
   obtain ⟨e1,e2,e3⟩:=h2.put (o':=.deferred none) hD rfl (fun _ _ e => by cases e) rfl HG.out.1
   refine ret_mark hD (results_none rfl _ _ _) ?_
   rw [HF.out,hu]
   exact ⟨rfl,a1,a2,a3,a4,a5,e1,(HA.out.1.trans H2.out.2.1).trans (h3.trans e2),(HA.out.2.trans H2.out.2.2).trans (h4.trans e3)⟩
end
end Go.Proofs.YtnfndgmlnoeelaaGreatDoor
/- eval: the method of a frame's kind does the round of the plain words -/
namespace Go.Proofs.YtnfndgmlnoeelaaGreatDoor
open Go Go.RowKit Go.Proofs
def Rs.Top (L : Int) : Rs → Prop
 | .go s => s.n ≤ L
 | .bad _ _ => True
theorem Rs.Top.tick {L n : Int} {r : Rs} (h : n < L → r.Top L) : (tick L n r).Top L:=by
 unfold Go.Proofs.YtnfndgmlnoeelaaGreatDoor.tick
 split
 ·exact trivial
 ·exact h (by omega)
theorem partR_top {L n z : Int} {f : Fe} {j a : Nat} {v : Vl} {fs : List Fe} {vs : List Va} (h : n ≤ L) : (partR n z f j a v fs vs).Top L:=by
 unfold partR
 split
 ·exact h
 ·exact trivial
theorem insteadR_top {L n z : Int} {f : Fe} {j : Nat} {fs : List Fe} {vs : List Va} (h : n ≤ L) : (insteadR n z f j fs vs).Top L:=by
 unfold insteadR
 split
 ·exact h
 ·exact trivial
theorem stepE_top {look : ByteArray → Int → Option Xp} {L n z : Int} {f : Fe} {fs : List Fe} {vs : List Va} (hn : n ≤ L) : (stepE look L n z f fs vs).Top L:=by
 unfold stepE
 by_cases c1 : f.e.k = 1 ∨ f.e.k = 2 ∨ f.e.k = 11
 ·rw [if_pos c1]
  exact Rs.Top.tick fun h => (show n + 1 ≤ L by omega)
 rw [if_neg c1]
 by_cases c3 : f.e.k = 3
 ·rw [if_pos c3]
  refine Rs.Top.tick fun h => ?_
  split
  ·exact (show n + 1 ≤ L by omega)
  ·exact trivial
 rw [if_neg c3]
 by_cases c4 : f.e.k = 4
 ·rw [if_pos c4]
  exact Rs.Top.tick fun h => trivial
 rw [if_neg c4]
 by_cases c5 : f.e.k = 5
 ·rw [if_pos c5]
  refine Rs.Top.tick fun h => ?_
  by_cases ca : f.at_ = 1
  ·rw [if_pos ca]
   exact (show n + 1 ≤ L by omega)
  ·rw [if_neg ca]
   split
   ·exact (show n + 1 ≤ L by omega)
   ·exact trivial
 rw [if_neg c5]
 by_cases c6 : f.e.k = 6
 ·rw [if_pos c6]
  exact Rs.Top.tick fun h => (show n + 1 ≤ L by omega)
 rw [if_neg c6]
 by_cases c7 : f.e.k = 7
 ·rw [if_pos c7]
  unfold sCall
  by_cases ca : f.at_ < 2
  ·rw [if_pos ca]
   exact partR_top hn
  rw [if_neg ca]
  by_cases cb : f.at_ = 2
  ·rw [if_pos cb]
   refine Rs.Top.tick fun h => ?_
   match vs with
   | [] => exact trivial
   | [_] => exact trivial
   | x :: g :: vs =>
    simp only
    split
    ·exact trivial
    ·split
     ·exact (show n + 1 ≤ L by omega)
     ·exact trivial
  rw [if_neg cb]
  exact Rs.Top.tick fun h => (show n + 1 ≤ L by omega)
 rw [if_neg c7]
 by_cases c8 : f.e.k = 8
 ·rw [if_pos c8]
  unfold sLet
  by_cases ca : f.at_ = 0
  ·rw [if_pos ca]
   exact partR_top hn
  rw [if_neg ca]
  by_cases cb : f.at_ = 1
  ·rw [if_pos cb]
   refine Rs.Top.tick fun h => ?_
   match vs with
   | [] => exact trivial
   | x :: vs => exact partR_top (by omega)
  rw [if_neg cb]
  exact Rs.Top.tick fun h => (show n + 1 ≤ L by omega)
 rw [if_neg c8]
 by_cases c9 : f.e.k = 9
 ·rw [if_pos c9]
  unfold sIf
  by_cases ca : f.at_ = 0
  ·rw [if_pos ca]
   exact partR_top hn
  rw [if_neg ca]
  by_cases cb : f.at_ = 1
  ·rw [if_pos cb]
   refine Rs.Top.tick fun h => ?_
   match vs with
   | [] => exact trivial
   | x :: vs =>
    simp only
    split
    ·exact trivial
    ·split
     ·exact partR_top (by omega)
     ·exact insteadR_top (by omega)
  rw [if_neg cb]
  exact Rs.Top.tick fun h => (show n + 1 ≤ L by omega)
 rw [if_neg c9]
 by_cases c10 : f.e.k = 10
 ·rw [if_pos c10]
  unfold sOp
  by_cases ca : f.at_ < 2
  ·rw [if_pos ca]
   exact partR_top hn
  rw [if_neg ca]
  refine Rs.Top.tick fun h => ?_
  match vs with
  | [] => exact trivial
  | [_] => exact trivial
  | y :: x :: vs =>
   simp only
   split
   ·exact trivial
   ·split
    ·exact (show n + 1 ≤ L by omega)
    ·exact trivial
 rw [if_neg c10]
 by_cases c12 : f.e.k = 12
 ·rw [if_pos c12]
  unfold sLst
  by_cases ca : f.at_ < 2
  ·rw [if_pos ca]
   exact partR_top hn
  rw [if_neg ca]
  refine Rs.Top.tick fun h => ?_
  match vs with
  | [] => exact trivial
  | [_] => exact trivial
  | y :: x :: vs =>
   simp only
   split
   ·exact trivial
   ·exact (show n + 1 ≤ L by omega)
 rw [if_neg c12]
 by_cases c13 : f.e.k = 13
 ·rw [if_pos c13]
  unfold sCase
  by_cases ca : f.at_ = 0
  ·rw [if_pos ca]
   exact partR_top hn
  rw [if_neg ca]
  by_cases cb : f.at_ = 1
  ·rw [if_pos cb]
   refine Rs.Top.tick fun h => ?_
   match vs with
   | [] => exact trivial
   | x :: vs =>
    simp only
    split
    ·exact trivial
    ·split
     ·exact insteadR_top (by omega)
     ·exact partR_top (by omega)
  rw [if_neg cb]
  exact Rs.Top.tick fun h => Rs.Top.tick fun h' => (show n + 2 ≤ L by omega)
 rw [if_neg c13]
 by_cases c14 : f.e.k = 14
 ·rw [if_pos c14]
  exact Rs.Top.tick fun h => (show n + 1 ≤ L by omega)
 rw [if_neg c14]
 exact trivial
section
variable {W0 : World} {B0 vb rb base : Nat} {m : Value} {L : Int} {w : World} {fv : Value} {fc : List Value} {gv : Value} {gc : List Value} {rs : List Rm}
theorem EsB.sm {s : Es} (h : EsB strK.ok intK.ok 400 s) (ho : s.Ok) (hL : L ≤ 100000) (hn : s.n ≤ L) : Sm L s:=by
 obtain ⟨h1,h2⟩:=h.lens ho (Nat.le_refl _) (by omega)
 exact ⟨h.n0,by omega,by omega,by omega⟩
theorem meth_any {look : ByteArray → Int → Option Xp} {mb : Nat} {n z : Int} {f : Fe} {fs : List Fe} {vs : List Va} {g cap : Nat} (h : EvI W0 B0 vb rb base m L w ⟨n,z,f :: fs,vs⟩ (.slice (some ⟨g,0,none⟩) (fs.length + 1) cap) fc gv gc rs)
  (hm : m = .map (some mb)) (hlk : LkR W0 B0 vb rb base mb look) (hL : L ≤ 100000) (hn : n ≤ L) (ho : Es.Ok ⟨n,z,f :: fs,vs⟩) (hB : EsB strK.ok intK.ok 400 ⟨n,z,f :: fs,vs⟩) :
  ∃ F,kindG f.e.k = some (.func (.func F) #[] #[]) ∧ Calls Tryz.prog F #[.pointer (some ⟨vb,0,none⟩),.pointer (some ⟨g,fs.length * 3,none⟩)] w (MethR W0 B0 vb rb base m L (.slice (some ⟨g,0,none⟩) (fs.length + 1) cap) gv rs w (stepE look L n z f fs vs)):=by
 have hs : Sm L ⟨n,z,f :: fs,vs⟩:=hB.sm ho hL hn
 obtain ⟨r1,r2,r3,⟨⟨⟨k1,k15,k6,k7,k8,k9,k10,k12,k13,k14⟩,hss⟩,hv,ha7,ha8,ha9,ha13,ha10,ha12,ha5⟩,r5⟩:=ho.rest
 have hf:=hB.fs f List.mem_cons_self
 have hvb:=hB.vs
 have hn0:=hB.n0
 simp only at hf hvb hn0
 have hvl : f.v.len ≤ 200000:=by have:=hf.l;omega
 have one : (1 ≤ held f.e.k f.at_) → ∃ x vs1,vs = x :: vs1:=fun hh => by
  match vs,r3 with
  | [],r3 => simp at r3;omega
  | x :: vs1,_ => exact ⟨x,vs1,rfl⟩
 have two : (2 ≤ held f.e.k f.at_) → ∃ y x vs1,vs = y :: x :: vs1:=fun hh => by
  match vs,r3 with
  | [],r3 => simp at r3;omega
  | [_],r3 => simp at r3;omega
  | y :: x :: vs1,_ => exact ⟨y,x,vs1,rfl⟩
 rcases (show f.e.k = 1 ∨ f.e.k = 2 ∨ f.e.k = 3 ∨ f.e.k = 4 ∨ f.e.k = 5 ∨ f.e.k = 6 ∨ f.e.k = 7 ∨ f.e.k = 8 ∨ f.e.k = 9 ∨ f.e.k = 10 ∨ f.e.k = 11 ∨ f.e.k = 12 ∨ f.e.k = 13 ∨ f.e.k = 14 ∨ f.e.k = 15 by omega) with hk | hk | hk | hk | hk | hk | hk | hk | hk | hk | hk | hk | hk | hk | hk
 ·refine ⟨86,by rw [hk];rfl,?_⟩
  rw [show stepE look L n z f fs vs = sCon L n z f fs vs by simp [stepE,hk]]
  exact evCon_any h hs (by omega)
 ·refine ⟨86,by rw [hk];rfl,?_⟩
  rw [show stepE look L n z f fs vs = sCon L n z f fs vs by simp [stepE,hk]]
  exact evCon_any h hs (by omega)
 ·refine ⟨87,by rw [hk];rfl,?_⟩
  rw [show stepE look L n z f fs vs = sVar L n z f fs vs by simp [stepE,hk]]
  exact evVar_any h hs (by omega)
 ·refine ⟨88,by rw [hk];rfl,?_⟩
  rw [show stepE look L n z f fs vs = tick L n (Rs.bad 21 (n + 1)) by simp [stepE,hk]]
  exact evDot_any h hs
 ·refine ⟨89,by rw [hk];rfl,?_⟩
  rw [show stepE look L n z f fs vs = sRef look L n z f fs vs by simp [stepE,hk]]
  refine evRef_any h hs hm hlk (ha5 hk) ?_ hf.e.i
  split
  ·exact hf.p
  ·exact hf.e.n
 ·refine ⟨90,by rw [hk];rfl,?_⟩
  rw [show stepE look L n z f fs vs = sFun L n z f fs vs by simp [stepE,hk]]
  exact evFun_any h hs
 ·refine ⟨91,by rw [hk];rfl,?_⟩
  rw [show stepE look L n z f fs vs = sCall L n z f fs vs by simp [stepE,hk]]
  refine evCall_any h hs (ha7 hk) (k7 hk) fun ha => ?_
  obtain ⟨y,x,vs1,rfl⟩:=two (by unfold held;rw [if_pos hk,if_neg (by omega)];omega)
  have hx:=hvb x (by simp)
  refine ⟨y,x,vs1,rfl,(r5 x (by simp)).1,?_⟩
  have:=hx.2.2.1
  omega
 ·refine ⟨92,by rw [hk];rfl,?_⟩
  rw [show stepE look L n z f fs vs = sLet L n z f fs vs by simp [stepE,hk]]
  exact evLet_any h hs (ha8 hk) (k8 hk) (fun ha => one (by unfold held;rw [if_neg (by omega),if_pos (by omega),if_neg (by omega)];omega)) (by omega)
 ·refine ⟨93,by rw [hk];rfl,?_⟩
  rw [show stepE look L n z f fs vs = sIf L n z f fs vs by simp [stepE,hk]]
  exact evIf_any h hs (ha9 hk) (k9 hk) (fun ha => one (by unfold held;rw [if_neg (by omega),if_pos (by omega),if_neg (by omega)];omega))
 ·refine ⟨94,by rw [hk];rfl,?_⟩
  rw [show stepE look L n z f fs vs = sOp L n z f fs vs by simp [stepE,hk]]
  exact evOp_any h hs (ha10 hk) (k10 hk) (fun ha => two (by unfold held;rw [if_neg (by omega),if_neg (by omega),if_pos (by omega)];omega))
 ·refine ⟨86,by rw [hk];rfl,?_⟩
  rw [show stepE look L n z f fs vs = sCon L n z f fs vs by simp [stepE,hk]]
  exact evCon_any h hs (by omega)
 ·refine ⟨95,by rw [hk];rfl,?_⟩
  rw [show stepE look L n z f fs vs = sLst L n z f fs vs by simp [stepE,hk]]
  refine evLst_any h hs (ha12 hk) (k12 hk) fun ha => ?_
  obtain ⟨y,x,vs1,rfl⟩:=two (by unfold held;rw [if_neg (by omega),if_neg (by omega),if_pos (by omega)];omega)
  have hy:=hvb y (by simp)
  refine ⟨y,x,vs1,rfl,?_⟩
  have:=hy.2.1.1
  omega
 ·refine ⟨96,by rw [hk];rfl,?_⟩
  rw [show stepE look L n z f fs vs = sCase L n z f fs vs by simp [stepE,hk]]
  exact evCase_any h hs (ha13 hk) (k13 hk) (fun ha => one (by unfold held;rw [if_neg (by omega),if_pos (by omega),if_neg (by omega)];omega)) (by omega)
 ·refine ⟨97,by rw [hk];rfl,?_⟩
  rw [show stepE look L n z f fs vs = sChance L n z f fs vs by simp [stepE,hk]]
  exact evChance_any h hs (k14 hk)
 ·refine ⟨98,by rw [hk];rfl,?_⟩
  rw [show stepE look L n z f fs vs = Rs.bad 17 n by simp [stepE,hk]]
  exact evSum_any h hs
end
end Go.Proofs.YtnfndgmlnoeelaaGreatDoor
/- eval.run: the deferred function -/
namespace Go.Proofs.YtnfndgmlnoeelaaGreatDoor
open Go Go.RowKit Go.Proofs Go.Shelf

def stopped (e : Int) (r : Bool) : PanicEntry:={ v:=.iface 133 (.agg #[.int .i64 e]),recovered:=r }
theorem set_one {W : World} {b : Nat} {t : TypeId} {c : Value} (h : W.heap[b]? = some (.cells #[c] t (0,0))) (u : Value) : (W.setCell ⟨b,0,none⟩ u).heap[b]? = some (.cells #[u] t (0,0)):=by
 simp [World.setCell,Array.getElem?_modify,h]
set_option maxRecDepth 100000 in
set_option maxHeartbeats 4000000 in
theorem run1_panicking (a b6 b7 b8 vb : Nat) (err n : Int) (m L z f v r : Value) (c0 c1 c2 c3 c4 c5 c6 c7 d e0 : Value) (w : World)
  (ha : w.heap[a]? = some (.cells #[.pointer (some ⟨vb,0,none⟩)] 75 (0,0))) (h6 : w.heap[b6]? = some (.cells #[c0,c1,c2,c3,c4,c5,c6,c7] 36 (0,0)))
  (h7 : w.heap[b7]? = some (.cells #[d] 3 (0,0))) (h8 : w.heap[b8]? = some (.cells #[e0] 29 (0,0))) (hv : w.heap[vb]? = some (.cells #[m,.int .i64 n,L,z,f,v,r] 83 (0,0)))
  (n1 : b6 ≠ b7) (n2 : b6 ≠ b8) (n3 : b7 ≠ b8) (n4 : a ≠ b6) (n5 : a ≠ b7) (n6 : a ≠ b8) (n7 : vb ≠ b6) (n8 : vb ≠ b7) (n9 : vb ≠ b8) :
  CallsD Tryz.prog 58 #[.pointer (some ⟨a,0,none⟩),.pointer (some ⟨b6,0,none⟩),.pointer (some ⟨b7,0,none⟩),.pointer (some ⟨b8,0,none⟩)] (.panicking [stopped err false]) w fun e u' w' =>
   e = .returned (.tuple #[]) ∧ u' = .panicking [stopped err true] ∧
   w'.heap[b6]? = some (.cells #[.int .i64 0,.int .i64 0,.slice none 0 0,.int .i64 0,.string ⟨#[]⟩,.string ⟨#[]⟩,.slice none 0 0,.slice none 0 0] 36 (0,0)) ∧ w'.heap[b7]? = some (.cells #[.int .i64 n] 3 (0,0)) ∧ w'.heap[b8]? = some (.cells #[.int .i64 err] 29 (0,0)) ∧ Oth (fun k => k = b6 ∨ k = b7 ∨ k = b8) w w':=by
 have x0:=cell_of_row w a 0 _ _ (0,0) ha
 have x1:=cell_of_row w vb 1 _ _ (0,0) hv
 have y0:=Lib.frozen_of_heap h6 0
 have y1:=Lib.frozen_of_heap h6 1
 have y2:=Lib.frozen_of_heap h6 2
 have y3:=Lib.frozen_of_heap h6 3
 have y4:=Lib.frozen_of_heap h6 4
 have y5:=Lib.frozen_of_heap h6 5
 have y6:=Lib.frozen_of_heap h6 6
 have y7:=Lib.frozen_of_heap h6 7
 have y8:=Lib.frozen_of_heap h7 0
 have y9:=Lib.frozen_of_heap h8 0
 have z0:=cell_of_row w b6 0 _ _ (0,0) h6
 have z1:=cell_of_row w b6 1 _ _ (0,0) h6
 have z2:=cell_of_row w b6 2 _ _ (0,0) h6
 have z3:=cell_of_row w b6 3 _ _ (0,0) h6
 have z4:=cell_of_row w b6 4 _ _ (0,0) h6
 have z5:=cell_of_row w b6 5 _ _ (0,0) h6
 have z6:=cell_of_row w b6 6 _ _ (0,0) h6
 have z7:=cell_of_row w b6 7 _ _ (0,0) h6
 have z8:=cell_of_row w b7 0 _ _ (0,0) h7
 have z9:=cell_of_row w b8 0 _ _ (0,0) h8
 refine callsD_of_wpS Tryz.func58 rfl fun c₀ cs hu => ?_
 simp only [List.getElem?_toArray,List.getElem?_cons_zero,List.getElem?_cons_succ] at x0 x1 z0 z1 z2 z3 z4 z5 z6 z7 z8 z9
 unfold stopped at hu
 apply wpS_seq
 apply wpS_region
 simp [wpOpsS,go_sem,recoverD,hu,Tryz.ntmps58,Exit.thenS]
 clear hu
 refine wpS_of_wp ?_
 simp only [Array.replicate_succ,Array.replicate_zero,List.push_toArray,List.append_toArray,List.nil_append,List.cons_append,List.setIfInBounds_toArray,List.set_cons_succ,List.set_cons_zero]
 generalize hq : ((fun e a' w' => _) : Exit → Act → World → Prop) = Q9
 have HQ:=Lib.hid hq
 clear hq
 have HC:=Lib.hid (And.intro h6 (And.intro h7 h8))
 have HV:=Lib.hid hv
 have HA:=Lib.hid ha
 clear ha h6 h7 h8 hv
 go_upto_region 3 with (fail)
 generalize hW1 : (((((((((w.setCell ⟨b6,0,none⟩ (.int .i64 0)).setCell ⟨b6,1,none⟩ (.int .i64 0)).setCell ⟨b6,2,none⟩ (.slice none 0 0)).setCell ⟨b6,3,none⟩ (.int .i64 0)).setCell ⟨b6,4,none⟩ (.string ⟨#[]⟩)).setCell ⟨b6,5,none⟩ (.string ⟨#[]⟩)).setCell ⟨b6,6,none⟩ (.slice none 0 0)).setCell ⟨b6,7,none⟩ (.slice none 0 0)).setCell ⟨b7,0,none⟩ (.int .i64 n)).setCell ⟨b8,0,none⟩ (.int .i64 26) = W1
 obtain ⟨h6,h7,h8⟩:=HC.out
 have g6 : W1.heap[b6]? = some (.cells #[.int .i64 0,.int .i64 0,.slice none 0 0,.int .i64 0,.string ⟨#[]⟩,.string ⟨#[]⟩,.slice none 0 0,.slice none 0 0] 36 (0,0)):=by
  rw [← hW1,Below.heap_setCell _ _ _ _ (show b6 ≠ b8 from n2),Below.heap_setCell _ _ _ _ (show b6 ≠ b7 from n1)]
  exact set8 _ _ _ _ _ _ _ _ h6
 have ho : Oth (fun k => k = b6 ∨ k = b7 ∨ k = b8) w W1:=by
  rw [← hW1]
  exact ((((((((((Oth.refl _ _).setCell (fun _ => .inl rfl) _).setCell (fun _ => .inl rfl) _).setCell (fun _ => .inl rfl) _).setCell (fun _ => .inl rfl) _).setCell (fun _ => .inl rfl) _).setCell (fun _ => .inl rfl) _).setCell (fun _ => .inl rfl) _).setCell (fun _ => .inl rfl) _).setCell (fun _ => .inr (.inl rfl)) _).setCell (fun _ => .inr (.inr rfl)) _
 have g7 : W1.heap[b7]? = some (.cells #[.int .i64 n] 3 (0,0)):=by
  rw [← hW1,Below.heap_setCell _ _ _ _ (show b7 ≠ b8 from n3)]
  refine set_one (c:=d) ?_ _
  iterate 8 rw [Below.heap_setCell _ _ _ _ (show b7 ≠ b6 from fun e => n1 e.symm)]
  exact h7
 have g8 : W1.heap[b8]? = some (.cells #[.int .i64 26] 29 (0,0)):=by
  rw [← hW1]
  refine set_one (c:=e0) ?_ _
  rw [Below.heap_setCell _ _ _ _ (show b8 ≠ b7 from fun e => n3 e.symm)]
  iterate 8 rw [Below.heap_setCell _ _ _ _ (show b8 ≠ b6 from fun e => n2 e.symm)]
  exact h8
 clear hW1 h6 h7 h8 z0 z1 z2 z3 z4 z5 z6 z7 z8 z9 y0 y1 y2 y3 y4 y5 y6 y7 y8 y9
 have y9:=Lib.frozen_of_heap g8 0
 have z9:=cell_of_row W1 b8 0 _ _ (0,0) g8
 simp only [List.getElem?_toArray,List.getElem?_cons_zero] at z9
 have lt8:=lt_of_block g8
 have hta : ∀ W,(Instr.typeAssert (.iface 133 (.agg #[.int .i64 err])) 20 133 true).run Tryz.prog W = .ok (.tuple #[.agg #[.int .i64 err],.bool true]) W:=fun W => by kernel_rfl
 have HG:=Lib.hid (And.intro g6 (And.intro g7 (And.intro g8 ho)))
 clear g6 g7 g8 ho
 go_wp2
 rw [← HQ.out]
 obtain ⟨g6,g7,g8,ho⟩:=HG.out
 have l6:=lt_of_block g6
 have l7:=lt_of_block g7
 refine ⟨rfl,_,rfl,_,by simp [results,Tryz.results58],rfl,rfl,?_,?_,?_,(ho.setCell (fun _ => .inr (.inr rfl)) _).alloc _⟩
 ·rw [Below.heap_alloc _ _ _ (by simpa using l6),Below.heap_setCell _ _ _ _ (show b6 ≠ b8 from n2)]
  exact g6
 ·rw [Below.heap_alloc _ _ _ (by simpa using l7),Below.heap_setCell _ _ _ _ (show b7 ≠ b8 from n3)]
  exact g7
 ·rw [Below.heap_alloc _ _ _ (by simpa using lt8)]
  exact set_one g8 _

set_option maxRecDepth 100000 in
theorem run1_idle (p q r s : Addr) (w : World) :
  CallsD Tryz.prog 58 #[.pointer (some p),.pointer (some q),.pointer (some r),.pointer (some s)] .returning w fun e u' w' => e = .returned (.tuple #[]) ∧ u' = .returning ∧ w' = w:=by
 refine callsD_of_wpS Tryz.func58 rfl fun c₀ cs hu => ?_
 apply wpS_seq
 apply wpS_region
 simp [wpOpsS,go_sem,recoverD,hu,Tryz.ntmps58,Exit.thenS]
 apply wpS_seq
 apply wpS_region
 simp [wpOpsS,go_sem,Exit.thenS]
 refine wpS_cond (t:=false) (by simp [Act.eval]) ?_
 simp only [Bool.false_eq_true,if_false]
 refine wpS_of_wp (wp_skip ?_)
 cases c₀
 simp_all [bodyPostS,results,Tryz.results58]
end Go.Proofs.YtnfndgmlnoeelaaGreatDoor
