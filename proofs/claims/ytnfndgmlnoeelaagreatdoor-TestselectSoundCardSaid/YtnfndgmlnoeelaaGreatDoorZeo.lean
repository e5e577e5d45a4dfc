/- eval.newEvaluator -/
import Derived.Test.YtnfndgmlnoeelaaGreatDoorEqr
import Derived.Test.YtnfndgmlnoeelaaGreatDoorZlt
import Derived.Test.YtnfndgmlnoeelaaGreatDoorZls
import Derived.Test.YtnfndgmlnoeelaaGreatDoorChk
import Derived.Test.YtnfndgmlnoeelaaGreatDoorZlj
import Derived.Test.YtnfndgmlnoeelaaGreatDoorZln
import Derived.Test.YtnfndgmlnoeelaaGreatDoorZlz
namespace Go.Proofs.YtnfndgmlnoeelaaGreatDoor
open Go Go.RowKit Go.Proofs Go.Shelf
def xpOf (x : Dc) : Xp:=⟨x.k,x.n,x.m,x.i,x.d,x.s.sk⟩
def lookOf (l : List Mo) (p : ByteArray) (i : Int) : Option Xp:=(bodyOf l (p,i)).map xpOf
theorem Dc.xpA {w : World} {B : Nat} {A : Option Addr} {c : Nat} {ds : List Dc} (h : SlD w B A c ds) {j : Nat} {x : Dc} (hx : ds[j]? = some x) : ∃ b o,A = some ⟨b,o,none⟩ ∧ XpA w B b (o + j * 11 + 5) (xpOf x) ∧ w.cell? ⟨b,o + j * 11 + 1,none⟩ = some (.int .i64 x.kind):=by
 obtain ⟨b,o,e,hb,d0,d1,d2,d3,d4,d5,d6,d7,d8,d9,d10,hok⟩:=h.cells_at (fun _ _ => rfl) hx
 exact ⟨b,o,e,⟨hb,d5,d6,d7,d8,d9,x.A,x.c,by show _ = some (Value.slice x.A x.s.sk.len x.c);rw [Fo.sk_len];exact d10,x.s,rfl,hok.2⟩,d1⟩
def PtR (w : World) (B : Nat) (f : Int → Option Dc) (g : Int → Option Value) : Prop:=
 ∀ i,intK.ok i → (g i = none → f i = none) ∧ ∀ u,g i = some u → ∃ db o x,u = .pointer (some ⟨db,o,none⟩) ∧ f i = some x ∧ XpA w B db (o + 5) (xpOf x) ∧ w.cell? ⟨db,o + 1,none⟩ = some (.int .i64 x.kind)
def InM (w : World) (B : Nat) (wr : World) (b n : Nat) (f : Int → Option Dc) : Prop:=∃ g,MapA intK wr b n g ∧ PtR w B f g
theorem InM.keep {w : World} {B : Nat} {wr wr' : World} {b n : Nat} {f : Int → Option Dc} (h : InM w B wr b n f) (e : wr'.heap[b]? = wr.heap[b]?) : InM w B wr' b n f:=by
 obtain ⟨g,h1,h3⟩:=h
 exact ⟨g,h1.keep e,h3⟩
theorem InM.cong {w : World} {B : Nat} {wr : World} {b n n' : Nat} {f f' : Int → Option Dc} (h : InM w B wr b n f) (hn : n ≤ n') (e : ∀ i,f i = f' i) : InM w B wr b n' f':=by
 obtain ⟨g,h1,h3⟩:=h
 refine ⟨g,h1.mono hn,fun i hi => ?_⟩
 rw [← e i]
 exact h3 i hi
structure NwM (w : World) (B : Nat) (wr : World) (F : ByteArray → Nat) (l : List Mo) : Prop where
 mp : MapA strK wr w.heap.size l.length (fun a => if labs l a = true then some (.map (some (F a))) else none)
 lo : ∀ a,labs l a = true → w.heap.size + 3 ≤ F a ∧ F a < wr.heap.size
 inn : ∀ a,labs l a = true → InM w B wr (F a) 1000 (fun i => bodyOf l (a,i))
 inj : ∀ a b,labs l a = true → labs l b = true → F a = F b → a = b
theorem NwM.keep {w wr wr' : World} {B : Nat} {F : ByteArray → Nat} {l : List Mo} (h : NwM w B wr F l) (hz : wr.heap.size ≤ wr'.heap.size) (hk : ∀ k,k < wr.heap.size → wr'.heap[k]? = wr.heap[k]?) : NwM w B wr' F l:=
 ⟨h.mp.keep (hk _ h.mp.lt),fun a ha => ⟨(h.lo a ha).1,Nat.lt_of_lt_of_le (h.lo a ha).2 hz⟩,fun a ha => (h.inn a ha).keep (hk _ (h.lo a ha).2),h.inj⟩
theorem NwM.skip {w wr : World} {B : Nat} {F : ByteArray → Nat} {l : List Mo} {m : Mo} (h : NwM w B wr F l) (hm : labs l m.label = true) : NwM w B wr F (l ++ [m]):=by
 have e : ∀ a,labs (l ++ [m]) a = labs l a:=fun a => by
  rw [labs_snoc]
  by_cases hx : m.label = a
  ·rw [← hx,hm];rfl
  ·simp [hx]
 refine ⟨(h.mp.mono (by simp)).cong fun a _ => by rw [e],fun a ha => h.lo a (by rwa [e] at ha),fun a ha => ?_,fun a b ha hb => h.inj a b (by rwa [e] at ha) (by rwa [e] at hb)⟩
 rw [e] at ha
 refine (h.inn a ha).cong (Nat.le_refl _) fun i => ?_
 rw [bodyOf_snoc,if_pos ha]
structure NwC (w : World) (B : Nat) (wr : World) (F : ByteArray → Nat) (l : List Mo) (m : Mo) (q : Nat) : Prop where
 mp : MapA strK wr w.heap.size (l.length + 1) (fun a => if labs (l ++ [m]) a = true then some (.map (some (F a))) else none)
 lo : ∀ a,labs (l ++ [m]) a = true → w.heap.size + 3 ≤ F a ∧ F a < wr.heap.size
 inn : ∀ a,labs l a = true → InM w B wr (F a) 1000 (fun i => bodyOf l (a,i))
 cur : InM w B wr (F m.label) q (fun i => declAt (m.ds.take q) i)
 inj : ∀ a b,labs (l ++ [m]) a = true → labs (l ++ [m]) b = true → F a = F b → a = b
theorem labs_self (l : List Mo) (m : Mo) : labs (l ++ [m]) m.label = true:=by rw [labs_snoc];simp
theorem NwC.fin {w wr : World} {B : Nat} {F : ByteArray → Nat} {l : List Mo} {m : Mo} {q : Nat} (h : NwC w B wr F l m q) (hm : labs l m.label = false) (hq : m.ds.length ≤ q) (hq' : q ≤ 1000) : NwM w B wr F (l ++ [m]):=by
 refine ⟨by simpa using h.mp,h.lo,fun a ha => ?_,h.inj⟩
 rw [labs_snoc] at ha
 cases hl : labs l a with
 | true =>
  refine (h.inn a hl).cong (Nat.le_refl _) fun i => ?_
  rw [bodyOf_snoc,if_pos hl]
 | false =>
  rw [hl] at ha
  have e : m.label = a:=by simpa using ha
  subst e
  refine h.cur.cong hq' fun i => ?_
  rw [bodyOf_snoc,if_neg (by rw [hm];simp),if_pos rfl,List.take_of_length_le hq]
theorem NwC.keep {w wr wr' : World} {B : Nat} {F : ByteArray → Nat} {l : List Mo} {m : Mo} {q : Nat} (h : NwC w B wr F l m q) (hz : wr.heap.size ≤ wr'.heap.size) (hk : ∀ k,k < wr.heap.size → wr'.heap[k]? = wr.heap[k]?) : NwC w B wr' F l m q:=
 ⟨h.mp.keep (hk _ h.mp.lt),fun a ha => ⟨(h.lo a ha).1,Nat.lt_of_lt_of_le (h.lo a ha).2 hz⟩,fun a ha => (h.inn a ha).keep (hk _ (h.lo a (by rw [labs_snoc,ha];rfl)).2),h.cur.keep (hk _ (h.lo _ (labs_self l m)).2),h.inj⟩
theorem NwM.open_ {w wr w2 : World} {B : Nat} {F : ByteArray → Nat} {l : List Mo} {m : Mo} (h : NwM w B wr F l) (hm : labs l m.label = false) (hz0 : w.heap.size + 3 ≤ wr.heap.size) (hmp : MapA strK w2 w.heap.size (l.length + 1) (fun a => if a = m.label then some (.map (some wr.heap.size)) else (if labs l a = true then some (.map (some (F a))) else none)))
  (hn : MapA intK w2 wr.heap.size 0 (fun _ => none)) (hk : ∀ k,k < wr.heap.size → k ≠ w.heap.size → w2.heap[k]? = wr.heap[k]?) : NwC w B w2 (fun a => if a = m.label then wr.heap.size else F a) l m 0:=by
 have ne : ∀ a,labs l a = true → a ≠ m.label:=fun a ha e => by rw [e,hm] at ha;cases ha
 have cs : ∀ a,labs (l ++ [m]) a = true → a = m.label ∨ (a ≠ m.label ∧ labs l a = true):=fun a ha => by
  rw [labs_snoc] at ha
  by_cases e : a = m.label
  ·exact .inl e
  ·have e' : ¬ m.label = a:=fun h => e h.symm
   simp [e'] at ha
   exact .inr ⟨e,ha⟩
 have hlt:=hn.lt
 refine ⟨hmp.cong fun a _ => ?_,fun a ha => ?_,fun a ha => ?_,?_,fun a b ha hb hab => ?_⟩
 ·by_cases e : a = m.label
  ·subst e
   rw [if_pos rfl,if_pos (labs_self l m)]
   simp
  ·have e' : ¬ m.label = a:=fun h => e h.symm
   rw [if_neg e,labs_snoc]
   simp [e,e']
 ·rcases cs a ha with e | ⟨e,e2⟩
  ·simp only [e,if_true]
   exact ⟨hz0,hlt⟩
  ·simp only [e,if_false]
   have:=h.lo a e2
   omega
 ·have e:=ne a ha
  simp only [e,if_false]
  have:=h.lo a ha
  exact (h.inn a ha).keep (hk _ this.2 (by omega))
 ·simp only [if_true]
  exact ⟨_,hn,fun i _ => ⟨fun _ => rfl,fun u hu => by cases hu⟩⟩
 ·rcases cs a ha with e | ⟨e,e2⟩ <;> rcases cs b hb with f | ⟨f,f2⟩
  ·rw [e,f]
  ·simp only [e,f,if_true,if_false] at hab
   have:=(h.lo b f2).2
   omega
  ·simp only [e,f,if_true,if_false] at hab
   have:=(h.lo a e2).2
   omega
  ·simp only [e,f,if_false] at hab
   exact h.inj a b e2 f2 hab
theorem NwC.put {w wr w2 : World} {B : Nat} {F : ByteArray → Nat} {l : List Mo} {m : Mo} {q : Nat} {x : Dc} {g : Int → Option Value} {b o : Nat} (h : NwC w B wr F l m q) (hm : labs l m.label = false) (hx : m.ds[q]? = some x) (hnd : (m.ds.map (·.id)).Nodup) (hg : PtR w B (fun i => declAt (m.ds.take q) i) g)
  (hM : MapA intK w2 (F m.label) (q + 1) (fun i => if i = x.id then some (.pointer (some ⟨b,o,none⟩)) else g i)) (hX : XpA w B b (o + 5) (xpOf x) ∧ w.cell? ⟨b,o + 1,none⟩ = some (.int .i64 x.kind)) (hz : wr.heap.size ≤ w2.heap.size) (hk : ∀ k,k < wr.heap.size → k ≠ F m.label → w2.heap[k]? = wr.heap[k]?) : NwC w B w2 F l m (q + 1):=by
 have hlo:=h.lo _ (labs_self l m)
 have hml:=h.mp.lt
 obtain ⟨hql,rfl⟩:=List.getElem?_eq_some_iff.1 hx
 refine ⟨h.mp.keep (hk _ hml (by omega)),fun a ha => ⟨(h.lo a ha).1,Nat.lt_of_lt_of_le (h.lo a ha).2 hz⟩,fun a ha => ?_,⟨_,hM,fun i hi => ?_⟩,h.inj⟩
 ·have ha2 : labs (l ++ [m]) a = true:=by rw [labs_snoc,ha];rfl
  refine (h.inn a ha).keep (hk _ (h.lo a ha2).2 fun e => ?_)
  have:=h.inj a _ ha2 (labs_self l m) e
  rw [this,hm] at ha
  cases ha
 ·have ht : m.ds.take (q + 1) = m.ds.take q ++ [m.ds[q]]:=List.take_succ_eq_append_getElem hql
  have hno : declAt (m.ds.take q) m.ds[q].id = none:=by
   unfold declAt
   rw [List.find?_eq_none]
   intro y hy
   simp only [decide_eq_true_eq]
   intro e
   have h1 : m.ds = m.ds.take q ++ m.ds[q] :: m.ds.drop (q + 1):=by rw [← List.drop_eq_getElem_cons hql,List.take_append_drop]
   rw [h1,List.map_append,List.map_cons,List.nodup_append] at hnd
   exact hnd.2.2 _ (List.mem_map_of_mem hy) _ (List.mem_cons_self) e
  rw [ht]
  simp only [declAt_snoc]
  by_cases e : i = m.ds[q].id
  ·subst e
   rw [hno]
   simp only [if_true,Option.isSome_none,Bool.false_eq_true,if_false]
   exact ⟨fun hh => (by simp at hh),fun u hu => ⟨b,o,m.ds[q],(by simpa using hu.symm),rfl,hX⟩⟩
  ·have e' : ¬ m.ds[q].id = i:=fun h => e h.symm
   obtain ⟨g1,g2⟩:=hg i hi
   simp only at g1 g2
   simp only [e,e',if_false]
   refine ⟨fun hh => ?_,fun u hu => ?_⟩
   ·rw [g1 hh]
    rfl
   ·obtain ⟨db,o',y,e1,e2,e3⟩:=g2 u hu
    refine ⟨db,o',y,e1,?_,e3⟩
    rw [e2]
    rfl
theorem drewN_below {B : Nat} {w w' : World} (h : Below B w w') (n : Nat) : Below B w (w'.drewN n):=⟨h.os,h.tape,h.output,h.size,h.block⟩
theorem neMn (b : Nat) (W : World) : (binOp .neq 78 (.map (some b)) (.map none)).run Tryz.prog W = .ok (.bool true) W:=by kernel_rfl
theorem neNn (W : World) : (binOp .neq 78 (.map none) (.map none)).run Tryz.prog W = .ok (.bool false) W:=by kernel_rfl
theorem neMg (x y : Operand) (b : Nat) (W : World) : (eqGuard .neq 78 x y (.map (some b)) (.map none)).run Tryz.prog W = .ok () W:=by kernel_rfl
theorem neNg (x y : Operand) (W : World) : (eqGuard .neq 78 x y (.map none) (.map none)).run Tryz.prog W = .ok () W:=by kernel_rfl
structure NwE (w wr : World) (m : Value) (L z : Int) : Prop where
 eb : wr.heap[w.heap.size + 2]? = some (.cells (evC m 0 L z (.slice none 0 0) (.slice none 0 0) (.map (some (w.heap.size + 1)))) 83 (0,0))
 rb : wr.heap[w.heap.size + 1]? = some (.map #[] 0)
structure LkD (W0 : World) (B0 vb rb base mb : Nat) (l : List Mo) : Prop where
 ex : ∃ N g,MapA strK W0 mb N g ∧ (mb < base ∧ mb ≠ vb ∧ mb ≠ rb) ∧ (∀ p,strK.ok p → g p = none → ∀ i,bodyOf l (p,i) = none) ∧
  ∀ p u,strK.ok p → g p = some u → ∃ ib N' gi,u = .map (some ib) ∧ MapA intK W0 ib N' gi ∧ (ib < base ∧ ib ≠ vb ∧ ib ≠ rb) ∧ (∀ i,intK.ok i → gi i = none → bodyOf l (p,i) = none) ∧
   ∀ i u,intK.ok i → gi i = some u → ∃ db o x,u = .pointer (some ⟨db,o,none⟩) ∧ bodyOf l (p,i) = some x ∧ XpA W0 B0 db (o + 5) (xpOf x) ∧ W0.cell? ⟨db,o + 1,none⟩ = some (.int .i64 x.kind)
theorem LkD.lk {W0 : World} {B0 vb rb base mb : Nat} {l : List Mo} (h : LkD W0 B0 vb rb base mb l) : LkR W0 B0 vb rb base mb (lookOf l):=by
 obtain ⟨N,g,h1,h2,h3,h4⟩:=h.ex
 refine ⟨N,g,h1,h2,fun p hp hg i => by unfold lookOf;rw [h3 p hp hg i];rfl,fun p u hp hu => ?_⟩
 obtain ⟨ib,N',gi,e,g1,g2,g3,g4⟩:=h4 p u hp hu
 refine ⟨ib,N',gi,e,g1,g2,fun i hi hg => by unfold lookOf;rw [g3 i hi hg];rfl,fun i v hi hv => ?_⟩
 obtain ⟨db,o,x,e1,e2,e3,_⟩:=g4 i v hi hv
 exact ⟨db,o,xpOf x,e1,by unfold lookOf;rw [e2];rfl,e3⟩
def NewR (l : List Mo) (L z : Int) (B : Nat) (w : World) (e : Ending) (w' : World) : Prop:=
 ∃ vb rb mb,e = .returned (.pointer (some ⟨vb,0,none⟩)) ∧ Ev0 w' vb rb (.map (some mb)) L z ∧ LkD w' B vb rb w'.heap.size mb l ∧ w.heap.size ≤ vb ∧ w.heap.size ≤ rb ∧ Below w.heap.size w w'
set_option maxRecDepth 100000 in
set_option maxHeartbeats 8000000 in
theorem evNew_any (l : List Mo) (A : Option Addr) (c : Nat) (L z : Int) (B : Nat) (w : World) (hBz : B ≤ w.heap.size) (hl : SlM w B A c l) (hw : MoW l) (hll : l.length ≤ 1000) (hds : ∀ m ∈ l,m.ds.length ≤ 1000) (hnd : ∀ m ∈ l,(m.ds.map (·.id)).Nodup) :
  Calls Tryz.prog 26 #[.slice A l.length c,.int .i64 L,.int .u64 z] w (NewR l L z B w):=by
 have hmm:=@run_makeMap Tryz.prog
 have hem:=neMn
 have hen:=neNn
 have heg:=neMg
 have heh:=neNg
 have h1:=hl.1
 have h2:=hl.2.1
 unfold maxLen at h2
 obtain ⟨N,HN⟩ : ∃ Q,Hid (l.length = Q):=⟨_,Lib.hid rfl⟩
 rw [HN.out] at h1 hll ⊢
 obtain ⟨W0,hW0⟩ : ∃ W0,((w.alloc (.map #[] 0)).alloc (.map #[] 0)).alloc (.cells #[.map (some w.heap.size),.int .i64 0,.int .i64 L,.int .u64 z,.slice none 0 0,.slice none 0 0,.map (some (w.heap.size + 1))] 83) = W0:=⟨_,rfl⟩
 have hz0 : W0.heap.size = w.heap.size + 3:=by subst hW0;simp
 have hB0 : Below w.heap.size w W0:=by subst hW0;exact (((Below.refl _ _).alloc (Nat.le_refl _) _).alloc (by simp) _).alloc (by simp;omega) _
 have hm0 : MapA strK W0 w.heap.size 0 (fun _ => none):=by
  subst hW0
  exact (MapA.made strK w).keep ((Below.heap_alloc _ _ _ (by simp;omega)).trans (Below.heap_alloc _ _ _ (by simp)))
 have hE0 : NwE w W0 (.map (some w.heap.size)) L z:=by
  subst hW0
  refine ⟨?_,?_⟩
  ·have:=heap_alloc_new ((w.alloc (.map #[] 0)).alloc (.map #[] 0)) (.cells #[.map (some w.heap.size),.int .i64 0,.int .i64 L,.int .u64 z,.slice none 0 0,.slice none 0 0,.map (some (w.heap.size + 1))] 83)
   simpa [evC] using this
  ·rw [Below.heap_alloc _ _ _ (by simp)]
   have:=heap_alloc_new (w.alloc (.map #[] 0)) (.map #[] 0)
   simpa using this
 have hN0 : NwM w B W0 (fun _ => 0) []:=⟨by simpa [labs] using hm0,fun a ha => by simp [labs] at ha,fun a ha => by simp [labs] at ha,fun a b ha => by simp [labs] at ha⟩
 have HW0:=Lib.hid hW0
 clear hW0
 go_enter Tryz.func26,Tryz.ntmps26
 go_wp2
 go_loopg [9,10,19] N (fun g _ _ ct wr => ∃ (j : Nat) (F : ByteArray → Nat),g = N - j ∧ j ≤ N ∧ ct = .int .i64 j ∧ NwM w B wr F (l.take j) ∧ NwE w wr (.map (some w.heap.size)) L z ∧ Below w.heap.size w wr)
 case atStart => rw [HW0.out];exact ⟨0,_,rfl,by omega,rfl,hN0,hE0,hB0⟩
 case round =>
  obtain ⟨j,F,HG,hj,rfl,hN,hE,hB⟩:=hrel
  have hzr:=lt_of_block hE.eb
  by_cases hlt : j < N
  ·have hlt' : j < l.length:=by rw [HN.out];exact hlt
   have hj3 : l[j]? = some l[j]:=List.getElem?_eq_getElem hlt'
   obtain ⟨b,o,rfl,hb,d0,d1,d2,hok⟩:=hl.at_ hj3
   replace d0:=(hB.cell (p:=⟨b,o + j * 3,none⟩) (Nat.lt_of_lt_of_le hb hBz)).trans d0
   replace d1:=(hB.cell (p:=⟨b,o + j * 3 + 1,none⟩) (Nat.lt_of_lt_of_le hb hBz)).trans d1
   replace d2:=(hB.cell (p:=⟨b,o + j * 3 + 2,none⟩) (Nat.lt_of_lt_of_le hb hBz)).trans d2
   have hwm:=hw _ (List.mem_of_getElem? hj3)
   have hdm:=hds _ (List.mem_of_getElem? hj3)
   have hnm:=hnd _ (List.mem_of_getElem? hj3)
   have htk : l.take (j + 1) = l.take j ++ [l[j]]:=List.take_succ_eq_append_getElem hlt'
   have hlj : (l.take j).length = j:=by rw [List.length_take];omega
   have HT:=Lib.hid (And.intro HG (And.intro hN (And.intro hE (And.intro hB (And.intro hok (And.intro hwm (And.intro hdm (And.intro hnm (And.intro htk hlj)))))))))
   clear HG hN hE hB hok hwm hdm hnm htk hlj hj3
   generalize l[j] = m at d0 d1 d2 HT
   obtain ⟨label,uA,uc,uses,dA,dc,ds⟩:=m
   simp only [Mo.Ok] at HT d0 d1 d2
   obtain ⟨W1,hW1⟩ : ∃ W1,wr.alloc (.cells #[.string label,.slice uA uses.length uc,.slice dA ds.length dc] 58) = W1:=⟨_,rfl⟩
   have hb1 : Below wr.heap.size wr W1:=by subst hW1;exact (Below.refl _ _).alloc (Nat.le_refl _) _
   have hz1 : W1.heap.size = wr.heap.size + 1:=by subst hW1;simp
   have hbx : W1.heap[wr.heap.size]? = some (.cells #[.string label,.slice uA uses.length uc,.slice dA ds.length dc] 58 (0,0)):=by subst hW1;exact heap_alloc_new _ _
   have f0:=cell_of_row W1 wr.heap.size 0 _ _ (0,0) hbx
   have v0:=cell_of_row W1 (w.heap.size + 2) 0 _ _ (0,0) ((hb1.block _ (by omega)).trans HT.out.2.2.1.eb)
   simp [evC] at f0 v0
   have hN1:=HT.out.2.1.keep (wr':=W1) (by omega) fun k hk => hb1.block k hk
   have hlk : ∀ q,(Instr.lookup 79 (.map (some w.heap.size)) (.string label) false).run Tryz.prog (W1.drewN q) = .ok (.map (if labs (l.take j) label = true then some (F label) else none)) (W1.drewN q):=fun q => by
    have:=(hN1.mp.keep (w':=W1.drewN q) rfl).look false Tryz.undD2 (zeroDm (W1.drewN q)) (a:=label) HT.out.2.2.2.2.2.1.1
    cases hlab : labs (l.take j) label with
    | true => rw [hlab] at this;exact this
    | false => rw [hlab] at this;exact this
   have HB1:=Lib.hid (And.intro hb1 (And.intro hN1 hbx))
   clear hb1 hN1 hbx
   cases hlab : labs (l.take j) label with
   | true =>
    rw [hlab] at hlk
    simp only [if_true] at hlk
    have HLab:=Lib.hid hlab
    clear hlab
    go_wp2
    clear hW1
    go_quiet (fail)
    go_wp2
    go_roundg (N - (j + 1))
    case measure => rw [HT.out.1];omega
    case rel =>
     refine ⟨j + 1,F,rfl,by omega,by go_num,?_,?_,?_⟩
     ·rw [HT.out.2.2.2.2.2.2.2.2.1]
      exact (HB1.out.2.1.skip (m:=⟨label,uA,uc,uses,dA,dc,ds⟩) HLab.out).keep (Nat.le_refl _) fun _ _ => rfl
     ·exact ⟨(HB1.out.1.block _ (by omega)).trans HT.out.2.2.1.eb,(HB1.out.1.block _ (by omega)).trans HT.out.2.2.1.rb⟩
     ·exact drewN_below (HT.out.2.2.2.1.trans (HB1.out.1.mono (by omega))) _
   | false =>
    rw [hlab] at hlk
    simp only [Bool.false_eq_true,if_false] at hlk
    have HLab:=Lib.hid hlab
    clear hlab
    go_wp2
    clear hW1
    go_quiet (fail)
    have hq0 : (W1.drewN nq).heap = W1.heap:=rfl
    have hq1 : Below W1.heap.size W1 (W1.drewN nq):=drewN_below (Below.refl _ _) nq
    generalize W1.drewN nq = wq at hq0 hq1 ⊢
    have hcw : ∀ a,wq.cell? a = W1.cell? a:=fun a => World.cell?_of_block (by rw [hq0])
    rw [← hcw] at f0 v0
    have hzq : wq.heap.size = wr.heap.size + 1:=by rw [hq0];exact hz1
    have hmq : MapA strK (wq.alloc (.map #[] 0)).drew w.heap.size j (fun a => if labs (l.take j) a = true then some (.map (some (F a))) else none):=by
     have h3:=HB1.out.2.1.mp.keep (w':=wq.drew.alloc (.map #[] 0)) ((Below.heap_alloc _ _ _ (by show w.heap.size < wq.heap.size;omega)).trans (by show wq.heap[w.heap.size]? = _;rw [hq0]))
     rw [HT.out.2.2.2.2.2.2.2.2.2] at h3
     exact h3
    obtain ⟨w2,hrun0,hm2,hg2⟩:=hmq.put Tryz.undD2 (show j < maxLen by unfold maxLen;omega) (a:=label) HT.out.2.2.2.2.2.1.1 (.map (some wq.heap.size))
    have hrun : (Instr.mapUpdate 79 (.map (some w.heap.size)) (.string label) (.map (some wq.heap.size))).run Tryz.prog (wq.alloc (.map #[] 0)).drew = .ok () w2:=hrun0
    have hz2 : wr.heap.size + 2 ≤ w2.heap.size:=by have h9 : (wq.alloc (.map #[] 0)).heap.size ≤ w2.heap.size:=hg2.size;simp at h9;omega
    have hk2 : ∀ k,k < wr.heap.size + 1 → k ≠ w.heap.size → w2.heap[k]? = wq.heap[k]?:=fun k hk hne => (hg2.block k (by show k < (wq.alloc (.map #[] 0)).heap.size;simp;omega) (fun e => hne (Option.some.inj e))).trans (Below.heap_alloc wq _ _ (by omega))
    have HS0:=Lib.hid (show wq.drew.cell? ⟨w.heap.size + 1 + 1,0,none⟩ = some (.map (some w.heap.size)) ∧ wq.drew.cell? ⟨wr.heap.size,0,none⟩ = some (.string label) from ⟨v0,f0⟩)
    have HS1:=Lib.hid (show (wq.alloc (.map #[] 0)).drew.cell? ⟨w.heap.size + 1 + 1,0,none⟩ = some (.map (some w.heap.size)) ∧ (wq.alloc (.map #[] 0)).drew.cell? ⟨wr.heap.size,0,none⟩ = some (.string label) from
     ⟨(World.cell?_of_block (a:=⟨w.heap.size + 1 + 1,0,none⟩) (Below.heap_alloc wq _ _ (by show w.heap.size + 2 < wq.heap.size;omega))).trans v0,(World.cell?_of_block (a:=⟨wr.heap.size,0,none⟩) (Below.heap_alloc wq _ _ (by show wr.heap.size < wq.heap.size;omega))).trans f0⟩)
    have HS2:=Lib.hid (show w2.cell? ⟨w.heap.size + 1 + 1,0,none⟩ = some (.map (some w.heap.size)) ∧ w2.cell? ⟨wr.heap.size,0,none⟩ = some (.string label) from
     ⟨(World.cell?_of_block (hk2 _ (by show w.heap.size + 2 < _;omega) (by show w.heap.size + 2 ≠ _;omega))).trans v0,(World.cell?_of_block (hk2 _ (by show wr.heap.size < _;omega) (by show wr.heap.size ≠ _;omega))).trans f0⟩)
    have hnm2 : MapA intK w2 (wr.heap.size + 1) 0 (fun _ => none):=by
     have h5:=MapA.made intK wq
     rw [hzq] at h5
     exact h5.keep (hg2.block _ (by show _ < (wq.alloc (.map #[] 0)).heap.size;simp;omega) (fun e => by have:=Option.some.inj e;omega))
    have hC : NwC w B w2 (fun a => if a = label then W1.heap.size else F a) (l.take j) ⟨label,uA,uc,uses,dA,dc,ds⟩ 0:=by
     refine HB1.out.2.1.open_ (m:=⟨label,uA,uc,uses,dA,dc,ds⟩) HLab.out (by omega) ?_ (by rw [hz1];exact hnm2) fun k hk hne => ?_
     ·rw [HT.out.2.2.2.2.2.2.2.2.2]
      refine hm2.cong fun a _ => ?_
      rw [hzq,hz1]
     ·rw [hk2 k (by omega) hne,hq0]
    have hE2 : NwE w w2 (.map (some w.heap.size)) L z:=⟨((hk2 _ (by omega) (by omega)).trans (by rw [hq0])).trans ((HB1.out.1.block _ (by omega)).trans HT.out.2.2.1.eb),((hk2 _ (by omega) (by omega)).trans (by rw [hq0])).trans ((HB1.out.1.block _ (by omega)).trans HT.out.2.2.1.rb)⟩
    have hbx2 : w2.heap[wr.heap.size]? = some (.cells #[.string label,.slice uA uses.length uc,.slice dA ds.length dc] 58 (0,0)):=((hk2 _ (by omega) (by omega)).trans (by rw [hq0])).trans HB1.out.2.2
    have hB2 : Below w.heap.size w w2:=by
     have h7 : Below w.heap.size w wq:=HT.out.2.2.2.1.trans ((HB1.out.1.mono (by omega)).trans (hq1.mono (by omega)))
     have h8 : Below w.heap.size w (wq.alloc (.map #[] 0)).drew:=drewN_below (h7.alloc (by omega) _) 1
     exact h8.grown hg2 (by show w.heap.size ≤ (wq.alloc (.map #[] 0)).heap.size;simp;omega) (fun q e => by cases e;exact Nat.le_refl _)
    obtain ⟨F2,hF2⟩ : ∃ G : ByteArray → Nat,(fun a => if a = label then W1.heap.size else F a) = G:=⟨_,rfl⟩
    rw [hF2] at hC
    have H2:=Lib.hid (And.intro hC (And.intro hE2 (And.intro hbx2 (And.intro hB2 hz2))))
    clear hcw hlk hmq hrun0 hm2 hg2 hz2 hk2 hnm2 hC hE2 hbx2 hB2 hF2 f0 v0 hq0 hq1 hzq d0 d1 d2
    go_wp2
    go_region_held3 (fun Y => Y.cell? ⟨w.heap.size + 1 + 1,0,none⟩ = some (.map (some w.heap.size)) ∧ Y.cell? ⟨wr.heap.size,0,none⟩ = some (.string label))
     (first | with_reducible exact HS0.out | with_reducible exact HS1.out | with_reducible exact HS2.out)
     (fail)
    obtain ⟨M,HM⟩ : ∃ Q,Hid (ds.length = Q):=⟨_,Lib.hid rfl⟩
    have g2:=cell_of_row w2 wr.heap.size 2 _ _ (0,0) H2.out.2.2.1
    simp at g2
    rw [HM.out] at g2
    clear hrun
    obtain ⟨wo,rfl⟩ : ∃ wo : World,wo = wr:=⟨_,rfl⟩
    have hdl:=HT.out.2.2.2.2.1.2.1
    have hdc:=HT.out.2.2.2.2.1.2.2.1
    rw [HM.out] at hdl
    unfold maxLen at hdc
    go_wp2
    go_loopg [10,41] M (fun g _ ct wr => ∃ q : Nat,g = M - q ∧ q ≤ M ∧ ct = .int .i64 q ∧ NwC w B wr F2 (l.take j) ⟨label,uA,uc,uses,dA,dc,ds⟩ q ∧ NwE w wr (.map (some w.heap.size)) L z ∧ wr.heap[wo.heap.size]? = some (.cells #[.string label,.slice uA uses.length uc,.slice dA ds.length dc] 58 (0,0)) ∧ Below w.heap.size w wr)
    case atStart => exact ⟨0,rfl,by omega,rfl,H2.out.1,H2.out.2.1,H2.out.2.2.1,H2.out.2.2.2.1⟩
    case round =>
     obtain ⟨q,HG2,hq,rfl,hC,hE,hbx,hB⟩:=hrel
     by_cases hlt2 : q < M
     ·have hlt2' : q < ds.length:=by rw [HM.out];exact hlt2
      have hq3 : ds[q]? = some ds[q]:=List.getElem?_eq_getElem hlt2'
      obtain ⟨b2,o2,rfl,hb2,d0,_⟩:=HT.out.2.2.2.2.1.2.cells_at (fun p hp => hB.cell (Nat.lt_of_lt_of_le hp hBz)) hq3
      have hxp : XpA w B b2 (o2 + q * 11 + 5) (xpOf ds[q]) ∧ w.cell? ⟨b2,o2 + q * 11 + 1,none⟩ = some (.int .i64 ds[q].kind):=by
       obtain ⟨b3,o3,e3,hx3⟩:=Dc.xpA HT.out.2.2.2.2.1.2 hq3
       cases e3
       exact hx3
      obtain ⟨g,hMg,hPt⟩:=hC.cur
      have hwf:=HT.out.2.2.2.2.2.1.2 _ (List.mem_of_getElem? hq3)
      have hzr:=lt_of_block hE.eb
      have m0:=cell_of_row wr wo.heap.size 0 _ _ (0,0) hbx
      have m2:=cell_of_row wr wo.heap.size 2 _ _ (0,0) hbx
      have v0:=cell_of_row wr (w.heap.size + 2) 0 _ _ (0,0) hE.eb
      simp [evC] at m0 m2 v0
      rw [HM.out] at m2
      have hlk : ∀ W,W.heap = wr.heap → (Instr.lookup 79 (.map (some w.heap.size)) (.string label) false).run Tryz.prog W = .ok (.map (some (F2 label))) W:=fun W hW => by
       have h3:=(hC.mp.keep (w':=W) (by rw [hW])).look false Tryz.undD2 (zeroDm W) (a:=label) HT.out.2.2.2.2.2.1.1
       rw [if_pos (labs_self (l.take j) ⟨label,uA,uc,uses,some ⟨b2,o2,none⟩,dc,ds⟩)] at h3
       exact h3
      have l1:=hlk wr rfl
      have l2:=hlk wr.drew rfl
      have HQ:=Lib.hid (And.intro HG2 (And.intro hC (And.intro hE (And.intro hbx (And.intro hB (And.intro hMg (And.intro hPt (And.intro hxp hq3))))))))
      clear HG2 hC hE hbx hB hMg hPt hxp hlk
      have HWF:=Lib.hid hwf
      clear hwf
      obtain ⟨xid,HXI⟩ : ∃ Q,Hid (ds[q].id = Q):=⟨_,Lib.hid rfl⟩
      rw [HXI.out] at d0
      go_wp2
      go_still_tail 17,(by kernel_rfl)
      change wpList _ _ _ _ _ wr.drew
      clear l1 l2 m0 m2 v0
      have hMg:=HQ.out.2.2.2.2.2.1.keep (w':=wr.drew) rfl
      have hqm : q < maxLen:=by unfold maxLen;omega
      have hwf : intK.ok xid:=by rw [← HXI.out];exact HWF.out
      refine wpList_mapPut _ rfl _ _ _ 78 (.inl rfl) intK 77 Tryz.undD1 (F2 label) q g rfl hMg hqm xid hwf rfl (.pointer (some ⟨b2,o2 + q * 11,none⟩)) rfl ?_
      intro w3 hm3 hg3
      have hz3 : wr.heap.size ≤ w3.heap.size:=hg3.size
      have H3:=Lib.hid (And.intro hm3 hg3)
      clear hMg hqm hwf hm3 hg3
      go_wp2
      go_roundg (M - (q + 1))
      case measure => rw [HQ.out.1];omega
      case rel =>
       obtain ⟨hG,hC,hE,hbx,hB,hMg,hPt,hxp,hq3⟩:=HQ.out
       have hlo:=hC.lo _ (labs_self (l.take j) ⟨label,uA,uc,uses,some ⟨b2,o2,none⟩,dc,ds⟩)
       have hk : ∀ k,k < wr.heap.size → k ≠ F2 label → w3.heap[k]? = wr.heap[k]?:=fun k hk hne => H3.out.2.block k hk fun e => hne (Option.some.inj e)
       refine ⟨q + 1,rfl,by omega,by go_num,?_,⟨?_,?_⟩,?_,?_⟩
       ·refine hC.put HLab.out hq3 HT.out.2.2.2.2.2.2.2.1 hPt ?_ hxp hz3 hk
        rw [HXI.out]
        exact H3.out.1
       ·exact (hk _ (lt_of_block hE.eb) (by have:=hlo.1;show w.heap.size + 2 ≠ F2 label;simp only at this;omega)).trans hE.eb
       ·exact (hk _ (lt_of_block hE.rb) (by have:=hlo.1;show w.heap.size + 1 ≠ F2 label;simp only at this;omega)).trans hE.rb
       ·exact (hk _ (lt_of_block hbx) (fun e => by
         have h7:=H3.out.1
         obtain ⟨n',D',⟨es',cl',hbk,_⟩,_⟩:=HQ.out.2.2.2.2.2.1
         rw [← e,hbx] at hbk
         cases hbk)).trans hbx
       ·exact Below.grown (⟨hB.os,hB.tape,hB.output,hB.size,hB.block⟩ : Below w.heap.size w wr.drew) H3.out.2 (by show w.heap.size ≤ wr.heap.size;exact hB.size) (fun p e => by cases e;have:=hlo.1;simp only at this;omega)
     ·obtain rfl : q = M:=by omega
      have HX:=Lib.hid (And.intro hC (And.intro hE hB))
      clear hC hE hB hbx HG2
      go_wp2
      go_roundg (N - (j + 1))
      case measure => rw [HT.out.1];omega
      case rel =>
       refine ⟨j + 1,F2,rfl,by omega,by go_num,?_,HX.out.2.1,HX.out.2.2⟩
       rw [HT.out.2.2.2.2.2.2.2.2.1]
       exact HX.out.1.fin HLab.out (by show ds.length ≤ _;rw [HM.out];exact Nat.le_refl _) (by have:=HT.out.2.2.2.2.2.2.1;rw [HM.out] at this;exact this)
  ·obtain rfl : j = N:=by omega
   have htk : l.take j = l:=List.take_of_length_le (by rw [HN.out];exact Nat.le_refl _)
   have HTK:=Lib.hid htk
   have HX:=Lib.hid (And.intro hN (And.intro hE hB))
   clear hN hE hB htk HG
   go_wp2
   go_ret
   obtain ⟨hN,hE,hB⟩:=HX.out
   rw [HTK.out] at hN
   have hmlt:=hN.mp.lt
   have hzr:=lt_of_block hE.eb
   refine ⟨w.heap.size + 2,w.heap.size + 1,w.heap.size,rfl,⟨hE.eb,0,hE.rb⟩,⟨l.length,_,hN.mp,⟨hmlt,by omega,by omega⟩,fun p hp hg i => ?_,fun p u hp hu => ?_⟩,by omega,by omega,hB⟩
   ·have hlb : labs l p = false:=by
     cases h7 : labs l p with
     | false => rfl
     | true => rw [h7] at hg;simp at hg
    exact bodyOf_none hlb
   ·have hlb : labs l p = true:=by
     cases h7 : labs l p with
     | true => rfl
     | false => rw [h7] at hu;simp at hu
    rw [hlb] at hu
    obtain ⟨h8,h9⟩:=hN.lo p hlb
    obtain ⟨gi,h10,h11⟩:=hN.inn p hlb
    refine ⟨F p,1000,gi,by simpa using hu.symm,h10,⟨h9,by omega,by omega⟩,fun i hi hgi => ?_,fun i v hi hv => ?_⟩
    ·exact (h11 i hi).1 hgi
    ·obtain ⟨db,o,x,e1,e2,e3,e4⟩:=(h11 i hi).2 v hv
     have hk : ∀ k,k < B → wr.heap[k]? = w.heap[k]?:=fun k hk => hB.block k (Nat.lt_of_lt_of_le hk hBz)
     exact ⟨db,o,x,e1,e2,e3.keep hk,(World.cell?_of_block (a:=⟨db,o + 1,none⟩) (hk db e3.lt)).trans e4⟩
end Go.Proofs.YtnfndgmlnoeelaaGreatDoor
/- eval.checkModules -/
namespace Go.Proofs.YtnfndgmlnoeelaaGreatDoor
open Go.RowKit Go.Proofs Go.Shelf

set_option maxRecDepth 100000 in
set_option maxHeartbeats 1000000 in
theorem evChk_any (l : List Mo) (A : Option Addr) (c : Nat) (w : World) (hl : SlM w w.heap.size A c l) :
  Calls Tryz.prog 25 #[.slice A l.length c] w fun e w' => e = .returned (.int .i64 (chkL l)) ∧ Below w.heap.size w w':=by
 obtain ⟨E,HE⟩ : ∃ E,Hid (chkL l = E):=⟨_,Lib.hid rfl⟩
 rw [HE.out]
 have h1:=hl.1
 have h2:=hl.2.1
 unfold maxLen at h2
 obtain ⟨N,HN⟩ : ∃ Q,Hid (l.length = Q):=⟨_,Lib.hid rfl⟩
 rw [HN.out] at h1 ⊢
 have HL:=Lib.hid hl
 clear hl
 go_enter Tryz.func25,Tryz.ntmps25
 go_wp2
 go_loopg [4,5,8] N (fun g _ _ ct wr => ∃ j : Nat,g = N - j ∧ j ≤ N ∧ ct = .int .i64 j ∧ chkL (l.drop j) = E ∧ Below w.heap.size w wr)
 case atStart => exact ⟨0,rfl,by omega,rfl,HE.out,Below.refl _ _⟩
 case round =>
  obtain ⟨j,HG,hj,rfl,hE,hB⟩:=hrel
  have hz:=hB.size
  by_cases hlt : j < N
  ·have hlt' : j < l.length:=by rw [HN.out];exact hlt
   have hj3 : l[j]? = some l[j]:=List.getElem?_eq_getElem hlt'
   rw [chkL_drop hj3] at hE
   obtain ⟨b,o,rfl,hb,d0,d1,d2,hok⟩:=(HL.out.keep hz (fun p hp => hB.cell hp)).at_ hj3
   obtain ⟨q,Hq⟩ : ∃ Q,Hid (l[j].err = Q):=⟨_,Lib.hid rfl⟩
   rw [Hq.out] at hE
   have HT:=Lib.hid (And.intro HG (And.intro hE (And.intro hB hok)))
   clear HG hE hB hok hj3
   generalize l[j] = m at d0 d1 d2 HT Hq
   obtain ⟨label,uA,uc,uses,dA,dc,ds⟩:=m
   simp only [Mo.Ok] at HT d0 d1 d2
   obtain ⟨W0,hW0⟩ : ∃ W0,wr.alloc (.cells #[.string label,.slice uA uses.length uc,.slice dA ds.length dc] 58) = W0:=⟨_,rfl⟩
   have hb0 : Below wr.heap.size wr W0:=by subst hW0;exact (Below.refl _ _).alloc (Nat.le_refl _) _
   have hz0 : wr.heap.size < W0.heap.size:=by subst hW0;simp
   have f0 : W0.cell? ⟨wr.heap.size,0,none⟩ = some (.string label):=by subst hW0;go_simp
   have f1 : W0.cell? ⟨wr.heap.size,1,none⟩ = some (.slice uA uses.length uc):=by subst hW0;go_simp
   have f2 : W0.cell? ⟨wr.heap.size,2,none⟩ = some (.slice dA ds.length dc):=by subst hW0;go_simp
   have HC:=Lib.hid (bCheck_any label uses uA uc ds dA dc W0 (HT.out.2.2.2.1.keep (by omega) fun p hp => hb0.cell hp) (HT.out.2.2.2.2.keep (by omega) fun p hp => hb0.cell hp))
   have HQ : Hid (checkE label uses ds = q):=Hq.out
   rw [HQ.out] at HC
   have HB0:=Lib.hid hb0
   clear hb0
   by_cases hq : q = 0
   ·have hE2:=Lib.hid (show chkL (l.drop (j + 1)) = E by have:=HT.out.2.1;rwa [if_pos hq] at this)
    subst hq
    go_wp2_with fail
    refine HC.out.mono ?_
    rintro e w1 ⟨rfl,hb1⟩
    have HB1:=Lib.hid hb1
    clear hb1 hW0
    go_wp2
    go_roundg (N - (j + 1))
    case measure => rw [HT.out.1];omega
    case rel => exact ⟨j + 1,rfl,by omega,by go_num,hE2.out,HT.out.2.2.1.trans ((HB0.out.trans (HB1.out.mono (by omega))).mono hz)⟩
   ·have hE2:=Lib.hid (show q = E by have:=HT.out.2.1;rwa [if_neg hq] at this)
    have hq2 : (q != 0) = true:=by simpa using hq
    go_wp2_with fail
    refine HC.out.mono ?_
    rintro e w1 ⟨rfl,hb1⟩
    have HB1:=Lib.hid hb1
    clear hb1 hW0
    go_wp2
    go_ret
    exact ⟨by rw [← hE2.out];rfl,HT.out.2.2.1.trans ((HB0.out.trans (HB1.out.mono (by omega))).mono hz)⟩
  ·obtain rfl : j = N:=by omega
   have HE2:=Lib.hid (show E = 0 by rw [← hE,List.drop_of_length_le (by rw [HN.out];exact Nat.le_refl _)];rfl)
   have HB2:=Lib.hid hB
   clear hE hB
   go_wp2
   go_ret
   exact ⟨by rw [HE2.out];rfl,HB2.out⟩
end Go.Proofs.YtnfndgmlnoeelaaGreatDoor
/- The names of valid nodes are short; aliases are no longer than labels -/
namespace Go.Proofs.YtnfndgmlnoeelaaGreatDoor
open Go.RowKit Go.Proofs Go.Shelf
theorem size_of_empty {s : ByteArray} (h : s.toList.isEmpty = true) : s.size = 0:=by
 rw [List.isEmpty_iff,ByteArray.toList_eq] at h
 have h2 : s.data.toList.length = s.size:=by simp
 rw [h] at h2
 simpa using h2.symm
theorem labelB_size90 {s : ByteArray} (h : labelB s = true) : s.size ≤ 90:=by
 unfold labelB at h
 simp at h
 exact h.1
theorem nameB_size {s : ByteArray} (h : nameB s = true) : s.size ≤ 65536:=by
 unfold nameB wordB at h
 simp at h
 omega
theorem err_small {k : Int} {n m : ByteArray} {i d : Int} {len : Nat} (h : nodeE k n m i d len = 0) : (0 ≤ k ∧ k ≤ 15) ∧ n.size ≤ 65536 ∧ m.size ≤ 65536 ∧ (0 ≤ d ∧ d ≤ 999999):=by
 have hk : knownZ k:=by
  by_cases hk : knownZ k
  ·exact hk
  ·unfold nodeE at h
   rw [shapeZ_no hk] at h
   simp at h
 have hkb : 0 ≤ k ∧ k ≤ 15:=by unfold knownZ at hk;omega
 refine ⟨hkb,?_⟩
 unfold nodeE at h
 obtain ⟨⟨a,b,c,ok⟩,ht⟩ : ∃ t,shapeZ k = t:=⟨_,rfl⟩
 have ha2 : a ≤ 2 ∧ (2 ≤ b → k = 14):=by
  unfold knownZ at hk
  rcases hk with rfl | rfl | rfl | rfl | rfl | rfl | rfl | rfl | rfl | rfl | rfl | rfl | rfl | rfl | rfl <;> (simp [shapeZ] at ht;omega)
 rw [ht] at h
 cases ok
 ·simp at h
 ·simp only at h
  cases ha : argB a b c n m i d len
  ·rw [ha] at h
   simp only [Bool.false_eq_true,if_false] at h
   by_cases hn : namesE k n m a = 0
   ·rw [if_pos hn] at h
    unfold argB at ha
    simp only [Bool.or_eq_false_iff,Bool.and_eq_false_iff,decide_eq_false_iff_not,Bool.not_eq_false'] at ha
    obtain ⟨⟨⟨⟨a1,a2⟩,a3⟩,a4⟩,a5⟩:=ha
    unfold namesE at hn
    by_cases h6 : nmB k n a = false ∨ (a = 2 ∧ nameB m = false)
    ·rw [if_pos h6] at hn;simp at hn
    ·rw [not_or] at h6
     obtain ⟨h7,h8⟩:=h6
     have h7' : nmB k n a = true:=by simpa using h7
     refine ⟨?_,?_,?_⟩
     ·unfold nmB at h7'
      by_cases k5 : k = 5
      ·rw [if_pos k5,Bool.or_eq_true] at h7'
       rcases h7' with h9 | h9
       ·have:=size_of_empty h9;omega
       ·have:=labelB_size90 h9;omega
      ·rw [if_neg k5] at h7'
       by_cases k10 : k = 10
       ·rw [if_pos k10] at h7'
        unfold opB at h7'
        simp at h7'
        omega
       ·rw [if_neg k10] at h7'
        by_cases ha1 : 1 ≤ a
        ·rw [if_pos ha1] at h7';exact nameB_size h7'
        ·rcases a1 with a1 | a1
         ·omega
         ·have:=size_of_empty a1;omega
     ·rcases a2 with a2 | a2
      ·have : a = 2:=by omega
       have h9 : nameB m = true:=by
        cases hm : nameB m
        ·exact absurd ⟨this,hm⟩ h8
        ·rfl
       exact nameB_size h9
      ·have:=size_of_empty a2;omega
     ·rcases a4 with a4 | a4
      ·have k14:=ha2.2 (by omega)
       subst k14
       unfold numE at h
       cases hb : numB 14 i d
       ·rw [hb] at h;simp at h
       ·simp [numB] at hb;omega
      ·have : d = 0:=by simpa using a4
       omega
   ·rw [if_neg hn] at h;exact absurd h hn
  ·rw [ha] at h;simp at h
end Go.Proofs.YtnfndgmlnoeelaaGreatDoor
/- eval: the code of valid modules is whole -/
namespace Go.Proofs.YtnfndgmlnoeelaaGreatDoor
open Go Go.RowKit Go.Proofs Go.Shelf

theorem err_int {k : Int} {n m : ByteArray} {i d : Int} {len : Nat} (h : nodeE k n m i d len = 0) : -999999999 ≤ i ∧ i ≤ 999999999 ∧ (k = 14 → 1 ≤ d):=by
 have hk : knownZ k:=by
  by_cases hk : knownZ k
  ·exact hk
  ·unfold nodeE at h
   rw [shapeZ_no hk] at h
   simp at h
 unfold nodeE at h
 obtain ⟨⟨a,b,c,ok⟩,ht⟩ : ∃ t,shapeZ k = t:=⟨_,rfl⟩
 have hb : 1 ≤ b → k = 1 ∨ k = 2 ∨ k = 5 ∨ k = 14:=by
  unfold knownZ at hk
  rcases hk with rfl | rfl | rfl | rfl | rfl | rfl | rfl | rfl | rfl | rfl | rfl | rfl | rfl | rfl | rfl <;> (simp [shapeZ] at ht;omega)
 have hb14 : k = 14 → 1 ≤ b:=by
  rintro rfl
  simp [shapeZ] at ht
  omega
 rw [ht] at h
 cases ok
 ·simp at h
 ·simp only at h
  cases ha : argB a b c n m i d len
  ·rw [ha] at h
   simp only [Bool.false_eq_true,if_false] at h
   by_cases hn : namesE k n m a = 0
   ·rw [if_pos hn] at h
    have hnum : numB k i d = true:=by
     cases hb : numB k i d
     ·simp [numE,hb] at h
     ·rfl
    by_cases h1 : 1 ≤ b
    ·rcases hb h1 with rfl | rfl | rfl | rfl
     ·simp [numB] at hnum
      omega
     ·simp [numB] at hnum
      omega
     ·simp [numB] at hnum
      omega
     ·simp [numB] at hnum
      omega
    ·unfold argB at ha
     simp only [Bool.or_eq_false_iff,Bool.and_eq_false_iff,decide_eq_false_iff_not] at ha
     obtain ⟨⟨⟨⟨a1,a2⟩,a3⟩,a4⟩,a5⟩:=ha
     have hi : i = 0:=by
      rcases a3 with a3 | a3
      ·omega
      ·simpa using a3
     exact ⟨by omega,by omega,fun e => absurd (hb14 e) h1⟩
   ·rw [if_neg hn] at h;exact absurd h hn
  ·rw [ha] at h;simp at h
theorem err_known {k : Int} {n m : ByteArray} {i d : Int} {len : Nat} (h : nodeE k n m i d len = 0) : 1 ≤ k ∧ k ≤ 15:=by
 have hk : knownZ k:=by
  by_cases hk : knownZ k
  ·exact hk
  ·unfold nodeE at h
   rw [shapeZ_no hk] at h
   simp at h
 unfold knownZ at hk
 omega
theorem err_xp {k : Int} {n m : ByteArray} {i d : Int} {len : Nat} (h : nodeE k n m i d len = 0) : XpOk k d len:=by
 have hl:=err_len h
 obtain ⟨_,_,_,d0,d1⟩:=err_small h
 obtain ⟨_,_,i3⟩:=err_int h
 obtain ⟨k1,k2⟩:=err_known h
 refine ⟨k1,k2,?_,?_,?_,?_,?_,?_,?_,fun e => ⟨i3 e,by omega⟩⟩
 all_goals
  rintro rfl
  simp [shapeZ] at hl
  omega
theorem wf_whole {i : Int} (h1 : -999999999 ≤ i) (h2 : i ≤ 999999999) : intK.ok i:=by
 show (Lit.int .i64 i).wf = true
 simp [Lit.wf,IntKind.min,IntKind.max,IntKind.bits,IntKind.signed]
 omega
theorem err_nm {k : Int} {n m : ByteArray} {i d : Int} {len : Nat} (h : nodeE k n m i d len = 0) : strK.ok n ∧ intK.ok i:=by
 obtain ⟨_,h1,_,_⟩:=err_small h
 obtain ⟨i1,i2,_⟩:=err_int h
 refine ⟨?_,wf_whole i1 i2⟩
 show n.size ≤ maxLen
 unfold maxLen
 omega
theorem Fo.sk_whole : ∀ (f : Fo),(∀ x ∈ f.vis,x.err = 0) → f.sk.Ok ∧ f.sk.Fit strK.ok intK.ok
 | .nil,_ => ⟨trivial,trivial⟩
 | .cons k n m i d A c s r,h => by
  simp only [Fo.vis,List.mem_append,List.mem_cons] at h
  have hr:=r.sk_whole fun x hx => h x (.inl hx)
  have hs:=s.sk_whole fun x hx => h x (.inr (.inr hx))
  have hx:=h _ (.inr (.inl rfl))
  unfold Nd.err at hx
  simp only at hx
  refine ⟨⟨?_,hs.1,hr.1⟩,err_nm hx,hs.2,hr.2⟩
  rw [Fo.sk_len]
  exact err_xp hx
theorem Fo.sk_count : ∀ (f : Fo),f.sk.count = f.count
 | .nil => rfl
 | .cons k n m i d A c s r => by
  simp only [Fo.sk,Sk.count,Fo.count,s.sk_count,r.sk_count]
theorem DcV.whole {label : ByteArray} {x : Dc} (h : DcV label x) : (xpOf x).Ok ∧ (xpOf x).Fit strK.ok intK.ok 400:=by
 have hw:=x.body.sk_whole h.err
 unfold Dc.body at hw
 simp only [Fo.sk,Sk.Ok,Sk.Fit] at hw
 refine ⟨⟨hw.1.1,hw.1.2.1⟩,hw.2.1.1,hw.2.1.2,hw.2.2.1,?_⟩
 show x.s.sk.count ≤ 400
 rw [Fo.sk_count]
 have:=h.cnt
 omega
theorem look_whole {l : List Mo} (h : chkL l = 0) {p : ByteArray} {i : Int} {x : Xp} (hx : lookOf l p i = some x) : x.Ok ∧ x.Fit strK.ok intK.ok 400 ∧ p.size ≤ 90:=by
 unfold lookOf at hx
 obtain ⟨y,hy,rfl⟩:=Option.map_eq_some_iff.1 hx
 obtain ⟨m,hm,hdm,hl,hi⟩:=bodyOf_mem hy
 obtain ⟨v1,v2,v3⟩:=checkE_zero (chkL_zero h m hm)
 have:=(v3 y hdm).whole
 simp only at hl
 exact ⟨this.1,this.2,by rw [← hl];exact labelB_size v1⟩
theorem declsE_ids : ∀ {label : ByteArray} {ds : List Dc} {p : Option Int},declsE label p ds = 0 → (∀ x ∈ ds,∀ q,p = some q → q < x.id) ∧ (ds.map (·.id)).Nodup
 | _,[],_,_ => ⟨fun x hx => by simp at hx,List.nodup_nil⟩
 | label,x :: r,p,h => by
  have key : declsE label (some x.id) r = 0 ∧ (∀ q,p = some q → q < x.id):=by
   cases p with
   | none =>
    unfold declsE at h
    by_cases h1 : declE label x = 0
    ·rw [if_pos h1] at h
     exact ⟨h,fun q e => by cases e⟩
    ·rw [if_neg h1] at h
     exact absurd h h1
   | some q =>
    unfold declsE at h
    by_cases h1 : declE label x = 0
    ·rw [if_pos h1] at h
     by_cases h2 : x.id ≤ q
     ·rw [if_pos h2] at h
      simp at h
     ·rw [if_neg h2] at h
      exact ⟨h,fun q' e => by cases e;omega⟩
    ·rw [if_neg h1] at h
     exact absurd h h1
  obtain ⟨h1,h2⟩:=declsE_ids (ds:=r) key.1
  refine ⟨fun y hy q e => ?_,List.nodup_cons.2 ⟨fun hm => ?_,h2⟩⟩
  ·rcases List.mem_cons.1 hy with rfl | hy
   ·exact key.2 q e
   ·have a:=h1 y hy x.id rfl
    have b:=key.2 q e
    omega
  ·obtain ⟨y,hy,e⟩:=List.mem_map.1 hm
   have:=h1 y hy x.id rfl
   simp only at e
   omega
theorem chkL_nodup {l : List Mo} (h : chkL l = 0) : ∀ m ∈ l,(m.ds.map (·.id)).Nodup ∧ m.ds.length ≤ 100:=fun m hm => by
 have h1 : checkE m.label m.uses m.ds = 0:=chkL_zero h m hm
 refine ⟨?_,(checkE_zero h1).2.1⟩
 unfold checkE at h1
 cases h0 : labelB m.label
 ·rw [h0] at h1;simp at h1
 rw [h0] at h1
 simp only [Bool.true_eq_false,if_false] at h1
 by_cases h2 : srcE m.uses ≠ 0
 ·rw [if_pos h2] at h1;exact absurd h1 h2
 rw [if_neg h2] at h1
 by_cases h3 : useAll m.label m.uses m.uses.length 0 ≠ 0
 ·rw [if_pos h3] at h1;exact absurd h1 h3
 rw [if_neg h3] at h1
 by_cases h4 : 100 < m.ds.length
 ·rw [if_pos h4] at h1;simp at h1
 rw [if_neg h4] at h1
 exact (declsE_ids h1).2
end Go.Proofs.YtnfndgmlnoeelaaGreatDoor
