/- A range over a function whose iterator walks a map, over a body that makes and writes memory: a law for a body that never stops early. Nothing of a program. -/
import Derived.Test.YtnfndgmlnoeelaaGreatDoorZlb
import Derived.RangeFuncGives
import Derived.Test.YtnfndgmlnoeelaaGreatDoorZlt
import Derived.Sort.MapsRangeIn
import Derived.Shelf.Abstract
import Derived.OwnWalkIn
import Derived.TacticsInMore
import Derived.LoopNIn
import Derived.LoopIn
import Derived.WalkSmall
import Derived.Test.YtnfndgmlnoeelaaGreatDoorZlq
import Derived.Maps.AppendAt
namespace Go.Proofs.YtnfndgmlnoeelaaGreatDoor
open Go Go.RowKit
def rndK {α : Type} (B : Nat) (I : List α → World → Prop) (xs : List α) (W : World) : Exit → Act → World → Prop
 | .normal,_,W' => KeepsWalks W W' ∧ (∀ k,k = B ∨ k = B + 1 → W'.heap[k]? = W.heap[k]?) ∧ I xs W'
 | _,_,_ => False
theorem grownBy_putK (W : World) (l : Nat) (o : Obj) : W.grownBy (W.putObj l o) (some l):=
 ⟨rfl,rfl,rfl,by simp,fun _ _ hk => World.putObj_heap_other (fun e => hk (by rw [e]))⟩
theorem wpIn_rangeK {P : Program} {α : Type} {g : Operand} {ps : Array Tmp} {assign body : Code} {Q : Exit → Act → World → Prop} {a : Act} {w : World}
  {gf : Nat} {lb : Array Value} (hg : a.eval g = .func (.func gf) #[] lb) (eg : ∀ args w,(callFunc gf args).run P w = .ok (.enter gf args) w)
  {enc : α → Value} {S : List α → Prop} {N : Nat} {w0 : World} (hit : SeqGives Fence.wide 0 P gf lb enc S N w0) (hw0 : Below w0.heap.size w0 w) (hps : ps.size = 1)
  (I : List α → World → Prop)
  (hIa : ∀ s X Y row,I s X → X.grownBy Y row → (∀ r,row = some r → w.heap.size + 2 ≤ r ∧ ∃ o : Obj,X.heap[r]? = some o ∧ o.isWalk = true) → I s Y)
  (hIp : ∀ s X r o,I s X → X.heap[w.heap.size + 1]? = some (.loop r) → I s (X.putObj (w.heap.size + 1) o))
  (h0 : I [] w) (Ax : α → Act → World → Prop) (hAx : ∀ x a' X r o,Ax x a' X → X.heap[w.heap.size + 1]? = some (.loop r) → Ax x a' (X.putObj (w.heap.size + 1) o))
  (hassign : ∀ (l : Nat) (pre : List α) (x : α) (W : World) (K : Act → World → Prop),I pre W → w.heap.size + 2 ≤ W.heap.size →
   (∀ a' W',KeepsWalks W W' → (∀ k,k = w.heap.size ∨ k = w.heap.size + 1 → W'.heap[k]? = W.heap[k]?) → I pre W' → Ax x a' W' → K a' W') →
   assign.wpIn (Fence.wide.inRound l) 0 P (Exit.then K (fun _ _ _ => False)) { tmps:=(ps.zip #[enc x]).foldl (fun t (p,v) => t.setIfInBounds p v) a.tmps,defers:=[] } W)
  (hbody : ∀ (l : Nat) (pre : List α) (x : α) (a' : Act) (W : World),pre.length < N → I pre W → Ax x a' W → w.heap.size + 2 ≤ W.heap.size → body.wpIn (Fence.wide.inRound l) 0 P (rndK w.heap.size I (pre ++ [x]) W) a' W)
  (hdone : ∀ (D : Nat) (ss : List α) (W : World),D = w.heap.size → S ss → I ss W → W.heap[D]? = some (.deferred (some [])) → Q .normal { a with defers:={ target:=.collected D,args:=#[] } :: a.defers } W) :
  (Code.rangeFunc g ps assign body).wpIn Fence.wide 0 P Q a w:=by
 refine wpIn_rangeFunc ?_
 intro fn hfn
 show ∃ (l : Nat) (mark : List Deferred) (w₁ : World) (d : Deferred) (w₁' : World) (f : FuncId) (args : Array Value) (w₂ : World),(Instr.enterLoop fn a.tmps ps assign body none).run P w = .ok (l,mark) w₁ ∧ _
 obtain ⟨rec,hrec⟩ : ∃ rec : LoopState → Option Code → Loop,rec = fun st pe => { state:=st,pending:=pe,fn,tmps:=a.tmps,params:=ps,assign,body,defers:=w.heap.size }:=⟨_,rfl⟩
 obtain ⟨W1,hW1⟩ : ∃ W1,(w.alloc (.deferred (some []))).alloc (.loop (rec .ready none)) = W1:=⟨_,rfl⟩
 have hL1 : W1.heap[w.heap.size + 1]? = some (.loop (rec .ready none)):=by
  rw [← hW1];have:=World.alloc_heap_new (w.alloc (.deferred (some []))) (.loop (rec .ready none));rwa [World.size_alloc] at this
 have hD1 : W1.heap[w.heap.size]? = some (.deferred (some [])):=by
  rw [← hW1];exact (Below.heap_alloc _ _ _ (by simp)).trans (World.alloc_heap_new w _)
 have hz1 : W1.heap.size = w.heap.size + 2:=by rw [← hW1];simp
 have hI1 : I [] W1:=by
  rw [← hW1]
  exact hIa _ _ _ none (hIa _ _ _ none h0 (World.grownBy_alloc w _ none) (by simp)) (World.grownBy_alloc _ _ none) (by simp)
 have hb1 : Below w0.heap.size w0 W1:=by
  rw [← hW1]
  exact (hw0.alloc hw0.size _).alloc (by have:=hw0.size;simp;omega) _
 have keepL : ∀ {X Y : World} {row : Option Nat} {k : Nat} {o : Obj},(k = w.heap.size ∨ k = w.heap.size + 1) → X.heap[k]? = some o → X.grownBy Y row → (∀ r,row = some r → w.heap.size + 2 ≤ r) → Y.heap[k]? = some o:=by
  intro X Y row k o hk h hg hr
  refine (hg.block k (Array.getElem?_eq_some_iff.1 h).1 (fun e => ?_)).trans h
  have:=hr k e.symm
  omega
 refine ⟨w.heap.size + 1,[{ target:=.collected w.heap.size,args:=#[] }],W1,{ target:=.fn (.func gf) lb,args:=#[.func (.yield (w.heap.size + 1)) #[] #[]] },W1,gf,
  #[.func (.yield (w.heap.size + 1)) #[] #[]] ++ lb,W1,?_,?_,?_,?_,?_,?_⟩
 ·rw [← hW1,hrec];exact run_enterLoop_outer _ _ _ _ _
 ·simp only [resolve,hg]
  simp [go_sem]
 ·intro f' _;trivial
 ·simp [invoke,go_sem,eg]
 ·intro h;simp [Fence.wide] at h
 ·refine (hit (w.heap.size + 1)
   (fun pre W => I pre W ∧ W.heap[w.heap.size + 1]? = some (.loop (rec .ready none)) ∧ W.heap[w.heap.size]? = some (.deferred (some [])))
   W1 hb1
   (fun s X Y row hs hg hr => ⟨hIa s X Y row hs.1 hg (fun r e => ⟨by have:=(hr r e).1;omega,(hr r e).2⟩),keepL (.inr rfl) hs.2.1 hg (fun r e => by have:=(hr r e).1;omega),keepL (.inl rfl) hs.2.2 hg (fun r e => by have:=(hr r e).1;omega)⟩)
   ?_ ⟨hI1,hL1,hD1⟩).mono ?_
  ·rintro pre x W ⟨hi,hl,hk⟩ hlen
   have hlt : w.heap.size + 1 < W.heap.size:=(Array.getElem?_eq_some_iff.1 hl).1
   have hy:=run_yield (P:=P) (args:=#[enc x]) hl (by rw [hrec];simp [hps])
   rw [hrec] at hy
   refine ⟨fn,_,assign,body,hy,roundIn_of_wpIn hfn (hassign _ pre x W _ hi (by omega) ?_)⟩
   intro a' W' hkA hBA hi hax
   have hkw0:=hkA
   replace hl:=(hBA _ (.inr rfl)).trans hl
   replace hk:=(hBA _ (.inl rfl)).trans hk
   replace hlt : w.heap.size + 1 < W'.heap.size:=(Array.getElem?_eq_some_iff.1 hl).1
   refine ⟨_,run_beginRound hl (by rw [hrec]),?_⟩
   obtain ⟨W2,hW2⟩ : ∃ W2,W'.putObj (w.heap.size + 1) (.loop { rec .ready none with state:=.busy }) = W2:=⟨_,rfl⟩
   rw [hW2]
   have hl2 : W2.heap[w.heap.size + 1]? = some (.loop { rec .ready none with state:=.busy }):=by rw [← hW2];exact World.putObj_heap_same hlt
   have hk2 : W2.heap[w.heap.size]? = some (.deferred (some [])):=by rw [← hW2];exact (World.putObj_heap_other (by omega)).trans hk
   have hi2 : I pre W2:=by rw [← hW2];exact hIp _ _ _ _ hi hl
   have hs2 : w.heap.size + 2 ≤ W2.heap.size:=by have:=(Array.getElem?_eq_some_iff.1 hl2).1;omega
   have hkw : KeepsWalks W W2:=by rw [← hW2];exact hkw0.trans (KeepsWalks.putObj _ hl rfl)
   have hax2 : Ax x a' W2:=by rw [← hW2];exact hAx _ _ _ _ _ hax hl
   refine wpIn_mono (hbody _ pre x _ _ hlen hi2 hax2 hs2) ?_
   rintro ex a3 W3 hp
   cases ex with
   | normal =>
    obtain ⟨hk3,hB3,hi3⟩:=hp
    have hl3 : W3.heap[w.heap.size + 1]? = some (.loop { rec .ready none with state:=.busy }):=(hB3 _ (.inr rfl)).trans hl2
    have hd3 : W3.heap[w.heap.size]? = some (.deferred (some [])):=(hB3 _ (.inl rfl)).trans hk2
    have hr:=run_endRound (P:=P) none hl3
    rw [hrec] at hr
    refine ⟨_,_,hr,rfl,⟨hIp _ _ _ _ hi3 hl3,?_,(World.putObj_heap_other (by omega)).trans hd3⟩,(hkw.trans hk3).trans (KeepsWalks.putObj _ hl3 rfl)⟩
    rw [hrec];exact World.putObj_heap_same (Array.getElem?_eq_some_iff.1 hl3).1
   | ret => exact hp.elim
   | exit id => exact hp.elim
   | goto t => exact hp.elim
   | panic ch => exact hp.elim
   | outgrown => exact hp.elim
  ·rintro ed W2 ⟨⟨v,rfl⟩,ss,hS,hi,hl,hk⟩
   exact ⟨none,_,by have:=run_endLoop (P:=P) hl (by rw [hrec];simp);rw [hrec] at this;exact this,hdone _ ss _ rfl hS (hIp _ _ _ _ hi hl) ((World.putObj_heap_other (by omega)).trans hk)⟩
end Go.Proofs.YtnfndgmlnoeelaaGreatDoor
/- maps.Keys at a map keyed by names: the iterator's contract -/
namespace Go.Proofs.YtnfndgmlnoeelaaGreatDoor
open Go.RowKit Go.Proofs
def KeysIn (g : ByteArray × Int → Option Value) (ss : List (ByteArray × Int)) : Prop:=ss.Nodup ∧ (∀ a ∈ ss,NOk a) ∧ ∀ a,NOk a → ((g a).isSome = true ↔ a ∈ ss)
theorem Rng.nodup {α : Type} {K : KeyT α} {w : World} {b r N : Nat} {g : α → Option Value} {ss : List α} {cnt : Nat} (h : Rng K w b r N g ss cnt) : ss.Nodup ∧ ∀ a ∈ ss,K.ok a:=by
 obtain ⟨n,D,left,_,_,_,_,h1,h2,_⟩:=h
 exact ⟨h1,fun a ha => (h2 a ha).1⟩
theorem isWalk_of {w : World} {b r N : Nat} {α : Type} {K : KeyT α} {g : α → Option Value} {ss : List α} {cnt : Nat} (h : Rng K w b r N g ss cnt) : (∃ o : Obj,w.heap[r]? = some o ∧ o.isWalk = true) ∧ ∃ o : Obj,w.heap[b]? = some o ∧ o.isWalk = true:=by
 obtain ⟨n,D,left,⟨es,clock,since,seen,c0,h1,F,hs,hD,h2,rest⟩,more⟩:=h
 exact ⟨⟨_,h2,rfl⟩,⟨_,h1,rfl⟩⟩
theorem zeroB (w : World) : ∃ z,(zeroValue 4).run Tryz.prog w = .ok z w:=⟨.bool false,by kernel_rfl⟩
set_option maxRecDepth 100000 in
set_option maxHeartbeats 2000000 in
theorem keysN_gives (b N Bm : Nat) (g : ByteArray × Int → Option Value) (w : World) (hBm : Bm < w.heap.size) (hm : w.cell? ⟨Bm,0,none⟩ = some (.map (some b))) (hown : MapA nameK w b N g) :
  SeqGives Fence.wide 0 Tryz.prog 73 #[.pointer (some ⟨Bm,0,none⟩)] nameV (KeysIn g) N w:=by
 intro l J W hW hJ hY h0
 have hm':=(hW.cell (p:=⟨Bm,0,none⟩) hBm).trans hm
 have hown':=hown.keep (hW.block b hown.lt)
 have HW:=Lib.hid (And.intro hJ (And.intro hY (And.intro h0 hown')))
 clear hJ hY h0 hown hown' hW hm
 refine callsIn_of_wp Tryz.func73 rfl trivial ?_ rfl
 simp only [Tryz.ntmps73,List.size_toArray,List.length_cons,List.length_nil,Nat.reduceAdd,Nat.reduceSub,Array.replicate_succ,Array.replicate_zero,List.push_toArray,List.append_toArray,List.nil_append,List.cons_append]
 gi_wp2_with (first
  | (gi_at_range;refine wpListIn_rngStart _ rfl _ 114 rfl nameK 4 Tryz.underlying114 (zeroB _) b N g rfl HW.out.2.2.2 ?_;intro w0 cnt0 hrg0 hg0 hs0)
  | gi_in)
 go_frame
 gi_loopw [3] (fun _ wr => ∃ (cnt : Nat) (ss : List (ByteArray × Int)),Rng nameK wr b W.heap.size N g ss cnt ∧ J ss wr)
  (fun _ wr => wr.rangeLeft b W.heap.size)
 case atStart => exact ⟨_,[],hrg0,HW.out.1 [] W w0 none HW.out.2.2.1 hg0 (fun r e => by cases e)⟩
 case round =>
  obtain ⟨cnt,ss,hrg,hJs⟩:=hrel
  have HR:=Lib.hid (And.intro hrg hJs)
  clear hJs hrg hrg0 hg0
  gi_wp2_with (first
   | (gi_at_next;refine wpListIn_rngNext _ rfl _ rfl nameK b W.heap.size N g ss cnt rfl HR.out.1 ?_ ?_)
   | gi_in)
  ·intro hc0 hl0
   have HL:=Lib.hid hl0
   clear hl0
   gi_wp2
   go_end0
   exact ⟨⟨_,rfl⟩,ss,⟨HR.out.1.nodup.1,HR.out.1.nodup.2,fun a ha => HL.out a.1 a.2 ha⟩,HR.out.2⟩
  ·intro xa xi v w2 cnt2 hok hgx hxn hrg2 hlt hg2 hs2 hen
   have hJ2 : J ss w2:=HW.out.1 ss wr w2 (some W.heap.size) HR.out.2 hg2 (fun r e => by cases e;exact ⟨Nat.le_refl _,(isWalk_of HR.out.1).1⟩)
   obtain ⟨W2,hW2⟩ : ∃ W2,w2.alloc (.cells #[.string xa,.int .i64 xi] 24) = W2:=⟨_,rfl⟩
   have hJ3 : J ss W2:=by rw [← hW2];exact HW.out.1 ss w2 _ none hJ2 (World.grownBy_alloc w2 _ none) (fun r e => by cases e)
   have hlen : ss.length < N:=by have:=HR.out.1.le;omega
   obtain ⟨fn,tmps,assign,body,hy,hR⟩:=HW.out.2.1 ss (xa,xi) W2 hJ3 hlen
   have hrg3 : Rng nameK W2 b W.heap.size N g (ss ++ [(xa,xi)]) cnt2:=by
    rw [← hW2]
    refine hrg2.keep (Below.heap_alloc _ _ _ ?_) (Below.heap_alloc _ _ _ ?_)
    ·obtain ⟨_,o,ho,_⟩:=isWalk_of hrg2;exact (Array.getElem?_eq_some_iff.1 ho).1
    ·obtain ⟨⟨o,ho,_⟩,_⟩:=isWalk_of hrg2;exact (Array.getElem?_eq_some_iff.1 ho).1
   have HX:=Lib.hid (And.intro hrg3 (And.intro hlt hR))
   change Sem.run Tryz.prog (Instr.entry _) w2 = .ok (.tuple #[.agg #[.string xa,.int .i64 xi],v]) w2 at hen
   change Sem.run Tryz.prog (Instr.yield l #[.agg #[.string xa,.int .i64 xi]]) W2 = _ at hy
   have q0 : W2.cell? ⟨w2.heap.size,0,none⟩ = some (.string xa):=by subst hW2;go_simp
   have q1 : W2.cell? ⟨w2.heap.size,1,none⟩ = some (.int .i64 xi):=by subst hW2;go_simp
   clear hrg2 hg2 hJ2 hJ3 hrg3 hR hs2 hgx hxn hlt hok
   gi_wp2
   refine ⟨rfl,HX.out.2.2.mono ?_⟩
   rintro e W3 ⟨rfl,hJ4,hk3⟩
   have HJ4:=Lib.hid (And.intro hJ4 hk3)
   clear hJ4 hk3
   gi_wp2
   have hrg4 : Rng nameK W3 b W.heap.size N g (ss ++ [(xa,xi)]) cnt2:=by
    obtain ⟨⟨o,ho,how⟩,o',ho',how'⟩:=isWalk_of HX.out.1
    exact HX.out.1.keep ((HJ4.out.2.same _ _ ho' how').trans ho'.symm) ((HJ4.out.2.same _ _ ho how).trans ho.symm)
   go_roundw
   case rel => exact ⟨cnt2,ss ++ [(xa,xi)],hrg4,HJ4.out.1⟩
   case measure => rw [hrg4.left_eq,HR.out.1.left_eq];exact HX.out.2.1
set_option maxRecDepth 100000 in
theorem mapsKeysN_any (mb : Option Nat) (w : World) : Calls Tryz.prog 46 #[.map mb] w fun e w' => e = .returned (.func (.func 73) #[] #[.pointer (some ⟨w.heap.size,0,none⟩)]) ∧ w' = w.alloc (.cells #[.map mb] 114):=by
 go_enter Tryz.func46,Tryz.ntmps46
 go_wp2
 go_ret
 exact ⟨rfl,rfl⟩
end Go.Proofs.YtnfndgmlnoeelaaGreatDoor
/- slices.AppendSeq, Collect, SortedFunc at names -/
namespace Go.Proofs.YtnfndgmlnoeelaaGreatDoor
open Go.RowKit Go.Proofs Go.Shelf
attribute [local go_sem] Oper.semAt_some wide_fn wide_depth
theorem own_abides {W W' : World} {row : Option Nat} {base : Nat} {e : TypeId} {size : Nat} {v : Value} {k : Nat} {xs : List Value} (h : W.ownsRow base e size v k xs) (hg : W.grownBy W' row)
  (hrow : ∀ r,row = some r → ∃ o : Obj,W.heap[r]? = some o ∧ o.isCells = false) : W'.ownsRow base e size v k xs:=by
 refine h.kept hg ?_
 rcases h.2 with ⟨rfl,_⟩ | ⟨g,cap,cur,rfl,_,hgb,_⟩
 ·exact .inl rfl
 ·refine .inr fun e' => ?_
  obtain ⟨o,ho,hw⟩:=hrow g (by simpa [Value.ownBlock] using e'.symm)
  rw [hgb] at ho;cases ho;cases hw
theorem walk_cells {o : Obj} (h : o.isWalk = true) : o.isCells = false:=by cases o <;> first | rfl | cases h
theorem own_formN {X : World} {base : Nat} {e : TypeId} {size : Nat} {v : Value} {n : Nat} {xs : List Value} (h : X.ownsRow base e size v n xs) : ∃ A c,v = .slice A n c:=by
 rcases h.2 with ⟨h1,h2⟩ | ⟨g,cap,cur,h1,_⟩
 ·exact ⟨none,0,by rw [h1,h2]⟩
 ·exact ⟨_,_,h1⟩
def ApI (w : World) (Bs N : Nat) (ss : List (ByteArray × Int)) (X : World) : Prop:=
 (∃ v,X.heap[Bs]? = some (.cells #[v] 47 (0,0)) ∧ X.ownsRow (Bs + 3) 24 2 v ss.length (namesC ss)) ∧ ss.length ≤ N ∧ Below Bs w X ∧ Bs < X.heap.size
theorem ApI.grown {w : World} {Bs N : Nat} {ss : List (ByteArray × Int)} {X Y : World} {row : Option Nat} (h : ApI w Bs N ss X) (hg : X.grownBy Y row) (hr : ∀ r,row = some r → Bs < r ∧ ∃ o : Obj,X.heap[r]? = some o ∧ o.isCells = false) : ApI w Bs N ss Y:=by
 obtain ⟨⟨v,h1,h2⟩,h3,h4,h5⟩:=h
 exact ⟨⟨v,(hg.block Bs h5 (fun e => by have:=(hr Bs e.symm).1;omega)).trans h1,own_abides h2 hg (fun r e => (hr r e).2)⟩,h3,h4.grown hg (by omega) (fun q e => by have:=(hr q e).1;omega),by have:=hg.size;omega⟩
theorem cell_of_box_k {W : World} {B : Nat} {v : Value} {t : TypeId} (h : W.heap[B]? = some (.cells #[v] t (0,0))) : W.cell? ⟨B,0,none⟩ = some v ∧ W.frozen? ⟨B,0,none⟩ = false:=by
 constructor <;> simp [World.cell?,World.frozen?,h]
def CollectP (S : List (ByteArray × Int) → Prop) (w : World) (e : Ending) (w' : World) : Prop:=∃ v ss,e = .returned v ∧ S ss ∧ w'.ownsRow w.heap.size 24 2 v ss.length (namesC ss) ∧ Below w.heap.size w w'
set_option maxRecDepth 100000 in
set_option maxHeartbeats 2000000 in
theorem appendSeqN_any (gf : Nat) (lb : Array Value) (eg : ∀ args w,(callFunc gf args).run Tryz.prog w = .ok (.enter gf args) w) (S : List (ByteArray × Int) → Prop) (N : Nat) (hN : N ≤ 1000000) (w : World) (hit : SeqGives Fence.wide 0 Tryz.prog gf lb nameV S N w) :
  Calls Tryz.prog 107 #[.slice none 0 0,.func (.func gf) #[] lb] w (CollectP S w):=by
 obtain ⟨i0,hi,hz0,hz1,hz2⟩:=info_parts Tryz.infoName
 refine callsIn_wide (n:=0).1 ?_
 refine callsIn_of_wp_marks Tryz.func107 rfl trivial ?_ rfl
 simp only [Tryz.ntmps107,List.size_toArray,List.length_cons,List.length_nil,Nat.reduceAdd,Nat.reduceSub,Array.replicate_succ,Array.replicate_zero,List.push_toArray,List.append_toArray,List.nil_append,List.cons_append]
 obtain ⟨W0,hW0⟩ : ∃ W0,w.alloc (.cells #[.slice none 0 0] 47) = W0:=⟨_,rfl⟩
 have hz : W0.heap.size = w.heap.size + 1:=by subst hW0;simp
 have hB0 : Below w.heap.size w W0:=by subst hW0;exact (Below.refl _ _).alloc (Nat.le_refl _) _
 have hv0 : W0.heap[w.heap.size]? = some (.cells #[.slice none 0 0] 47 (0,0)):=by subst hW0;exact World.alloc_heap_new w _
 have HI:=Lib.hid (And.intro hit (And.intro hB0 hv0))
 have HZ:=Lib.hid hz
 clear hit hB0 hv0 hz
 gi_wp2
 refine wpIn_rangeK rfl eg HI.out.1 HI.out.2.1 rfl (ApI w w.heap.size N) ?ia ?ip ?h0
  (fun x a' X => ∃ b,a' = { tmps:=#[.slice none 0 0,.func (.func gf) #[] lb,.pointer (some ⟨w.heap.size,0,none⟩),undef,.slice none 0 0,.pointer (some ⟨b,0,none⟩),.func (.func gf) #[] lb,nameV x,undef,undef,undef,undef,undef],defers:=[] } ∧ w.heap.size < b ∧ X.cell? ⟨b,0,none⟩ = some (.string x.1) ∧ X.cell? ⟨b,1,none⟩ = some (.int .i64 x.2)) ?ax ?assign ?body ?done
 case ia => exact fun s X Y row h hg hr => h.grown hg (fun r e => ⟨by have:=(hr r e).1;have:=HZ.out;omega,by obtain ⟨_,o,h1,h2⟩:=hr r e;exact ⟨o,h1,walk_cells h2⟩⟩)
 case ip => exact fun s X r o h hl => h.grown (grownBy_putK X _ o) (fun q e => by cases e;exact ⟨by have:=HZ.out;omega,_,hl,rfl⟩)
 case h0 => exact ⟨⟨_,HI.out.2.2,World.ownsRow_nil _ _ _ _⟩,by simp,HI.out.2.1,by have:=HZ.out;omega⟩
 case ax =>
  rintro x a' X r o ⟨b,rfl,hb,h1,h2⟩ hl
  exact ⟨b,rfl,hb,cell_putObj hl rfl h1,cell_putObj hl rfl h2⟩
 case assign =>
  rintro l pre ⟨xa,xi⟩ W K hI hsz hK
  have HK:=Lib.hid hK
  clear hK
  have HII:=Lib.hid hI
  have hlt:=hI.2.2.2
  clear hI
  unfold nameV
  gi_wp2
  refine HK.out _ _ (KeepsWalks.alloc _ _) ?_ (HII.out.grown (World.grownBy_alloc W _ none) (fun r e => by cases e)) ⟨W.heap.size,rfl,hlt,?_,?_⟩
  ·rintro k hk
   exact Below.heap_alloc _ _ _ (by omega)
  ·go_simp
  ·go_simp
 case body =>
  rintro l pre ⟨xa,xi⟩ a' W hlen hI ⟨b,rfl,hb,q0,q1⟩ hsz
  unfold nameV
  obtain ⟨⟨v,hv,hown⟩,hle,hbel,hlt⟩:=hI
  obtain ⟨vA,vc,rfl⟩:=own_formN hown
  obtain ⟨hc,hf⟩:=cell_of_box_k hv
  have HNB : ∀ r,(Value.slice vA pre.length vc).ownBlock = some r → w.heap.size + 3 ≤ r ∧ ∃ o : Obj,W.heap[r]? = some o ∧ o.isCells = true ∧ o.isWalk = false:=fun r hr => by
   rcases hown.2 with ⟨h,_⟩ | ⟨g,cap,cur,h,hb,hgb,_⟩
   ·rw [h] at hr;simp [Value.ownBlock] at hr
   ·rw [h] at hr
    simp only [Value.ownBlock,Option.some.injEq] at hr
    subst hr
    exact ⟨hb,_,hgb,rfl,rfl⟩
  have HX:=Lib.hid (And.intro hv (And.intro hown (And.intro hle (And.intro hbel HNB))))
  have HZ2:=Lib.hid hsz
  clear hv hown hle hbel HNB
  gi_wp2_with (gi_at_builtin;refine wpListIn_append_own _ rfl _ _ 47 rfl (w.heap.size + 3) 24 i0 _ 2 24 Tryz.underlying47 hi hz0 hz1 hz2 rfl (by decide) _ _ _ rfl (HX.out.2.1.alloc _) ⟨W.heap.size,0,none⟩ 1 1 [.string xa,.int .i64 xi] rfl rfl (cell_pair_new _ _ _ _) (by simp [Value.oneCell']) (by unfold maxLen;omega) (by omega) (by have:=HZ.out;simp;omega) ?_;intro v' w1 hown1 hg1 _;have hb1 : w1.heap[w.heap.size]? = some (.cells #[.slice vA pre.length vc] 47 (0,0)):=(hg1.block w.heap.size (by simp;omega) (fun e => by have:=(HX.out.2.2.2.2 _ e.symm).1;omega)).trans ((Below.heap_alloc _ _ _ hlt).trans HX.out.1);have hc1:=cell_of_one hb1;have hf1:=free_of_one hb1;obtain ⟨gg,cc,rfl⟩:=ownsRow_succ hown1)
  have HG : (W.alloc (.cells #[.string xa,.int .i64 xi] 24)).grownBy w1 (Value.slice vA pre.length vc).ownBlock:=hg1
  have hnw : ∀ (j : Nat) (o : Obj),(Value.slice vA pre.length vc).ownBlock = some j → (W.alloc (.cells #[.string xa,.int .i64 xi] 24)).heap[j]? = some o → o.isWalk = false:=fun j o hj ho => by
   obtain ⟨_,o',h1,_,h2⟩:=HX.out.2.2.2.2 j hj
   have h3:=(Below.heap_alloc W (.cells #[.string xa,.int .i64 xi] 24) j (Array.getElem?_eq_some_iff.1 h1).1).trans h1
   rw [h3] at ho
   cases ho
   exact h2
  refine ⟨((KeepsWalks.alloc W _).trans (KeepsWalks.of_grownBy HG hnw)).trans (KeepsWalks.setCell _ _ _),?_,⟨_,one_setCell hb1,?_⟩,by simp;omega,?_,?_⟩
  ·intro k hk
   have hkz : k < W.heap.size:=by have:=HZ.out;omega
   refine (Below.heap_setCell _ _ _ _ (by simp;have:=HZ.out;omega)).trans ((HG.block k (by simp;omega) (fun e => ?_)).trans (Below.heap_alloc _ _ _ hkz))
   have:=(HX.out.2.2.2.2 k e.symm).1
   have:=HZ.out
   omega
  ·refine ownsRow_setCell_other ?_ ?_ _
   ·rw [namesC_append,List.length_append];exact hown1
   ·have:=(hown1.lt gg rfl).1
    simp [Value.ownBlock]
    omega
  ·exact ((HX.out.2.2.2.1.alloc (by omega) _).grown HG (by simp;omega) (fun q e => by have:=(HX.out.2.2.2.2 q e).1;omega)).setCell (Nat.le_refl _) _
  ·exact Nat.lt_of_lt_of_le (show w.heap.size < w1.heap.size by have:=HG.size;simp at this;omega) (KeepsWalks.setCell w1 _ _).size
 case done =>
  rintro D ss W rfl hS hI hD
  obtain ⟨⟨v,hv,hown⟩,hle,hbel,hlt⟩:=hI
  obtain ⟨vA,vc,rfl⟩:=own_formN hown
  obtain ⟨hc,hf⟩:=cell_of_box_k hv
  have HX:=Lib.hid (And.intro hS (And.intro hown (And.intro hbel hD)))
  clear hS hown hbel hD hv
  gi_wp2
  refine ret_mark HX.out.2.2.2 (results_tmp rfl _ _ _) ?_
  refine ⟨_,ss,rfl,HX.out.1,?_,below_putObj HX.out.2.2.1 (by have:=HZ.out;omega) _⟩
  exact World.ownsRow.mono (own_abides HX.out.2.1 (grownBy_putK W _ _) (fun r e => by cases e;exact ⟨_,HX.out.2.2.2,rfl⟩)) (by omega)
set_option maxRecDepth 100000 in
theorem collectN_any (gf : Nat) (lb : Array Value) (eg : ∀ args w,(callFunc gf args).run Tryz.prog w = .ok (.enter gf args) w) (S : List (ByteArray × Int) → Prop) (N : Nat) (hN : N ≤ 1000000) (w : World) (hit : SeqGives Fence.wide 0 Tryz.prog gf lb nameV S N w) :
  Calls Tryz.prog 72 #[.func (.func gf) #[] lb] w (CollectP S w):=by
 have HC:=Lib.hid (appendSeqN_any gf lb eg S N hN w hit)
 clear hit
 go_enter Tryz.func72,Tryz.ntmps72
 go_wp2_with fail
 refine HC.out.mono ?_
 rintro e w1 ⟨v,ss,rfl,hS,hown,hb⟩
 have HX:=Lib.hid (And.intro hS (And.intro hown hb))
 clear hS hown hb
 obtain ⟨A,c,rfl⟩:=own_formN HX.out.2.1
 go_wp2
 go_ret
 exact ⟨_,ss,rfl,HX.out.1,HX.out.2.1,HX.out.2.2⟩
end Go.Proofs.YtnfndgmlnoeelaaGreatDoor
