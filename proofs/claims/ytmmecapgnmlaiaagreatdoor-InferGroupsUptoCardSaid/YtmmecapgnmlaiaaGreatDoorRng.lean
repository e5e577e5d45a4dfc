/- A range over a function whose iterator keeps memory of its own: the law by which a caller and an iterator meet. Nothing of a program. -/
import Derived.RangeFuncNested
import Derived.RangeFuncBound
import Derived.Test.YtmmecapgnmlaiaaGreatDoorZz
set_option maxRecDepth 100000
set_option maxHeartbeats 16000000
namespace Go.Proofs.Q
open Go Go.RowKit
theorem oD (f:FuncId):Fence.wide.fn f=True:=rfl
theorem jR:Fence.wide.depth=none:=rfl
structure Keeps (S:Nat→Prop)(X Y:World):Prop where
 os:Y.os=X.os
 tape:Y.tape=X.tape
 output:Y.output=X.output
 size:X.heap.size≤Y.heap.size
 block:∀k,k<X.heap.size→S k→Y.heap[k]?=X.heap[k]?
namespace Keeps
variable {S T:Nat→Prop} {X Y Z:World}
theorem refl (S:Nat→Prop)(X:World):Keeps S X X:=⟨rfl,rfl,rfl,SA _,fun _ _ _=>rfl⟩
theorem trans (h:Keeps S X Y)(k:Keeps S Y Z):Keeps S X Z:=
 ⟨k.os.trans h.os,k.tape.trans h.tape,k.output.trans h.output,SE h.size k.size,fun i hi hs=>(k.block i (SB hi h.size) hs).trans (h.block i hi hs)⟩
theorem mono (h:Keeps S X Y)(hs:∀k,T k→S k):Keeps T X Y:=⟨h.os,h.tape,h.output,h.size,fun k hk ht=>h.block k hk (hs k ht)⟩
theorem drew (h:Keeps S X Y):Keeps S X Y.drew:=⟨h.os,h.tape,h.output,h.size,h.block⟩
theorem alloc (h:Keeps S X Y)(o:Obj):Keeps S X (Y.alloc o):=
 h.trans ⟨rfl,rfl,rfl,by simp,fun k hk _=>Tt _ _ _ hk⟩
theorem setCell (h:Keeps S X Y){p:Addr}(hp:¬S p.block)(u:Value):Keeps S X (Y.setCell p u):=
 h.trans ⟨rfl,rfl,rfl,by simp[World.setCell],fun k _ hs=>Tx _ _ _ _ (fun e=>hp (e▸hs))⟩
theorem putObj (h:Keeps S X Y){l:Nat}(hp:¬S l)(o:Obj):Keeps S X (Y.putObj l o):=
 h.trans ⟨rfl,rfl,rfl,by simp,fun k _ hs=>World.putObj_heap_other (fun e=>hp (e▸hs))⟩
theorem grown {row:Option Nat}(h:Keeps S X Y)(hg:Y.grownBy Z row)(hr:∀k,row=some k→¬S k):Keeps S X Z:=
 h.trans ⟨hg.os,hg.tape,hg.output,hg.size,fun k hk hs=>hg.block k hk (fun e=>hr k e.symm hs)⟩
theorem below {B:Nat}(h:Below B X Y)(hs:∀k,S k→k<B):Keeps S X Y:=⟨h.os,h.tape,h.output,h.size,fun k _ hk=>h.block k (hs k hk)⟩
theorem whole (h:Below X.heap.size X Y)(S:Nat→Prop):Keeps S X Y:=⟨h.os,h.tape,h.output,h.size,fun k hk _=>h.block k hk⟩
theorem dX {B:Nat}(h:Keeps S X Y)(hB:B≤X.heap.size)(hs:∀k,k<B→S k):Below B X Y:=⟨h.os,h.tape,h.output,h.size,fun k hk=>h.block k (by omega) (hs k hk)⟩
theorem cell (h:Keeps S X Y){p:Addr}{v:Value}(hp:S p.block)(hc:X.cell? p=some v):Y.cell? p=some v:=
 (SN (h.block p.block (SS X p hc) hp)).trans hc
theorem frozen (h:Keeps S X Y){p:Addr}(hl:p.block<X.heap.size)(hp:S p.block):Y.frozen? p=X.frozen? p:=
 World.frozen?_of_block (h.block p.block hl hp)
theorem ownsRow {base:Nat}{e:TypeId}{size:Nat}{v:Value}{n:Nat}{xs:List Value}(h:Keeps S X Y)(ho:X.ownsRow base e size v n xs)(hS:∀g,v.ownBlock=some g→S g):Y.ownsRow base e size v n xs:=by
 refine⟨ho.1,?_⟩
 rcases ho.2 with hn|⟨g,cap,cur,rfl,hb,hgg,rest⟩
 ·exact .inl hn
 ·exact .inr ⟨g,cap,cur,rfl,hb,(h.block g (Sz.1 hgg).1 (hS g rfl)).trans hgg,rest⟩
end Keeps
def Told {β:Type}(S:Nat→Prop)(J:β→World→Prop):Prop:=∀s X Y,J s X→Keeps S X Y→J s Y
def Iter {α:Type}(P:Program)(gf:Nat)(lb:Array Value)(encs:α→Array Value)(own:Nat→Prop)(n₀:Nat)(lim:List α→Prop)(xs:List α)(w:World):Prop:=
 ∀(l:Nat) (J Jx:List α→World→Prop) (W:World),Keeps (fun _=>True) w W →
  Told (fun k=>k<W.heap.size∧¬own k) J→Told (fun k=>k<W.heap.size∧¬own k) Jx→(∀pre X,J pre X→lim pre) →
  (∀pre x X,pre++[x] <+: xs→J pre X→W.heap.size≤X.heap.size→YieldAt Fence.wide 0 P l (encs x) X fun e Y =>
   (e=.returned (.bool true)∧J (pre++[x]) Y∧Keeps (fun k=>own k∨W.heap.size≤k∨k<n₀) X Y)∨(e=.returned (.bool false)∧Jx (pre++[x]) Y)) →
  J [] W →
  CallsIn Fence.wide 0 P gf (#[.func (.yield l) #[] #[]]++lb) W fun e W'=>(∃v,e=.returned v)∧(J xs W'∨∃pre,pre <+: xs∧Jx pre W')
theorem mE {P:Program}{fn:Func}{R:Ending→World→Prop}{tmps:Array Value}{D:Nat}{W:World}{v:Value}(hD:W.heap[D]?=some (.deferred (some [])))
  (hr:(results fn tmps).run P (W.putObj D (.deferred none))=.ok v (W.putObj D (.deferred none)))(hR:R (.returned v) (W.putObj D (.deferred none))) :
  bodyPostM Fence.wide 0 P fn R .ret { tmps,defers:=[{ target:=.collected D,args:=#[] }] } W:=
 ⟨by simp,.inl ⟨_,_,rfl,run_takeDeferred hD,⟨v,hr,hR⟩⟩⟩
theorem xH {P:Program}{fn:Func}{R:Ending→World→Prop}{tmps:Array Value}{D D':Nat}{W:World}{v:Value}(hD:W.heap[D]?=some (.deferred (some [])))(hD':W.heap[D']?=some (.deferred (some [])))(hne:D'≠D)
  (hr:(results fn tmps).run P ((W.putObj D (.deferred none)).putObj D' (.deferred none))=.ok v ((W.putObj D (.deferred none)).putObj D' (.deferred none)))(hR:R (.returned v) ((W.putObj D (.deferred none)).putObj D' (.deferred none))) :
  bodyPostM Fence.wide 0 P fn R .ret { tmps,defers:=[{ target:=.collected D,args:=#[] },{ target:=.collected D',args:=#[] }] } W:=
 ⟨by simp,.inl ⟨_,_,rfl,run_takeDeferred hD,⟨by simp,.inl ⟨_,_,rfl,run_takeDeferred ((World.putObj_heap_other hne).trans hD'),⟨v,hr,hR⟩⟩⟩⟩⟩
theorem fT {B:Nat}{w W:World}(h:Below B w W){D:Nat}(hD:B≤D)(o:Obj):Below B w (W.putObj D o):=
 h.trans ⟨rfl,rfl,rfl,by simp,fun k hk=>World.putObj_heap_other (by omega)⟩
theorem gI {W:World}{D:Nat}{o o':Obj}{a:Addr}{v:Value}(hD:W.heap[D]?=some o)(ho:o.isCells=false)(h:W.cell? a=some v):(W.putObj D o').cell? a=some v:=
 cell_kept h (grownBy_putObj' W D o') (fun r e=>by cases e;exact⟨_,hD,ho⟩)
def Dy {α:Type}(own:Nat→Prop)(n₀ B:Nat)(I:List α→World→Prop)(Ix:Code→List α→World→Prop)(xs:List α)(W:World):Exit→Act→World→Prop
 | .normal,_,W'=>Keeps (fun k=>own k∨B≤k∨k<n₀) W W'∧I xs W'
 | .ret,_,W'=>Keeps (fun k=>B≤k) W W'∧Ix .ret xs W'
 | .exit id,_,W'=>Keeps (fun k=>B≤k) W W'∧Ix (.exit id) xs W'
 | .goto t,_,W'=>Keeps (fun k=>B≤k) W W'∧Ix (.goto t) xs W'
 | .panic _,_,_=>False
 | .outgrown,_,_=>False
theorem sO {P : Program}{α : Type}{g : Operand}{ps : Array Tmp}{assign body : Code}{Q : Exit → Act → World → Prop}{a : Act}{w : World}
    {gf : Nat} {lb : Array Value} (hg : a.eval g = .func (.func gf) #[] lb) (eg : ∀ args w,(callFunc gf args).run P w = .ok (.enter gf args) w)
    {encs : α → Array Value} {own : Nat → Prop} {n₀ : Nat} {lim : List α → Prop} {xs : List α} {w0 : World} (hit : Iter P gf lb encs own n₀ lim xs w0) (hw0 : Keeps (fun _ => True) w0 w) (hps : ∀ x,(encs x).size = ps.size)
    (hn0 : n₀ ≤ w.heap.size) (hown : ∀ k,own k → k < w.heap.size)
    (I : List α → World → Prop) (Ix : Code → List α → World → Prop) (hI : Told (fun k => k < w.heap.size ∧ ¬ own k) I) (hIx : ∀ c,Told (fun k => k < w.heap.size ∧ ¬ own k) (Ix c)) (hlim : ∀ pre W,I pre W → lim pre) (h0 : I [] w) (Ax : α → Act → World → Prop) (hAx : ∀ x a' X Y,Ax x a' X → Keeps (fun k => k ≠ w.heap.size ∧ k ≠ w.heap.size + 1) X Y → Ax x a' Y)
    (hassign : ∀ (l : Nat) (pre : List α) (x : α) (W : World) (K : Act → World → Prop),pre ++ [x] <+: xs → I pre W → w.heap.size + 2 ≤ W.heap.size →
      (∀ a' W',Keeps (fun k => own k ∨ w.heap.size ≤ k ∨ k < n₀) W W' → I pre W' → Ax x a' W' → K a' W') →
      assign.wpIn (Fence.wide.inRound l) 0 P (Exit.then K (fun _ _ _ => False)) { tmps:=(ps.zip (encs x)).foldl (fun t (p,v) => t.setIfInBounds p v) a.tmps,defers:=[] } W)
    (hbody : ∀ (l : Nat) (pre : List α) (x : α) (a' : Act) (W : World),pre ++ [x] <+: xs → I pre W → Ax x a' W → w.heap.size ≤ W.heap.size → body.wpIn (Fence.wide.inRound l) 0 P (Dy own n₀ w.heap.size I Ix (pre ++ [x]) W) a' W)
    (hdone : ∀ (D : Nat) (W : World),w.heap.size ≤ D → I xs W → W.heap[D]? = some (.deferred (some [])) → Q .normal { a with defers:={ target:=.collected D,args:=#[] } :: a.defers } W)
    (hstop : ∀ (D : Nat) (c : Code) (pre : List α) (W : World),w.heap.size ≤ D → pre <+: xs → Ix c pre W → W.heap[D]? = some (.deferred (some [])) → c.wpIn Fence.wide 0 P Q { a with defers:={ target:=.collected D,args:=#[] } :: a.defers } W) :
    (Code.rangeFunc g ps assign body).wpIn Fence.wide 0 P Q a w:=by
  refine wpIn_rangeFunc ?_
  intro fn hfn
  show ∃ (l : Nat) (mark : List Deferred) (w₁ : World) (d : Deferred) (w₁' : World) (f : FuncId) (args : Array Value) (w₂ : World),(Instr.enterLoop fn a.tmps ps assign body none).run P w = .ok (l,mark) w₁ ∧ _
  obtain⟨rec,hrec⟩ : ∃ rec : LoopState → Option Code → Loop,rec = fun st pe => { state:=st,pending:=pe,fn,tmps:=a.tmps,params:=ps,assign,body,defers:=w.heap.size }:=⟨_,rfl⟩
  obtain⟨W1,hW1⟩ : ∃ W1,(w.alloc (.deferred (some []))).alloc (.loop (rec .ready none)) = W1:=⟨_,rfl⟩
  have hL1 : W1.heap[w.heap.size + 1]? = some (.loop (rec .ready none)):=by
    rw[← hW1];have:=World.alloc_heap_new (w.alloc (.deferred (some []))) (.loop (rec .ready none));rwa [World.size_alloc]at this
  have hD1 : W1.heap[w.heap.size]? = some (.deferred (some [])):=by
    rw[← hW1];exact(Tt _ _ _ (by simp)).trans (World.alloc_heap_new w _)
  have hz1 : W1.heap.size = w.heap.size + 2:=by rw[← hW1];simp
  have hk1 : Keeps (fun _ => True) w W1:=by rw[← hW1];exact((Keeps.refl _ w).alloc _).alloc _
  have hI1 : I [] W1:=hI _ _ _ h0 (hk1.mono fun _ _ => trivial)
  refine⟨w.heap.size + 1,[{ target:=.collected w.heap.size,args:=#[] }],W1,{ target:=.fn (.func gf) lb,args:=#[.func (.yield (w.heap.size + 1)) #[] #[]] },W1,gf,
    #[.func (.yield (w.heap.size + 1)) #[] #[]] ++ lb,W1,?_,?_,?_,?_,?_,?_⟩
  · rw[← hW1,hrec];exact run_enterLoop_outer _ _ _ _ _
  · simp only[resolve,hg]
    simp[go_sem]
  · intro f' _;trivial
  · simp[invoke,go_sem,eg]
  · intro h;simp[Fence.wide]at h
  · -- what the law itself keeps beside the caller's word
    have rel : ∀ {X Y : World} {r : Obj} {k : Nat},(k = w.heap.size ∨ k = w.heap.size + 1) → X.heap[k]? = some r → Keeps (fun k => k < W1.heap.size ∧ ¬ own k) X Y → Y.heap[k]? = some r:=by
      intro X Y r k hk h hkeep
      refine(hkeep.block k (Sz.1 h).1 ⟨by omega,fun ho => ?_⟩).trans h
      have:=hown k ho
      omega
    have wide : ∀ {X Y : World},Keeps (fun k => k < W1.heap.size ∧ ¬ own k) X Y → Keeps (fun k => k < w.heap.size ∧ ¬ own k) X Y:=fun h => h.mono fun k hk => ⟨by omega,hk.2⟩
    have put : ∀ {X : World} (o : Obj),Keeps (fun k => own k ∨ W1.heap.size ≤ k ∨ k < n₀) X (X.putObj (w.heap.size + 1) o):=fun o =>
      (Keeps.refl _ _).putObj (by rintro (h | h | h)
                                  · have:=hown _ h;omega
                                  · omega
                                  · omega) o
    have put' : ∀ {X : World} (o : Obj),Keeps (fun k => k < w.heap.size ∧ ¬ own k) X (X.putObj (w.heap.size + 1) o):=fun o => (Keeps.refl _ _).putObj (by rintro⟨h,_⟩;omega) o
    refine(hit (w.heap.size + 1)
      (fun pre W => I pre W ∧ W.heap[w.heap.size + 1]? = some (.loop (rec .ready none)) ∧ W.heap[w.heap.size]? = some (.deferred (some [])))
      (fun pre W => ∃ c,Ix c pre W ∧ W.heap[w.heap.size + 1]? = some (.loop (rec .done (some c))) ∧ W.heap[w.heap.size]? = some (.deferred (some [])))
      W1 (hw0.trans hk1)
      (fun s A B hs hk => ⟨hI s A B hs.1 (wide hk),rel (.inr rfl) hs.2.1 hk,rel (.inl rfl) hs.2.2 hk⟩)
      (fun s A B hs hk => by
        obtain⟨c,hc,hl,hd⟩:=hs
        exact⟨c,hIx c s A B hc (wide hk),rel (.inr rfl) hl hk,rel (.inl rfl) hd hk⟩)
      (fun pre X h => hlim pre X h.1)
      ?_ ⟨hI1,hL1,hD1⟩).mono ?_
    · rintro pre x W hpre ⟨hi,hl,hk⟩ hsz
      have hlt : w.heap.size + 1 < W.heap.size:=(Sz.1 hl).1
      have hy:=run_yield (P:=P) (args:=encs x) hl (by rw[hrec];exact hps x)
      rw[hrec]at hy
      refine⟨fn,_,assign,body,hy,roundIn_of_wpIn hfn (hassign _ pre x W _ hpre hi (by omega) ?_)⟩
      intro a' W' hkA hiA hax
      have hlA : W'.heap[w.heap.size + 1]? = some (.loop (rec .ready none)):=(hkA.block _ hlt (.inr (.inl (by omega)))).trans hl
      have I8 : W'.heap[w.heap.size]? = some (.deferred (some [])):=(hkA.block _ (Sz.1 hk).1 (.inr (.inl (by omega)))).trans hk
      have I9 : w.heap.size + 1 < W'.heap.size:=(Sz.1 hlA).1
      refine⟨_,run_beginRound hlA (by rw[hrec]),?_⟩
      obtain⟨W2,hW2⟩ : ∃ W2,W'.putObj (w.heap.size + 1) (.loop { rec .ready none with state:=.busy }) = W2:=⟨_,rfl⟩
      rw[hW2]
      have hl2 : W2.heap[w.heap.size + 1]? = some (.loop { rec .ready none with state:=.busy }):=by rw[← hW2];exact World.putObj_heap_same I9
      have hk2 : W2.heap[w.heap.size]? = some (.deferred (some [])):=by rw[← hW2];exact(World.putObj_heap_other (by omega)).trans I8
      have hi2 : I pre W2:=by rw[← hW2];exact hI _ _ _ hiA (put' _)
      have Ja : Ax x a' W2:=by rw[← hW2];exact hAx _ _ _ _ hax ((Keeps.refl _ _).putObj (by simp) _)
      have hw2 : Keeps (fun k => own k ∨ W1.heap.size ≤ k ∨ k < n₀) W W2:=by
        rw[← hW2]
        refine(hkA.mono ?_).trans (put _)
        rintro k (h | h | h)
        · exact .inl h
        · exact .inr (.inl (by omega))
        · exact .inr (.inr h)
      have hs2 : w.heap.size ≤ W2.heap.size:=by have:=hw2.size;omega
      refine wpIn_mono (hbody _ pre x _ _ hpre hi2 Ja hs2) ?_
      have fin : ∀ (jump : Option Code) (W3 : World),Keeps (fun k => w.heap.size ≤ k) W2 W3 →
          (Instr.endRound (w.heap.size + 1) jump).run P W3 = .ok (.bool jump.isNone) (W3.putObj (w.heap.size + 1) (.loop (rec (if jump.isNone then .ready else .done) jump))) ∧
          (W3.putObj (w.heap.size + 1) (.loop (rec (if jump.isNone then .ready else .done) jump))).heap[w.heap.size + 1]? = some (.loop (rec (if jump.isNone then .ready else .done) jump)) ∧
          (W3.putObj (w.heap.size + 1) (.loop (rec (if jump.isNone then .ready else .done) jump))).heap[w.heap.size]? = some (.deferred (some [])):=fun jump W3 hk3 => by
        have hl3 : W3.heap[w.heap.size + 1]? = some (.loop { rec .ready none with state:=.busy }):=(hk3.block _ (Sz.1 hl2).1 (by omega)).trans hl2
        have hd3 : W3.heap[w.heap.size]? = some (.deferred (some [])):=(hk3.block _ (Sz.1 hk2).1 (by omega)).trans hk2
        have:=run_endRound (P:=P) jump hl3
        rw[hrec]at this ⊢
        exact⟨this,World.putObj_heap_same (Sz.1 hl3).1,(World.putObj_heap_other (by omega)).trans hd3⟩
      rintro e a3 W3 hp
      cases e with
      | normal =>
        obtain⟨hk3,hi3⟩:=hp
        obtain⟨hr,hl4,hk4⟩:=fin none W3 (hk3.mono fun k hk => .inr (.inl hk))
        refine⟨_,_,hr,.inl ⟨rfl,⟨hI _ _ _ hi3 (put' _),hl4,hk4⟩,(hw2.trans (hk3.mono ?_)).trans (put _)⟩⟩
        rintro k (h | h | h)
        · exact .inl h
        · exact .inr (.inl (by omega))
        · exact .inr (.inr h)
      | ret =>
        obtain⟨hk3,hi3⟩:=hp
        obtain⟨hr,hl4,hk4⟩:=fin (some .ret) W3 hk3
        exact⟨_,_,hr,.inr ⟨rfl,.ret,hIx _ _ _ _ hi3 (put' _),hl4,hk4⟩⟩
      | exit id =>
        obtain⟨hk3,hi3⟩:=hp
        obtain⟨hr,hl4,hk4⟩:=fin (some (.exit id)) W3 hk3
        exact⟨_,_,hr,.inr ⟨rfl,.exit id,hIx _ _ _ _ hi3 (put' _),hl4,hk4⟩⟩
      | goto t =>
        obtain⟨hk3,hi3⟩:=hp
        obtain⟨hr,hl4,hk4⟩:=fin (some (.goto t)) W3 hk3
        exact⟨_,_,hr,.inr ⟨rfl,.goto t,hIx _ _ _ _ hi3 (put' _),hl4,hk4⟩⟩
      | panic ch => exact hp.elim
      | outgrown => exact hp.elim
    · rintro e W2 ⟨⟨v,rfl⟩,(⟨hi,hl,hk⟩ | ⟨pre,hpre,c,hi,hl,hk⟩)⟩
      · exact⟨none,_,by have:=run_endLoop (P:=P) hl (by rw[hrec];simp);rw[hrec]at this;exact this,hdone _ _ (SA _) (hI _ _ _ hi (put' _)) ((World.putObj_heap_other (by omega)).trans hk)⟩
      · exact⟨some c,_,by have:=run_endLoop (P:=P) hl (by rw[hrec];simp);rw[hrec]at this;exact this,hstop _ c pre _ (SA _) hpre (hIx c _ _ _ hi (put' _)) ((World.putObj_heap_other (by omega)).trans hk)⟩
theorem uM {P:Program}{α:Type}{g:Operand}{ps:Array Tmp}{assign body:Code}{Q:Exit→Act→World→Prop}{a:Act}{w:World}
  {gf:Nat} {lb:Array Value} (hg:a.eval g=.func (.func gf) #[] lb) (eg:∀args w,(callFunc gf args).run P w=.ok (.enter gf args) w)
  {encs:α→Array Value} {own:Nat→Prop} {n₀:Nat} {lim:List α→Prop} {xs:List α} {w0:World} (hit:Iter P gf lb encs own n₀ lim xs w0) (hw0:Keeps (fun _=>True) w0 w) (hps:∀x,(encs x).size=ps.size)
  (hn0:n₀≤w.heap.size)(hown:∀k,own k→k<w.heap.size)
  (I:List α→World→Prop)(Ix:Code→List α→World→Prop)(hI:Told (fun k=>k<w.heap.size∧¬own k) I)(hIx:∀c,Told (fun k=>k<w.heap.size∧¬own k) (Ix c))(hlim:∀pre W,I pre W→lim pre)(h0:I [] w)(a₁:α→Act)
  (hassign:∀(l:Nat)(x:α)(W:World)(K:Act→World→Prop),K (a₁ x) W →
   assign.wpIn (Fence.wide.inRound l) 0 P (Exit.then K (fun _ _ _=>False)) { tmps:=(ps.zip (encs x)).foldl (fun t (p,v)=>t.setIfInBounds p v) a.tmps,defers:=[] } W)
  (hbody:∀(l:Nat)(pre:List α)(x:α)(W:World),pre++[x] <+: xs→I pre W→w.heap.size≤W.heap.size→body.wpIn (Fence.wide.inRound l) 0 P (Dy own n₀ w.heap.size I Ix (pre++[x]) W) (a₁ x) W)
  (hdone:∀(D:Nat)(W:World),w.heap.size≤D→I xs W→W.heap[D]?=some (.deferred (some []))→Q .normal { a with defers:={ target:=.collected D,args:=#[] } :: a.defers } W)
  (hstop:∀(D:Nat)(c:Code)(pre:List α)(W:World),w.heap.size≤D→pre <+: xs→Ix c pre W→W.heap[D]?=some (.deferred (some []))→c.wpIn Fence.wide 0 P Q { a with defers:={ target:=.collected D,args:=#[] } :: a.defers } W) :
  (Code.rangeFunc g ps assign body).wpIn Fence.wide 0 P Q a w:=
 sO hg eg hit hw0 hps hn0 hown I Ix hI hIx hlim h0 (fun x a' _=>a'=a₁ x) (fun _ _ _ _ h _=>h)
  (fun l _ x W K _ hi _ hK=>hassign l x W K (hK _ _ (Keeps.refl _ _) hi rfl))
  (fun l pre x a' W hpre hi ha hs=>by subst ha;exact hbody l pre x W hpre hi hs) hdone hstop
end Go.Proofs.Q
