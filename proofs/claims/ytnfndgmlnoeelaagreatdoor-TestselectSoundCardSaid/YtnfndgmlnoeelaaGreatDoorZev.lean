/- A range over a function whose iterator writes nothing, over a body that makes and writes memory and may stop early by a return. Nothing of a program. -/
import Derived.Test.YtnfndgmlnoeelaaGreatDoorZlb
import Derived.Test.YtnfndgmlnoeelaaGreatDoorZef
import Derived.LoopNIn
import Derived.LoopIn
namespace Go.Proofs.YtnfndgmlnoeelaaGreatDoor
open Go Go.RowKit
def IterP {α : Type} (P : Program) (gf : Nat) (lb : Array Value) (encs : α → Array Value) (Rd : World → Prop) (xs : List α) : Prop:=
 ∀ (l : Nat) (J Jx : List α → World → Prop) (W : World),(∀ pre X,J pre X → Rd X) →
  (∀ pre x X,pre ++ [x] <+: xs → J pre X → YieldAt Fence.wide 0 P l (encs x) X fun e Y =>
   (e = .returned (.bool true) ∧ J (pre ++ [x]) Y) ∨ (e = .returned (.bool false) ∧ Jx (pre ++ [x]) Y)) →
  J [] W →
  CallsIn Fence.wide 0 P gf (#[.func (.yield l) #[] #[]] ++ lb) W fun e W' => (∃ v,e = .returned v) ∧ (J xs W' ∨ ∃ pre,pre <+: xs ∧ Jx pre W')
def TwoKept (B : Nat) (W W' : World) : Prop:=W'.heap[B]? = W.heap[B]? ∧ W'.heap[B + 1]? = W.heap[B + 1]?
def rndP {α : Type} (B : Nat) (I Ix : List α → World → Prop) (xs : List α) (W : World) : Exit → Act → World → Prop
 | .normal,_,W' => TwoKept B W W' ∧ I xs W'
 | .ret,_,W' => TwoKept B W W' ∧ Ix xs W'
 | _,_,_ => False
theorem wpIn_rangeP {P : Program} {α : Type} {g : Operand} {ps : Array Tmp} {assign body : Go.Code} {Q : Exit → Act → World → Prop} {a : Act} {w : World}
  {gf : Nat} {lb : Array Value} (hg : a.eval g = .func (.func gf) #[] lb) (eg : ∀ args w,(callFunc gf args).run P w = .ok (.enter gf args) w)
  {encs : α → Array Value} {Rd : World → Prop} {xs : List α} (hit : IterP P gf lb encs Rd xs) (hps : ∀ x,(encs x).size = ps.size)
  (I Ix : List α → World → Prop) (hRd : ∀ pre W,I pre W → Rd W)
  (hIp : ∀ s X r r',I s X → X.heap[w.heap.size + 1]? = some (.loop r) → I s (X.putObj (w.heap.size + 1) (.loop r')))
  (hXp : ∀ s X r r',Ix s X → X.heap[w.heap.size + 1]? = some (.loop r) → Ix s (X.putObj (w.heap.size + 1) (.loop r')))
  (h0 : ∀ r,I [] ((w.alloc (.deferred (some []))).alloc (.loop r))) (Ax : α → Act → World → Prop) (hAx : ∀ x a' X r r',Ax x a' X → X.heap[w.heap.size + 1]? = some (.loop r) → Ax x a' (X.putObj (w.heap.size + 1) (.loop r')))
  (hassign : ∀ (l : Nat) (pre : List α) (x : α) (W : World) (K : Act → World → Prop),pre ++ [x] <+: xs → I pre W → w.heap.size + 2 ≤ W.heap.size →
   (∀ a' W',TwoKept w.heap.size W W' → I pre W' → Ax x a' W' → K a' W') →
   assign.wpIn (Fence.wide.inRound l) 0 P (Exit.then K (fun _ _ _ => False)) { tmps:=(ps.zip (encs x)).foldl (fun t (p,v) => t.setIfInBounds p v) a.tmps,defers:=[] } W)
  (hbody : ∀ (l : Nat) (pre : List α) (x : α) (a' : Act) (W : World),pre ++ [x] <+: xs → I pre W → Ax x a' W → w.heap.size + 2 ≤ W.heap.size → body.wpIn (Fence.wide.inRound l) 0 P (rndP w.heap.size I Ix (pre ++ [x]) W) a' W)
  (hdone : ∀ (W : World),I xs W → W.heap[w.heap.size]? = some (.deferred (some [])) → Q .normal { a with defers:={ target:=.collected w.heap.size,args:=#[] } :: a.defers } W)
  (hstop : ∀ (pre : List α) (W : World),pre <+: xs → Ix pre W → W.heap[w.heap.size]? = some (.deferred (some [])) → Go.Code.ret.wpIn Fence.wide 0 P Q { a with defers:={ target:=.collected w.heap.size,args:=#[] } :: a.defers } W) :
  (Go.Code.rangeFunc g ps assign body).wpIn Fence.wide 0 P Q a w:=by
 refine wpIn_rangeFunc ?_
 intro fn hfn
 show ∃ (l : Nat) (mark : List Deferred) (w₁ : World) (d : Deferred) (w₁' : World) (f : FuncId) (args : Array Value) (w₂ : World),(Instr.enterLoop fn a.tmps ps assign body none).run P w = .ok (l,mark) w₁ ∧ _
 obtain ⟨rec,hrec⟩ : ∃ rec : LoopState → Option Go.Code → Loop,rec = fun st pe => { state:=st,pending:=pe,fn,tmps:=a.tmps,params:=ps,assign,body,defers:=w.heap.size }:=⟨_,rfl⟩
 obtain ⟨W1,hW1⟩ : ∃ W1,(w.alloc (.deferred (some []))).alloc (.loop (rec .ready none)) = W1:=⟨_,rfl⟩
 have hL1 : W1.heap[w.heap.size + 1]? = some (.loop (rec .ready none)):=by
  rw [← hW1];have:=World.alloc_heap_new (w.alloc (.deferred (some []))) (.loop (rec .ready none));rwa [World.size_alloc] at this
 have hD1 : W1.heap[w.heap.size]? = some (.deferred (some [])):=by
  rw [← hW1];exact (Below.heap_alloc _ _ _ (by simp)).trans (World.alloc_heap_new w _)
 have hz1 : W1.heap.size = w.heap.size + 2:=by rw [← hW1];simp
 have hI1 : I [] W1:=by rw [← hW1];exact h0 _
 refine ⟨w.heap.size + 1,[{ target:=.collected w.heap.size,args:=#[] }],W1,{ target:=.fn (.func gf) lb,args:=#[.func (.yield (w.heap.size + 1)) #[] #[]] },W1,gf,
  #[.func (.yield (w.heap.size + 1)) #[] #[]] ++ lb,W1,?_,?_,?_,?_,?_,?_⟩
 ·rw [← hW1,hrec];exact run_enterLoop_outer _ _ _ _ _
 ·simp only [resolve,hg]
  simp [go_sem]
 ·intro f' _;trivial
 ·simp [invoke,go_sem,eg]
 ·intro h;simp [Fence.wide] at h
 ·refine (hit (w.heap.size + 1)
   (fun pre W => I pre W ∧ W.heap[w.heap.size + 1]? = some (.loop (rec .ready none)) ∧ W.heap[w.heap.size]? = some (.deferred (some [])))
   (fun pre W => Ix pre W ∧ W.heap[w.heap.size + 1]? = some (.loop (rec .done (some .ret))) ∧ W.heap[w.heap.size]? = some (.deferred (some [])))
   W1 (fun pre X h => hRd pre X h.1) ?_ ⟨hI1,hL1,hD1⟩).mono ?_
  ·rintro pre x W hpre ⟨hi,hl,hk⟩
   have hlt : w.heap.size + 1 < W.heap.size:=(Array.getElem?_eq_some_iff.1 hl).1
   have hy:=run_yield (P:=P) (args:=encs x) hl (by rw [hrec];exact hps x)
   rw [hrec] at hy
   refine ⟨fn,_,assign,body,hy,roundIn_of_wpIn hfn (hassign _ pre x W _ hpre hi (by omega) ?_)⟩
   intro a' W' hkA hiA hax
   have hlA : W'.heap[w.heap.size + 1]? = some (.loop (rec .ready none)):=hkA.2.trans hl
   have hkAD : W'.heap[w.heap.size]? = some (.deferred (some [])):=hkA.1.trans hk
   have hltA : w.heap.size + 1 < W'.heap.size:=(Array.getElem?_eq_some_iff.1 hlA).1
   refine ⟨_,run_beginRound hlA (by rw [hrec]),?_⟩
   obtain ⟨W2,hW2⟩ : ∃ W2,W'.putObj (w.heap.size + 1) (.loop { rec .ready none with state:=.busy }) = W2:=⟨_,rfl⟩
   rw [hW2]
   have hl2 : W2.heap[w.heap.size + 1]? = some (.loop { rec .ready none with state:=.busy }):=by rw [← hW2];exact World.putObj_heap_same hltA
   have hk2 : W2.heap[w.heap.size]? = some (.deferred (some [])):=by rw [← hW2];exact (World.putObj_heap_other (by omega)).trans hkAD
   have hi2 : I pre W2:=by rw [← hW2];exact hIp _ _ _ _ hiA hlA
   have hax2 : Ax x a' W2:=by rw [← hW2];exact hAx _ _ _ _ _ hax hlA
   have hs2 : w.heap.size + 2 ≤ W2.heap.size:=by have:=(Array.getElem?_eq_some_iff.1 hl2).1;omega
   refine wpIn_mono (hbody _ pre x _ _ hpre hi2 hax2 hs2) ?_
   have fin : ∀ (jump : Option Go.Code) (W3 : World),TwoKept w.heap.size W2 W3 →
     (Instr.endRound (w.heap.size + 1) jump).run P W3 = .ok (.bool jump.isNone) (W3.putObj (w.heap.size + 1) (.loop (rec (if jump.isNone then .ready else .done) jump))) ∧
     (W3.putObj (w.heap.size + 1) (.loop (rec (if jump.isNone then .ready else .done) jump))).heap[w.heap.size + 1]? = some (.loop (rec (if jump.isNone then .ready else .done) jump)) ∧
     (W3.putObj (w.heap.size + 1) (.loop (rec (if jump.isNone then .ready else .done) jump))).heap[w.heap.size]? = some (.deferred (some [])) ∧ W3.heap[w.heap.size + 1]? = some (.loop { rec .ready none with state:=.busy }):=fun jump W3 hk3 => by
    have hl3 : W3.heap[w.heap.size + 1]? = some (.loop { rec .ready none with state:=.busy }):=hk3.2.trans hl2
    have hd3 : W3.heap[w.heap.size]? = some (.deferred (some [])):=hk3.1.trans hk2
    have:=run_endRound (P:=P) jump hl3
    refine ⟨?_,World.putObj_heap_same (Array.getElem?_eq_some_iff.1 hl3).1,(World.putObj_heap_other (by omega)).trans hd3,hl3⟩
    rw [hrec] at this ⊢
    exact this
   rintro e a3 W3 hp
   cases e with
   | normal =>
    obtain ⟨hk3,hi3⟩:=hp
    obtain ⟨hr,hl4,hk4,hl3⟩:=fin none W3 hk3
    exact ⟨_,_,hr,.inl ⟨rfl,hIp _ _ _ _ hi3 hl3,hl4,hk4⟩⟩
   | ret =>
    obtain ⟨hk3,hi3⟩:=hp
    obtain ⟨hr,hl4,hk4,hl3⟩:=fin (some .ret) W3 hk3
    exact ⟨_,_,hr,.inr ⟨rfl,hXp _ _ _ _ hi3 hl3,hl4,hk4⟩⟩
   | exit id => exact hp.elim
   | goto t => exact hp.elim
   | panic ch => exact hp.elim
   | outgrown => exact hp.elim
  ·rintro e W2 ⟨⟨v,rfl⟩,(⟨hi,hl,hk⟩ | ⟨pre,hpre,hi,hl,hk⟩)⟩
   ·exact ⟨none,_,by have:=run_endLoop (P:=P) hl (by rw [hrec];simp);rw [hrec] at this;exact this,hdone _ (hIp _ _ _ _ hi hl) ((World.putObj_heap_other (by omega)).trans hk)⟩
   ·exact ⟨some .ret,_,by have:=run_endLoop (P:=P) hl (by rw [hrec];simp);rw [hrec] at this;exact this,hstop pre _ hpre (hXp _ _ _ _ hi hl) ((World.putObj_heap_other (by omega)).trans hk)⟩
end Go.Proofs.YtnfndgmlnoeelaaGreatDoor
/- eval: slices.Backward at variables -/
namespace Go.Proofs.YtnfndgmlnoeelaaGreatDoor
open Go Go.RowKit Go.Proofs Go.Shelf
attribute [local go_sem] Oper.semAt_some wide_fn wide_depth
structure Bd where
 x : ByteArray
 v : Va
 lA : Option Addr
 lc : Nat
 bA : Option Addr
 bc : Nat
 eA : Option Addr
 ec : Nat
instance : Inhabited Bd:=⟨⟨noB,vaI 0 0,none,0,none,0,none,0⟩⟩
abbrev Bd.cells (x : Bd) : Array Value:=#[.string x.x,.int .i64 x.v.k,.int .i64 x.v.i,.slice x.lA x.v.l.len x.lc,.int .i64 0,.string x.v.p,.string x.v.q,.slice x.bA x.v.b.len x.bc,.slice x.eA x.v.e.len x.ec]
def SlB (w : World) (B : Nat) (A : Option Addr) (c : Nat) (l : List Bd) : Prop:=
 l.length ≤ c ∧ c ≤ maxLen ∧ (l ≠ [] → ∃ b o,A = some ⟨b,o,none⟩ ∧ b < B ∧ ∀ j e,l[j]? = some e → ∀ t u,e.cells[t]? = some u → w.cell? ⟨b,o + j * 9 + t,none⟩ = some u)
theorem SlB.keep {w w' : World} {B : Nat} {A : Option Addr} {c : Nat} {l : List Bd} (h : SlB w B A c l) (hk : ∀ p : Addr,p.block < B → w'.cell? p = w.cell? p) : SlB w' B A c l:=
 ⟨h.1,h.2.1,fun hne => by
  obtain ⟨b,o,e,hb,hs⟩:=h.2.2 hne
  exact ⟨b,o,e,hb,fun j x hj t u hu => (hk _ hb).trans (hs j x hj t u hu)⟩⟩
def BdsOf (Cd : Code) (w : World) (D : Dead) (v : Vl) (l : List Bd) : Prop:=l.length = v.len ∧ ∀ j e,l[j]? = some e → v.at j = some (e.x,e.v) ∧ VaR Cd w D e.v e.lA e.lc e.bA e.bc e.eA e.ec
theorem Vl.at_lt : ∀ {l : Vl} {j : Nat},j < l.len → ∃ x,l.at j = some x
 | .nil,_,h => by simp [Vl.len] at h
 | .cons _ _ _ _ _ _ _ _ _,0,_ => ⟨_,rfl⟩
 | .cons _ _ _ _ _ _ _ _ r,j + 1,h => Vl.at_lt (l:=r) (by simp [Vl.len] at h;omega)
theorem bds_exist {Cd : Code} {w : World} {D : Dead} {v : Vl} {g o : Nat} (h : v.At Cd w D true g o) : ∀ k,k ≤ v.len → ∃ l : List Bd,l.length = k ∧ ∀ j e,l[j]? = some e → v.at j = some (e.x,e.v) ∧ VaR Cd w D e.v e.lA e.lc e.bA e.bc e.eA e.ec ∧ ∀ t u,e.cells[t]? = some u → w.cell? ⟨g,o + j * 9 + t,none⟩ = some u
 | 0,_ => ⟨[],rfl,fun j e he => by simp at he⟩
 | k + 1,hk => by
  obtain ⟨l,hl,hs⟩:=bds_exist h k (by omega)
  obtain ⟨⟨x,u⟩,hx⟩:=Vl.at_lt (l:=v) (j:=k) (by omega)
  obtain ⟨h1,_,lA,lc,bA,bc,eA,ec,hv,hc⟩:=h.get hx
  have h1:=h1 rfl
  simp only [off] at h1 hc
  refine ⟨l ++ [⟨x,u,lA,lc,bA,bc,eA,ec⟩],by simp [hl],fun j e he => ?_⟩
  by_cases hj : j < k
  ·rw [List.getElem?_append_left (by omega)] at he
   exact hs j e he
  ·rw [List.getElem?_append_right (by omega)] at he
   have hj0 : j = k:=by
    have:=(List.getElem?_eq_some_iff.1 he).1
    simp at this
    omega
   subst hj0
   rw [hl,Nat.sub_self,List.getElem?_cons_zero,Option.some.injEq] at he
   subst he
   refine ⟨hx,hv,fun t u' ht => ?_⟩
   cases t with
   | zero =>
    simp only [Bd.cells,List.getElem?_toArray,List.getElem?_cons_zero,Option.some.injEq] at ht
    subst ht
    simpa using h1
   | succ t =>
    have:=hc t u' (by simpa [Bd.cells,Va.cells] using ht)
    rw [show o + j * 9 + (t + 1) = o + j * (1 + 8) + 1 + t by omega]
    simpa using this
theorem Vl.Sl.bds {Cd : Code} {w : World} {D : Dead} {v : Vl} {A : Option Addr} {c : Nat} (h : v.Sl Cd w D true A c) : ∃ l : List Bd,BdsOf Cd w D v l ∧ SlB w w.heap.size A c l:=by
 by_cases hn : v = .nil
 ·subst hn
  exact ⟨[],⟨rfl,fun j e he => by simp at he⟩,Nat.zero_le _,h.2.1,fun e => absurd rfl e⟩
 ·obtain ⟨g,o,rfl,hg,ha,_⟩:=h.2.2 hn
  obtain ⟨l,hl,hs⟩:=bds_exist ha v.len (Nat.le_refl _)
  exact ⟨l,⟨hl,fun j e he => ⟨(hs j e he).1,(hs j e he).2.1⟩⟩,by rw [hl];exact h.1,h.2.1,fun _ => ⟨g,o,rfl,hg,fun j e he t u hu => (hs j e he).2.2 t u hu⟩⟩
def backV (l : List Bd) : Nat → List (Nat × Bd)
 | 0 => []
 | k + 1 => (k,l.getD k default) :: backV l k
theorem backV_mem {Cd : Code} {w : World} {D : Dead} {v : Vl} {l : List Bd} (hl : BdsOf Cd w D v l) (n : ByteArray) : ∀ (k : Nat) (pre : List (Nat × Bd)) (x : Nat × Bd),k ≤ l.length → pre ++ [x] <+: backV l k → (∀ y ∈ pre,y.2.x ≠ n) → x.2.x = n → v.look n k = some x.2.v ∧ ∃ j : Nat,l[j]? = some x.2
 | 0,pre,x,_,h,_,_ => by simp [backV] at h
 | k + 1,pre,x,hk,h,hp,hx => by
  have hkl : l[k]? = some (l.getD k default):=by rw [List.getD_eq_getElem?_getD,List.getElem?_eq_getElem (by omega)];rfl
  have hat:=(hl.2 k _ hkl).1
  cases pre with
  | nil =>
   simp only [backV,List.nil_append,List.cons_prefix_cons,List.nil_prefix,and_true] at h
   subst h
   refine ⟨?_,k,hkl⟩
   unfold Vl.look
   rw [hat]
   exact if_pos hx
  | cons y pre =>
   simp only [backV,List.cons_append,List.cons_prefix_cons] at h
   obtain ⟨rfl,h⟩:=h
   have hy:=hp _ List.mem_cons_self
   obtain ⟨r1,r2⟩:=backV_mem hl n k pre x (by omega) h (fun z hz => hp z (List.mem_cons_of_mem _ hz)) hx
   refine ⟨?_,r2⟩
   unfold Vl.look
   rw [hat]
   simp only
   rw [if_neg hy]
   exact r1
theorem backV_none {Cd : Code} {w : World} {D : Dead} {v : Vl} {l : List Bd} (hl : BdsOf Cd w D v l) (n : ByteArray) : ∀ (k : Nat),k ≤ l.length → (∀ y ∈ backV l k,y.2.x ≠ n) → v.look n k = none
 | 0,_,_ => rfl
 | k + 1,hk,h => by
  have hkl : l[k]? = some (l.getD k default):=by rw [List.getD_eq_getElem?_getD,List.getElem?_eq_getElem (by omega)];rfl
  unfold Vl.look
  rw [(hl.2 k _ hkl).1]
  simp only
  rw [if_neg (h (k,l.getD k default) (by simp [backV]))]
  exact backV_none hl n k (by omega) fun y hy => h y (by simp [backV,hy])
theorem backB_any (l : List Bd) (A : Option Addr) (c : Nat) (w : World) : Calls Tryz.prog 126 #[.slice A l.length c] w fun e w' =>
  e = .returned (.func (.func 157) #[] #[.pointer (some ⟨w.heap.size,0,none⟩)]) ∧ w.alloc (.cells #[.slice A l.length c] 34) = w':=by
 have hmf : ∀ (fn : Fn) (first cap : Array Value) (w : World),(Instr.makeFunc fn first cap).run Tryz.prog w = .ok (.func fn first cap) w:=fun _ _ _ _ => rfl
 go_enter Tryz.func126,Tryz.ntmps126
 go_wp2
 go_ret
 exact ⟨rfl,rfl⟩
set_option maxRecDepth 100000 in
set_option maxHeartbeats 1000000 in
theorem backB1_iter (l : List Bd) (A : Option Addr) (c sb n₀ : Nat) (hl : l.length ≤ 1000000) :
  IterP Tryz.prog 157 #[.pointer (some ⟨sb,0,none⟩)] (fun x : Nat × Bd => #[.int .i64 x.1,.agg x.2.cells]) (fun X => X.cell? ⟨sb,0,none⟩ = some (.slice A l.length c) ∧ SlB X n₀ A c l) (backV l l.length):=by
 intro lp J Jx W hRd hY h0
 obtain ⟨k1,ks⟩:=hRd _ _ h0
 have hcap:=ks.1
 have HW:=Lib.hid (And.intro hY hRd)
 clear hY hRd ks
 obtain ⟨N,HN⟩ : ∃ N,Hid (l.length = N):=⟨_,rfl⟩
 rw [HN.out] at k1 HW hl hcap ⊢
 refine callsIn_of_wp Tryz.func157 rfl trivial ?_ rfl
 simp only [Tryz.ntmps157,List.size_toArray,List.length_cons,List.length_nil,Nat.reduceAdd,Nat.reduceSub,Array.replicate_succ,Array.replicate_zero,List.push_toArray,List.append_toArray,List.nil_append,List.cons_append]
 gi_wp2
 gi_loopw [3] (fun iv wr => ∃ (k : Nat) (z : Int) (pre : List (Nat × Bd)),k ≤ N ∧ z + 1 = k ∧ iv = .int .i64 z ∧ pre ++ backV l k = backV l N ∧ J pre wr)
  (fun iv _ => (intOf iv + 1).toNat)
 case atStart => exact ⟨N,_,[],Nat.le_refl _,by omega,rfl,rfl,h0⟩
 case round =>
  obtain ⟨k,z,pre,hk,hz,rfl,hpc,hJ⟩:=hrel
  obtain ⟨c1,cs⟩:=HW.out.2 _ _ hJ
  have HP:=Lib.hid (And.intro hpc cs)
  clear hpc cs
  cases k with
  | zero =>
   have hz' : decide (0 ≤ z) = false:=by simp;omega
   clear hz
   gi_wp2
   go_end0
   refine ⟨⟨_,rfl⟩,.inl ?_⟩
   have:=HP.out.1
   simp only [backV,List.append_nil] at this
   rw [← this]
   exact hJ
  | succ k =>
   obtain rfl : z = (k : Int):=by omega
   clear hz
   have hkl : k < l.length:=by rw [HN.out];omega
   obtain ⟨b,o,rfl,hb,hcell⟩:=HP.out.2.2.2 (by intro e;rw [e] at hkl;simp at hkl)
   have hgd : l.getD k default = l[k]:=by simp [List.getD_eq_getElem?_getD,List.getElem?_eq_getElem hkl]
   obtain ⟨fn,tmps,assign,body,hy,hR⟩:=HW.out.1 pre (k,l[k]) wr (by rw [← HP.out.1];exact ⟨backV l k,by rw [backV,hgd];simp⟩) hJ
   have HF:=Lib.hid (show (pre ++ [(k,l[k])]) ++ backV l k = backV l N by rw [← HP.out.1,backV,hgd];simp)
   have hcx:=hcell k _ (List.getElem?_eq_getElem hkl)
   generalize l[k] = x at hcx hy hR HF
   have e0:=hcx 0 _ rfl
   have e1:=hcx 1 _ rfl
   have e2:=hcx 2 _ rfl
   have e3:=hcx 3 _ rfl
   have e4:=hcx 4 _ rfl
   have e5:=hcx 5 _ rfl
   have e6:=hcx 6 _ rfl
   have e7:=hcx 7 _ rfl
   have e8:=hcx 8 _ rfl
   simp only [Nat.add_zero] at e0
   clear hgd hkl hcx hcell
   gi_wp2
   refine hR.mono ?_
   rintro e Y (⟨rfl,hJ'⟩ | ⟨rfl,hJ'⟩)
   ·clear c1 hR hy hJ e0 e1 e2 e3 e4 e5 e6 e7 e8
    gi_wp2
    first
     | exact ⟨⟨_,_,_,_,_,_,_,_,_,_,_,_,_,⟨k,_,_,by omega,by omega,rfl,HF.out,hJ'⟩,rfl⟩,by simp [intOf]⟩
     | exact ⟨⟨k,_,_,by omega,by omega,rfl,HF.out,hJ'⟩,by simp [intOf]⟩
   ·gi_wp2
    refine bodyPost_ret (results_none rfl _ _ _) rfl ?_
    exact ⟨⟨_,rfl⟩,.inr ⟨_,⟨_,HF.out⟩,hJ'⟩⟩
end Go.Proofs.YtnfndgmlnoeelaaGreatDoor
