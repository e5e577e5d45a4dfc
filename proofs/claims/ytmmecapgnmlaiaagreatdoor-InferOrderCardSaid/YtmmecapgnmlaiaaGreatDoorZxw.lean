/- A range over a function whose iterator writes nothing, over a body that makes and writes memory and may stop early by a return. Nothing of a program. -/
import Derived.Test.YtmmecapgnmlaiaaGreatDoorRng
import Derived.Test.YtmmecapgnmlaiaaGreatDoorZxv
import Derived.LoopNIn
import Derived.LoopIn
import Derived.RegionIn
namespace Go.Proofs.YtmmecapgnmlaiaaGreatDoor
open Go Go.RowKit
def IterP {α : Type} (P : Program) (gf : Nat) (lb : Array Value) (encs : α → Array Value) (Rd : World → Prop) (xs : List α) : Prop:=
 ∀ (l : Nat) (J Jx : List α → World → Prop) (W : World),(∀ pre X,J pre X → Rd X) →
  (∀ pre x X,pre ++ [x] <+: xs → J pre X → YieldAt Fence.wide 0 P l (encs x) X fun e Y =>
   (e = .returned (.bool true) ∧ J (pre ++ [x]) Y) ∨ (e = .returned (.bool false) ∧ Jx (pre ++ [x]) Y)) →
  J [] W →
  CallsIn Fence.wide 0 P gf (#[.func (.yield l) #[] #[]] ++ lb) W fun e W' => (∃ v,e = .returned v) ∧ (J xs W' ∨ ∃ pre,pre <+: xs ∧ Jx pre W')
def TwoKept (B : Nat) (W W' : World) : Prop:=W'.heap[B]? = W.heap[B]? ∧ W'.heap[B + 1]? = W.heap[B + 1]?
def rndP {α : Type} (B : Nat) (I Ix : List α → World → Prop) (xs : List α) (W : World) : Exit → Act → World → Prop
 | .normal,_,W' => TwoKept B W W' ∧ I xs W'
 | .ret,_,W' => TwoKept B W W' ∧ Ix xs W'
 | _,_,_ => False
theorem wpIn_rangeP {P : Program} {α : Type} {g : Operand} {ps : Array Tmp} {assign body : Go.Code} {Q : Exit → Act → World → Prop} {a : Act} {w : World}
  {gf : Nat} {lb : Array Value} (hg : a.eval g = .func (.func gf) #[] lb) (eg : ∀ args w,(callFunc gf args).run P w = .ok (.enter gf args) w)
  {encs : α → Array Value} {Rd : World → Prop} {xs : List α} (hit : IterP P gf lb encs Rd xs) (hps : ∀ x,(encs x).size = ps.size)
  (I Ix : List α → World → Prop) (hRd : ∀ pre W,I pre W → Rd W)
  (hIp : ∀ s X r r',I s X → X.heap[w.heap.size + 1]? = some (.loop r) → I s (X.putObj (w.heap.size + 1) (.loop r')))
  (hXp : ∀ s X r r',Ix s X → X.heap[w.heap.size + 1]? = some (.loop r) → Ix s (X.putObj (w.heap.size + 1) (.loop r')))
  (h0 : ∀ r,I [] ((w.alloc (.deferred (some []))).alloc (.loop r))) (Ax : α → Act → World → Prop) (hAx : ∀ x a' X r r',Ax x a' X → X.heap[w.heap.size + 1]? = some (.loop r) → Ax x a' (X.putObj (w.heap.size + 1) (.loop r')))
  (hassign : ∀ (l : Nat) (pre : List α) (x : α) (W : World) (K : Act → World → Prop),pre ++ [x] <+: xs → I pre W → w.heap.size + 2 ≤ W.heap.size →
   (∀ a' W',TwoKept w.heap.size W W' → I pre W' → Ax x a' W' → K a' W') →
   assign.wpIn (Fence.wide.inRound l) 0 P (Exit.then K (fun _ _ _ => False)) { tmps:=(ps.zip (encs x)).foldl (fun t (p,v) => t.setIfInBounds p v) a.tmps,defers:=[] } W)
  (hbody : ∀ (l : Nat) (pre : List α) (x : α) (a' : Act) (W : World),pre ++ [x] <+: xs → I pre W → Ax x a' W → w.heap.size + 2 ≤ W.heap.size → body.wpIn (Fence.wide.inRound l) 0 P (rndP w.heap.size I Ix (pre ++ [x]) W) a' W)
  (hdone : ∀ (W : World),I xs W → W.heap[w.heap.size]? = some (.deferred (some [])) → Q .normal { a with defers:={ target:=.collected w.heap.size,args:=#[] } :: a.defers } W)
  (hstop : ∀ (pre : List α) (W : World),pre <+: xs → Ix pre W → W.heap[w.heap.size]? = some (.deferred (some [])) → Go.Code.ret.wpIn Fence.wide 0 P Q { a with defers:={ target:=.collected w.heap.size,args:=#[] } :: a.defers } W) :
  (Go.Code.rangeFunc g ps assign body).wpIn Fence.wide 0 P Q a w:=by
 refine wpIn_rangeFunc ?_
 intro fn hfn
 show ∃ (l : Nat) (mark : List Deferred) (w₁ : World) (d : Deferred) (w₁' : World) (f : FuncId) (args : Array Value) (w₂ : World),(Instr.enterLoop fn a.tmps ps assign body none).run P w = .ok (l,mark) w₁ ∧ _
 obtain ⟨rec,hrec⟩ : ∃ rec : LoopState → Option Go.Code → Loop,rec = fun st pe => { state:=st,pending:=pe,fn,tmps:=a.tmps,params:=ps,assign,body,defers:=w.heap.size }:=⟨_,rfl⟩
 obtain ⟨W1,hW1⟩ : ∃ W1,(w.alloc (.deferred (some []))).alloc (.loop (rec .ready none)) = W1:=⟨_,rfl⟩
 have hL1 : W1.heap[w.heap.size + 1]? = some (.loop (rec .ready none)):=by
  rw [← hW1];have:=World.alloc_heap_new (w.alloc (.deferred (some []))) (.loop (rec .ready none));rwa [World.size_alloc] at this
 have hD1 : W1.heap[w.heap.size]? = some (.deferred (some [])):=by
  rw [← hW1];exact (Below.heap_alloc _ _ _ (by simp)).trans (World.alloc_heap_new w _)
 have hz1 : W1.heap.size = w.heap.size + 2:=by rw [← hW1];simp
 have hI1 : I [] W1:=by rw [← hW1];exact h0 _
 refine ⟨w.heap.size + 1,[{ target:=.collected w.heap.size,args:=#[] }],W1,{ target:=.fn (.func gf) lb,args:=#[.func (.yield (w.heap.size + 1)) #[] #[]] },W1,gf,
  #[.func (.yield (w.heap.size + 1)) #[] #[]] ++ lb,W1,?_,?_,?_,?_,?_,?_⟩
 ·rw [← hW1,hrec];exact run_enterLoop_outer _ _ _ _ _
 ·simp only [resolve,hg]
  simp [go_sem]
 ·intro f' _;trivial
 ·simp [invoke,go_sem,eg]
 ·intro h;simp [Fence.wide] at h
 ·refine (hit (w.heap.size + 1)
   (fun pre W => I pre W ∧ W.heap[w.heap.size + 1]? = some (.loop (rec .ready none)) ∧ W.heap[w.heap.size]? = some (.deferred (some [])))
   (fun pre W => Ix pre W ∧ W.heap[w.heap.size + 1]? = some (.loop (rec .done (some .ret))) ∧ W.heap[w.heap.size]? = some (.deferred (some [])))
   W1 (fun pre X h => hRd pre X h.1) ?_ ⟨hI1,hL1,hD1⟩).mono ?_
  ·rintro pre x W hpre ⟨hi,hl,hk⟩
   have hlt : w.heap.size + 1 < W.heap.size:=(Array.getElem?_eq_some_iff.1 hl).1
   have hy:=run_yield (P:=P) (args:=encs x) hl (by rw [hrec];exact hps x)
   rw [hrec] at hy
   refine ⟨fn,_,assign,body,hy,roundIn_of_wpIn hfn (hassign _ pre x W _ hpre hi (by omega) ?_)⟩
   intro a' W' hkA hiA hax
   have hlA : W'.heap[w.heap.size + 1]? = some (.loop (rec .ready none)):=hkA.2.trans hl
   have hkAD : W'.heap[w.heap.size]? = some (.deferred (some [])):=hkA.1.trans hk
   have hltA : w.heap.size + 1 < W'.heap.size:=(Array.getElem?_eq_some_iff.1 hlA).1
   refine ⟨_,run_beginRound hlA (by rw [hrec]),?_⟩
   obtain ⟨W2,hW2⟩ : ∃ W2,W'.putObj (w.heap.size + 1) (.loop { rec .ready none with state:=.busy }) = W2:=⟨_,rfl⟩
   rw [hW2]
   have hl2 : W2.heap[w.heap.size + 1]? = some (.loop { rec .ready none with state:=.busy }):=by rw [← hW2];exact World.putObj_heap_same hltA
   have hk2 : W2.heap[w.heap.size]? = some (.deferred (some [])):=by rw [← hW2];exact (World.putObj_heap_other (by omega)).trans hkAD
   have hi2 : I pre W2:=by rw [← hW2];exact hIp _ _ _ _ hiA hlA
   have hax2 : Ax x a' W2:=by rw [← hW2];exact hAx _ _ _ _ _ hax hlA
   have hs2 : w.heap.size + 2 ≤ W2.heap.size:=by have:=(Array.getElem?_eq_some_iff.1 hl2).1;omega
   refine wpIn_mono (hbody _ pre x _ _ hpre hi2 hax2 hs2) ?_
   have fin : ∀ (jump : Option Go.Code) (W3 : World),TwoKept w.heap.size W2 W3 →
     (Instr.endRound (w.heap.size + 1) jump).run P W3 = .ok (.bool jump.isNone) (W3.putObj (w.heap.size + 1) (.loop (rec (if jump.isNone then .ready else .done) jump))) ∧
     (W3.putObj (w.heap.size + 1) (.loop (rec (if jump.isNone then .ready else .done) jump))).heap[w.heap.size + 1]? = some (.loop (rec (if jump.isNone then .ready else .done) jump)) ∧
     (W3.putObj (w.heap.size + 1) (.loop (rec (if jump.isNone then .ready else .done) jump))).heap[w.heap.size]? = some (.deferred (some [])) ∧ W3.heap[w.heap.size + 1]? = some (.loop { rec .ready none with state:=.busy }):=fun jump W3 hk3 => by
    have hl3 : W3.heap[w.heap.size + 1]? = some (.loop { rec .ready none with state:=.busy }):=hk3.2.trans hl2
    have hd3 : W3.heap[w.heap.size]? = some (.deferred (some [])):=hk3.1.trans hk2
    have:=run_endRound (P:=P) jump hl3
    refine ⟨?_,World.putObj_heap_same (Array.getElem?_eq_some_iff.1 hl3).1,(World.putObj_heap_other (by omega)).trans hd3,hl3⟩
    rw [hrec] at this ⊢
    exact this
   rintro e a3 W3 hp
   cases e with
   | normal =>
    obtain ⟨hk3,hi3⟩:=hp
    obtain ⟨hr,hl4,hk4,hl3⟩:=fin none W3 hk3
    exact ⟨_,_,hr,.inl ⟨rfl,hIp _ _ _ _ hi3 hl3,hl4,hk4⟩⟩
   | ret =>
    obtain ⟨hk3,hi3⟩:=hp
    obtain ⟨hr,hl4,hk4,hl3⟩:=fin (some .ret) W3 hk3
    exact ⟨_,_,hr,.inr ⟨rfl,hXp _ _ _ _ hi3 hl3,hl4,hk4⟩⟩
   | exit id => exact hp.elim
   | goto t => exact hp.elim
   | panic ch => exact hp.elim
   | outgrown => exact hp.elim
  ·rintro e W2 ⟨⟨v,rfl⟩,(⟨hi,hl,hk⟩ | ⟨pre,hpre,hi,hl,hk⟩)⟩
   ·exact ⟨none,_,by have:=run_endLoop (P:=P) hl (by rw [hrec];simp);rw [hrec] at this;exact this,hdone _ (hIp _ _ _ _ hi hl) ((World.putObj_heap_other (by omega)).trans hk)⟩
   ·exact ⟨some .ret,_,by have:=run_endLoop (P:=P) hl (by rw [hrec];simp);rw [hrec] at this;exact this,hstop pre _ hpre (hXp _ _ _ _ hi hl) ((World.putObj_heap_other (by omega)).trans hk)⟩
end Go.Proofs.YtmmecapgnmlaiaaGreatDoor
/- infer.variable -/
namespace Go.Proofs.YtmmecapgnmlaiaaGreatDoor
open Go Go.RowKit Go.Proofs Go.Shelf Go.Proofs.Unify
attribute [local go_sem] Oper.semAt_some wide_fn wide_depth
abbrev loC (ix : List Nat) (x : ByteArray × Nat) : Array Value:=#[.string x.1,.pointer (some ⟨blk ix x.2,0,none⟩)]
def SlL (ix : List Nat) (w : World) (B : Nat) (A : Option Addr) (l : Env) : Prop:=
 l ≠ [] → ∃ b,A = some ⟨b,0,none⟩ ∧ b < B ∧ ∀ j e,l[j]? = some e → ∀ t u,(loC ix e)[t]? = some u → w.cell? ⟨b,j * 2 + t,none⟩ = some u
theorem SlL.keep {ix : List Nat} {w w' : World} {B : Nat} {A : Option Addr} {l : Env} (h : SlL ix w B A l) (hk : ∀ p : Addr,p.block < B → w'.cell? p = w.cell? p) : SlL ix w' B A l:=fun hne => by
 obtain ⟨b,e,hb,hs⟩:=h hne
 exact ⟨b,e,hb,fun j x hj t u hu => (hk _ hb).trans (hs j x hj t u hu)⟩
theorem EnvA.sl {M : Nat → Prop} {w : World} {ix : List Nat} {A : Option Addr} {c : Nat} {env : Env} (h : EnvA M w ix A c env) : SlL ix w w.heap.size A env:=fun hne => by
 rcases h.2.2 with ⟨_,e,_⟩ | ⟨g,e,h1,_,_,h4⟩
 ·exact absurd e hne
 ·refine ⟨g,e,h1,fun j x hj t u hu => ?_⟩
  obtain ⟨k0,k1⟩:=envC_at ix env j x hj
  match t,hu with
  | 0,hu => simp only [List.getElem?_toArray,List.getElem?_cons_zero,Option.some.injEq] at hu;subst hu;exact h4 _ _ k0
  | 1,hu => simp only [List.getElem?_toArray,List.getElem?_cons_succ,List.getElem?_cons_zero,Option.some.injEq] at hu;subst hu;exact h4 _ _ k1
  | t + 2,hu => simp at hu
def backL (l : Env) : Nat → List (Nat × (ByteArray × Nat))
 | 0 => []
 | k + 1 => (k,l.getD k default) :: backL l k
theorem varO_snoc (n : ByteArray) (x : ByteArray × Nat) : ∀ l : Env,varO n (l ++ [x]) = if x.1 = n then some x.2 else varO n l
 | [] => by simp [varO]
 | y :: l => by
  simp only [List.cons_append,varO]
  rw [varO_snoc n x l]
  by_cases e : x.1 = n
  ·simp [e]
  ·simp [e]
theorem take_snocV {l : Env} {k : Nat} (hk : k < l.length) : l.take (k + 1) = l.take k ++ [l.getD k default]:=by
 rw [List.take_succ_eq_append_getElem hk,List.getD_eq_getElem?_getD,List.getElem?_eq_getElem hk]
 rfl
theorem backL_mem (l : Env) (n : ByteArray) : ∀ (k : Nat) (pre : List (Nat × (ByteArray × Nat))) (x : Nat × (ByteArray × Nat)),k ≤ l.length → pre ++ [x] <+: backL l k → (∀ y ∈ pre,y.2.1 ≠ n) → x.2.1 = n → varO n (l.take k) = some x.2.2
 | 0,pre,x,_,h,_,_ => by simp [backL] at h
 | k + 1,pre,x,hk,h,hp,hx => by
  rw [take_snocV (by omega),varO_snoc]
  cases pre with
  | nil =>
   simp only [backL,List.nil_append,List.cons_prefix_cons,List.nil_prefix,and_true] at h
   subst h
   exact if_pos hx
  | cons y pre =>
   simp only [backL,List.cons_append,List.cons_prefix_cons] at h
   obtain ⟨rfl,h⟩:=h
   have hy:=hp _ List.mem_cons_self
   rw [if_neg hy]
   exact backL_mem l n k pre x (by omega) h (fun z hz => hp z (List.mem_cons_of_mem _ hz)) hx
theorem backL_none (l : Env) (n : ByteArray) : ∀ (k : Nat),k ≤ l.length → (∀ y ∈ backL l k,y.2.1 ≠ n) → varO n (l.take k) = none
 | 0,_,_ => rfl
 | k + 1,hk,h => by
  rw [take_snocV (by omega),varO_snoc,if_neg (h (k,l.getD k default) (by simp [backL]))]
  exact backL_none l n k (by omega) fun y hy => h y (by simp [backL,hy])
theorem backwL_any (l : Env) (A : Option Addr) (c : Nat) (w : World) : Calls Tryz.prog 250 #[.slice A l.length c] w fun e w' =>
  e = .returned (.func (.func 276) #[] #[.pointer (some ⟨w.heap.size,0,none⟩)]) ∧ w.alloc (.cells #[.slice A l.length c] 209) = w':=by
 have hmf : ∀ (fn : Fn) (first cap : Array Value) (w : World),(Instr.makeFunc fn first cap).run Tryz.prog w = .ok (.func fn first cap) w:=fun _ _ _ _ => rfl
 go_enter Tryz.func250,Tryz.ntmps250
 go_wp2
 go_ret
 exact ⟨rfl,rfl⟩
set_option maxRecDepth 100000 in
set_option maxHeartbeats 1000000 in
theorem backL1_iter (ix : List Nat) (l : Env) (A : Option Addr) (c sb n₀ : Nat) (hl : l.length ≤ 1000000) (hc : l.length ≤ c ∧ c ≤ maxLen) :
  IterP Tryz.prog 276 #[.pointer (some ⟨sb,0,none⟩)] (fun x : Nat × (ByteArray × Nat) => #[.int .i64 x.1,.agg (loC ix x.2)]) (fun X => X.cell? ⟨sb,0,none⟩ = some (.slice A l.length c) ∧ SlL ix X n₀ A l) (backL l l.length):=by
 intro lp J Jx W hRd hY h0
 obtain ⟨k1,ks⟩:=hRd _ _ h0
 have hcap:=hc.1
 have HW:=Lib.hid (And.intro hY hRd)
 clear hY hRd ks
 obtain ⟨N,HN⟩ : ∃ N,Hid (l.length = N):=⟨_,rfl⟩
 rw [HN.out] at k1 HW hl hcap ⊢
 refine callsIn_of_wp Tryz.func276 rfl trivial ?_ rfl
 simp only [Tryz.ntmps276,List.size_toArray,List.length_cons,List.length_nil,Nat.reduceAdd,Nat.reduceSub,Array.replicate_succ,Array.replicate_zero,List.push_toArray,List.append_toArray,List.nil_append,List.cons_append]
 gi_wp2
 gi_loopw [3] (fun iv wr => ∃ (k : Nat) (z : Int) (pre : List (Nat × (ByteArray × Nat))),k ≤ N ∧ z + 1 = k ∧ iv = .int .i64 z ∧ pre ++ backL l k = backL l N ∧ J pre wr)
  (fun iv _ => (intOf iv + 1).toNat)
 case atStart => exact ⟨N,_,[],Nat.le_refl _,by omega,rfl,rfl,h0⟩
 case round =>
  obtain ⟨k,z,pre,hk,hz,rfl,hpc,hJ⟩:=hrel
  obtain ⟨c1,cs⟩:=HW.out.2 _ _ hJ
  have HP:=Lib.hid (And.intro hpc cs)
  clear hpc cs
  cases k with
  | zero =>
   have hz' : decide (0 ≤ z) = false:=by simp;omega
   clear hz
   gi_wp2
   go_end0
   refine ⟨⟨_,rfl⟩,.inl ?_⟩
   have:=HP.out.1
   simp only [backL,List.append_nil] at this
   rw [← this]
   exact hJ
  | succ k =>
   obtain rfl : z = (k : Int):=by omega
   clear hz
   have hkl : k < l.length:=by rw [HN.out];omega
   obtain ⟨b,rfl,hb,hcell⟩:=HP.out.2 (by intro e;rw [e] at hkl;simp at hkl)
   have hgd : l.getD k default = l[k]:=by simp [List.getD_eq_getElem?_getD,List.getElem?_eq_getElem hkl]
   obtain ⟨fn,tmps,assign,body,hy,hR⟩:=HW.out.1 pre (k,l[k]) wr (by rw [← HP.out.1];exact ⟨backL l k,by rw [backL,hgd];simp⟩) hJ
   have HF:=Lib.hid (show (pre ++ [(k,l[k])]) ++ backL l k = backL l N by rw [← HP.out.1,backL,hgd];simp)
   have hcx:=hcell k _ (List.getElem?_eq_getElem hkl)
   generalize l[k] = x at hcx hy hR HF
   have e0:=hcx 0 _ rfl
   have e1:=hcx 1 _ rfl
   simp only [Nat.add_zero] at e0
   clear hgd hkl hcx hcell
   gi_wp2
   refine hR.mono ?_
   rintro e Y (⟨rfl,hJ'⟩ | ⟨rfl,hJ'⟩)
   ·clear c1 hR hy hJ e0 e1
    gi_wp2
    first
     | exact ⟨⟨_,_,_,_,_,_,_,_,_,_,_,_,_,⟨k,_,_,by omega,by omega,rfl,HF.out,hJ'⟩,rfl⟩,by simp [intOf]⟩
     | exact ⟨⟨k,_,_,by omega,by omega,rfl,HF.out,hJ'⟩,by simp [intOf]⟩
   ·gi_wp2
    refine bodyPost_ret (results_none rfl _ _ _) rfl ?_
    exact ⟨⟨_,rfl⟩,.inr ⟨_,⟨_,HF.out⟩,hJ'⟩⟩
theorem bytesEq {a b : ByteArray} (h : (a.toList == b.toList) = true) : a = b:=by
 have h:=eq_of_beq h
 rw [ByteArray.toList_eq,ByteArray.toList_eq] at h
 exact ByteArray.ext (Array.ext' h)
def VarP (D M : Nat → Prop) (w : World) (ix : List Nat) (S : St) (env : Env) (n : ByteArray) (e : Ending) (w' : World) : Prop:=
 (∃ j,varO n env = some j ∧ e = .returned (nP (blk ix j)) ∧ Below w.heap.size w w') ∨ (varO n env = none ∧ NewP D M w ix S 5 [] e w')
set_option maxRecDepth 100000 in
set_option maxHeartbeats 4000000 in
theorem variable_any {ar : Int → Nat} {D M : Nat → Prop} {ix : List Nat} {S : St} (hw : Wf ar S) {w : World} (h : StH D M w ix S fun _ => 0) (hD : ∀ k,D k → k < w.heap.size) (n : ByteArray) {env : Env} {A : Option Addr} {c : Nat} (hE : EnvA M w ix A c env) (hl : env.length ≤ 1000000) :
  Calls Tryz.prog 213 #[.string n,.slice A env.length c] w (VarP D M w ix S env n):=by
 obtain ⟨b2,Hb2⟩ : ∃ b,w.heap.size = b:=⟨_,rfl⟩
 obtain ⟨Wa,hWa⟩ : ∃ Q9,(w.alloc (.cells #[.string n] 9)).alloc (.cells #[.pointer none] 144) = Q9:=⟨_,rfl⟩
 have hoa : Below w.heap.size w Wa:=by rw [← hWa];exact ((Below.refl _ _).alloc (Nat.le_refl _) _).alloc (by simp) _
 have hza : Wa.heap.size = b2 + 2:=by rw [← hWa,← Hb2];simp
 have hbx2 : Wa.heap[b2]? = some (.cells #[.string n] 9 (0,0)):=by rw [← hWa,← Hb2];exact (Below.heap_alloc _ _ _ (by simp)).trans (heap_alloc_new _ _)
 have hbx4 : Wa.heap[b2 + 1]? = some (.cells #[.pointer none] 144 (0,0)):=by
  rw [← hWa,← Hb2]
  have:=heap_alloc_new (w.alloc (.cells #[.string n] 9)) (.cells #[.pointer none] 144)
  rw [show (w.alloc (.cells #[.string n] 9)).heap.size = w.heap.size + 1 by simp] at this
  exact this
 refine (callsIn_wide (n:=0)).1 ?_
 refine callsIn_of_wp_marks Tryz.func213 rfl trivial ?_ rfl
 simp only [Tryz.ntmps213,List.size_toArray,List.length_cons,List.length_nil,Nat.reduceAdd,Nat.reduceSub,Array.replicate_succ,Array.replicate_zero,List.push_toArray,List.append_toArray,List.nil_append,List.cons_append]
 have HS:=Lib.hid (hE.sl)
 have HC:=Lib.hid (And.intro hE.1 hE.2.1)
 have H0:=Lib.hid (And.intro hw (And.intro h (And.intro hD hoa)))
 clear hw h hD hE
 gi_wp2_with (gi_at_call 250;refine (callsIn_wide.2 (backwL_any env A c _)).mono ?_;rintro e w2 ⟨rfl,hw2⟩)
 have hsw2 : w2.heap.size = b2 + 3:=by rw [← hw2];simp [hza]
 have hb2 : Below Wa.heap.size Wa w2:=by rw [← hw2];exact (Below.refl _ _).alloc (Nat.le_refl _) _
 have hr2 : w2.heap[b2 + 2]? = some (.cells #[.slice A env.length c] 209 (0,0)):=by rw [← hw2,← hza];exact heap_alloc_new _ _
 have k2:=(hb2.block b2 (by omega)).trans hbx2
 have k4:=(hb2.block (b2 + 1) (by omega)).trans hbx4
 have hw02 : Below w.heap.size w w2:=H0.out.2.2.2.trans (hb2.mono (by omega))
 have hsl2 : SlL ix w2 b2 A env:=by
  have h1:=HS.out.keep (w':=w2) fun p hp => hw02.cell hp
  rw [Hb2] at h1
  exact h1
 have HK:=Lib.hid (And.intro k2 (And.intro k4 (And.intro hw02 (And.intro hr2 hsl2))))
 have hput : ∀ {o : Obj} {W : World},Below w2.heap.size w2 W → Below w2.heap.size w2 (W.putObj (w2.heap.size + 1) o):=fun ho =>
  ⟨ho.os,ho.tape,ho.output,by have:=ho.size;simpa using this,fun k hk => (World.putObj_heap_other (by omega)).trans (ho.block k hk)⟩
 clear hw2 hb2 k2 k4 hbx2 hbx4 hoa hWa
 refine wpIn_rangeP (P:=Tryz.prog) (gf:=276) rfl (fun args w => Tryz.call276 args w) (backL1_iter ix env A c (b2 + 2) b2 hl HC.out) (fun _ => rfl)
  (fun pre W => Below w2.heap.size w2 W ∧ ∀ y ∈ pre,y.2.1 ≠ n)
  (fun pre W => ∃ j,varO n env = some j ∧ Below b2 w2 W ∧ W.heap[b2 + 1]? = some (.cells #[.pointer (some ⟨blk ix j,0,none⟩)] 144 (0,0)))
  ?rd ?ip ?xp ?h0 (fun x a' W => ∃ bx,a' = { tmps:=#[.string n,.slice A env.length c,.pointer (some ⟨b2,0,none⟩),undef,.pointer (some ⟨b2 + 1,0,none⟩),undef,.pointer (some ⟨bx,0,none⟩),.slice A env.length c,.func (.func 276) #[] #[.pointer (some ⟨b2 + 2,0,none⟩)],.int .i64 x.1,.agg (loC ix x.2),undef,undef,undef,undef,undef,undef,undef],defers:=[] } ∧ W.heap[bx]? = some (.cells (loC ix x.2) 260 (0,0)) ∧ w2.heap.size + 2 ≤ bx) ?ax ?assign ?body ?done ?stop
 case rd =>
  rintro pre W ⟨ho,_⟩
  exact ⟨(ho.cell (p:=⟨b2 + 2,0,none⟩) (by show b2 + 2 < _;omega)).trans (cell_of_row w2 _ 0 _ _ (0,0) hr2),hsl2.keep fun p hp => ho.cell (by omega)⟩
 case ip =>
  rintro pre X r r' ⟨ho,h1⟩ _
  exact ⟨hput ho,h1⟩
 case xp =>
  rintro pre X r r' ⟨j,h1,h2,h3⟩ _
  exact ⟨j,h1,⟨h2.os,h2.tape,h2.output,by have:=h2.size;simpa using this,fun k hk => (World.putObj_heap_other (by omega)).trans (h2.block k hk)⟩,(World.putObj_heap_other (by omega)).trans h3⟩
 case h0 => exact fun r => ⟨((Below.refl _ _).alloc (Nat.le_refl _) _).alloc (by simp) _,fun y hy => by simp at hy⟩
 case ax =>
  rintro x a' X r r' ⟨bx,h1,h2,h3⟩ _
  exact ⟨bx,h1,(World.putObj_heap_other (by omega)).trans h2,h3⟩
 case assign =>
  rintro l' pre x W K hpre ⟨ho,hi⟩ hsz hK
  gi_wp2
  exact hK _ _ ⟨Below.heap_alloc _ _ _ (by omega),Below.heap_alloc _ _ _ (by omega)⟩ ⟨ho.alloc (by omega) _,hi⟩ ⟨W.heap.size,rfl,heap_alloc_new _ _,hsz⟩
 case body =>
  rintro l' pre x a' W hpre ⟨ho,hi⟩ ⟨bx,rfl,hbx,hbl⟩ hsz
  have y0 : W.cell? ⟨b2,0,none⟩ = some (.string n):=(ho.cell (p:=⟨b2,0,none⟩) (by show b2 < _;omega)).trans (cell_of_row w2 _ 0 _ _ (0,0) HK.out.1)
  have h4 : W.heap[b2 + 1]? = some (.cells #[.pointer none] 144 (0,0)):=(ho.block (b2 + 1) (by omega)).trans HK.out.2.1
  have y4:=cell_of_row W (b2 + 1) 0 _ _ (0,0) h4
  have f4:=frozen_of_row W (b2 + 1) 0 _ _ h4
  have x0:=cell_of_row W bx 0 _ _ (0,0) hbx
  have x1:=cell_of_row W bx 1 _ _ (0,0) hbx
  simp at x0 x1 y4
  have HO:=Lib.hid (And.intro ho (And.intro hi (And.intro hpre h4)))
  clear ho hi hpre hbx hr2 hsl2 hput h4
  cases hc : (x.2.1.toList == n.toList)
  ·gi_wp2
   refine ⟨⟨rfl,rfl⟩,HO.out.1,fun y hy => ?_⟩
   rcases List.mem_append.1 hy with hy | hy
   ·exact HO.out.2.1 y hy
   ·rw [List.mem_singleton.1 hy]
    intro e
    rw [e] at hc
    simp at hc
  ·have hx : x.2.1 = n:=bytesEq hc
   have hv:=backL_mem env n env.length pre x (Nat.le_refl _) HO.out.2.2.1 HO.out.2.1 hx
   rw [List.take_length] at hv
   have HV:=Lib.hid hv
   clear hx hv
   gi_wp2
   refine ⟨⟨Below.heap_setCell _ _ _ _ (by show w2.heap.size ≠ b2 + 1;omega),Below.heap_setCell _ _ _ _ (by show w2.heap.size + 1 ≠ b2 + 1;omega)⟩,x.2.2,HV.out,?_,heap_set HO.out.2.2.2 _⟩
   exact ((HO.out.1.mono (by omega)).setCell (by show b2 ≤ b2 + 1;omega) _)
 case done =>
  rintro W ⟨ho,hi⟩ hD
  have hv:=backL_none env n env.length (Nat.le_refl _) hi
  rw [List.take_length] at hv
  have hwW : Below w.heap.size w W:=HK.out.2.2.1.trans (ho.mono (by omega))
  have h4 : W.heap[b2 + 1]? = some (.cells #[.pointer none] 144 (0,0)):=(ho.block (b2 + 1) (by omega)).trans HK.out.2.1
  have hst : StH D (fun k => M k ∨ k = b2 + 1 ∨ k = w2.heap.size) W ix S fun _ => 0:=by
   refine H0.out.2.1.shift hwW.size (fun k hk _ => hwW.block k hk) (fun k hk => ?_) (fun k hk => ?_)
   ·rcases hk with hk | hk | hk
    ·exact .inl hk
    ·exact .inr (by omega)
    ·exact .inr (by omega)
   ·rcases hk with hk | hk | hk
    ·have h5:=H0.out.2.1.not k hk
     exact ⟨Nat.lt_of_lt_of_le h5.1 hwW.size,fun ht => h5.2 ((TgN.congr (hwW.block k h5.1)).1 ht)⟩
    ·subst hk
     exact ⟨lt_of_block h4,TgN.not h4 (by decide)⟩
    ·subst hk
     exact ⟨lt_of_block hD,fun ⟨cur,fz,h6⟩ => by rw [hD] at h6;cases h6⟩
  have HU:=Lib.hid (unknown_any H0.out.1 hst (fun k hk => Nat.lt_of_lt_of_le (H0.out.2.2.1 k hk) hwW.size))
  have HO:=Lib.hid (And.intro hwW (And.intro hv (And.intro hD (And.intro h4 ho.size))))
  clear ho hi hD hr2 hsl2 hput h4 hv hwW hst
  gi_wp2_with (gi_at_call 95;refine (callsIn_wide.2 HU.out).mono ?_;rintro e w3 ⟨b,rfl,hst3,hb3⟩;have h4:=(hb3.block (b2 + 1) (lt_of_block HO.out.2.2.2.1)).trans HO.out.2.2.2.1;have y4:=cell_of_row w3 (b2 + 1) 0 _ _ (0,0) h4;have f4:=frozen_of_row w3 (b2 + 1) 0 _ _ h4;have H3:=Lib.hid (And.intro hst3 (And.intro hb3 h4));clear hst3 hb3 h4;unfold nP)
  have hD3:=(H3.out.2.1.block w2.heap.size (lt_of_block HO.out.2.2.1)).trans HO.out.2.2.1
  have hD4 : (w3.setCell ⟨b2 + 1,0,none⟩ (.pointer (some ⟨b,0,none⟩))).heap[w2.heap.size]? = some (.deferred (some [])):=(Below.heap_setCell _ _ _ _ (by show w2.heap.size ≠ b2 + 1;omega)).trans hD3
  have h5 : ((w3.setCell ⟨b2 + 1,0,none⟩ (.pointer (some ⟨b,0,none⟩))).putObj w2.heap.size (.deferred none)).heap[b2 + 1]? = some (.cells #[.pointer (some ⟨b,0,none⟩)] 144 (0,0)):=(World.putObj_heap_other (by omega)).trans (heap_set H3.out.2.2 _)
  have hsame : ∀ k,k ≠ b2 + 1 → k ≠ w2.heap.size → ((w3.setCell ⟨b2 + 1,0,none⟩ (.pointer (some ⟨b,0,none⟩))).putObj w2.heap.size (.deferred none)).heap[k]? = w3.heap[k]?:=fun k h1 h2 => (World.putObj_heap_other h2).trans (Below.heap_setCell _ _ _ _ h1)
  have hsz : ((w3.setCell ⟨b2 + 1,0,none⟩ (.pointer (some ⟨b,0,none⟩))).putObj w2.heap.size (.deferred none)).heap.size = w3.heap.size:=by simp [World.setCell]
  have z4:=cell_of_row _ (b2 + 1) 0 _ _ (0,0) h5
  simp at z4
  rw [hsw2] at hD4 z4
  refine ret_mark (v:=.pointer (some ⟨b,0,none⟩)) hD4 (by simp [results,Tryz.results213,go_sem,z4]) ?_
  rw [← hsw2]
  refine .inr ⟨HO.out.2.1,b,rfl,?_,?_⟩
  ·refine H3.out.1.shift (by omega) (fun k _ hm => hsame k (fun e => hm (.inr (.inl e))) (fun e => hm (.inr (.inr e)))) (fun k hk => .inl (.inl hk)) (fun k hk => ?_)
   have h6:=H3.out.1.not k (.inl hk)
   have h7:=(H0.out.2.1.not k hk).1
   exact ⟨by omega,fun ht => h6.2 ((TgN.congr (hsame k (by omega) (by omega))).1 ht)⟩
  ·have hx:=HO.out.1.trans (H3.out.2.1.mono HO.out.1.size)
   exact ⟨hx.os,hx.tape,hx.output,by rw [hsz];exact hx.size,fun k hk => (hsame k (by omega) (by omega)).trans (hx.block k hk)⟩
 case stop =>
  rintro pre W hpre ⟨j,h1,h2,h3⟩ hD
  gi_wp2
  have h5 : (W.putObj w2.heap.size (.deferred none)).heap[b2 + 1]? = some (.cells #[.pointer (some ⟨blk ix j,0,none⟩)] 144 (0,0)):=(World.putObj_heap_other (by omega)).trans h3
  have z4:=cell_of_row _ (b2 + 1) 0 _ _ (0,0) h5
  simp at z4
  refine ret_mark (v:=.pointer (some ⟨blk ix j,0,none⟩)) hD (by simp [results,Tryz.results213,go_sem,z4]) ?_
  refine .inl ⟨j,h1,rfl,?_⟩
  have hx:=HK.out.2.2.1.trans (h2.mono (by omega))
  exact ⟨hx.os,hx.tape,hx.output,by have:=hx.size;simpa using this,fun k hk => (World.putObj_heap_other (by omega)).trans (hx.block k hk)⟩
end Go.Proofs.YtmmecapgnmlaiaaGreatDoor
