/- infer: the map of the numbers of variables, keyed by nodes -/
import Derived.Test.YtmmecapgnmlaiaaGreatDoorZxp
import Derived.Test.YtmmecapgnmlaiaaGreatDoorZxo
import Derived.MapKept
import Derived.RangeFuncRecord
namespace Go.Proofs.YtmmecapgnmlaiaaGreatDoor
open Go Go.RowKit Go.Proofs Go.Proofs.Unify
variable {D : Nat → Prop} {M : Nat → Prop}
theorem Tryz.undNumberM : Tryz.prog.underlying 153 = some (.map 144 3):=by kernel_rfl
theorem zeroInt (w : World) : (zeroValue 3).run Tryz.prog w = .ok (.int .i64 0) w:=by kernel_rfl
theorem getM {w : World} {r : Nat} {es : Array MapEntry} {c : Nat} (h : w.heap[r]? = some (.map es c)) : (getObj r).run Tryz.prog w = .ok (.map es c) w:=by simp [getObj,Sem.run,h]
theorem setM {w : World} {r : Nat} {es : Array MapEntry} {c : Nat} (h : w.heap[r]? = some (.map es c)) (o : Obj) : (setObj r o).run Tryz.prog w = .ok () (w.putObj r o):=by simp [setObj,Sem.run,h,World.putObj]
def posN (i : Nat) : List Nat → Nat → Option Nat
 | [],_ => none
 | j :: m,k => if i = j then some k else posN i m (k + 1)
def numC (ix : List Nat) : List Nat → Nat → List (Value × Value)
 | [],_ => []
 | j :: m,k => (nP (blk ix j),.int .i64 k) :: numC ix m (k + 1)
theorem numC_len (ix : List Nat) : ∀ (m : List Nat) (k : Nat),(numC ix m k).length = m.length
 | [],_ => rfl
 | _ :: m,k => by simp [numC,numC_len ix m (k + 1)]
theorem numC_snoc (ix : List Nat) (i : Nat) : ∀ (m : List Nat) (k : Nat),numC ix (m ++ [i]) k = numC ix m k ++ [(nP (blk ix i),.int .i64 ((k + m.length : Nat) : Int))]
 | [],k => by simp [numC]
 | _ :: m,k => by
  simp only [List.cons_append,numC,numC_snoc ix i m (k + 1),List.length_cons]
  rw [show k + 1 + m.length = k + (m.length + 1) by omega]
theorem posN_numV (i : Nat) : ∀ (m : List Nat) (k : Nat),(posN i m k = none ∧ (numV m i).1 = m.length ∧ (numV m i).2 = m ++ [i]) ∨ (posN i m k = some (k + (numV m i).1) ∧ (numV m i).2 = m)
 | [],k => .inl ⟨rfl,rfl,rfl⟩
 | j :: m,k => by
  unfold posN numV
  by_cases e : j = i
  ·subst e
   simp
  ·rw [if_neg (Ne.symm e),if_neg e]
   rcases posN_numV i m (k + 1) with ⟨h1,h2,h3⟩ | ⟨h1,h2⟩
   ·exact .inl ⟨h1,by simp [h2],by simp [h3]⟩
   ·exact .inr ⟨by rw [h1];simp;omega,by simp [h2]⟩
theorem eqNP {w : World} {ix : List Nat} {S : St} {sz : Nat → Int} (h : StH D M w ix S sz) {i j : Nat} (hi : i < S.length) (hj : j < S.length) : (Op.equal 144 (nP (blk ix i)) (nP (blk ix j))).run Tryz.prog w = .ok (decide (i = j)) w:=by
 obtain ⟨inf,hinf,_,hsz,_⟩:=info_parts Tryz.infoNode
 by_cases e : i = j
 ·subst e
  have hh : ∀ d : Nat,(Op.equalIn (d + 1) 144 (nP (blk ix i)) (nP (blk ix i))).run Tryz.prog w = .ok true w:=fun d => by
   simp [nP,Op.equalIn,run_underlying Tryz.undNodeP,sizeOf,typeInfo,hinf,run_sameAddr_same]
  simp [Op.equal,Op.maxDepth,hh 9999]
 ·obtain ⟨u,A,c,h1,_⟩:=h.at_ (List.getElem?_eq_getElem hi)
  obtain ⟨u',A',c',h1',_⟩:=h.at_ (List.getElem?_eq_getElem hj)
  have hne : (⟨blk ix i,0,none⟩ : Addr) ≠ ⟨blk ix j,0,none⟩:=fun x => e (h.inj hi hj (by simpa using x))
  have hh : ∀ d : Nat,(Op.equalIn (d + 1) 144 (nP (blk ix i)) (nP (blk ix j))).run Tryz.prog w = .ok false w:=fun d => by
   simp [nP,Op.equalIn,run_underlying Tryz.undNodeP,sizeOf,typeInfo,hinf,hsz,run_sameAddr_other w hne h1 h1']
  rw [decide_eq_false e]
  simp [Op.equal,Op.maxDepth,hh 9999]
theorem findP_run {w : World} {ix : List Nat} {S : St} {sz : Nat → Int} (h : StH D M w ix S sz) {i : Nat} (hi : i < S.length) : ∀ (m : List Nat) (es : List MapEntry) (k : Nat),es.map (fun e => (e.key,e.val)) = numC ix m k → (∀ j ∈ m,j < S.length) →
  (Instr.findAsking 144 (nP (blk ix i)) es k).run Tryz.prog w = .ok ((posN i m k).map fun p => (p,.int .i64 (p : Int))) w
 | [],[],k,_,_ => by simp [Instr.findAsking,posN]
 | [],e :: es,k,h,_ => by simp [numC] at h
 | j :: m,[],k,h,_ => by simp [numC] at h
 | j :: m,e :: es,k,he,hm => by
  simp only [List.map_cons,numC,List.cons.injEq,Prod.mk.injEq] at he
  obtain ⟨⟨h1,h2⟩,h3⟩:=he
  have ih:=findP_run h hi m es (k + 1) h3 fun y hy => hm y (List.mem_cons_of_mem _ hy)
  have hq:=eqNP h hi (hm j List.mem_cons_self)
  by_cases e' : i = j
  ·simp only [posN,if_pos e',Instr.findAsking,h1,Sem.run_bind,hq,decide_eq_true e',Result.andThen_ok]
   simp [h2]
  ·simp only [posN,if_neg e',Instr.findAsking,h1,Sem.run_bind,hq,decide_eq_false e',Result.andThen_ok]
   simpa using ih
theorem findKeyP {w : World} (k : Value) (es : List MapEntry) : (Instr.findKey 144 k es).run Tryz.prog w = (Instr.findAsking 144 k es).run Tryz.prog w:=by
 cases es with
 | nil => simp [Instr.findKey,run_underlying Tryz.undNodeP,Instr.findNow,Instr.findAsking]
 | cons e es =>
  have : Instr.sameNow (.pointer 151) k e.key = none:=by cases k <;> rfl
  simp [Instr.findKey,run_underlying Tryz.undNodeP,Instr.findNow,this]
theorem checkNP {w : World} (b : Bool) (g : Nat) : (Instr.checkKey b 10000 144 (nP g)).run Tryz.prog w = .ok () w:=by
 have : ∀ d,(Instr.checkKey b (d + 1) 144 (nP g)).run Tryz.prog w = .ok () w:=fun d => by
  simp [Instr.checkKey,run_underlying Tryz.undNodeP,nP]
 exact this 9999
def NmM (w : World) (nb : Nat) (ix : List Nat) (m : List Nat) : Prop:=∃ es clock,w.heap[nb]? = some (.map es clock) ∧ es.toList.map (fun e => (e.key,e.val)) = numC ix m 0
theorem NmM.keep {w w' : World} {nb : Nat} {ix : List Nat} {m : List Nat} (h : NmM w nb ix m) (e : w'.heap[nb]? = w.heap[nb]?) : NmM w' nb ix m:=by
 obtain ⟨es,c,h1,h2⟩:=h
 exact ⟨es,c,e.trans h1,h2⟩
theorem NmM.lt {w : World} {nb : Nat} {ix : List Nat} {m : List Nat} (h : NmM w nb ix m) : nb < w.heap.size:=by
 obtain ⟨es,c,h1,h2⟩:=h
 exact (Array.getElem?_eq_some_iff.1 h1).1
theorem NmM.not {w : World} {nb : Nat} {ix : List Nat} {m : List Nat} (h : NmM w nb ix m) : ¬ TgN w nb:=by
 obtain ⟨es,c,h1,h2⟩:=h
 exact TgN.notMap h1
theorem NmM.made (w : World) (ix : List Nat) : NmM (w.alloc (.map #[] 0)) w.heap.size ix []:=⟨#[],0,heap_alloc_new w _,rfl⟩
section
variable {w : World} {nb : Nat} {ix : List Nat} {m : List Nat} {S : St} {sz : Nat → Int}
theorem NmM.len (h : NmM w nb ix m) (ty : TypeId) : (Builtin.len_ #[153] ty #[.map (some nb)]).run Tryz.prog w = .ok (.int .i64 m.length) w:=by
 obtain ⟨es,c,h1,h2⟩:=h
 have : es.size = m.length:=by
  have:=congrArg List.length h2
  rw [numC_len,List.length_map] at this
  simpa using this
 rw [run_len_map _ 153 ty nb es c (by kernel_rfl) h1,← this]
 rfl
theorem NmM.look (h : NmM w nb ix m) (hs : StH D M w ix S sz) {i : Nat} (hi : i < S.length) (hm : ∀ j ∈ m,j < S.length) (b : Bool) :
  (Instr.lookup 153 (.map (some nb)) (nP (blk ix i)) b).run Tryz.prog w = .ok (if b then .tuple #[.int .i64 (((posN i m 0).getD 0 : Nat) : Int),.bool (posN i m 0).isSome] else .int .i64 (((posN i m 0).getD 0 : Nat) : Int)) w:=by
 obtain ⟨es,c,h1,h2⟩:=h
 have hr:=findP_run hs hi m es.toList 0 h2 hm
 rw [← findKeyP] at hr
 cases hp : posN i m 0 with
 | none =>
  rw [hp] at hr
  simp [Instr.lookup,run_underlying Tryz.undNumberM,getM h1,checkNP,hr]
 | some p =>
  rw [hp] at hr
  simp [Instr.lookup,run_underlying Tryz.undNumberM,getM h1,checkNP,hr]
theorem NmM.push (h : NmM w nb ix m) (hs : StH D M w ix S sz) {i : Nat} (hi : i < S.length) (hm : ∀ j ∈ m,j < S.length) (hp : posN i m 0 = none) :
  ∃ O,(Instr.mapUpdate 153 (.map (some nb)) (nP (blk ix i)) (.int .i64 m.length)).run Tryz.prog w = .ok () (w.putObj nb O) ∧ NmM (w.putObj nb O) nb ix (m ++ [i]):=by
 have hlt:=h.lt
 obtain ⟨es,c,h1,h2⟩:=h
 have hr:=findP_run hs hi m es.toList 0 h2 hm
 rw [← findKeyP,hp] at hr
 refine ⟨.map (es.push { key:=nP (blk ix i),val:=.int .i64 m.length,born:=c }) (c + 1),?_,_,_,World.putObj_heap_same hlt,?_⟩
 ·simp [Instr.mapUpdate,run_underlying Tryz.undNumberM,getM h1,checkNP,hr,setM h1]
 ·rw [numC_snoc,← h2]
  simp
end
end Go.Proofs.YtmmecapgnmlaiaaGreatDoor
/- infer, plainly: types; build; instances -/
namespace Go.Proofs.Unify
inductive Tf where
 | nil : Tf
 | cons : Int → Int → Tf → Tf → Tf
namespace Tf
def len : Tf → Nat
 | .nil => 0
 | .cons _ _ _ r => r.len + 1
def at_ : Tf → Nat → Option (Int × Int × Tf)
 | .nil,_ => none
 | .cons k v s _,0 => some (k,v,s)
 | .cons _ _ _ r,j + 1 => r.at_ j
def app : Tf → Tf → Tf
 | .nil,m => m
 | .cons k v s r,m => .cons k v s (r.app m)
theorem app_len : ∀ (l m : Tf),(l.app m).len = l.len + m.len
 | .nil,m => by simp [app,len]
 | .cons _ _ _ r,m => by simp only [app,len,app_len r m];omega
theorem app_nil : ∀ l : Tf,l.app .nil = l
 | .nil => rfl
 | .cons _ _ _ r => by simp only [app,app_nil r]
theorem app_assoc : ∀ l m n : Tf,(l.app m).app n = l.app (m.app n)
 | .nil,_,_ => rfl
 | .cons _ _ _ r,m,n => by simp only [app,app_assoc r m n]
end Tf
def bL (g : Nat → List Nat → (Int × Int × Tf) × List Nat) : List Nat → List Nat → Tf × List Nat
 | [],m => (.nil,m)
 | s :: l,m => (.cons (g s m).1.1 (g s m).1.2.1 (g s m).1.2.2 (bL g l (g s m).2).1,(bL g l (g s m).2).2)
def bT (S : St) : Nat → Nat → List Nat → (Int × Int × Tf) × List Nat
 | 0,_,m => ((0,0,.nil),m)
 | f + 1,i,m => match S[rt S i]? with
  | none => ((0,0,.nil),m)
  | some x => if x.kind = 5 then ((5,((numV m (rt S i)).1 : Int),.nil),(numV m (rt S i)).2) else ((x.kind,0,(bL (bT S f) x.sub m).1),(bL (bT S f) x.sub m).2)
def Bl (S : St) : Nat → Nat → Prop
 | 0,_ => False
 | f + 1,i => ∀ x,S[rt S i]? = some x → x.kind ≠ 5 → ∀ s ∈ x.sub,Bl S f s
theorem numV_mem {S : St} {m : List Nat} {i : Nat} (hm : ∀ j ∈ m,j < S.length) (hi : i < S.length) : ∀ j ∈ (numV m i).2,j < S.length:=by
 induction m with
 | nil =>
  intro j hj
  have : j = i:=by simpa [numV] using hj
  omega
 | cons b m ih =>
  intro j hj
  unfold numV at hj
  split at hj
  ·exact hm j hj
  ·rcases List.mem_cons.1 hj with h | h
   ·rw [h];exact hm b List.mem_cons_self
   ·exact ih (fun k hk => hm k (List.mem_cons_of_mem _ hk)) j h
theorem bL_mem {S : St} {g : Nat → List Nat → (Int × Int × Tf) × List Nat} (hg : ∀ s m,s < S.length → (∀ j ∈ m,j < S.length) → ∀ j ∈ (g s m).2,j < S.length) : ∀ (l m : List Nat),(∀ j ∈ l,j < S.length) → (∀ j ∈ m,j < S.length) → ∀ j ∈ (bL g l m).2,j < S.length
 | [],_,_,hm => hm
 | s :: l,m,hl,hm => bL_mem hg l _ (fun j hj => hl j (List.mem_cons_of_mem _ hj)) (hg s m (hl s List.mem_cons_self) hm)
theorem bT_mem {ar : Int → Nat} {S : St} (hw : Wf ar S) : ∀ (f i : Nat) (m : List Nat),i < S.length → (∀ j ∈ m,j < S.length) → ∀ j ∈ (bT S f i m).2,j < S.length
 | 0,_,_,_,hm => hm
 | f + 1,i,m,hi,hm => by
  obtain ⟨x,hx,_⟩:=rt_top hw hi
  unfold bT
  rw [hx]
  simp only
  split
  ·exact numV_mem hm (rt_lt hw hi)
  ·exact bL_mem (fun s m hs hm => bT_mem hw f s m hs hm) _ _ (hw.sub _ x hx).2 hm
def insF : Tf → List (Int × Nat) → St → List Nat × List (Int × Nat) × St
 | .nil,vs,S => ([],vs,S)
 | .cons k v s r,vs,S =>
  let h:=if k = 5 then (match vs.lookup v with
   | some i => (i,vs,S)
   | none => (S.length,vs ++ [(v,S.length)],S ++ [⟨none,5,[],0⟩]))
   else ((insF s vs S).2.2.length,(insF s vs S).2.1,(insF s vs S).2.2 ++ [⟨none,k,(insF s vs S).1,0⟩])
  (h.1 :: (insF r h.2.1 h.2.2).1,(insF r h.2.1 h.2.2).2)
def ins1 (k v : Int) (s : Tf) (vs : List (Int × Nat)) (S : St) : Nat × List (Int × Nat) × St:=
 if k = 5 then (match vs.lookup v with
  | some i => (i,vs,S)
  | none => (S.length,vs ++ [(v,S.length)],S ++ [⟨none,5,[],0⟩]))
 else ((insF s vs S).2.2.length,(insF s vs S).2.1,(insF s vs S).2.2 ++ [⟨none,k,(insF s vs S).1,0⟩])
theorem insF_cons (k v : Int) (s r : Tf) (vs : List (Int × Nat)) (S : St) : insF (.cons k v s r) vs S = ((ins1 k v s vs S).1 :: (insF r (ins1 k v s vs S).2.1 (ins1 k v s vs S).2.2).1,(insF r (ins1 k v s vs S).2.1 (ins1 k v s vs S).2.2).2):=rfl
def Tf.Fit (ar : Int → Nat) : Tf → Prop
 | .nil => True
 | .cons k _ s r => (k ≠ 5 → s.len = ar k) ∧ s.Fit ar ∧ r.Fit ar
def Tf.cnt : Tf → Nat
 | .nil => 0
 | .cons _ _ s r => s.cnt + r.cnt + 1
structure InsW (ar : Int → Nat) (S : St) (S' : St) (vs vs' : List (Int × Nat)) (n : Nat) : Prop where
 wf : Wf ar S'
 pre : ∃ T,S' = S ++ T
 all : ∀ x ∈ vs',x.2 < S'.length
 len : vs'.length ≤ vs.length + n
theorem InsW.le {ar : Int → Nat} {S S' : St} {vs vs' : List (Int × Nat)} {n : Nat} (h : InsW ar S S' vs vs' n) : S.length ≤ S'.length:=by
 obtain ⟨T,e⟩:=h.pre
 rw [e,List.length_append]
 omega
theorem lookup_mem {v : Int} {i : Nat} : ∀ {vs : List (Int × Nat)},vs.lookup v = some i → (v,i) ∈ vs
 | [],h => by cases h
 | (a,b) :: vs,h => by
  rw [List.lookup_cons] at h
  split at h
  ·rename_i e
   have : v = a:=by simpa using e
   cases h
   rw [this]
   exact List.mem_cons_self
  ·exact List.mem_cons_of_mem _ (lookup_mem h)
mutual
theorem ins1_wf {ar : Int → Nat} (h5 : ar 5 = 0) : ∀ {k v : Int} {s : Tf} {vs : List (Int × Nat)} {S : St},Wf ar S → (k ≠ 5 → s.len = ar k) → s.Fit ar → (∀ x ∈ vs,x.2 < S.length) → InsW ar S (ins1 k v s vs S).2.2 vs (ins1 k v s vs S).2.1 (s.cnt + 1) ∧ (ins1 k v s vs S).1 < (ins1 k v s vs S).2.2.length
 | k,v,s,vs,S,hw,hk,hf,hv => by
  unfold ins1
  by_cases e : k = 5
  ·rw [if_pos e]
   cases hl : vs.lookup v with
   | some i => exact ⟨⟨hw,⟨[],by simp⟩,hv,by simp only;omega⟩,hv _ (lookup_mem hl)⟩
   | none =>
    refine ⟨⟨hw.add rfl (by simp [h5]) (by simp),⟨_,rfl⟩,fun x hx => ?_,by simp⟩,by simp⟩
    simp only [List.length_append,List.length_singleton]
    rcases List.mem_append.1 hx with h | h
    ·have:=hv x h
     omega
    ·have : x = (v,S.length):=by simpa using h
     rw [this]
     simp
  ·rw [if_neg e]
   obtain ⟨h1,h2,h3⟩:=insF_wf h5 hw hf hv
   refine ⟨⟨h1.wf.add rfl (by rw [h3,hk e]) h2,?_,fun x hx => ?_,?_⟩,by simp⟩
   ·obtain ⟨T,hT⟩:=h1.pre
    exact ⟨T ++ [⟨none,k,(insF s vs S).1,0⟩],by rw [← List.append_assoc,← hT]⟩
   ·have:=h1.all x hx
    simp only [List.length_append,List.length_singleton]
    omega
   ·have:=h1.len
    simp only
    omega
theorem insF_wf {ar : Int → Nat} (h5 : ar 5 = 0) : ∀ {l : Tf} {vs : List (Int × Nat)} {S : St},Wf ar S → l.Fit ar → (∀ x ∈ vs,x.2 < S.length) → InsW ar S (insF l vs S).2.2 vs (insF l vs S).2.1 l.cnt ∧ (∀ j ∈ (insF l vs S).1,j < (insF l vs S).2.2.length) ∧ (insF l vs S).1.length = l.len
 | .nil,vs,S,hw,_,hv => ⟨⟨hw,⟨[],by simp [insF]⟩,hv,Nat.le_refl _⟩,by simp [insF],rfl⟩
 | .cons k v s r,vs,S,hw,hf,hv => by
  obtain ⟨h1,h2⟩:=ins1_wf h5 (v:=v) hw hf.1 hf.2.1 hv
  obtain ⟨h3,h4,h6⟩:=insF_wf h5 h1.wf hf.2.2 h1.all
  rw [insF_cons]
  refine ⟨⟨h3.wf,?_,h3.all,?_⟩,fun j hj => ?_,by simp only [List.length_cons,h6];rfl⟩
  ·obtain ⟨T,hT⟩:=h1.pre
   obtain ⟨U,hU⟩:=h3.pre
   exact ⟨T ++ U,by rw [← List.append_assoc,← hT];exact hU⟩
  ·have:=h1.len
   have:=h3.len
   show (insF r (ins1 k v s vs S).2.1 (ins1 k v s vs S).2.2).2.1.length ≤ vs.length + (s.cnt + r.cnt + 1)
   omega
  ·rcases List.mem_cons.1 hj with h | h
   ·rw [h]
    exact Nat.lt_of_lt_of_le h2 h3.le
   ·exact h4 j h
end
end Go.Proofs.Unify
/- infer: types in memory; frames with exceptions -/
namespace Go.Proofs.YtmmecapgnmlaiaaGreatDoor
open Go Go.RowKit Go.Proofs Go.Proofs.Unify
variable {D : Nat → Prop} {M : Nat → Prop}
structure Kx (D : Nat → Prop) (E : Nat → Prop) (X Y : World) : Prop where
  os : Y.os = X.os
  tape : Y.tape = X.tape
  output : Y.output = X.output
  size : X.heap.size ≤ Y.heap.size
  block : ∀ k,k < X.heap.size → D k ∨ ¬ TgN X k → ¬ E k → Y.heap[k]? = X.heap[k]?
  tg : ∀ k,k < X.heap.size → TgN X k → TgN Y k
  nd : ∀ k,k < X.heap.size → ¬ E k → ∀ q,q = 1 ∨ q = 2 → Y.cell? ⟨k,q,none⟩ = X.cell? ⟨k,q,none⟩
theorem Kn.x {X Y : World} (h : Kn D X Y) (E : Nat → Prop) : Kx D E X Y:=
  ⟨h.os,h.tape,h.output,h.size,fun k hk ht _ => h.block k hk ht,h.tg,fun k hk _ => h.nd k hk⟩
theorem Kx.nt {E : Nat → Prop} {X Y : World} (h : Kx D E X Y) (k : Nat) (hk : k < X.heap.size) (hE : ¬ E k) (ht : ¬ TgN X k) : ¬ TgN Y k:=fun h' => ht ((TgN.congr (h.block k hk (.inr ht) hE)).1 h')
theorem Kx.refl (E : Nat → Prop) (X : World) : Kx D E X X:=(Kn.refl X).x E
theorem Kx.trans {E E' : Nat → Prop} {X Y Z : World} (h : Kx D E X Y) (g : Kx D E' Y Z) (he : ∀ k,k < X.heap.size → E' k → E k) : Kx D E X Z:=
  ⟨g.os.trans h.os,g.tape.trans h.tape,g.output.trans h.output,Nat.le_trans h.size g.size,fun k hk ht hE => by
    have e:=h.block k hk ht hE
    exact (g.block k (Nat.lt_of_lt_of_le hk h.size) (ht.imp id fun ht h' => ht ((TgN.congr e).1 h')) (fun h' => hE (he k hk h'))).trans e,
   fun k hk ht => g.tg k (Nat.lt_of_lt_of_le hk h.size) (h.tg k hk ht),
   fun k hk hE q hq => (g.nd k (Nat.lt_of_lt_of_le hk h.size) (fun h' => hE (he k hk h')) q hq).trans (h.nd k hk hE q hq)⟩
theorem Kx.mono {E E' : Nat → Prop} {X Y : World} (h : Kx D E X Y) (he : ∀ k,k < X.heap.size → E k → E' k) : Kx D E' X Y:=
  ⟨h.os,h.tape,h.output,h.size,fun k hk ht hE => h.block k hk ht (fun h' => hE (he k hk h')),h.tg,fun k hk hE => h.nd k hk (fun h' => hE (he k hk h'))⟩
theorem Kx.turn {E : Nat → Prop} {X Y : World} {b : Nat} (hos : Y.os = X.os) (htp : Y.tape = X.tape) (hout : Y.output = X.output) (hsz : X.heap.size ≤ Y.heap.size) (hb : ∀ k,k < X.heap.size → k ≠ b → Y.heap[k]? = X.heap[k]?)
    (hE : b < X.heap.size → E b) (hx : b < X.heap.size → ¬ TgN X b) : Kx D E X Y:=by
  refine ⟨hos,htp,hout,hsz,fun k hk _ hn => hb k hk (fun e => hn (e ▸ hE (e ▸ hk))),fun k hk ht => ?_,fun k hk hn q _ => World.cell?_of_block (hb k hk (fun e => hn (e ▸ hE (e ▸ hk))))⟩
  by_cases e : k = b
  · subst e;exact absurd ht (hx hk)
  · exact (TgN.congr (hb k hk e)).2 ht
theorem Kx.put {E : Nat → Prop} {X : World} {b : Nat} (O : Obj) (hE : E b) (hx : ¬ TgN X b) : Kx D E X (X.putObj b O):=
  Kx.turn (b:=b) rfl rfl rfl (by simp [World.putObj]) (fun k _ hk => World.putObj_heap_other hk) (fun _ => hE) (fun _ => hx)
theorem Kx.set {E : Nat → Prop} {X : World} {b i : Nat} {cur : Array Value} {t : TypeId} {fz : Nat × Nat} (hc : X.heap[b]? = some (.cells cur t fz)) (ht : t ≠ 151) (hE : E b) (u : Value) : Kx D E X (X.setCell ⟨b,i,none⟩ u):=
  Kx.turn (b:=b) rfl rfl rfl (by simp [World.setCell]) (fun k _ hk => Below.heap_setCell _ _ _ _ hk) (fun _ => hE) (fun _ => TgN.not hc ht)
theorem Kx.new' {E : Nat → Prop} {X Y Z : World} (h : Kx D E X Y) (hb : Below X.heap.size Y Z) : Kx D E X Z:=
  ⟨hb.os.trans h.os,hb.tape.trans h.tape,hb.output.trans h.output,Nat.le_trans h.size hb.size,fun k hk hp hE => (hb.block k hk).trans (h.block k hk hp hE),fun k hk hp => (TgN.congr (hb.block k hk)).2 (h.tg k hk hp),fun k hk hE q hq => (World.cell?_of_block (hb.block k hk)).trans (h.nd k hk hE q hq)⟩
theorem Kx.cell {E : Nat → Prop} {X Y : World} (h : Kx D E X Y) {g o : Nat} (hg : g < X.heap.size) (ht : D g ∨ ¬ TgN X g) (hE : ¬ E g) : Y.cell? ⟨g,o,none⟩ = X.cell? ⟨g,o,none⟩:=World.cell?_of_block (h.block g hg ht hE)
theorem Kx.n {X Y : World} (h : Kx D (fun _ => False) X Y) : Kn D X Y:=⟨h.os,h.tape,h.output,h.size,fun k hk ht => h.block k hk ht (fun h => h),h.tg,fun k hk => h.nd k hk (fun h => h)⟩
theorem Kx.new {E : Nat → Prop} {X Y : World} (h : Kx D E X Y) (hE : ∀ k,E k → X.heap.size ≤ k) : Kn D X Y:=(h.mono (E':=fun _ => False) fun k hk h' => by have:=hE k h';omega).n
theorem StH.shift {w w' : World} {ix : List Nat} {S : St} {sz : Nat → Int} {M' : Nat → Prop} (h : StH D M w ix S sz) (hsz : w.heap.size ≤ w'.heap.size) (hb : ∀ k,k < w.heap.size → ¬ M k → w'.heap[k]? = w.heap[k]?)
    (hM : ∀ k,M' k → M k ∨ w.heap.size ≤ k) (hn : ∀ k,M' k → k < w'.heap.size ∧ ¬ TgN w' k) : StH D M' w' ix S sz:=by
  obtain ⟨Q,h1,h2⟩:=h
  exact ⟨Q,h1,h2.shift hsz hb hM hn⟩
theorem StH.not {w : World} {ix : List Nat} {S : St} {sz : Nat → Int} (h : StH D M w ix S sz) : ∀ k,M k → k < w.heap.size ∧ ¬ TgN w k:=by
  obtain ⟨Q,_,h2⟩:=h
  exact fun k hk => ⟨h2.xlt k hk,h2.xn k hk⟩
end Go.Proofs.YtmmecapgnmlaiaaGreatDoor
namespace Go.Proofs.Unify
open Go Go.RowKit Go.Proofs
namespace Tf
def At (w : World) (P : Nat → Prop) : Tf → Nat → Nat → Prop
  | .nil,_,_ => True
  | .cons k v s r,g,o => w.cell? ⟨g,o,none⟩ = some (.int .i64 k) ∧ w.cell? ⟨g,o + 1,none⟩ = some (.int .i64 v) ∧
    (∃ A c,w.cell? ⟨g,o + 2,none⟩ = some (.slice A s.len c) ∧ s.len ≤ c ∧ c ≤ maxLen ∧ (s ≠ .nil → ∃ g' o',A = some ⟨g',o',none⟩ ∧ P g' ∧ s.At w P g' o')) ∧ r.At w P g (o + 3)
def Sl (w : World) (P : Nat → Prop) (A : Option Addr) (c : Nat) (l : Tf) : Prop:=l.len ≤ c ∧ c ≤ maxLen ∧ (l ≠ .nil → ∃ g o,A = some ⟨g,o,none⟩ ∧ P g ∧ l.At w P g o)
theorem At.keep {w w' : World} {P P' : Nat → Prop} (hc : ∀ k,P k → w'.heap[k]? = w.heap[k]?) (hp : ∀ k,P k → P' k) : ∀ {l : Tf} {g o : Nat},P g → l.At w P g o → l.At w' P' g o
  | .nil,_,_,_,_ => trivial
  | .cons k v s r,g,o,hg,⟨h1,h2,⟨A,c,h3,h4,h5,h6⟩,h7⟩ => by
    have e : ∀ q,w'.cell? ⟨g,q,none⟩ = w.cell? ⟨g,q,none⟩:=fun q => World.cell?_of_block (hc g hg)
    refine ⟨(e _).trans h1,(e _).trans h2,⟨A,c,(e _).trans h3,h4,h5,fun hne => ?_⟩,h7.keep hc hp hg⟩
    obtain ⟨g',o',k1,k2,k3⟩:=h6 hne
    exact ⟨g',o',k1,hp _ k2,k3.keep hc hp k2⟩
theorem Sl.keep {w w' : World} {P P' : Nat → Prop} (hc : ∀ k,P k → w'.heap[k]? = w.heap[k]?) (hp : ∀ k,P k → P' k) {l : Tf} {A : Option Addr} {c : Nat} (h : l.Sl w P A c) : l.Sl w' P' A c:=
  ⟨h.1,h.2.1,fun hne => by
    obtain ⟨g,o,h1,h2,h3⟩:=h.2.2 hne
    exact ⟨g,o,h1,hp _ h2,h3.keep hc hp h2⟩⟩
def Row (w : World) (P : Nat → Prop) : Tf → List Value → Prop
  | .nil,cs => cs = []
  | .cons k v s r,cs => ∃ A c cs',cs = [.int .i64 k,.int .i64 v,.slice A s.len c] ++ cs' ∧ s.Sl w P A c ∧ r.Row w P cs'
theorem Row.len {w : World} {P : Nat → Prop} : ∀ {l : Tf} {cs : List Value},l.Row w P cs → cs.length = l.len * 3
  | .nil,_,h => by cases h;rfl
  | .cons _ _ _ r,_,⟨_,_,cs',e,_,h⟩ => by
    rw [e,List.length_append,h.len,Tf.len,Nat.succ_mul]
    simp
    omega
theorem Row.keep {w w' : World} {P P' : Nat → Prop} (hc : ∀ k,P k → w'.heap[k]? = w.heap[k]?) (hp : ∀ k,P k → P' k) : ∀ {l : Tf} {cs : List Value},l.Row w P cs → l.Row w' P' cs
  | .nil,_,h => h
  | .cons _ _ _ _,_,⟨A,c,cs',e,h1,h⟩ => ⟨A,c,cs',e,h1.keep hc hp,h.keep hc hp⟩
theorem Row.snoc {w : World} {P : Nat → Prop} {k v : Int} {s : Tf} {A : Option Addr} {c : Nat} (hs : s.Sl w P A c) : ∀ {l : Tf} {cs : List Value},l.Row w P cs → (l.app (.cons k v s .nil)).Row w P (cs ++ [.int .i64 k,.int .i64 v,.slice A s.len c])
  | .nil,_,h => by cases h;exact ⟨A,c,[],rfl,hs,rfl⟩
  | .cons _ _ _ r,_,⟨A',c',cs',e,h1,h⟩ => ⟨A',c',_,by rw [e,List.append_assoc],h1,h.snoc hs⟩
theorem Row.at_ {w : World} {P : Nat → Prop} {g : Nat} : ∀ {l : Tf} {cs : List Value} {o : Nat},l.Row w P cs → (∀ j u,cs[j]? = some u → w.cell? ⟨g,o + j,none⟩ = some u) → l.At w P g o
  | .nil,_,_,_,_ => trivial
  | .cons _ _ _ r,_,o,⟨A,c,cs',e,h1,h⟩,hc => by
    subst e
    refine ⟨hc 0 _ rfl,hc 1 _ rfl,⟨A,c,hc 2 _ rfl,h1.1,h1.2.1,h1.2.2⟩,h.at_ fun j u hj => ?_⟩
    have:=hc (j + 3) u (by simpa using hj)
    rw [show o + 3 + j = o + (j + 3) by omega]
    exact this
end Tf
end Go.Proofs.Unify
namespace Go.Proofs.YtmmecapgnmlaiaaGreatDoor
open Go Go.RowKit Go.Proofs Go.Proofs.Unify
variable {D : Nat → Prop} {M : Nat → Prop}
theorem sl_of_row {w : World} {P : Nat → Prop} {base : Nat} {v : Value} {l : Tf} {cs : List Value} (ho : w.ownsRow base 53 3 v l.len cs) (hr : l.Row w P cs) (hP : ∀ g,v.ownBlock = some g → P g) : ∃ A c,v = .slice A l.len c ∧ l.Sl w P A c:=by
  have ho':=ho
  rcases ho.2 with ⟨rfl,h0⟩ | ⟨g,cap,cur,rfl,hb,hg,h1,h2,h3,h4⟩
  · cases l with
    | nil => exact ⟨none,0,rfl,Nat.le_refl _,Nat.zero_le _,fun h => absurd rfl h⟩
    | cons _ _ _ _ => simp [Tf.len] at h0
  · refine ⟨_,cap,rfl,h1,h2,fun _ => ⟨g,0,rfl,hP g rfl,hr.at_ fun j u hj => ?_⟩⟩
    rw [Nat.zero_add]
    exact (ho'.cellAt j (by have:=(List.getElem?_eq_some_iff.1 hj).1;rw [hr.len] at this;exact this)).trans hj
end Go.Proofs.YtmmecapgnmlaiaaGreatDoor
