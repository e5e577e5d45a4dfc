/- Maps of the call's own, keyed by names or by strings, whose elements are kept as they are -/
import Derived.Test.YtnfndgmlnoeelaaGreatDoorZla
import Derived.Test.YtnfndgmlnoeelaaGreatDoorProg
import Derived.Maps.RangeWalk
import Derived.Maps.StringElems
import Derived.DeepKeys4
import Derived.Sort.MapsRangeIn
import Derived.KernelRfl
import Derived.Test.YtnfndgmlnoeelaaGreatDoorZls
namespace Go.Proofs.YtnfndgmlnoeelaaGreatDoor
open Go.RowKit Go.Proofs
open Go.Maps (Keyed IsMap)
def raw (v : Value) : Option (DataW Value × List MemPlace):=some (.held v,[])
def encO : Option Value → DataW Value
 | none => .nil
 | some v => .held v
theorem encO_inj {a b : Option Value} (h : encO a = encO b) : a = b:=by
 cases a <;> cases b <;> simp [encO] at h <;> simp [h]
structure KeyT (α : Type) where
 ty : TypeId
 val : α → Value
 ok : α → Prop
 law : Keyed Tryz.prog ty
 key : α → Lit
 tot : ∀ a,ok a → keyOf Tryz.prog ty (val a) = some (key a)
 inv : ∀ v kl,keyOf Tryz.prog ty v = some kl → ∃ a,ok a ∧ v = val a
 inj : ∀ a b,val a = val b → a = b
theorem KeyT.key_inj {α : Type} (K : KeyT α) {a b : α} (ha : K.ok a) (hb : K.ok b) (h : K.key a = K.key b) : a = b:=
 K.inj a b (K.law.inj (K.tot a ha) (by rw [h];exact K.tot b hb))
section
variable {α : Type}
def MapA (K : KeyT α) (w : World) (b N : Nat) (g : α → Option Value) : Prop:=
 ∃ n D,w.ownsMap (H:=Value) Tryz.prog K.ty raw b n D ∧ n ≤ N ∧ IsMap D ∧ ∀ a,K.ok a → D.atKey (K.key a) .nil = encO (g a)
theorem MapA.made (K : KeyT α) (w : World) : MapA K (w.alloc (.map #[] 0)) w.heap.size 0 (fun _ => none):=
 ⟨0,_,World.ownsMap_made _ _ _ _,Nat.le_refl _,⟨_,rfl⟩,fun _ _ => Maps.atKey_of_not_has rfl _⟩
theorem MapA.lt {K : KeyT α} {w : World} {b N : Nat} {g : α → Option Value} (h : MapA K w b N g) : b < w.heap.size:=by
 obtain ⟨n,D,ho,_⟩:=h
 exact ho.lt
theorem MapA.keep {K : KeyT α} {w w' : World} {b N : Nat} {g : α → Option Value} (h : MapA K w b N g) (e : w'.heap[b]? = w.heap[b]?) : MapA K w' b N g:=by
 obtain ⟨n,D,⟨es,cl,h,r⟩,h2⟩:=h
 exact ⟨n,D,⟨es,cl,e.trans h,r⟩,h2⟩
theorem MapA.mono {K : KeyT α} {w : World} {b N N' : Nat} {g : α → Option Value} (h : MapA K w b N g) (hN : N ≤ N') : MapA K w b N' g:=by
 obtain ⟨n,D,h1,h2,h3⟩:=h
 exact ⟨n,D,h1,Nat.le_trans h2 hN,h3⟩
theorem MapA.cong {K : KeyT α} {w : World} {b N : Nat} {g g' : α → Option Value} (h : MapA K w b N g) (e : ∀ a,K.ok a → g a = g' a) : MapA K w b N g':=by
 obtain ⟨n,D,h1,h2,h3,h4⟩:=h
 exact ⟨n,D,h1,h2,h3,fun a ha => by rw [← e a ha];exact h4 a ha⟩
theorem MapA.look {K : KeyT α} {w : World} {b N : Nat} {g : α → Option Value} (h : MapA K w b N g) (c : Bool) {t e : TypeId} (ht : Tryz.prog.underlying t = some (.map K.ty e)) {z : Value} (hz : (zeroValue e).run Tryz.prog w = .ok z w) {a : α} (ha : K.ok a) :
  (Instr.lookup t (.map (some b)) (K.val a) c).run Tryz.prog w = .ok (if c then .tuple #[(g a).getD z,.bool (g a).isSome] else (g a).getD z) w:=by
 obtain ⟨n,D,⟨es,clock,hb,F,_,rfl⟩,_,_,hat⟩:=h
 have hg:=hat a ha
 rcases Maps.fit_look c K.law ht hz hb F (K.tot a ha) with ⟨hrun,_,h2⟩ | ⟨e0,y,_,_,hrun,hR,h2,_⟩
 ·rw [h2] at hg
  have : g a = none:=encO_inj (b:=none) (by rw [← hg];rfl)
  rw [hrun,this];rfl
 ·rw [h2] at hg
  simp only [raw,Option.some.injEq] at hR
  have : g a = some e0.val:=encO_inj (b:=some e0.val) (by rw [← hg,← hR];rfl)
  rw [hrun,this];rfl
theorem MapA.put [DecidableEq α] {K : KeyT α} {w : World} {b N : Nat} {g : α → Option Value} (h : MapA K w b N g) {t e : TypeId} (ht : Tryz.prog.underlying t = some (.map K.ty e)) (hN : N < maxLen) {a : α} (ha : K.ok a) (v : Value) :
  ∃ w',(Instr.mapUpdate t (.map (some b)) (K.val a) v).run Tryz.prog w = .ok () w' ∧ MapA K w' b (N + 1) (fun x => if x = a then some v else g x) ∧ w.grownBy w' (some b):=by
 obtain ⟨n,D,ho,hn,hm,hat⟩:=h
 obtain ⟨w',hrun,ho',hg⟩:=ho.update (d:=.held v) (ps:=[]) K.law ht (by omega) (K.tot a ha) rfl
 refine ⟨w',hrun,⟨n + 1,_,ho',by omega,hm.put _ _,fun x hx => ?_⟩,hg⟩
 have hk:=K.law.key (K.tot x hx)
 by_cases e : x = a
 ·subst e
  rw [Maps.atKey_put_same hm hk];simp [encO]
 ·rw [Maps.atKey_put_other (fun h => e (K.key_inj hx ha h)),hat x hx];simp [e]
theorem wpList_mapPut [DecidableEq α] (w : World) {ops : Array Oper} {rest : List Oper} {o : Oper} {a : Act} {Q : Exit → Act → World → Prop} (hg : o.guard = none) (m x v : Operand) (t : TypeId) (hop : o.op = Op.mapUpdate t m x v ∨ o.op = Op.insert t m x v)
  (K : KeyT α) (e : TypeId) (ht : Tryz.prog.underlying t = some (.map K.ty e)) (b N : Nat) (g : α → Option Value) (hm : a.eval m = .map (some b)) (h : MapA K w b N g) (hN : N < maxLen) (y : α) (hy : K.ok y) (hx : a.eval x = K.val y) (u : Value) (hv : a.eval v = u)
  (hK : ∀ w',MapA K w' b (N + 1) (fun x => if x = y then some u else g x) → w.grownBy w' (some b) → wpList Tryz.prog ops Q rest (a.put o.dst undef) w') : wpList Tryz.prog ops Q (o :: rest) a w:=by
 refine wpList_plain hg fun K' hK' => ?_
 obtain ⟨w',hrun,r1,r2⟩:=h.put ht hN hy u
 unfold Oper.wp
 rcases hop with hop | hop
 ·simp [execOp,hop,hm,hx,hv,hrun,Result.andThen]
  exact hK' _ _ (hK w' r1 r2)
 ·simp [execOp,hop,hm,hx,hv,hrun,Result.andThen]
  exact hK' _ _ (hK w' r1 r2)
def Rng (K : KeyT α) (w : World) (b r N : Nat) (g : α → Option Value) (ss : List α) (cnt : Nat) : Prop:=
 ∃ n D left,w.ranges (H:=Value) Tryz.prog K.ty raw b r n D left cnt ∧ n ≤ N ∧ IsMap D ∧ (∀ a,K.ok a → D.atKey (K.key a) .nil = encO (g a)) ∧ ss.Nodup ∧ (∀ a ∈ ss,K.ok a ∧ (g a).isSome = true) ∧
  (∀ a,K.ok a → (left (K.key a) = true ↔ ((g a).isSome = true ∧ a ∉ ss))) ∧ ss.length + cnt ≤ Maps.size D ∧ Maps.size D ≤ N
theorem Rng.owns {K : KeyT α} {w : World} {b r N : Nat} {g : α → Option Value} {ss : List α} {cnt : Nat} (h : Rng K w b r N g ss cnt) : MapA K w b N g:=by
 obtain ⟨n,D,left,h1,h2,h3,h4,_⟩:=h
 exact ⟨n,D,h1.owns,h2,h3,h4⟩
theorem Rng.left_eq {K : KeyT α} {w : World} {b r N : Nat} {g : α → Option Value} {ss : List α} {cnt : Nat} (h : Rng K w b r N g ss cnt) : w.rangeLeft b r = cnt:=by
 obtain ⟨n,D,left,h1,_⟩:=h
 exact h1.left_eq
theorem Rng.le {K : KeyT α} {w : World} {b r N : Nat} {g : α → Option Value} {ss : List α} {cnt : Nat} (h : Rng K w b r N g ss cnt) : ss.length + cnt ≤ N:=by
 obtain ⟨n,D,left,_,_,_,_,_,_,_,h1,h2⟩:=h
 omega
theorem Rng.keep {K : KeyT α} {w w' : World} {b r N : Nat} {g : α → Option Value} {ss : List α} {cnt : Nat} (h : Rng K w b r N g ss cnt) (hb : w'.heap[b]? = w.heap[b]?) (hr : w'.heap[r]? = w.heap[r]?) : Rng K w' b r N g ss cnt:=by
 obtain ⟨n,D,left,⟨es,clock,since,seen,c0,h1,F,hs,hD,h2,rest⟩,more⟩:=h
 exact ⟨n,D,left,⟨es,clock,since,seen,c0,hb.trans h1,F,hs,hD,hr.trans h2,rest⟩,more⟩
theorem MapA.range {K : KeyT α} {w : World} {b N : Nat} {g : α → Option Value} (h : MapA K w b N g) {t e : TypeId} (ht : Tryz.prog.underlying t = some (.map K.ty e)) (hz : ∃ z,(zeroValue e).run Tryz.prog w = .ok z w) :
  ∃ w' cnt,(Instr.range t (.map (some b))).run Tryz.prog w = .ok (.pointer (some ⟨w.heap.size,0,none⟩)) w' ∧ Rng K w' b w.heap.size N g [] cnt ∧ w.grownBy w' none ∧ w'.heap.size = w.heap.size + 1:=by
 obtain ⟨z,hz⟩:=hz
 obtain ⟨n,D,ho,hn,hm,hat⟩:=h
 obtain ⟨w',hrun,hr,hg,hs⟩:=ho.range K.law ht
 have hsz : Maps.size D ≤ n:=by
  obtain ⟨es,clock,_,_,h1,rfl⟩:=ho
  simp [Maps.size,length_sorted]
  exact h1
 refine ⟨w',_,hrun,⟨n,D,_,hr,hn,hm,hat,List.nodup_nil,by simp,fun a ha => ?_,by simp,by omega⟩,hg,hs⟩
 have hga:=hat a ha
 obtain ⟨es,clock,hb,F,_,rfl⟩:=ho
 rcases Maps.fit_look true K.law ht hz hb F (K.tot a ha) with ⟨_,_,h2⟩ | ⟨e0,y,_,_,_,hR,h2,_⟩
 ·rw [Maps.has_false_of_atKey h2]
  rw [h2] at hga
  have : g a = none:=encO_inj (b:=none) (by rw [← hga];rfl)
  simp [this]
 ·rw [Maps.has_true_of_atKey h2]
  rw [h2] at hga
  simp only [raw,Option.some.injEq] at hR
  have : g a = some e0.val:=encO_inj (b:=some e0.val) (by rw [← hga,← hR];rfl)
  simp [this]
theorem Rng.next {K : KeyT α} {w : World} {b r N : Nat} {g : α → Option Value} {ss : List α} {cnt : Nat} (h : Rng K w b r N g ss cnt) (ty : TypeId) :
  (cnt = 0 ∧ (∀ a,K.ok a → ((g a).isSome = true ↔ a ∈ ss)) ∧ (Instr.next (.pointer (some ⟨r,0,none⟩)) false ty).run Tryz.prog w = .ok (.tuple #[.bool false]) w) ∨
  ∃ x v w' cnt',K.ok x ∧ g x = some v ∧ x ∉ ss ∧ (Instr.next (.pointer (some ⟨r,0,none⟩)) false ty).run Tryz.prog w = .ok (.tuple #[.bool true,K.val x,v]) w' ∧ Rng K w' b r N g (ss ++ [x]) cnt' ∧ cnt' < cnt ∧
   w.grownBy w' (some r) ∧ w'.heap.size = w.heap.size ∧ (Instr.entry (.pointer (some ⟨r,0,none⟩))).run Tryz.prog w' = .ok (.tuple #[K.val x,v]) w':=by
 obtain ⟨n,D,left,hr,hn,hm,hat,hnd,hss,hl,hc1,hc2⟩:=h
 rcases hr.next K.law ty with ⟨h0,hl0,hrun⟩ | ⟨key,v,kl,y,w',cnt',hkey,hlk,hv,hat2,hrun,hrg,hlt,hgr,hsz,hen⟩
 ·refine .inl ⟨h0,fun a ha => ⟨fun hs => ?_,fun hs => (hss a hs).2⟩,hrun⟩
  have h1:=hl a ha
  rw [hl0] at h1
  simp only [Bool.false_eq_true,false_iff,not_and] at h1
  exact Classical.not_not.1 (h1 hs)
 ·obtain ⟨x,hx,rfl⟩:=K.inv key kl hkey
  have hkl : kl = K.key x:=by have:=K.tot x hx;rw [hkey] at this;exact Option.some.inj this
  subst hkl
  obtain ⟨hgs,hxn⟩:=(hl x hx).1 hlk
  have hgx : g x = some v:=by
   have h1:=hat x hx
   rw [hat2] at h1
   simp only [raw,Option.some.injEq] at hv
   exact encO_inj (b:=some v) (by rw [← h1,← hv];rfl)
  refine .inr ⟨x,v,w',cnt',hx,hgx,hxn,hrun,⟨n,D,_,hrg,hn,hm,hat,?_,?_,?_,?_,hc2⟩,hlt,hgr,hsz,hen⟩
  ·exact List.nodup_append.2 ⟨hnd,by simp,fun a ha b hb e => hxn (by rw [List.mem_singleton.1 hb] at e;rw [← e];exact ha)⟩
  ·intro a ha
   rcases List.mem_append.1 ha with ha | ha
   ·exact hss a ha
   ·rw [List.mem_singleton.1 ha];exact ⟨hx,hgs⟩
  ·intro a ha
   have h1:=hl a ha
   by_cases hax : a = x
   ·subst hax
    simp [WideAt.sameKey_self (K.law.key (K.tot a ha))]
   ·have hne : (K.key a).sameKey (K.key x) = false:=Maps.sameKey_ne (fun e => hax (K.key_inj ha hx e))
    simp only [hne,Bool.not_false,Bool.and_true,List.mem_append,List.mem_singleton,hax,or_false]
    exact h1
  ·rw [List.length_append,List.length_singleton];omega
theorem wpList_rngStart (w : World) {ops : Array Oper} {rest : List Oper} {o : Oper} {a : Act} {Q : Exit → Act → World → Prop} (hg : o.guard = none) (m : Operand) (t : TypeId) (hop : o.op = Op.range t m)
  (K : KeyT α) (e : TypeId) (ht : Tryz.prog.underlying t = some (.map K.ty e)) (hz : ∃ z,(zeroValue e).run Tryz.prog w = .ok z w) (b N : Nat) (g : α → Option Value) (hm : a.eval m = .map (some b)) (h : MapA K w b N g)
  (hK : ∀ w' cnt,Rng K w' b w.heap.size N g [] cnt → w.grownBy w' none → w'.heap.size = w.heap.size + 1 → wpList Tryz.prog ops Q rest (a.put o.dst (.pointer (some ⟨w.heap.size,0,none⟩))) w') : wpList Tryz.prog ops Q (o :: rest) a w:=by
 refine wpList_plain hg fun K' hK' => ?_
 obtain ⟨w',cnt,hrun,r1,r2,r3⟩:=h.range ht hz
 unfold Oper.wp
 simp [execOp,hop,hm,hrun,Result.andThen]
 exact hK' _ _ (hK w' cnt r1 r2 r3)
theorem wpList_rngNext (w : World) {ops : Array Oper} {rest : List Oper} {o : Oper} {a : Act} {Q : Exit → Act → World → Prop} (hg : o.guard = none) (it : Operand) (hop : o.op = Op.next it false)
  (K : KeyT α) (b r N : Nat) (g : α → Option Value) (ss : List α) (cnt : Nat) (hit : a.eval it = .pointer (some ⟨r,0,none⟩)) (h : Rng K w b r N g ss cnt)
  (hDone : cnt = 0 → (∀ a,K.ok a → ((g a).isSome = true ↔ a ∈ ss)) → wpList Tryz.prog ops Q rest (a.put o.dst (.tuple #[.bool false])) w)
  (hMore : ∀ x v w' cnt',K.ok x → g x = some v → x ∉ ss → Rng K w' b r N g (ss ++ [x]) cnt' → cnt' < cnt → w.grownBy w' (some r) → w'.heap.size = w.heap.size →
   (Instr.entry (.pointer (some ⟨r,0,none⟩))).run Tryz.prog w' = .ok (.tuple #[K.val x,v]) w' → wpList Tryz.prog ops Q rest (a.put o.dst (.tuple #[.bool true,K.val x,v])) w') : wpList Tryz.prog ops Q (o :: rest) a w:=by
 refine wpList_plain hg fun K' hK' => ?_
 unfold Oper.wp
 rcases h.next o.type with ⟨h0,hl,hrun⟩ | ⟨x,v,w',cnt',h1,h2,h3,hrun,h4,h5,h6,h7,h8⟩
 ·simp [execOp,hop,hit,hrun,Result.andThen]
  exact hK' _ _ (hDone h0 hl)
 ·simp [execOp,hop,hit,hrun,Result.andThen]
  exact hK' _ _ (hMore x v w' cnt' h1 h2 h3 h4 h5 h6 h7 h8)
section
variable {F : Fence} {n : Nat}
theorem wpListIn_rngStart (w : World) {ops : Array Oper} {rest : List Oper} {o : Oper} {a : Act} {Q : Exit → Act → World → Prop} (hg : o.guard = none) (m : Operand) (t : TypeId) (hop : o.op = Op.range t m)
  (K : KeyT α) (e : TypeId) (ht : Tryz.prog.underlying t = some (.map K.ty e)) (hz : ∃ z,(zeroValue e).run Tryz.prog w = .ok z w) (b N : Nat) (g : α → Option Value) (hm : a.eval m = .map (some b)) (h : MapA K w b N g)
  (hK : ∀ w' cnt,Rng K w' b w.heap.size N g [] cnt → w.grownBy w' none → w'.heap.size = w.heap.size + 1 → wpListIn F n Tryz.prog ops Q rest (a.put o.dst (.pointer (some ⟨w.heap.size,0,none⟩))) w') : wpListIn F n Tryz.prog ops Q (o :: rest) a w:=by
 refine wpListIn_plain hg fun K' hK' => ?_
 obtain ⟨w',cnt,hrun,r1,r2,r3⟩:=h.range ht hz
 unfold Oper.wpIn
 refine ⟨by simp [Oper.about,hop],?_⟩
 rw [Oper.semAt_plain F _ _ (by rw [hop];intro c hc';cases hc')]
 simp [execOp,hop,hm,hrun,Result.andThen]
 exact hK' _ _ (hK w' cnt r1 r2 r3)
theorem wpListIn_rngNext (w : World) {ops : Array Oper} {rest : List Oper} {o : Oper} {a : Act} {Q : Exit → Act → World → Prop} (hg : o.guard = none) (it : Operand) (hop : o.op = Op.next it false)
  (K : KeyT α) (b r N : Nat) (g : α → Option Value) (ss : List α) (cnt : Nat) (hit : a.eval it = .pointer (some ⟨r,0,none⟩)) (h : Rng K w b r N g ss cnt)
  (hDone : cnt = 0 → (∀ a,K.ok a → ((g a).isSome = true ↔ a ∈ ss)) → wpListIn F n Tryz.prog ops Q rest (a.put o.dst (.tuple #[.bool false])) w)
  (hMore : ∀ x v w' cnt',K.ok x → g x = some v → x ∉ ss → Rng K w' b r N g (ss ++ [x]) cnt' → cnt' < cnt → w.grownBy w' (some r) → w'.heap.size = w.heap.size →
   (Instr.entry (.pointer (some ⟨r,0,none⟩))).run Tryz.prog w' = .ok (.tuple #[K.val x,v]) w' → wpListIn F n Tryz.prog ops Q rest (a.put o.dst (.tuple #[.bool true,K.val x,v])) w') : wpListIn F n Tryz.prog ops Q (o :: rest) a w:=by
 refine wpListIn_plain hg fun K' hK' => ?_
 unfold Oper.wpIn
 refine ⟨by simp [Oper.about,hop],?_⟩
 rw [Oper.semAt_plain F _ _ (by rw [hop];intro c hc';cases hc')]
 rcases h.next o.type with ⟨h0,hl,hrun⟩ | ⟨x,v,w',cnt',h1,h2,h3,hrun,h4,h5,h6,h7,h8⟩
 ·simp [execOp,hop,hit,hrun,Result.andThen]
  exact hK' _ _ (hDone h0 hl)
 ·simp [execOp,hop,hit,hrun,Result.andThen]
  exact hK' _ _ (hMore x v w' cnt' h1 h2 h3 h4 h5 h6 h7 h8)
end
end
/-! ### names and strings as keys -/
set_option maxRecDepth 100000 in
theorem Tryz.laidOutK : laidOutB Tryz.prog = true:=by kernel_rfl
set_option maxRecDepth 100000 in
theorem Tryz.rowName : 24 < Tryz.prog.types.size:=of_decide_eq_true (by kernel_rfl)
set_option maxRecDepth 100000 in
theorem Tryz.wideName : (match Tryz.prog.underlying 24 with | some (.array _ _) | some (.struct _) => true | _ => false) = true:=by kernel_rfl
set_option maxRecDepth 100000 in
theorem lawName : Keyed Tryz.prog 24:=Keyed.of_law (deep_law_laid Tryz.laidOutK (m:=2) (by omega) Tryz.rowName (by kernel_rfl) Tryz.wideName)
def nameV (n : ByteArray × Int) : Value:=.agg #[.string n.1,.int .i64 n.2]
def NOk (n : ByteArray × Int) : Prop:=n.1.size ≤ maxLen ∧ (Lit.int .i64 n.2).wf = true
def keyN (n : ByteArray × Int) : Lit:=.string (keyBytes [.string n.1.data.toList,.int .i64 n.2])
theorem Tryz.keyTypeName : Tryz.prog.keyType 24 = true:=by kernel_rfl
theorem Tryz.cellsName : Tryz.prog.cellsOf 24 = 2:=by kernel_rfl
theorem Tryz.cellsStringK : Tryz.prog.cellsOf 9 = 1:=by kernel_rfl
theorem Tryz.cellsIntK : Tryz.prog.cellsOf 3 = 1:=by kernel_rfl
set_option maxRecDepth 100000 in
theorem Tryz.fuelK : ∃ k,Tryz.prog.types.size + 1 = k + 2:=⟨Tryz.prog.types.size - 1,by kernel_rfl⟩
theorem keyLits_str (k : Nat) (x : Value) : Tryz.prog.keyLits (k + 1) 9 [x] = (match x with | .string s => if s.size ≤ maxLen then some [.string s.data.toList] else none | _ => none):=by
 unfold Program.keyLits
 simp only [Tryz.underlying9]
 cases x <;> rfl
theorem keyLits_int (k : Nat) (x : Value) : Tryz.prog.keyLits (k + 1) 3 [x] = (match x with | .int q n => if q = .i64 ∧ (Lit.int .i64 n).wf = true then some [.int .i64 n] else none | _ => none):=by
 unfold Program.keyLits
 simp only [Tryz.underlying3]
 cases x
 case int q n =>
  by_cases h : q = .i64
  ·subst h;rfl
  ·simp [h]
 all_goals rfl
theorem keyLits_name (k : Nat) (x y : Value) : Tryz.prog.keyLits (k + 2) 24 [x,y] = (match x,y with | .string s,.int q n => if s.size ≤ maxLen ∧ q = .i64 ∧ (Lit.int .i64 n).wf = true then some [.string s.data.toList,.int .i64 n] else none | _,_ => none):=by
 unfold Program.keyLits
 simp only [Tryz.underlying24,Tryz.cellsName]
 simp [keyLits_str,keyLits_int,Tryz.cellsStringK,Tryz.cellsIntK]
 cases x <;> cases y <;> simp
 rename_i s q n
 by_cases h1 : s.size ≤ maxLen <;> by_cases h2 : q = .i64 ∧ (Lit.int .i64 n).wf = true <;> simp [h1,h2]
theorem keyOf_name (v : Value) : ∃ k,keyOf Tryz.prog 24 v = if v.formed Tryz.prog 24 = true then (Tryz.prog.keyLits (k + 2) 24 v.cells.toList).map (fun ls => .string (keyBytes ls)) else none:=by
 obtain ⟨k,hk⟩:=Tryz.fuelK
 refine ⟨k,?_⟩
 unfold keyOf
 rw [hk]
 simp only [Tryz.underlying24,Tryz.keyTypeName,Bool.true_and]
theorem formedName (x y : Value) : (Value.agg #[x,y]).formed Tryz.prog 24 = true:=by
 simp [Value.formed,Tryz.underlying24,Tryz.cellsName]
set_option maxRecDepth 100000 in
theorem keyN_some {n : ByteArray × Int} (h : NOk n) : keyOf Tryz.prog 24 (nameV n) = some (keyN n):=by
 obtain ⟨k,hk⟩:=keyOf_name (nameV n)
 rw [hk]
 unfold nameV keyN
 rw [if_pos (formedName _ _)]
 simp [Value.cells,keyLits_name,h.1,h.2]
set_option maxRecDepth 100000 in
theorem keyN_inv {v : Value} {kl : Lit} (h : keyOf Tryz.prog 24 v = some kl) : ∃ n,NOk n ∧ v = nameV n:=by
 obtain ⟨k,hk⟩:=keyOf_name v
 rw [hk] at h
 split at h
 ·rename_i hf
  unfold Value.formed at hf
  rw [Tryz.underlying24] at hf
  cases v with
  | agg cs =>
   rw [Tryz.cellsName] at hf
   simp only [beq_iff_eq] at hf
   match cs,hf with
   | ⟨[x,y]⟩,_ =>
    simp only [Value.cells,keyLits_name] at h
    cases x with
    | string s =>
     cases y with
     | int q n =>
      simp at h
      obtain ⟨⟨h1,rfl,h2⟩,_⟩:=h
      exact ⟨(s,n),⟨h1,h2⟩,rfl⟩
     | _ => simp at h
    | _ => simp at h
  | _ => simp at hf
 ·cases h
def nameK : KeyT (ByteArray × Int) where
 ty:=24
 val:=nameV
 ok:=NOk
 law:=lawName
 key:=keyN
 tot _ h:=keyN_some h
 inv _ _ h:=keyN_inv h
 inj a b h:=by
  simp only [nameV,Value.agg.injEq,Array.mk.injEq,List.cons.injEq,Value.string.injEq,Value.int.injEq,true_and,and_true] at h
  exact Prod.ext h.1 h.2
def strK : KeyT ByteArray where
 ty:=9
 val:=.string
 ok s:=s.size ≤ maxLen
 law:=Maps.string_keyed Tryz.underlying9
 key s:=.string s.data.toList
 tot s h:=by simp [keyOf,Tryz.underlying9,mapKey,h]
 inv v kl h:=by
  cases v <;> simp [keyOf,Tryz.underlying9,mapKey] at h
  exact ⟨_,h.1,rfl⟩
 inj a b h:=by simpa using h
end Go.Proofs.YtnfndgmlnoeelaaGreatDoor
/- depend.bodies -/
namespace Go.Proofs.YtnfndgmlnoeelaaGreatDoor
open Go.RowKit Go.Proofs Go.Shelf
def bodyV (x : Dc) : Value:=.agg #[.int .i64 x.k,.string x.n,.string x.m,.int .i64 x.i,.int .i64 x.d,.slice x.A x.s.len x.c]
def zeroE : Value:=.agg #[.int .i64 0,.string ⟨#[]⟩,.string ⟨#[]⟩,.int .i64 0,.int .i64 0,.slice none 0 0]
theorem zeroE_run (w : World) : (zeroValue 60).run Tryz.prog w = .ok zeroE w:=by kernel_rfl
theorem zeroB_run (w : World) : (zeroValue 4).run Tryz.prog w = .ok (.bool false) w:=by kernel_rfl
def labs (l : List Mo) (a : ByteArray) : Bool:=l.any fun m => decide (m.label = a)
theorem labs_snoc (l : List Mo) (m : Mo) (a : ByteArray) : labs (l ++ [m]) a = (labs l a || decide (m.label = a)):=by simp [labs]
theorem bodyOf_none : ∀ {l : List Mo} {n : ByteArray × Int},labs l n.1 = false → bodyOf l n = none
 | [],_,_ => rfl
 | m :: r,n,h => by
  simp only [labs,List.any_cons,Bool.or_eq_false_iff,decide_eq_false_iff_not] at h
  unfold bodyOf
  rw [if_neg h.1]
  exact bodyOf_none h.2
theorem bodyOf_snoc : ∀ (l : List Mo) (m : Mo) (n : ByteArray × Int),bodyOf (l ++ [m]) n = if labs l n.1 = true then bodyOf l n else if m.label = n.1 then declAt m.ds n.2 else none
 | [],m,n => by simp [bodyOf,labs]
 | x :: r,m,n => by
  have ih:=bodyOf_snoc r m n
  simp only [List.cons_append,bodyOf]
  by_cases h : x.label = n.1
  ·simp [h,labs]
  ·rw [if_neg h,if_neg h,ih]
   have e : labs (x :: r) n.1 = labs r n.1:=by simp [labs,h]
   rw [e]
theorem declAt_snoc (ds : List Dc) (d : Dc) (i : Int) : declAt (ds ++ [d]) i = if (declAt ds i).isSome = true then declAt ds i else if d.id = i then some d else none:=by
 unfold declAt
 rw [List.find?_append]
 cases h : List.find? (fun x => decide (x.id = i)) ds with
 | some x => simp
 | none =>
  by_cases h2 : d.id = i <;> simp [h2]
def totD (l : List Mo) : Nat:=(l.map fun m => m.ds.length).sum
theorem totD_append (a b : List Mo) : totD (a ++ b) = totD a + totD b:=by simp [totD]
theorem totD_take {l : List Mo} {j : Nat} {m : Mo} (hj : l[j]? = some m) : totD (l.take (j + 1)) = totD (l.take j) + m.ds.length ∧ totD (l.take (j + 1)) ≤ totD l:=by
 obtain ⟨hlt,rfl⟩:=List.getElem?_eq_some_iff.1 hj
 have e : totD (l.take (j + 1)) = totD (l.take j) + l[j].ds.length:=by
  rw [List.take_succ_eq_append_getElem hlt,totD_append]
  simp [totD]
 refine ⟨e,?_⟩
 have h : totD l = totD (l.take (j + 1)) + totD (l.drop (j + 1)):=by
  rw [← totD_append,List.take_append_drop]
 omega
def MoW (l : List Mo) : Prop:=∀ m ∈ l,m.label.size ≤ maxLen ∧ ∀ d ∈ m.ds,(Lit.int .i64 d.id).wf = true
def inB (l : List Mo) (lb : ByteArray) (ds : List Dc) (n : ByteArray × Int) : Option Dc:=if lb = n.1 then declAt ds n.2 else bodyOf l n
theorem inB_start {l : List Mo} {lb : ByteArray} (h : labs l lb = false) (n : ByteArray × Int) : inB l lb [] n = bodyOf l n:=by
 unfold inB
 split
 ·rename_i e;subst e;rw [bodyOf_none h];rfl
 ·rfl
theorem inB_end {l : List Mo} {m : Mo} (h : labs l m.label = false) (n : ByteArray × Int) : inB l m.label m.ds n = bodyOf (l ++ [m]) n:=by
 unfold inB
 rw [bodyOf_snoc]
 by_cases e : m.label = n.1
 ·rw [if_pos e,if_neg (by rw [← e,h];simp),if_pos e]
 ·rw [if_neg e,if_neg e]
  by_cases h2 : labs l n.1 = true
  ·rw [if_pos h2]
  ·rw [if_neg h2,bodyOf_none (by simpa using h2)]
theorem inB_skip {l : List Mo} {lb : ByteArray} {ds : List Dc} {d x : Dc} (h : inB l lb ds (lb,d.id) = some x) (n : ByteArray × Int) : inB l lb (ds ++ [d]) n = inB l lb ds n:=by
 unfold inB at *
 rw [if_pos rfl] at h
 split
 ·rw [declAt_snoc]
  by_cases e : d.id = n.2
  ·rw [← e,h];rfl
  ·rw [if_neg e]
   split
   ·rfl
   ·rename_i h2;cases h3 : declAt ds n.2 <;> simp [h3] at h2 ⊢
 ·rfl
theorem inB_put {l : List Mo} {lb : ByteArray} {ds : List Dc} {d : Dc} (h : inB l lb ds (lb,d.id) = none) (n : ByteArray × Int) : inB l lb (ds ++ [d]) n = if n = (lb,d.id) then some d else inB l lb ds n:=by
 unfold inB at *
 rw [if_pos rfl] at h
 obtain ⟨a,i⟩:=n
 by_cases e : lb = a
 ·subst e
  simp only [if_true]
  rw [declAt_snoc]
  by_cases e2 : d.id = i
  ·subst e2;simp [h]
  ·have h5 : ¬ ((lb,i) : ByteArray × Int) = (lb,d.id):=fun hh => e2 (by cases hh;rfl)
   rw [if_neg h5,if_neg e2]
   cases declAt ds i <;> rfl
 ·rw [if_neg e,if_neg (fun hh => e (by cases hh;rfl)),if_neg e]
def BodiesP (l : List Mo) (w : World) (e : Ending) (w' : World) : Prop:=∃ b,e = .returned (.map (some b)) ∧ w.heap.size ≤ b ∧ MapA nameK w' b (totD l) (fun n => (bodyOf l n).map bodyV) ∧ Below w.heap.size w w'
set_option maxRecDepth 100000 in
set_option maxHeartbeats 4000000 in
theorem dBodies_any (l : List Mo) (A : Option Addr) (c : Nat) (w : World) (hl : SlM w w.heap.size A c l) (hw : MoW l) (ht : totD l ≤ 1000000) (hll : l.length ≤ 1000) :
  Calls Tryz.prog 44 #[.slice A l.length c] w (BodiesP l w):=by
 have hmm:=@run_makeMap Tryz.prog
 have h1:=hl.1
 have h2:=hl.2.1
 unfold maxLen at h2
 obtain ⟨N,HN⟩ : ∃ Q,Hid (l.length = Q):=⟨_,Lib.hid rfl⟩
 rw [HN.out] at h1 hll ⊢
 obtain ⟨W0,hW0⟩ : ∃ W0,(w.alloc (.map #[] 0)).alloc (.map #[] 0) = W0:=⟨_,rfl⟩
 have hz0 : w.heap.size + 1 < W0.heap.size:=by subst hW0;simp
 have hB0 : Below w.heap.size w W0:=by subst hW0;exact ((Below.refl _ _).alloc (Nat.le_refl _) _).alloc (by simp) _
 have hm0 : MapA nameK W0 w.heap.size 0 (fun _ => none):=by
  subst hW0
  exact (MapA.made nameK w).keep (Below.heap_alloc _ _ _ (by simp))
 have hs0 : MapA strK W0 (w.heap.size + 1) 0 (fun _ => none):=by
  have:=MapA.made strK (w.alloc (.map #[] 0))
  rw [hW0] at this
  simpa using this
 have HL:=Lib.hid (And.intro hl (And.intro hw (And.intro ht (And.intro hB0 (And.intro hm0 hs0)))))
 clear hl hw ht hB0 hm0 hs0
 go_enter Tryz.func44,Tryz.ntmps44
 go_wp2
 go_loopg [6,8,9,10,11,16] N (fun g _ _ _ _ _ ct wr => ∃ j : Nat,g = N - j ∧ j ≤ N ∧ ct = .int .i64 j ∧ MapA nameK wr w.heap.size (totD (l.take j)) (fun n => (bodyOf (l.take j) n).map bodyV) ∧ MapA strK wr (w.heap.size + 1) j (fun a => if labs (l.take j) a = true then some (.bool true) else none) ∧ Below w.heap.size w wr ∧ w.heap.size + 1 < wr.heap.size)
 case atStart => exact ⟨0,rfl,by omega,rfl,by simpa [totD,bodyOf] using HL.out.2.2.2.2.1,by simpa [labs] using HL.out.2.2.2.2.2,HL.out.2.2.2.1,hz0⟩
 case round =>
  obtain ⟨j,HG,hj,rfl,hm,hs,hB,hz⟩:=hrel
  have hzw:=hB.size
  by_cases hlt : j < N
  ·have hlt' : j < l.length:=by rw [HN.out];exact hlt
   have hj3 : l[j]? = some l[j]:=List.getElem?_eq_getElem hlt'
   obtain ⟨b,o,rfl,hb,d0,d1,d2,hok⟩:=HL.out.1.at_ hj3
   replace d0:=(hB.cell (p:=⟨b,o + j * 3,none⟩) hb).trans d0
   replace d1:=(hB.cell (p:=⟨b,o + j * 3 + 1,none⟩) hb).trans d1
   replace d2:=(hB.cell (p:=⟨b,o + j * 3 + 2,none⟩) hb).trans d2
   have htot:=totD_take hj3
   have hwm:=HL.out.2.1 _ (List.mem_of_getElem? hj3)
   have htk : l.take (j + 1) = l.take j ++ [l[j]]:=List.take_succ_eq_append_getElem hlt'
   have HT:=Lib.hid (And.intro HG (And.intro hm (And.intro hs (And.intro hB (And.intro hok (And.intro htot (And.intro hwm htk)))))))
   clear HG hm hs hB hok htot hwm htk hj3
   generalize l[j] = m at d0 d1 d2 HT
   obtain ⟨label,uA,uc,uses,dA,dc,ds⟩:=m
   simp only [Mo.Ok] at HT d0 d1 d2
   obtain ⟨W1,hW1⟩ : ∃ W1,wr.alloc (.cells #[.string label,.slice uA uses.length uc,.slice dA ds.length dc] 58) = W1:=⟨_,rfl⟩
   have hb1 : Below wr.heap.size wr W1:=by subst hW1;exact (Below.refl _ _).alloc (Nat.le_refl _) _
   have hz1 : wr.heap.size < W1.heap.size:=by subst hW1;simp
   have f0 : W1.cell? ⟨wr.heap.size,0,none⟩ = some (.string label):=by subst hW1;go_simp
   have f2 : W1.cell? ⟨wr.heap.size,2,none⟩ = some (.slice dA ds.length dc):=by subst hW1;go_simp
   have hs1:=HT.out.2.2.1.keep (hb1.block _ (by omega))
   have hlk:=hs1.look false Tryz.underlying154 (zeroB_run W1) (a:=label) HT.out.2.2.2.2.2.2.1.1
   simp only [Bool.false_eq_true,if_false] at hlk
   cases hlab : labs (l.take j) label with
   | true =>
    rw [hlab] at hlk
    simp only [if_true,Option.getD_some] at hlk
    change Sem.run Tryz.prog (Instr.lookup 154 (.map (some (w.heap.size + 1))) (.string label) false) W1 = .ok (.bool true) W1 at hlk
    have HLab:=Lib.hid hlab
    have HB1:=Lib.hid (And.intro hb1 hs1)
    clear hb1 hs1 hlab
    go_wp2
    go_roundg (N - (j + 1))
    case measure => rw [HT.out.1];omega
    case rel =>
     refine ⟨j + 1,rfl,by omega,by go_num,?_,?_,HT.out.2.2.2.1.trans (HB1.out.1.mono (by omega)),by omega⟩
     ·refine ((HT.out.2.1.keep (HB1.out.1.block _ (by omega))).mono ?_).cong ?_
      ·have:=HT.out.2.2.2.2.2.1.1;omega
      ·intro n _
       rw [HT.out.2.2.2.2.2.2.2,bodyOf_snoc]
       by_cases h3 : labs (l.take j) n.1 = true
       ·rw [if_pos h3]
       ·rw [if_neg h3]
        have h4 : label ≠ n.1:=fun e => h3 (by rw [← e];exact HLab.out)
        rw [if_neg h4,bodyOf_none (by simpa using h3)]
     ·refine (HB1.out.2.mono (by omega)).cong ?_
      intro a _
      rw [HT.out.2.2.2.2.2.2.2,labs_snoc]
      by_cases h3 : label = a
      ·subst h3;simp [HLab.out]
      ·simp [h3]
   | false =>
    rw [hlab] at hlk
    simp only [Bool.false_eq_true,if_false,Option.getD_none] at hlk
    change Sem.run Tryz.prog (Instr.lookup 154 (.map (some (w.heap.size + 1))) (.string label) false) W1 = .ok (.bool false) W1 at hlk
    have HLab:=Lib.hid hlab
    have HB1:=Lib.hid (And.intro hb1 hs1)
    have hdl:=HT.out.2.2.2.2.1.2.1
    have hdc:=HT.out.2.2.2.2.1.2.2.1
    unfold maxLen at hdc
    obtain ⟨M,HM⟩ : ∃ Q,Hid (ds.length = Q):=⟨_,Lib.hid rfl⟩
    have htt:=HT.out.2.2.2.2.2.1
    rw [HM.out] at hdl f2 htt
    have HTT:=Lib.hid htt
    clear hb1 hs1 hlab htt
    go_wp2_with (at_mapUpdate;refine wpList_mapPut _ rfl _ _ _ 154 (.inl rfl) strK 4 Tryz.underlying154 (w.heap.size + 1) j _ rfl HB1.out.2 (by unfold maxLen;omega) label HT.out.2.2.2.2.2.2.1.1 rfl (.bool true) rfl ?_;intro w2 hs2 hg2;have g0 : w2.cell? ⟨wr.heap.size,0,none⟩ = some (.string label):=(World.cell?_of_block (hg2.block _ hz1 (by simp;omega))).trans f0;have g2 : w2.cell? ⟨wr.heap.size,2,none⟩ = some (.slice dA M dc):=(World.cell?_of_block (hg2.block _ hz1 (by simp;omega))).trans f2)
    have hW2 : Below w.heap.size w w2:=(HT.out.2.2.2.1.trans (HB1.out.1.mono (by omega))).grown hg2 (by omega) (fun q e => by cases e;omega)
    have hm2 : MapA nameK w2 w.heap.size (totD (l.take j)) (fun n => (inB (l.take j) label [] n).map bodyV):=
     (HT.out.2.1.keep ((hg2.block _ (by omega) (by simp)).trans (HB1.out.1.block _ (by omega)))).cong fun n _ => by rw [inB_start HLab.out]
    have hz2 : W1.heap.size ≤ w2.heap.size:=hg2.size
    have HS:=Lib.hid (And.intro hs2 (And.intro hm2 hW2))
    clear hs2 hg2 hm2 hW2 f0 f2 d0 d1 d2 hlk hW1
    obtain ⟨wo,rfl⟩ : ∃ wo : World,wo = wr:=⟨_,rfl⟩
    go_loopg [8,9,10,11,30] M (fun g _ _ _ _ ct wr => ∃ q : Nat,g = M - q ∧ q ≤ M ∧ ct = .int .i64 q ∧ MapA nameK wr w.heap.size (totD (l.take j) + q) (fun n => (inB (l.take j) label (ds.take q) n).map bodyV) ∧ MapA strK wr (w.heap.size + 1) (j + 1) (fun a => if labs (l.take (j + 1)) a = true then some (.bool true) else none) ∧ Below w.heap.size w wr ∧ w2.heap.size ≤ wr.heap.size ∧ wr.heap[wo.heap.size]? = w2.heap[wo.heap.size]?)
    case atStart =>
     refine ⟨0,rfl,by omega,rfl,HS.out.2.1,HS.out.1.cong ?_,HS.out.2.2,Nat.le_refl _,rfl⟩
     intro a _
     rw [HT.out.2.2.2.2.2.2.2,labs_snoc]
     by_cases h3 : a = label
     ·subst h3;simp
     ·simp [h3,Ne.symm h3]
    case round =>
     obtain ⟨q,HG2,hq,rfl,hmq,hsq,hBq,hzq,hxq⟩:=hrel
     have m0 : wr.cell? ⟨wo.heap.size,0,none⟩ = some (.string label):=(World.cell?_of_block hxq).trans g0
     by_cases hlt2 : q < M
     ·have hlt2' : q < ds.length:=by rw [HM.out];exact hlt2
      have hq3 : ds[q]? = some ds[q]:=List.getElem?_eq_getElem hlt2'
      obtain ⟨b2,o2,rfl,hb2,d0,d1,d2,d3,d4,d5,d6,d7,d8,d9,d10,_⟩:=HT.out.2.2.2.2.1.2.cells_at (fun p hp => hBq.cell hp) hq3
      have hwf:=HT.out.2.2.2.2.2.2.1.2 _ (List.mem_of_getElem? hq3)
      have htk2 : ds.take (q + 1) = ds.take q ++ [ds[q]]:=List.take_succ_eq_append_getElem hlt2'
      have HQ:=Lib.hid (And.intro HG2 (And.intro hmq (And.intro hsq (And.intro hBq (And.intro hxq (And.intro hwf htk2))))))
      clear HG2 hmq hsq hBq hxq hwf htk2 hq3
      generalize ds[q] = x at d0 d1 d2 d3 d4 d5 d6 d7 d8 d9 d10 HQ
      obtain ⟨W3,hW3⟩ : ∃ W3,wr.alloc (.cells #[.int .i64 x.id,.int .i64 x.kind,.bool x.pub,.slice x.nA x.names.length x.nc,.bool x.doubt,.int .i64 x.k,.string x.n,.string x.m,.int .i64 x.i,.int .i64 x.d,.slice x.A x.s.len x.c] 62) = W3:=⟨_,rfl⟩
      have hb3 : Below wr.heap.size wr W3:=by subst hW3;exact (Below.refl _ _).alloc (Nat.le_refl _) _
      have hz3 : W3.heap.size = wr.heap.size + 1:=by subst hW3;simp
      have i0 : W3.cell? ⟨wr.heap.size,0,none⟩ = some (.int .i64 x.id):=by subst hW3;go_simp
      have i5 : W3.cell? ⟨wr.heap.size,5,none⟩ = some (.int .i64 x.k):=by subst hW3;go_simp
      have i6 : W3.cell? ⟨wr.heap.size,6,none⟩ = some (.string x.n):=by subst hW3;go_simp
      have i7 : W3.cell? ⟨wr.heap.size,7,none⟩ = some (.string x.m):=by subst hW3;go_simp
      have i8 : W3.cell? ⟨wr.heap.size,8,none⟩ = some (.int .i64 x.i):=by subst hW3;go_simp
      have i9 : W3.cell? ⟨wr.heap.size,9,none⟩ = some (.int .i64 x.d):=by subst hW3;go_simp
      have i10 : W3.cell? ⟨wr.heap.size,10,none⟩ = some (.slice x.A x.s.len x.c):=by subst hW3;go_simp
      have m3 : W3.cell? ⟨wo.heap.size,0,none⟩ = some (.string label):=(hb3.cell (p:=⟨wo.heap.size,0,none⟩) (by simp;omega)).trans m0
      obtain ⟨W4,hW4⟩ : ∃ W4,W3.alloc (.cells #[.string label,.int .i64 x.id] 24) = W4:=⟨_,rfl⟩
      have hb4 : Below W3.heap.size W3 W4:=by subst hW4;exact (Below.refl _ _).alloc (Nat.le_refl _) _
      have hz4 : W4.heap.size = W3.heap.size + 1:=by subst hW4;simp
      have k0 : W4.cell? ⟨wr.heap.size + 1,0,none⟩ = some (.string label):=by rw [← hz3];subst hW4;go_simp
      have k1 : W4.cell? ⟨wr.heap.size + 1,1,none⟩ = some (.int .i64 x.id):=by rw [← hz3];subst hW4;go_simp
      have j5 : W4.cell? ⟨wr.heap.size,5,none⟩ = some (.int .i64 x.k):=(hb4.cell (p:=⟨wr.heap.size,5,none⟩) (by simp;omega)).trans i5
      have j6 : W4.cell? ⟨wr.heap.size,6,none⟩ = some (.string x.n):=(hb4.cell (p:=⟨wr.heap.size,6,none⟩) (by simp;omega)).trans i6
      have j7 : W4.cell? ⟨wr.heap.size,7,none⟩ = some (.string x.m):=(hb4.cell (p:=⟨wr.heap.size,7,none⟩) (by simp;omega)).trans i7
      have j8 : W4.cell? ⟨wr.heap.size,8,none⟩ = some (.int .i64 x.i):=(hb4.cell (p:=⟨wr.heap.size,8,none⟩) (by simp;omega)).trans i8
      have j9 : W4.cell? ⟨wr.heap.size,9,none⟩ = some (.int .i64 x.d):=(hb4.cell (p:=⟨wr.heap.size,9,none⟩) (by simp;omega)).trans i9
      have j10 : W4.cell? ⟨wr.heap.size,10,none⟩ = some (.slice x.A x.s.len x.c):=(hb4.cell (p:=⟨wr.heap.size,10,none⟩) (by simp;omega)).trans i10
      have hb04 : Below wr.heap.size wr W4:=hb3.trans (hb4.mono (by omega))
      have hm4:=HQ.out.2.1.keep (hb04.block _ (by omega))
      have hok4 : NOk (label,x.id):=⟨HT.out.2.2.2.2.2.2.1.1,HQ.out.2.2.2.2.2.1⟩
      have hlk2:=hm4.look true Tryz.underlying68 (zeroE_run W4) (a:=(label,x.id)) hok4
      simp only [if_true] at hlk2
      cases hin : inB (l.take j) label (ds.take q) (label,x.id) with
      | some y =>
       rw [hin] at hlk2
       change Sem.run Tryz.prog (Instr.lookup 68 (.map (some w.heap.size)) (.agg #[.string label,.int .i64 x.id]) true) W4 = .ok (.tuple #[.agg #[.int .i64 y.k,.string y.n,.string y.m,.int .i64 y.i,.int .i64 y.d,.slice y.A y.s.len y.c],.bool true]) W4 at hlk2
       have HX:=Lib.hid (And.intro hin (And.intro hm4 hb04))
       clear hin hm4 hb04 hb3 hb4 hok4
       go_wp2
       go_roundg (M - (q + 1))
       case measure => rw [HQ.out.1];omega
       case rel =>
        have hba:=HX.out.2.2.alloc (show wr.heap.size ≤ W4.heap.size by omega) (.cells #[.int .i64 y.k,.string y.n,.string y.m,.int .i64 y.i,.int .i64 y.d,.slice y.A y.s.len y.c] 60)
        refine ⟨q + 1,rfl,by omega,by go_num,?_,HQ.out.2.2.1.keep (hba.block _ (by omega)),HQ.out.2.2.2.1.trans (hba.mono (by omega)),by have:=hba.size;omega,(hba.block _ (by omega)).trans HQ.out.2.2.2.2.1⟩
        refine ((HQ.out.2.1.keep (hba.block _ (by omega))).mono (by omega)).cong fun n _ => ?_
        rw [HQ.out.2.2.2.2.2.2,inB_skip HX.out.1]
      | none =>
       rw [hin] at hlk2
       change Sem.run Tryz.prog (Instr.lookup 68 (.map (some w.heap.size)) (.agg #[.string label,.int .i64 x.id]) true) W4 = .ok (.tuple #[.agg #[.int .i64 0,.string ⟨#[]⟩,.string ⟨#[]⟩,.int .i64 0,.int .i64 0,.slice none 0 0],.bool false]) W4 at hlk2
       have HX:=Lib.hid (And.intro hin (And.intro hm4 (And.intro hb04 hok4)))
       have hbd : totD (l.take j) + q < maxLen:=by have:=HTT.out;have:=HL.out.2.2.1;unfold maxLen;omega
       clear hin hm4 hb04 hb3 hb4 hok4
       go_wp2_with (at_mapUpdate;refine wpList_mapPut _ rfl _ _ _ 68 (.inl rfl) nameK 60 Tryz.underlying68 w.heap.size (totD (l.take j) + q) _ rfl (HX.out.2.1.keep (Below.heap_alloc _ _ _ (by omega))) hbd (label,x.id) HX.out.2.2.2 rfl (bodyV x) rfl ?_;intro w5 hm5 hg5)
       go_roundg (M - (q + 1))
       case measure => rw [HQ.out.1];omega
       case rel =>
        have hba:=HX.out.2.2.1.alloc (show wr.heap.size ≤ W4.heap.size by omega) (.cells #[.int .i64 0,.string ⟨#[]⟩,.string ⟨#[]⟩,.int .i64 0,.int .i64 0,.slice none 0 0] 60)
        have hz5:=hg5.size
        simp at hz5
        have hbk : ∀ k,k < wr.heap.size → k ≠ w.heap.size → w5.heap[k]? = wr.heap[k]?:=fun k hk hne => (hg5.block k (by simp;omega) (fun e => hne (by cases e;rfl))).trans (hba.block k hk)
        refine ⟨q + 1,rfl,by omega,by go_num,?_,HQ.out.2.2.1.keep (hbk _ (by omega) (by omega)),(HQ.out.2.2.2.1.trans (hba.mono (by omega))).grown hg5 (by have:=hba.size;omega) (fun q e => by cases e;exact Nat.le_refl _),by omega,(hbk _ (by omega) (by omega)).trans HQ.out.2.2.2.2.1⟩
        refine hm5.cong fun n _ => ?_
        rw [HQ.out.2.2.2.2.2.2,inB_put HX.out.1]
        split <;> rfl
     ·obtain rfl : q = M:=by omega
      have htk2 : ds.take q = ds:=List.take_of_length_le (by rw [HM.out];exact Nat.le_refl _)
      rw [htk2] at hmq
      have HX:=Lib.hid (And.intro hmq (And.intro hsq hBq))
      clear hmq hsq hBq HG2
      go_wp2
      go_roundg (N - (j + 1))
      case measure => rw [HT.out.1];omega
      case rel =>
       refine ⟨j + 1,rfl,by omega,by go_num,?_,HX.out.2.1,HX.out.2.2,by omega⟩
       refine (HX.out.1.mono (by have:=HTT.out.1;omega)).cong fun n _ => ?_
       rw [HT.out.2.2.2.2.2.2.2]
       exact congrArg _ (inB_end (m:=⟨label,uA,uc,uses,dA,dc,ds⟩) HLab.out n)
  ·obtain rfl : j = N:=by omega
   have htk : l.take j = l:=List.take_of_length_le (by rw [HN.out];exact Nat.le_refl _)
   have HTK:=Lib.hid htk
   have HX:=Lib.hid (And.intro hm hB)
   clear hm hB hs htk
   go_wp2
   go_ret
   exact ⟨w.heap.size,rfl,Nat.le_refl _,by have:=HX.out.1;rwa [HTK.out] at this,HX.out.2⟩
end Go.Proofs.YtnfndgmlnoeelaaGreatDoor
