/- eval: the map of rooms, whose keys are pointers -/
import Derived.Test.YtnfndgmlnoeelaaGreatDoorZee
import Derived.LaidEqlPtr
import Derived.MapKept
import Derived.RangeFuncRecord
import Derived.Laws.CopyRow
import Derived.OwnWalk
import Derived.Laws.MakeOwn
import Derived.Test.YtnfndgmlnoeelaaGreatDoorZec
import Derived.StillTailTactics
import Derived.Deep.DeepCutAuto
namespace Go.Proofs.YtnfndgmlnoeelaaGreatDoor
open Go Go.RowKit Go.Proofs
theorem Tryz.undRooms : Tryz.prog.underlying 81 = some (.map 226 225):=by kernel_rfl
theorem Tryz.undValueP : Tryz.prog.underlying 226 = some (.pointer 36):=by kernel_rfl
theorem getO {w : World} {r : Nat} {es : Array MapEntry} {c : Nat} (h : w.heap[r]? = some (.map es c)) : (getObj r).run Tryz.prog w = .ok (.map es c) w:=by simp [getObj,Sem.run,h]
theorem setO {w : World} {r : Nat} {es : Array MapEntry} {c : Nat} (h : w.heap[r]? = some (.map es c)) (o : Obj) : (setObj r o).run Tryz.prog w = .ok () (w.putObj r o):=by simp [setObj,Sem.run,h,World.putObj]
def pV (g o : Nat) : Value:=.pointer (some ⟨g,o,none⟩)
def keyR (x : Rm) : Value × Value:=(pV x.b (x.s * 8),pV x.q 0)
set_option maxRecDepth 20000 in
theorem eqPV {w : World} {g o g' o' n n' : Nat} (h : Ka w g n) (h' : Ka w g' n') : (Op.equal 226 (pV g o) (pV g' o')).run Tryz.prog w = .ok (decide (g = g' ∧ o = o')) w:=by
 obtain ⟨i,hi,_,hsz,_⟩:=info_parts Tryz.infoValue
 by_cases e : g = g' ∧ o = o'
 ·obtain ⟨rfl,rfl⟩:=e
  have hh : ∀ d : Nat,(Op.equalIn (d + 1) 226 (pV g o) (pV g o)).run Tryz.prog w = .ok true w:=fun d => by
   simp [pV,Op.equalIn,run_underlying Tryz.undValueP,sizeOf,typeInfo,hi,run_sameAddr_same]
  simp [Op.equal,Op.maxDepth,hh 9999]
 ·obtain ⟨cs,hc,_⟩:=h
  obtain ⟨cs',hc',_⟩:=h'
  have hne : (⟨g,o,none⟩ : Addr) ≠ ⟨g',o',none⟩:=fun x => by
   cases x
   exact e ⟨rfl,rfl⟩
  have hh : ∀ d : Nat,(Op.equalIn (d + 1) 226 (pV g o) (pV g' o')).run Tryz.prog w = .ok false w:=fun d => by
   simp [pV,Op.equalIn,run_underlying Tryz.undValueP,sizeOf,typeInfo,hi,hsz,run_sameAddr_other w hne hc hc']
  rw [decide_eq_false e]
  simp [Op.equal,Op.maxDepth,hh 9999]
def findRm (g o : Nat) : List Rm → Nat → Option (Nat × Value)
 | [],_ => none
 | x :: r,i => if g = x.b ∧ o = x.s * 8 then some (i,pV x.q 0) else findRm g o r (i + 1)
theorem find_run {w : World} {g o n : Nat} (hg : Ka w g n) : ∀ (rs : List Rm) (es : List MapEntry) (i : Nat),es.map (fun e => (e.key,e.val)) = rs.map keyR → (∀ x ∈ rs,∃ n,Ka w x.b n) →
  (Instr.findAsking 226 (pV g o) es i).run Tryz.prog w = .ok (findRm g o rs i) w
 | [],[],i,_,_ => by simp [Instr.findAsking,findRm]
 | [],e :: es,i,h,_ => by simp at h
 | x :: rs,[],i,h,_ => by simp at h
 | x :: rs,e :: es,i,h,hk => by
  simp only [List.map_cons,List.cons.injEq,Prod.mk.injEq,keyR] at h
  obtain ⟨⟨h1,h2⟩,h3⟩:=h
  obtain ⟨n',hx⟩:=hk x List.mem_cons_self
  have ih:=find_run (o:=o) hg rs es (i + 1) h3 fun y hy => hk y (List.mem_cons_of_mem _ hy)
  have he:=eqPV (o:=o) (o':=x.s * 8) hg hx
  by_cases e' : g = x.b ∧ o = x.s * 8
  ·simp only [findRm,if_pos e',Instr.findAsking,h1,Sem.run_bind,he,decide_eq_true e',Result.andThen_ok]
   simp [h2]
  ·simp only [findRm,if_neg e',Instr.findAsking,h1,Sem.run_bind,he,decide_eq_false e',Result.andThen_ok]
   simpa using ih
theorem findKey_ptr {w : World} (k : Value) (es : List MapEntry) : (Instr.findKey 226 k es).run Tryz.prog w = (Instr.findAsking 226 k es).run Tryz.prog w:=by
 cases es with
 | nil => simp [Instr.findKey,run_underlying Tryz.undValueP,Instr.findNow,Instr.findAsking]
 | cons e es =>
  have : Instr.sameNow (.pointer 36) k e.key = none:=by cases k <;> rfl
  simp [Instr.findKey,run_underlying Tryz.undValueP,Instr.findNow,this]
theorem checkPV {w : World} (b : Bool) (g o : Nat) : (Instr.checkKey b 10000 226 (pV g o)).run Tryz.prog w = .ok () w:=by
 have : ∀ d,(Instr.checkKey b (d + 1) 226 (pV g o)).run Tryz.prog w = .ok () w:=fun d => by
  simp [Instr.checkKey,run_underlying Tryz.undValueP,pV]
 exact this 9999
theorem findRm_cases (g o : Nat) : ∀ (rs : List Rm) (i : Nat),(findRm g o rs i = none ∧ ∀ x ∈ rs,¬ (g = x.b ∧ o = x.s * 8)) ∨
  ∃ pre x post,rs = pre ++ x :: post ∧ findRm g o rs i = some (i + pre.length,pV x.q 0) ∧ g = x.b ∧ o = x.s * 8
 | [],i => .inl ⟨rfl,fun x hx => by simp at hx⟩
 | x :: rs,i => by
  by_cases e : g = x.b ∧ o = x.s * 8
  ·exact .inr ⟨[],x,rs,rfl,by simp [findRm,e],e.1,e.2⟩
  ·rcases findRm_cases g o rs (i + 1) with ⟨h1,h2⟩ | ⟨pre,y,post,rfl,h2,h3⟩
   ·refine .inl ⟨by rw [findRm,if_neg e];exact h1,fun y hy => ?_⟩
    rcases List.mem_cons.1 hy with rfl | hy
    ·exact e
    ·exact h2 y hy
   ·exact .inr ⟨x :: pre,y,post,rfl,by rw [findRm,if_neg e,h2];simp;omega,h3⟩
def RmM (w : World) (rb : Nat) (rs : List Rm) : Prop:=∃ es clock,w.heap[rb]? = some (.map es clock) ∧ es.toList.map (fun e => (e.key,e.val)) = rs.map keyR
section
variable {w : World} {rb : Nat} {rs : List Rm}
theorem RmM.find (h : RmM w rb rs) (hk : ∀ x ∈ rs,∃ n,Ka w x.b n) {g o n : Nat} (hg : Ka w g n) :
  ((∀ x ∈ rs,¬ (g = x.b ∧ o = x.s * 8)) ∧ (∀ q,(Instr.lookup 81 (.map (some rb)) (pV g o) false).run Tryz.prog (w.drewN q) = .ok (.pointer none) (w.drewN q)) ∧
   ∃ O,O.isCells = false ∧ (∀ q t,(Builtin.delete_ #[81,226] t #[.map (some rb),pV g o]).run Tryz.prog (w.drewN q) = .ok (.tuple #[]) ((w.drewN q).putObj rb O)) ∧ RmM (w.putObj rb O) rb rs) ∨
  ∃ pre x post,rs = pre ++ x :: post ∧ g = x.b ∧ o = x.s * 8 ∧ (∀ q,(Instr.lookup 81 (.map (some rb)) (pV g o) false).run Tryz.prog (w.drewN q) = .ok (.pointer (some ⟨x.q,0,none⟩)) (w.drewN q)) ∧
   ∃ O,O.isCells = false ∧ (∀ q t,(Builtin.delete_ #[81,226] t #[.map (some rb),pV g o]).run Tryz.prog (w.drewN q) = .ok (.tuple #[]) ((w.drewN q).putObj rb O)) ∧ RmM (w.putObj rb O) rb (pre ++ post):=by
 obtain ⟨es,clock,h1,h2⟩:=h
 have hlt:=lt_of_block h1
 have hd : ∀ q,(w.drewN q).heap[rb]? = some (.map es clock):=fun q => h1
 have hr : ∀ q,(Instr.findKey 226 (pV g o) es.toList).run Tryz.prog (w.drewN q) = .ok (findRm g o rs 0) (w.drewN q):=fun q => by
  rw [findKey_ptr]
  exact find_run (w:=w.drewN q) (o:=o) hg rs es.toList 0 h2 hk
 rcases findRm_cases g o rs 0 with ⟨e1,e2⟩ | ⟨pre,x,post,rfl,e1,e2,e3⟩
 ·refine .inl ⟨e2,fun q => ?_,.map es clock,rfl,fun q t => ?_,es,clock,World.putObj_heap_same hlt,h2⟩
  ·simp [Instr.lookup,run_underlying Tryz.undRooms,getO (hd q),checkPV,hr q,e1]
  ·simp [Builtin.delete_,run_underlying Tryz.undRooms,getO (hd q),checkPV,hr q,e1,setO (hd q),World.putObj]
 ·refine .inr ⟨pre,x,post,rfl,e2,e3,fun q => ?_,.map (es.eraseIdxIfInBounds pre.length) clock,rfl,fun q t => ?_,es.eraseIdxIfInBounds pre.length,clock,World.putObj_heap_same hlt,?_⟩
  ·simp [Instr.lookup,run_underlying Tryz.undRooms,getO (hd q),checkPV,hr q,e1]
   rfl
  ·simp [Builtin.delete_,run_underlying Tryz.undRooms,getO (hd q),checkPV,hr q,e1,setO (hd q),World.putObj]
  ·have hl : (es.eraseIdxIfInBounds pre.length).toList = es.toList.eraseIdx pre.length:=by simp
   rw [hl]
   rw [List.eraseIdx_eq_take_drop_succ,List.map_append,List.map_take,List.map_drop,h2,← List.map_take,← List.map_drop,← List.map_append]
   simp
theorem RmM.push (h : RmM w rb rs) (hk : ∀ x ∈ rs,∃ n,Ka w x.b n) {x : Rm} {n : Nat} (hg : Ka w x.b n) (hn : ∀ y ∈ rs,x.b ≠ y.b) :
  ∃ O,O.isCells = false ∧ (∀ q,(Instr.mapUpdate 81 (.map (some rb)) (pV x.b (x.s * 8)) (pV x.q 0)).run Tryz.prog (w.drewN q) = .ok () ((w.drewN q).putObj rb O)) ∧ RmM (w.putObj rb O) rb (rs ++ [x]):=by
 obtain ⟨es,clock,h1,h2⟩:=h
 have hlt:=lt_of_block h1
 have hd : ∀ q,(w.drewN q).heap[rb]? = some (.map es clock):=fun q => h1
 have hr : ∀ q,(Instr.findKey 226 (pV x.b (x.s * 8)) es.toList).run Tryz.prog (w.drewN q) = .ok (findRm x.b (x.s * 8) rs 0) (w.drewN q):=fun q => by
  rw [findKey_ptr]
  exact find_run (w:=w.drewN q) (o:=x.s * 8) hg rs es.toList 0 h2 hk
 rcases findRm_cases x.b (x.s * 8) rs 0 with ⟨e1,e2⟩ | ⟨pre,y,post,rfl,e1,e2,e3⟩
 ·refine ⟨.map (es.push { key:=pV x.b (x.s * 8),val:=pV x.q 0,born:=clock }) (clock + 1),rfl,fun q => ?_,_,_,World.putObj_heap_same hlt,?_⟩
  ·simp [Instr.mapUpdate,run_underlying Tryz.undRooms,getO (hd q),checkPV,hr q,e1,setO (hd q),World.putObj]
  ·simp [h2,keyR]
 ·exact absurd e2 (hn y (by simp))
end
end Go.Proofs.YtnfndgmlnoeelaaGreatDoor
/- eval: a value ahead of a list, in plain words: rooms and arrays -/
namespace Go.Proofs.YtnfndgmlnoeelaaGreatDoor
open Go Go.RowKit Go.Proofs
theorem run_copy_big {P : Program} (w : World) (dT sT ty elem : TypeId) (i : TypeInfo) (g o dLen dCap : Nat) (a : Addr) (sLen sCap : Nat) (cur : Array Value) (t : TypeId) (cs : List Value)
  (hu : P.underlying dT = some (.slice elem)) (hi : P.info? elem = some i)
  (hg : w.heap[g]? = some (.cells cur t (0,0))) (hn : cs.length = Nat.min sLen dLen * i.size)
  (hsrc : ∀ j v,cs[j]? = some v → w.cell? (a.add j) = some v) (hfit : o + cs.length ≤ cur.size) (h1 : ∀ v ∈ cs,v.oneCell' = true) :
  (Builtin.copy_ #[dT,sT] ty #[.slice (some ⟨g,o,none⟩) dLen dCap,.slice (some a) sLen sCap]).run P w =
   .ok (goInt (Nat.min sLen dLen)) (w.setRow g (cur.toList.take o ++ cs ++ cur.toList.drop (o + cs.length)).toArray):=by
 have hl:=run_loadCells_list (P:=P) w a cs hsrc
 have hst:=run_storeCells_at P g o t cs 0 cur w hg (by simpa using hfit) h1
 rw [hn] at hl
 simp [Builtin.copy_,run_underlying hu,Builtin.lenOf,Builtin.firstCells,sizeOf,typeInfo,hi,hl,hst]
theorem run_copy_zero {P : Program} (w : World) (dT sT ty elem : TypeId) (i : TypeInfo) (d a : Option Addr) (dLen dCap sLen sCap : Nat) (hu : P.underlying dT = some (.slice elem)) (hi : P.info? elem = some i) (hn : Nat.min sLen dLen = 0) :
  (Builtin.copy_ #[dT,sT] ty #[.slice d dLen dCap,.slice a sLen sCap]).run P w = .ok (goInt 0) w:=by
 have hl : ∀ (x : Addr),(loadCells x 0).run P w = .ok #[] w:=fun x => by simpa using run_loadCells_list (P:=P) w x [] (by simp)
 cases d <;> cases a <;> simp [Builtin.copy_,run_underlying hu,Builtin.lenOf,Builtin.firstCells,sizeOf,typeInfo,hi,hn,storeCells,hl]
/-! Steps whose run is given -/
section
variable {P : Program} {w w' : World} {ops : Array Oper} {rest : List Oper} {o : Oper} {a : Act} {Q : Exit → Act → World → Prop}
theorem wpList_delete_raw (hg : o.guard = none) (m x : Operand) (t k : TypeId) (hop : o.op = Op.call { callee:=Callee.builtin Builtin.delete,args:=#[m,x],argTypes:=#[t,k] })
  (mv xv : Value) (hm : a.eval m = mv) (hx : a.eval x = xv) (hrun : (Builtin.delete_ #[t,k] o.type #[mv,xv]).run P w = .ok (.tuple #[]) w') (h : wpList P ops Q rest (a.put o.dst (.tuple #[])) w') : wpList P ops Q (o :: rest) a w:=by
 refine wpList_plain hg fun K hK => ?_
 unfold Oper.wp
 simp [execOp,hop,resolve,invoke,builtin,hm,hx,hrun,Result.andThen]
 exact hK _ _ h
theorem wpList_copy_raw (hg : o.guard = none) (m x : Operand) (t k : TypeId) (hop : o.op = Op.call { callee:=Callee.builtin Builtin.copy,args:=#[m,x],argTypes:=#[t,k] })
  (mv xv v : Value) (hm : a.eval m = mv) (hx : a.eval x = xv) (hrun : (Builtin.copy_ #[t,k] o.type #[mv,xv]).run P w = .ok v w') (h : wpList P ops Q rest (a.put o.dst v) w') : wpList P ops Q (o :: rest) a w:=by
 refine wpList_plain hg fun K hK => ?_
 unfold Oper.wp
 simp [execOp,hop,resolve,invoke,builtin,hm,hx,hrun,Result.andThen]
 exact hK _ _ h
theorem wpList_make_raw (hg : o.guard = none) (l c : Operand) (t : TypeId) (hop : o.op = Op.makeSlice t l c)
  (lv cv v : Value) (hl : a.eval l = lv) (hc : a.eval c = cv) (hrun : (Instr.makeSlice t lv cv).run P w = .ok v w') (h : wpList P ops Q rest (a.put o.dst v) w') : wpList P ops Q (o :: rest) a w:=by
 refine wpList_plain hg fun K hK => ?_
 unfold Oper.wp
 simp [execOp,hop,hl,hc,hrun,Result.andThen]
 exact hK _ _ h
theorem wpList_update_raw (hg : o.guard = none) (m x v : Operand) (t : TypeId) (hop : o.op = Op.mapUpdate t m x v)
  (mv xv vv : Value) (hm : a.eval m = mv) (hx : a.eval x = xv) (hv : a.eval v = vv) (hrun : (Instr.mapUpdate t mv xv vv).run P w = .ok () w') (h : wpList P ops Q rest (a.put o.dst undef) w') : wpList P ops Q (o :: rest) a w:=by
 refine wpList_plain hg fun K hK => ?_
 unfold Oper.wp
 simp [execOp,hop,hm,hx,hv,hrun,Result.andThen]
 exact hK _ _ h
end
structure RmN (rb base : Nat) (fv gv : Value) (w : World) (rs : List Rm) : Prop where
 at_ : ∀ x ∈ rs,base ≤ x.b ∧ base ≤ x.q ∧ ∃ N cur,w.heap[x.q]? = some (.cells #[.slice (some ⟨x.b,0,none⟩) N N,.int .i64 x.s] 228 (0,0)) ∧ w.heap[x.b]? = some (.cells cur 36 (0,0)) ∧ cur.size = N * 8 ∧ x.s ≤ N ∧ N ≤ 1000000
 own : ∀ x ∈ rs,fv.ownBlock ≠ some x.b ∧ fv.ownBlock ≠ some x.q ∧ gv.ownBlock ≠ some x.b ∧ gv.ownBlock ≠ some x.q
 dis : rs.Pairwise fun x y => x.b ≠ y.b ∧ x.q ≠ y.q
structure EvN (W0 : World) (B0 vb rb base : Nat) (m : Value) (L : Int) (w : World) (s : Es) (fv : Value) (fc : List Value) (gv : Value) (gc : List Value) (rs : List Rm) : Prop where
 ev : EvR w vb base m s.n L s.z (.map (some rb)) fv s.fs.length fc gv s.vs.length gc
 fr : FrsR W0 B0 w (Dd vb rb fv gv rs) s.fs fc
 va : VasR (CdW W0 B0) w (Dd vb rb fv gv rs) s.vs gc
 nm : RmN rb base fv gv w rs
 old : ∀ k,k < base → k ≠ vb → k ≠ rb → w.heap[k]? = W0.heap[k]?
 lv : B0 ≤ vb
 lr : B0 ≤ rb
 rlt : rb < base
 rne : rb ≠ vb
theorem kp_turn {p : Nat → Prop} {D D' : Dead} {w w' : World} (ho : Oth p w w') (h : ∀ b o,b < w.heap.size → ¬ D b o → ¬ D' b o ∧ (p b → w'.cell? ⟨b,o,none⟩ = w.cell? ⟨b,o,none⟩ ∧ ∀ n,Ka w b n → Ka w' b n)) : Kp D w D' w':=
 ⟨ho.size,fun b o hb hd => by
  obtain ⟨h1,h2⟩:=h b o hb hd
  by_cases hp : p b
  ·exact ⟨(h2 hp).1,h1⟩
  ·exact ⟨World.cell?_of_block (ho.block b hb hp),h1⟩,fun b o n hb hd hk => by
  obtain ⟨h1,h2⟩:=h b o hb hd
  by_cases hp : p b
  ·exact (h2 hp).2 n hk
  ·obtain ⟨cs,hc,hn⟩:=hk
   exact ⟨cs,(ho.block b hb hp).trans hc,hn⟩⟩
section
variable {W0 : World} {B0 vb rb base : Nat} {m : Value} {L : Int} {w w' : World} {s : Es} {fv : Value} {fc : List Value} {gv : Value} {gc : List Value} {rs rs' : List Rm}
theorem EvI.n (h : EvI W0 B0 vb rb base m L w s fv fc gv gc rs) : EvN W0 B0 vb rb base m L w s fv fc gv gc rs ∧ RmM w rb rs:=
 ⟨⟨h.ev,h.fr,h.va,⟨h.rm.at_,h.rm.own,h.rm.dis⟩,h.old,h.lv,h.lr,h.rlt,h.rne⟩,h.rm.mp⟩
theorem EvN.i (h : EvN W0 B0 vb rb base m L w s fv fc gv gc rs) (hm : RmM w rb rs) : EvI W0 B0 vb rb base m L w s fv fc gv gc rs:=
 ⟨h.ev,h.fr,h.va,⟨hm,h.nm.at_,h.nm.own,h.nm.dis⟩,h.old,h.lv,h.lr,h.rlt,h.rne⟩
theorem EvN.turn {p : Nat → Prop} (h : EvN W0 B0 vb rb base m L w s fv fc gv gc rs) (ho : Oth p w w') (hp1 : ¬ p vb) (hp2 : ∀ k,fv.ownBlock = some k → ¬ p k) (hp3 : ∀ k,gv.ownBlock = some k → ¬ p k) (hp4 : ∀ k,k < base → k ≠ rb → ¬ p k)
  (hk : Kp (Dd vb rb fv gv rs) w (Dd vb rb fv gv rs') w') (hn : RmN rb base fv gv w' rs') : EvN W0 B0 vb rb base m L w' s fv fc gv gc rs':=
 ⟨h.ev.oth ho hp1 hp2 hp3,h.fr.keep hk,h.va.keep hk,hn,fun k h1 h2 h3 => (ho.block k (Nat.lt_of_lt_of_le h1 h.ev.le) (hp4 k h1 h3)).trans (h.old k h1 h2 h3),h.lv,h.lr,h.rlt,h.rne⟩
theorem EvN.ownB (h : EvN W0 B0 vb rb base m L w s fv fc gv gc rs) {k : Nat} (e : fv.ownBlock = some k ∨ gv.ownBlock = some k) : base ≤ k ∧ k < w.heap.size:=by
 rcases e with e | e
 ·exact h.ev.fr.lt k e
 ·exact h.ev.va.lt k e
theorem EvN.rmlt (h : EvN W0 B0 vb rb base m L w s fv fc gv gc rs) {x : Rm} (hx : x ∈ rs) : x.b < w.heap.size ∧ x.q < w.heap.size:=by
 obtain ⟨_,_,N,cur,h3,h4,_⟩:=h.nm.at_ x hx
 exact ⟨lt_of_block h4,lt_of_block h3⟩
theorem EvN.rmka (h : EvN W0 B0 vb rb base m L w s fv fc gv gc rs) {x : Rm} (hx : x ∈ rs) : ∃ n,Ka w x.b n:=by
 obtain ⟨_,_,N,cur,h3,h4,_⟩:=h.nm.at_ x hx
 exact ⟨_,cur,h4,rfl⟩
theorem EvN.rbk (h : EvN W0 B0 vb rb base m L w s fv fc gv gc rs) (ho : Oth (· = rb) w w') : EvN W0 B0 vb rb base m L w' s fv fc gv gc rs ∧ Kp (Dd vb rb fv gv rs) w (Dd vb rb fv gv rs) w':=by
 have hk : Kp (Dd vb rb fv gv rs) w (Dd vb rb fv gv rs) w':=kp_turn ho fun b o hb hd => ⟨hd,fun e => absurd (.inr (.inl e)) hd⟩
 have hrl:=h.rlt
 have hlt:=h.ev.lt
 refine ⟨h.turn ho (fun e => h.rne e.symm) (fun k e => ?_) (fun k e => ?_) (fun k _ e => e) hk ⟨fun x hx => ?_,h.nm.own,h.nm.dis⟩,hk⟩
 ·have:=(h.ownB (.inl e)).1
  omega
 ·have:=(h.ownB (.inr e)).1
  omega
 ·obtain ⟨h1,h2,N,cur,h3,h4,h5⟩:=h.nm.at_ x hx
  exact ⟨h1,h2,N,cur,(ho.block _ (lt_of_block h3) (by omega)).trans h3,(ho.block _ (lt_of_block h4) (by omega)).trans h4,h5⟩
theorem dd_subE (hs : ∀ x ∈ rs',x ∈ rs) {b o : Nat} (h : Dd vb rb fv gv rs' b o) : Dd vb rb fv gv rs b o:=by
 rcases h with e | e | e | e | ⟨x,hx,e⟩
 ·exact .inl e
 ·exact .inr (.inl e)
 ·exact .inr (.inr (.inl e))
 ·exact .inr (.inr (.inr (.inl e)))
 ·exact .inr (.inr (.inr (.inr ⟨x,hs x hx,e⟩)))
theorem EvN.sub (h : EvN W0 B0 vb rb base m L w s fv fc gv gc rs) (hs : ∀ x ∈ rs',x ∈ rs) (hd : rs'.Pairwise fun x y => x.b ≠ y.b ∧ x.q ≠ y.q) : EvN W0 B0 vb rb base m L w s fv fc gv gc rs' ∧ Kp (Dd vb rb fv gv rs) w (Dd vb rb fv gv rs') w:=by
 have hk : Kp (Dd vb rb fv gv rs) w (Dd vb rb fv gv rs') w:=kp_turn (Oth.refl (fun _ => False) w) fun b o hb hd => ⟨fun e => hd (dd_subE hs e),fun e => e.elim⟩
 exact ⟨h.turn (Oth.refl (fun _ => False) w) (fun e => e) (fun _ _ e => e) (fun _ _ e => e) (fun _ _ _ e => e) hk ⟨fun x hx => h.nm.at_ x (hs x hx),fun x hx => h.nm.own x (hs x hx),hd⟩,hk⟩
theorem EvN.drop {pre post : List Rm} {x : Rm} (h : EvN W0 B0 vb rb base m L w s fv fc gv gc (pre ++ x :: post)) : EvN W0 B0 vb rb base m L w s fv fc gv gc (pre ++ post) ∧ Kp (Dd vb rb fv gv (pre ++ x :: post)) w (Dd vb rb fv gv (pre ++ post)) w:=
 h.sub (rs':=pre ++ post) (fun y hy => by simp only [List.mem_append,List.mem_cons] at hy ⊢;exact hy.imp id .inr) (h.nm.dis.sublist (List.Sublist.append (List.Sublist.refl _) (List.sublist_cons_self _ _)))
theorem EvN.last {pre post : List Rm} {x : Rm} (h : EvN W0 B0 vb rb base m L w s fv fc gv gc (pre ++ x :: post)) : EvN W0 B0 vb rb base m L w s fv fc gv gc ((pre ++ post) ++ [x]) ∧ Kp (Dd vb rb fv gv (pre ++ x :: post)) w (Dd vb rb fv gv ((pre ++ post) ++ [x])) w:=
 h.sub (rs':=(pre ++ post) ++ [x]) (fun y hy => by
  simp only [List.mem_append,List.mem_cons,List.not_mem_nil,or_false] at hy ⊢
  rcases hy with (e | e) | e
  ·exact .inl e
  ·exact .inr (.inr e)
  ·exact .inr (.inl e)) (((List.perm_middle.trans (List.perm_append_singleton x (pre ++ post)).symm).pairwise_iff (fun {a b} e => ⟨fun e' => e.1 e'.symm,fun e' => e.2 e'.symm⟩)).1 h.nm.dis)
theorem EvN.new (h : EvN W0 B0 vb rb base m L w s fv fc gv gc rs) (ho : Oth (fun _ => False) w w') {x : Rm} {N : Nat} {cur : Array Value} (hb : w.heap.size ≤ x.b) (hq : w.heap.size ≤ x.q) (h3 : w'.heap[x.q]? = some (.cells #[.slice (some ⟨x.b,0,none⟩) N N,.int .i64 x.s] 228 (0,0))) (h4 : w'.heap[x.b]? = some (.cells cur 36 (0,0))) (h5 : cur.size = N * 8) (h6 : x.s ≤ N) (h7 : N ≤ 1000000) :
  EvN W0 B0 vb rb base m L w' s fv fc gv gc (rs ++ [x]) ∧ Kp (Dd vb rb fv gv rs) w (Dd vb rb fv gv (rs ++ [x])) w':=by
 have hk : Kp (Dd vb rb fv gv rs) w (Dd vb rb fv gv (rs ++ [x])) w':=kp_turn ho fun b o hbl hd => ⟨fun e => by
  rcases e with e | e | e | e | ⟨y,hy,e⟩
  ·exact hd (.inl e)
  ·exact hd (.inr (.inl e))
  ·exact hd (.inr (.inr (.inl e)))
  ·exact hd (.inr (.inr (.inr (.inl e))))
  ·rcases List.mem_append.1 hy with hy | hy
   ·exact hd (.inr (.inr (.inr (.inr ⟨y,hy,e⟩))))
   ·rw [List.mem_singleton.1 hy] at e
    rcases e with e | ⟨e,_⟩ <;> omega,fun e => e.elim⟩
 have hle:=h.ev.le
 refine ⟨h.turn ho (fun e => e) (fun _ _ e => e) (fun _ _ e => e) (fun _ _ _ e => e) hk ⟨fun y hy => ?_,fun y hy => ?_,List.pairwise_append.2 ⟨h.nm.dis,List.pairwise_singleton _ _,fun y hy z hz => ?_⟩⟩,hk⟩
 ·rcases List.mem_append.1 hy with hy | hy
  ·obtain ⟨a1,a2,N',cur',a3,a4,a5⟩:=h.nm.at_ y hy
   exact ⟨a1,a2,N',cur',(ho.block _ (lt_of_block a3) (fun e => e)).trans a3,(ho.block _ (lt_of_block a4) (fun e => e)).trans a4,a5⟩
  ·rw [List.mem_singleton.1 hy]
   exact ⟨by omega,by omega,N,cur,h3,h4,h5,h6,h7⟩
 ·rcases List.mem_append.1 hy with hy | hy
  ·exact h.nm.own y hy
  ·rw [List.mem_singleton.1 hy]
   refine ⟨fun e => ?_,fun e => ?_,fun e => ?_,fun e => ?_⟩
   ·have:=(h.ownB (.inl e)).2;omega
   ·have:=(h.ownB (.inl e)).2;omega
   ·have:=(h.ownB (.inr e)).2;omega
   ·have:=(h.ownB (.inr e)).2;omega
 ·rw [List.mem_singleton.1 hz]
  have:=h.rmlt hy
  omega
theorem addr_add (g o j : Nat) : (⟨g,o,none⟩ : Addr).add j = ⟨g,o + j,none⟩:=by unfold Addr.add;split <;> simp_all
def setAll (cur : Array Value) (k : Nat) : List Value → Array Value
 | [] => cur
 | u :: us => setAll (cur.setIfInBounds k u) (k + 1) us
theorem setAll_size : ∀ (us : List Value) (cur : Array Value) (k : Nat),(setAll cur k us).size = cur.size
 | [],_,_ => rfl
 | u :: us,cur,k => by rw [setAll,setAll_size us];simp
theorem setAll_other : ∀ (us : List Value) (cur : Array Value) (k i : Nat),i < k ∨ k + us.length ≤ i → (setAll cur k us)[i]? = cur[i]?
 | [],_,_,_,_ => rfl
 | u :: us,cur,k,i,h => by
  simp only [List.length_cons] at h
  rw [setAll,setAll_other us _ (k + 1) i (by omega),Array.getElem?_setIfInBounds_ne (by omega)]
theorem setAll_in : ∀ (us : List Value) (cur : Array Value) (k t : Nat) (c : Value),k + us.length ≤ cur.size → us[t]? = some c → (setAll cur k us)[k + t]? = some c
 | [],_,_,t,_,_,h => by simp at h
 | u :: us,cur,k,0,c,hs,h => by
  simp only [List.length_cons] at hs
  simp only [List.getElem?_cons_zero,Option.some.injEq] at h
  subst h
  rw [setAll,setAll_other us _ (k + 1) (k + 0) (by omega),Nat.add_zero,Array.getElem?_setIfInBounds_self_of_lt (by omega)]
 | u :: us,cur,k,t + 1,c,hs,h => by
  simp only [List.length_cons] at hs
  have:=setAll_in us (cur.setIfInBounds k u) (k + 1) t c (by simp;omega) (by simpa using h)
  rw [setAll,show k + (t + 1) = k + 1 + t by omega]
  exact this
theorem store8 {W : World} {b k : Nat} {t : TypeId} {cur : Array Value} (u0 u1 u2 u3 u4 u5 u6 u7 : Value) (h : W.heap[b]? = some (.cells cur t (0,0))) :
  ((((((((W.setCell ⟨b,k,none⟩ u0).setCell ⟨b,k + 1,none⟩ u1).setCell ⟨b,k + 2,none⟩ u2).setCell ⟨b,k + 3,none⟩ u3).setCell ⟨b,k + 4,none⟩ u4).setCell ⟨b,k + 5,none⟩ u5).setCell ⟨b,k + 6,none⟩ u6).setCell ⟨b,k + 7,none⟩ u7).heap[b]? = some (.cells (setAll cur k [u0,u1,u2,u3,u4,u5,u6,u7]) t (0,0)):=
 Joins.block_setCell (Joins.block_setCell (Joins.block_setCell (Joins.block_setCell (Joins.block_setCell (Joins.block_setCell (Joins.block_setCell (Joins.block_setCell h u0) u1) u2) u3) u4) u5) u6) u7
theorem oth8 (W : World) (b k : Nat) (u0 u1 u2 u3 u4 u5 u6 u7 : Value) :
  Oth (· = b) W ((((((((W.setCell ⟨b,k,none⟩ u0).setCell ⟨b,k + 1,none⟩ u1).setCell ⟨b,k + 2,none⟩ u2).setCell ⟨b,k + 3,none⟩ u3).setCell ⟨b,k + 4,none⟩ u4).setCell ⟨b,k + 5,none⟩ u5).setCell ⟨b,k + 6,none⟩ u6).setCell ⟨b,k + 7,none⟩ u7):=
 ((((((((Oth.refl (· = b) W).setCell (fun _ => rfl) u0).setCell (fun _ => rfl) u1).setCell (fun _ => rfl) u2).setCell (fun _ => rfl) u3).setCell (fun _ => rfl) u4).setCell (fun _ => rfl) u5).setCell (fun _ => rfl) u6).setCell (fun _ => rfl) u7
theorem Vl.At.one {Cd : Code} {D : Dead} {w : World} : ∀ {l : Vl} {g o : Nat},l.At Cd w D false g o → ∀ t,t < l.len * 8 → ∃ u,w.cell? ⟨g,o + t,none⟩ = some u ∧ u.oneCell' = true
 | .nil,_,_,_,t,ht => by simp [Vl.len] at ht
 | .cons x k i l p q b e r,g,o,h,t,ht => by
  obtain ⟨_,⟨_,h2,h3,h4,h5,h6⟩,⟨A,c,h7,_⟩,⟨bA,bc,h8,_⟩,⟨eA,ec,h9,_⟩,hr⟩:=h
  simp only [off,Nat.add_zero,Bool.false_eq_true,if_false] at h2 h3 h4 h5 h6 h7 h8 h9 hr
  match t,ht with
  | 0,_ => exact ⟨_,h2,rfl⟩
  | 1,_ => exact ⟨_,h3,rfl⟩
  | 2,_ => exact ⟨_,h7,rfl⟩
  | 3,_ => exact ⟨_,h4,rfl⟩
  | 4,_ => exact ⟨_,h5,rfl⟩
  | 5,_ => exact ⟨_,h6,rfl⟩
  | 6,_ => exact ⟨_,h8,rfl⟩
  | 7,_ => exact ⟨_,h9,rfl⟩
  | t + 8,ht =>
   obtain ⟨u,hu,h1⟩:=Vl.At.one hr t (by simp only [Vl.len,Nat.succ_mul] at ht;omega)
   exact ⟨u,by rw [show o + (t + 8) = o + 8 + t by omega];exact hu,h1⟩
theorem At.cons' {Cd : Code} {D : Dead} {l : Vl} {g o : Nat} {v : Va} {lA : Option Addr} {lc : Nat} {bA : Option Addr} {bc : Nat} {eA : Option Addr} {ec : Nat} (hd : ∀ t,t < 8 → ¬ D g (o + t))
  (hv : VaR Cd w D v lA lc bA bc eA ec) (hc : ∀ t c,(v.cells lA lc bA bc eA ec)[t]? = some c → w.cell? ⟨g,o + t,none⟩ = some c) (hr : l.At Cd w D false g (o + 8)) : (Vl.push noB v l).At Cd w D false g o:=
 ⟨⟨fun e => (nomatch e),fun _ => rfl⟩,⟨fun j hj => hd j hj,hc 0 _ rfl,hc 1 _ rfl,hc 3 _ rfl,hc 4 _ rfl,hc 5 _ rfl⟩,⟨lA,lc,hc 2 _ rfl,hv.l⟩,⟨bA,bc,hc 6 _ rfl,hv.b⟩,⟨eA,ec,hc 7 _ rfl,hv.e⟩,hr⟩
theorem EvN.fin {rs1 : List Rm} {x : Rm} {N : Nat} {l : Vl} {v : Va} {lA : Option Addr} {lc : Nat} {bA : Option Addr} {bc : Nat} {eA : Option Addr} {ec : Nat} (h : EvN W0 B0 vb rb base m L w s fv fc gv gc (rs1 ++ [x]))
  (hs1 : 1 ≤ x.s) (hl : x.s + l.len = N) (hN : N ≤ 1000000) (hla : l.At (CdW W0 B0) w (Dd vb rb fv gv (rs1 ++ [x])) false x.b (x.s * 8)) (hv : VaR (CdW W0 B0) w (Dd vb rb fv gv (rs1 ++ [x])) v lA lc bA bc eA ec)
  (ho : Oth (fun k => k = rb ∨ k = x.q ∨ k = x.b) w w') (hq : w.heap[x.q]? = some (.cells #[.slice (some ⟨x.b,0,none⟩) N N,.int .i64 x.s] 228 (0,0))) (hq' : w'.heap[x.q]? = some (.cells #[.slice (some ⟨x.b,0,none⟩) N N,.int .i64 ((x.s - 1 : Nat) : Int)] 228 (0,0)))
  {cur cur' : Array Value} (hb : w.heap[x.b]? = some (.cells cur 36 (0,0))) (hcs : cur.size = N * 8) (hb' : w'.heap[x.b]? = some (.cells cur' 36 (0,0))) (hsz : cur'.size = cur.size) (hsame : ∀ i,x.s * 8 ≤ i → cur'[i]? = cur[i]?) (hnew : ∀ t c,(v.cells lA lc bA bc eA ec)[t]? = some c → cur'[(x.s - 1) * 8 + t]? = some c)
  (hm : RmM w' rb (rs1 ++ [⟨x.b,x.s - 1,x.q⟩])) :
  EvI W0 B0 vb rb base m L w' s fv fc gv gc (rs1 ++ [⟨x.b,x.s - 1,x.q⟩]) ∧ Kp (Dd vb rb fv gv (rs1 ++ [x])) w (Dd vb rb fv gv (rs1 ++ [⟨x.b,x.s - 1,x.q⟩])) w' ∧ (Vl.push noB v l).Sl (CdW W0 B0) w' (Dd vb rb fv gv (rs1 ++ [⟨x.b,x.s - 1,x.q⟩])) false (some ⟨x.b,(x.s - 1) * 8,none⟩) (N - (x.s - 1)):=by
 have hxm : x ∈ rs1 ++ [x]:=by simp
 have hbq : x.b ≠ x.q:=fun e => by
  rw [e,hq] at hb
  cases hb
 obtain ⟨xb1,xq1,_⟩:=h.nm.at_ x hxm
 have hrl:=h.rlt
 have hlt:=h.ev.lt
 have hdis : ∀ y ∈ rs1,y.b ≠ x.b ∧ y.q ≠ x.q:=fun y hy => (List.pairwise_append.1 h.nm.dis).2.2 y hy x (by simp)
 have hcross : ∀ y ∈ rs1,y.b ≠ x.q ∧ y.q ≠ x.b:=fun y hy => by
  obtain ⟨_,_,N',cur2,a3,a4,_⟩:=h.nm.at_ y (by simp [hy])
  refine ⟨fun e => ?_,fun e => ?_⟩
  ·rw [e,hq] at a4
   cases a4
  ·rw [e,hb] at a3
   cases a3
 have hk : Kp (Dd vb rb fv gv (rs1 ++ [x])) w (Dd vb rb fv gv (rs1 ++ [⟨x.b,x.s - 1,x.q⟩])) w':=kp_turn ho fun b o hbl hd => ⟨fun e => by
  rcases e with e | e | e | e | ⟨y,hy,e⟩
  ·exact hd (.inl e)
  ·exact hd (.inr (.inl e))
  ·exact hd (.inr (.inr (.inl e)))
  ·exact hd (.inr (.inr (.inr (.inl e))))
  ·rcases List.mem_append.1 hy with hy | hy
   ·exact hd (.inr (.inr (.inr (.inr ⟨y,by simp [hy],e⟩))))
   ·rw [List.mem_singleton.1 hy] at e
    refine hd (.inr (.inr (.inr (.inr ⟨x,hxm,?_⟩))))
    simp only at e
    omega,fun e => by
  rcases e with e | e | e
  ·exact absurd (.inr (.inl e)) hd
  ·exact absurd (.inr (.inr (.inr (.inr ⟨x,hxm,.inl e⟩)))) hd
  ·subst e
   have hge : x.s * 8 ≤ o:=by
    by_cases hh : x.s * 8 ≤ o
    ·exact hh
    ·exact absurd (.inr (.inr (.inr (.inr ⟨x,hxm,.inr ⟨rfl,by omega⟩⟩)))) hd
   refine ⟨by rw [cell_of_row w' x.b o cur' _ _ hb',cell_of_row w x.b o cur _ _ hb,hsame o hge],fun n ⟨cs,hc,hn⟩ => ⟨cur',hb',?_⟩⟩
   rw [hb] at hc
   cases hc
   rw [hsz,hn]⟩
 have hnd : ∀ o,(x.s - 1) * 8 ≤ o → ¬ Dd vb rb fv gv (rs1 ++ [⟨x.b,x.s - 1,x.q⟩]) x.b o:=fun o ho' e => by
  rcases e with e | e | e | e | ⟨y,hy,e⟩
  ·omega
  ·omega
  ·exact (h.nm.own x hxm).1 e
  ·exact (h.nm.own x hxm).2.2.1 e
  ·rcases List.mem_append.1 hy with hy | hy
   ·rcases e with e | ⟨e,_⟩
    ·exact (hcross y hy).2 e.symm
    ·exact (hdis y hy).1 e.symm
   ·rw [List.mem_singleton.1 hy] at e
    rcases e with e | ⟨_,e⟩
    ·exact hbq e
    ·simp only at e
     omega
 refine ⟨(h.turn ho (fun e => ?_) (fun k hk' e => ?_) (fun k hk' e => ?_) (fun k hkb hkr e => ?_) hk ⟨fun y hy => ?_,fun y hy => ?_,List.pairwise_append.2 ⟨(List.pairwise_append.1 h.nm.dis).1,List.pairwise_singleton _ _,fun y hy z hz => ?_⟩⟩).i hm,hk,?_,?_,fun _ => ⟨x.b,(x.s - 1) * 8,rfl,lt_of_block hb',At.cons' (fun t _ => hnd _ (by omega)) (hv.keep hk) (fun t c hc => ?_) ?_,fun _ => ⟨cur',hb',?_⟩⟩⟩
 ·rcases e with e | e | e
  ·exact h.rne e.symm
  ·omega
  ·omega
 ·have hb1:=h.ownB (.inl hk')
  rcases e with e | e | e
  ·omega
  ·exact (h.nm.own x hxm).2.1 (e ▸ hk')
  ·exact (h.nm.own x hxm).1 (e ▸ hk')
 ·have hb1:=h.ownB (.inr hk')
  rcases e with e | e | e
  ·omega
  ·exact (h.nm.own x hxm).2.2.2 (e ▸ hk')
  ·exact (h.nm.own x hxm).2.2.1 (e ▸ hk')
 ·rcases e with e | e | e
  ·exact hkr e
  ·omega
  ·omega
 ·rcases List.mem_append.1 hy with hy | hy
  ·obtain ⟨a1,a2,N',cur2,a3,a4,a5⟩:=h.nm.at_ y (by simp [hy])
   refine ⟨a1,a2,N',cur2,(ho.block _ (lt_of_block a3) fun e => ?_).trans a3,(ho.block _ (lt_of_block a4) fun e => ?_).trans a4,a5⟩
   ·rcases e with e | e | e
    ·omega
    ·exact (hdis y hy).2 e
    ·exact (hcross y hy).2 e
   ·rcases e with e | e | e
    ·omega
    ·exact (hcross y hy).1 e
    ·exact (hdis y hy).1 e
  ·rw [List.mem_singleton.1 hy]
   exact ⟨xb1,xq1,N,cur',hq',hb',by rw [hsz,hcs],by simp only;omega,hN⟩
 ·rcases List.mem_append.1 hy with hy | hy
  ·exact h.nm.own y (by simp [hy])
  ·rw [List.mem_singleton.1 hy]
   exact h.nm.own x hxm
 ·rw [List.mem_singleton.1 hz]
  exact hdis y hy
 ·show l.len + 1 ≤ _
  omega
 ·unfold maxLen
  omega
 ·rw [cell_of_row w' x.b _ cur' _ _ hb']
  exact hnew t c hc
 ·rw [show (x.s - 1) * 8 + 8 = x.s * 8 by omega]
  exact hla.keep hk (lt_of_block hb)
 ·rw [hsz,hcs]
  show N * 8 = (x.s - 1) * 8 + (l.len + 1) * 8
  omega
end
end Go.Proofs.YtnfndgmlnoeelaaGreatDoor
/- eval: a value ahead of a list -/
namespace Go.Proofs.YtnfndgmlnoeelaaGreatDoor
open Go Go.RowKit Go.Proofs
theorem heap_drew1 (w : World) : w.drew.heap = w.heap:=rfl
def nwA : Option Rm → Bool
 | none => true
 | some x => decide (x.s = 0)
theorem oth_put (w : World) (q rb : Nat) (O : Obj) : Oth (· = rb) w ((w.drewN q).putObj rb O):=⟨rfl,rfl,rfl,by simp [World.putObj,World.drewN],fun k _ hk => World.putObj_heap_other (w:=w.drewN q) hk⟩
structure MidA (W0 : World) (B0 vb rb base : Nat) (m : Value) (L : Int) (w w1 : World) (s : Es) (fv : Value) (fc : List Value) (gv : Value) (gc : List Value) (rs rs1 : List Rm) (ox : Option Rm) (A : Option Addr) (l : Vl) (s7 : Value) (wx : World) : Prop where
 en : EvN W0 B0 vb rb base m L wx s fv fc gv gc rs
 mp : RmM wx rb rs1
 kp : Kp (Dd vb rb fv gv rs) w (Dd vb rb fv gv rs) wx
 ho : Oth (· = rb) w1 wx
 ox : match ox with
  | none => s7 = .pointer none ∧ rs1 = rs
  | some x => s7 = .pointer (some ⟨x.q,0,none⟩) ∧ l ≠ .nil ∧ A = some ⟨x.b,x.s * 8,none⟩ ∧ ∃ pre post,rs = pre ++ x :: post ∧ rs1 = pre ++ post
structure RdyA (W0 : World) (B0 vb rb base : Nat) (m : Value) (L : Int) (w w1 : World) (s : Es) (fv : Value) (fc : List Value) (gv : Value) (gc : List Value) (rs rs1 : List Rm) (x : Rm) (N : Nat) (l : Vl) (s7 : Value) (wx : World) : Prop where
 en : EvN W0 B0 vb rb base m L wx s fv fc gv gc (rs1 ++ [x])
 mp : RmM wx rb rs1
 kp : Kp (Dd vb rb fv gv rs) w (Dd vb rb fv gv (rs1 ++ [x])) wx
 s7 : s7 = .pointer (some ⟨x.q,0,none⟩)
 hs : 1 ≤ x.s
 hl : x.s + l.len = N
 hN : N ≤ 1000000
 hq : wx.heap[x.q]? = some (.cells #[.slice (some ⟨x.b,0,none⟩) N N,.int .i64 x.s] 228 (0,0))
 hb : ∃ cur,wx.heap[x.b]? = some (.cells cur 36 (0,0)) ∧ cur.size = N * 8
 la : l.At (CdW W0 B0) wx (Dd vb rb fv gv (rs1 ++ [x])) false x.b (x.s * 8)
 st : St w1 wx
 x0 : wx.heap[w.heap.size]? = w1.heap[w.heap.size]?
 nx : x.b ≠ w.heap.size ∧ x.q ≠ w.heap.size
section
variable {W0 : World} {B0 vb rb base : Nat} {m : Value} {L : Int} {w : World} {fv : Value} {fc : List Value} {gv : Value} {gc : List Value} {rs : List Rm}
set_option maxRecDepth 100000 in
set_option maxHeartbeats 4000000 in
theorem ahead_any {s : Es} (h : EvI W0 B0 vb rb base m L w s fv fc gv gc rs) {v : Va} {lA : Option Addr} {lc : Nat} {bA : Option Addr} {bc : Nat} {eA : Option Addr} {ec : Nat} (hv : VaR (CdW W0 B0) w (Dd vb rb fv gv rs) v lA lc bA bc eA ec)
  {l : Vl} {A : Option Addr} {c : Nat} (hl : l.Sl (CdW W0 B0) w (Dd vb rb fv gv rs) false A c) (hn : l.len ≤ 400000) :
  Calls Tryz.prog 132 #[.pointer (some ⟨vb,0,none⟩),.agg #[.int .i64 v.k,.int .i64 v.i,.slice lA v.l.len lc,.int .i64 0,.string v.p,.string v.q,.slice bA v.b.len bc,.slice eA v.e.len ec],.slice A l.len c] w fun e w' =>
   ∃ A' c',e = .returned (.slice A' (l.len + 1) c') ∧ ∃ rs',EvI W0 B0 vb rb base m L w' s fv fc gv gc rs' ∧ Kp (Dd vb rb fv gv rs) w (Dd vb rb fv gv rs') w' ∧ St w w' ∧ (Vl.push noB v l).Sl (CdW W0 B0) w' (Dd vb rb fv gv rs') false A' c':=by
 obtain ⟨W1,hW1⟩ : ∃ Q9,w.alloc (.cells #[.int .i64 v.k,.int .i64 v.i,.slice lA v.l.len lc,.int .i64 0,.string v.p,.string v.q,.slice bA v.b.len bc,.slice eA v.e.len ec] 36) = Q9:=⟨_,rfl⟩
 have hX : W1.heap[w.heap.size]? = some (.cells #[.int .i64 v.k,.int .i64 v.i,.slice lA v.l.len lc,.int .i64 0,.string v.p,.string v.q,.slice bA v.b.len bc,.slice eA v.e.len ec] 36 (0,0)):=by rw [← hW1];exact heap_alloc_new _ _
 have ho1 : Oth (fun _ => False) w W1:=by rw [← hW1];exact (Oth.refl _ _).alloc _
 obtain ⟨hN,hM⟩:=h.n
 have hE1:=hN.rbk (ho1.mono fun _ _ e => e.elim)
 have hM1 : RmM W1 rb rs:=by
  obtain ⟨es,cl,h1,h2⟩:=hM
  exact ⟨es,cl,(ho1.block rb (lt_of_block h1) (fun e => e)).trans h1,h2⟩
 have hsz1 : W1.heap.size = w.heap.size + 1:=by rw [← hW1];simp
 have HA:=Lib.hid (And.intro hE1 (And.intro hM1 (And.intro hX (And.intro ho1 hsz1))))
 have HV:=Lib.hid hv
 have hl1:=hl.1
 have hl2:=hl.2.1
 have HL:=Lib.hid hl
 have v6:=cell_of_row W1 vb 6 _ _ (0,0) hE1.1.ev.blk
 simp [evC] at v6
 have hbs:=hN.ev.le
 have HB:=Lib.hid (And.intro hN hbs)
 have hlt:=h.ev.lt
 have hrl:=h.rlt
 clear h hN hM hE1 hM1 ho1 hv hl
 unfold maxLen at hl2
 go_enter Tryz.func132,Tryz.ntmps132
 go_upto_if 11 with (fail)
 go_cut [7] (fun s7 wx => ∃ ox rs1,MidA W0 B0 vb rb base m L w W1 s fv fc gv gc rs rs1 ox A l s7 wx)
 case first =>
  by_cases hne : l = .nil
  ·have h0 : ((l.len : Nat) : Int) = 0:=by rw [hne];rfl
   go_wp2
   go_meet
   exact ⟨none,rs,HA.out.1.1,HA.out.2.1,HA.out.1.2,Oth.refl _ _,rfl,rfl⟩
  ·obtain ⟨g,o,rfl,hg,hat,hka⟩:=HL.out.2.2 hne
   have h0 : 0 < ((l.len : Nat) : Int):=by
    cases l with
    | nil => exact absurd rfl hne
    | cons => simp [Vl.len]
   have h00 : 0 < l.len:=by omega
   have hk1 : Ka W1 g (o + l.len * 8):=by
    obtain ⟨o2,hd⟩:=hat.live hne
    exact HA.out.1.2.ka g o2 _ hg hd (hka rfl)
   rcases HA.out.2.1.find (fun x hx => HA.out.1.1.rmka hx) (o:=o) hk1 with ⟨hno,hlk,O,hO,hdl,hm⟩ | ⟨pre,x,post,hrs,hgx,hox,hlk,O,hO,hdl,hm⟩
   ·have HD:=Lib.hid (And.intro hdl hm)
    unfold pV at hlk
    clear hdl hm hno hX hsz1
    go_wp2
    go_quiet (fail)
    go_wp2
    have v6' : (W1.drewN nq).cell? ⟨vb,6,none⟩ = some (.map (some rb)):=v6
    have HD2:=Lib.hid (show (∀ t,(Builtin.delete_ #[81,226] t #[.map (some rb),pV g o]).run Tryz.prog (W1.drewN nq).drew = .ok (.tuple #[]) ((W1.drewN nq).drew.putObj rb O)) ∧ Oth (· = rb) W1 ((W1.drewN nq).drew.putObj rb O) ∧ RmM ((W1.drewN nq).drew.putObj rb O) rb rs from ⟨fun t => HD.out.1 (nq + 1) t,oth_put W1 (nq + 1) rb O,HD.out.2⟩)
    clear v6 HD
    generalize W1.drewN nq = Y at v6' HD2 ⊢
    go_still_tail 6,(by kernel_rfl)
    change wpList _ _ _ _ _ Y.drew
    refine wpList_delete_raw rfl _ _ _ _ rfl _ _ rfl rfl (HD2.out.1 _) ?_
    go_wp2
    go_meet
    have hR:=HA.out.1.1.rbk HD2.out.2.1
    exact ⟨none,rs,hR.1,HD2.out.2.2,HA.out.1.2.trans hR.2,HD2.out.2.1,rfl,rfl⟩
   ·have HD:=Lib.hid (And.intro hdl hm)
    have HRS:=Lib.hid (And.intro hrs (And.intro hgx hox))
    unfold pV at hlk
    clear hdl hm hrs hgx hox hX hsz1
    go_wp2
    go_quiet (fail)
    go_wp2
    have v6' : (W1.drewN nq).cell? ⟨vb,6,none⟩ = some (.map (some rb)):=v6
    have HD2:=Lib.hid (show (∀ t,(Builtin.delete_ #[81,226] t #[.map (some rb),pV g o]).run Tryz.prog (W1.drewN nq).drew = .ok (.tuple #[]) ((W1.drewN nq).drew.putObj rb O)) ∧ Oth (· = rb) W1 ((W1.drewN nq).drew.putObj rb O) ∧ RmM ((W1.drewN nq).drew.putObj rb O) rb (pre ++ post) from ⟨fun t => HD.out.1 (nq + 1) t,oth_put W1 (nq + 1) rb O,HD.out.2⟩)
    clear v6 HD
    generalize W1.drewN nq = Y at v6' HD2 ⊢
    go_still_tail 6,(by kernel_rfl)
    change wpList _ _ _ _ _ Y.drew
    refine wpList_delete_raw rfl _ _ _ _ rfl _ _ rfl rfl (HD2.out.1 _) ?_
    go_wp2
    go_meet
    have hR:=HA.out.1.1.rbk HD2.out.2.1
    exact ⟨some x,pre ++ post,hR.1,HD2.out.2.2,HA.out.1.2.trans hR.2,HD2.out.2.1,rfl,hne,by rw [HRS.out.2.1,HRS.out.2.2],pre,post,HRS.out.1,rfl⟩
 obtain ⟨ox,rs1,hmid⟩:=hcut
 have HMD:=Lib.hid hmid
 have w6:=cell_of_row wc vb 6 _ _ (0,0) hmid.en.ev.blk
 simp [evC] at w6
 clear hmid v6 hX hW1
 go_upto_region 5 with (fail)
 go_cut [33] (fun s33 wx => s33 = .bool (nwA ox) ∧ wx = wc)
 case first =>
  have hox:=HMD.out.ox
  cases ox with
  | none =>
   obtain ⟨rfl,_⟩:=hox
   go_wp2
   go_meet
   exact ⟨rfl,rfl⟩
  | some x =>
   obtain ⟨rfl,hu1,hu2,pre,post,hrs,hu3⟩:=hox
   obtain ⟨_,_,N,cur,h3,_⟩:=HMD.out.en.nm.at_ x (by rw [hrs];simp)
   have q1:=cell_of_row wc x.q 1 _ _ (0,0) h3
   simp at q1
   clear h3 hrs hu1 hu2 hu3
   by_cases hz : x.s = 0
   ·rw [hz] at q1
    go_wp2
    go_meet
    simp [hz,nwA]
   ·have hz' : ¬ ((x.s : Nat) : Int) = 0:=by omega
    go_wp2
    go_meet
    simp [hz,nwA]
 obtain ⟨rfl,rfl⟩:=hcut
 go_upto_if 33 with (fail)
 go_cut [7] (fun s7 wx => ∃ rs1 x N,RdyA W0 B0 vb rb base m L w W1 s fv fc gv gc rs rs1 x N l s7 wx)
 case first =>
  cases hnw : nwA ox
  ·go_wp2
   go_meet
   have hmd:=HMD.out
   cases ox with
   | none => simp [nwA] at hnw
   | some x =>
    obtain ⟨e7,hne,rfl,pre,post,hrs,hrs1⟩:=hmd.ox
    have hz : x.s ≠ 0:=by simpa [nwA] using hnw
    subst hrs hrs1
    have hlast:=hmd.en.last
    obtain ⟨xb1,xq1,N,cur,h3,h4,h5,h6,h7⟩:=hmd.en.nm.at_ x (by simp)
    obtain ⟨g,o,e,hg,hat,hka⟩:=HL.out.2.2 hne
    cases e
    obtain ⟨o2,hd⟩:=hat.live hne
    obtain ⟨cs,hcs,hcz⟩:=hmd.kp.ka _ o2 _ hg hd (hka rfl)
    rw [h4] at hcs
    cases hcs
    have hNl : x.s + l.len = N:=by omega
    have hlt2:=HB.out.1.rmlt (x:=x) (by simp)
    exact ⟨pre ++ post,x,N,hlast.1,hmd.mp,hmd.kp.trans hlast.2,e7,by omega,hNl,h7,h3,⟨cur,h4,h5⟩,hat.keep (hmd.kp.trans hlast.2) hg,hmd.ho.st,hmd.ho.block _ (by rw [HA.out.2.2.2.2];omega) (by have:=HB.out.2;omega),by omega,by omega⟩
  ·have HNW:=Lib.hid hnw
   clear hnw
   have HMK:=Lib.hid (show ∃ cur : Array Value,cur.size = (2 * l.len + 4) * 8 ∧ (Instr.makeSlice 32 (.int .i64 (2 * (l.len : Int) + 4)) (.int .i64 (2 * (l.len : Int) + 4))).run Tryz.prog wc = .ok (.slice (some ⟨wc.heap.size,0,none⟩) (2 * l.len + 4) (2 * l.len + 4)) (wc.alloc (.cells cur 36)) by
    obtain ⟨i0,hi,hz0,hz1,hz2⟩:=info_parts Tryz.infoValue
    have:=run_make (P:=Tryz.prog) wc 32 36 i0 _ Tryz.undValues hi hz0 .i64 .i64 (2 * (l.len : Int) + 4) (2 * (l.len : Int) + 4) (by omega) (by omega) (by rw [hz2];omega) (by omega)
    rw [show (2 * (l.len : Int) + 4).toNat = 2 * l.len + 4 by omega,hz1] at this
    exact ⟨_,by simp [size_madeCells],this⟩)
   obtain ⟨cur,hcz,hmk⟩:=HMK.out
   have HMK:=Lib.hid hmk
   have hn2 : ((l.len : Nat) : Int) ≤ 400000:=by omega
   have hn3 : (0 : Int) ≤ ((l.len : Nat) : Int):=by omega
   clear hmk
   go_upto_region 8 with (at_make;refine wpList_make_raw rfl _ _ _ rfl _ _ _ rfl rfl HMK.out ?_)
   have HB1:=Lib.hid (show ∃ rs1,EvN W0 B0 vb rb base m L wc s fv fc gv gc rs1 ∧ Kp (Dd vb rb fv gv rs) w (Dd vb rb fv gv rs1) wc ∧ RmM wc rb rs1 from by
    have hmd:=HMD.out
    cases ox with
    | none => exact ⟨rs,hmd.en,hmd.kp,hmd.ox.2 ▸ hmd.mp⟩
    | some x =>
     obtain ⟨_,_,_,pre,post,hrs,hrs1⟩:=hmd.ox
     subst hrs hrs1
     exact ⟨pre ++ post,hmd.en.drop.1,hmd.kp.trans hmd.en.drop.2,hmd.mp⟩)
   obtain ⟨rs2,hb1,hb2,hb3⟩:=HB1.out
   have HB2:=Lib.hid (And.intro hb1 (And.intro hb2 hb3))
   clear hb1 hb2 hb3 w6
   generalize hW2 : (wc.alloc (.cells cur 36)).alloc (.cells #[.slice (some ⟨wc.heap.size,0,none⟩) (2 * l.len + 4) (2 * l.len + 4),.int .i64 (2 * (l.len : Int) + 4 - l.len)] 228) = W2
   have hr : W2.heap[wc.heap.size + 1]? = some (.cells #[.slice (some ⟨wc.heap.size,0,none⟩) (2 * l.len + 4) (2 * l.len + 4),.int .i64 ((l.len + 4 : Nat) : Int)] 228 (0,0)):=by
    rw [← hW2,show (2 * (l.len : Int) + 4 - l.len) = ((l.len + 4 : Nat) : Int) by omega]
    have:=heap_alloc_new (wc.alloc (.cells cur 36)) (.cells #[.slice (some ⟨wc.heap.size,0,none⟩) (2 * l.len + 4) (2 * l.len + 4),.int .i64 ((l.len + 4 : Nat) : Int)] 228)
    rw [show (wc.alloc (.cells cur 36)).heap.size = wc.heap.size + 1 by simp] at this
    exact this
   have ha : W2.heap[wc.heap.size]? = some (.cells cur 36 (0,0)):=by
    rw [← hW2]
    exact (Below.heap_alloc _ _ _ (by simp)).trans (heap_alloc_new _ _)
   have ho2 : Oth (fun _ => False) wc W2:=by rw [← hW2];exact ((Oth.refl _ _).alloc _).alloc _
   have q0:=cell_of_row W2 (wc.heap.size + 1) 0 _ _ (0,0) hr
   have q1:=cell_of_row W2 (wc.heap.size + 1) 1 _ _ (0,0) hr
   simp at q0 q1
   have HW:=Lib.hid (And.intro hr (And.intro ha ho2))
   clear hW2 hr ha ho2
   by_cases hne : l = .nil
   ·have h0 : l.len = 0:=by rw [hne];rfl
    rw [h0] at q0 q1
    have H0:=Lib.hid (And.intro h0 hne)
    clear h0 hne
    go_still_tail 10,(by kernel_rfl)
    change wpList _ _ _ _ _ W2.drew
    obtain ⟨i0,hi,hz0,hz1,hz2⟩:=info_parts Tryz.infoValue
    refine wpList_copy_raw rfl _ _ _ _ rfl _ _ _ rfl rfl (run_copy_zero W2.drew 32 32 _ 36 i0 _ _ _ _ _ _ Tryz.undValues hi (by rw [H0.out.1];rfl)) ?_
    go_wp2
    go_meet
    obtain ⟨h0,hne⟩:=H0.out
    have hnew:=HB2.out.1.new (w':=W2.drew) (x:=⟨wc.heap.size,4,wc.heap.size + 1⟩) (N:=4) (cur:=cur) HW.out.2.2.drew (Nat.le_refl _) (by show wc.heap.size ≤ wc.heap.size + 1;omega) (by have:=HW.out.1;rw [h0] at this;exact this) HW.out.2.1 (by rw [hcz,h0]) (by show (4 : Nat) ≤ 4;omega) (by omega)
    have hws : w.heap.size < wc.heap.size:=by
     have:=HMD.out.ho.size
     have:=HA.out.2.2.2.2
     omega
    refine ⟨rs2,⟨wc.heap.size,4,wc.heap.size + 1⟩,4,hnew.1,?_,HB2.out.2.1.trans hnew.2,rfl,by show (1 : Nat) ≤ 4;omega,by show 4 + l.len = 4;omega,by omega,by have:=HW.out.1;rw [h0] at this;exact this,⟨cur,HW.out.2.1,by rw [hcz,h0]⟩,by rw [hne];trivial,HMD.out.ho.st.trans HW.out.2.2.drew.st,?_,by show wc.heap.size ≠ _;omega,by show wc.heap.size + 1 ≠ _;omega⟩
    ·obtain ⟨es,cl,h1,h2⟩:=HB2.out.2.2
     exact ⟨es,cl,(HW.out.2.2.drew.block rb (lt_of_block h1) (fun e => e)).trans h1,h2⟩
    ·exact (HW.out.2.2.drew.block _ hws (fun e => e)).trans (HMD.out.ho.block _ (by rw [HA.out.2.2.2.2];omega) (by have:=HB.out.2;omega))
   ·have hl0 : 0 < l.len:=by
     cases l with
     | nil => exact absurd rfl hne
     | cons => simp [Vl.len]
    obtain ⟨st,hst⟩ : ∃ st,st = l.len + 4:=⟨_,rfl⟩
    obtain ⟨NN,hNN⟩ : ∃ NN,NN = 2 * l.len + 4:=⟨_,rfl⟩
    rw [← hNN] at q0
    rw [show ((l.len : Nat) : Int) + 4 = ((st : Nat) : Int) by omega] at q1
    have hs0 : (0 : Int) ≤ ((st : Nat) : Int):=by omega
    have hs1 : ((st : Nat) : Int) < ((NN : Nat) : Int):=by omega
    have hs2 : ((NN : Nat) : Int) ≤ 1000000:=by omega
    have hs3 : st ≤ NN:=by omega
    have hs4 : ¬ NN = st:=by omega
    have HSN:=Lib.hid (And.intro hst (And.intro hNN hne))
    clear hst hNN hne
    go_still_tail 10,(by kernel_rfl)
    change wpList _ _ _ _ _ W2.drew
    obtain ⟨g,o,rfl,hg,hat,hka⟩:=HL.out.2.2 HSN.out.2.2
    obtain ⟨o2,hd⟩:=hat.live HSN.out.2.2
    obtain ⟨ar,har,harz⟩:=HMD.out.kp.ka g o2 _ hg hd (hka rfl)
    have hat2:=hat.keep HB2.out.2.1 hg
    have hgc : g < wc.heap.size:=lt_of_block har
    have har2 : W2.drew.heap[g]? = some (.cells ar 36 (0,0)):=(HW.out.2.2.drew.block g hgc (fun e => e)).trans har
    obtain ⟨cs,hcs⟩ : ∃ cs,cs = ar.toList.drop o:=⟨_,rfl⟩
    have hcl : cs.length = l.len * 8:=by
     rw [hcs,List.length_drop,Array.length_toList,harz]
     omega
    have hcg : ∀ j,cs[j]? = ar[o + j]?:=fun j => by rw [hcs,List.getElem?_drop,Array.getElem?_toList]
    have hst:=HSN.out.1
    have hNN:=HSN.out.2.1
    obtain ⟨i0,hi,hz0,hz1,hz2⟩:=info_parts Tryz.infoValue
    have hrun:=run_copy_big (P:=Tryz.prog) W2.drew 32 32 3 36 i0 wc.heap.size (st * 8) (NN - st) (NN - st) ⟨g,o,none⟩ l.len c cur 36 cs Tryz.undValues hi HW.out.2.1 (by rw [hcl,hz1,show NN - st = l.len by omega];simp) (fun j u hj => by
     rw [hcg] at hj
     rw [addr_add]
     exact (cell_of_row W2.drew g (o + j) _ _ _ har2).trans hj) (by rw [hcl,hcz];omega) (fun u hu => by
     obtain ⟨j,hj,hju⟩:=List.getElem_of_mem hu
     obtain ⟨u',hu',h1⟩:=hat2.one j (by omega)
     rw [cell_of_row wc g (o + j) _ _ _ har,← hcg,List.getElem?_eq_getElem hj,hju] at hu'
     cases hu'
     exact h1)
    refine wpList_copy_raw rfl _ _ _ _ rfl _ _ _ rfl rfl hrun ?_
    obtain ⟨W3,hW3⟩ : ∃ Q9,W2.drew.setRow wc.heap.size (cur.toList.take (st * 8) ++ cs ++ cur.toList.drop (st * 8 + cs.length)).toArray = Q9:=⟨_,rfl⟩
    rw [hW3]
    have HW3:=Lib.hid hW3
    have HCS:=Lib.hid (And.intro hcl (And.intro hcg (And.intro har (And.intro hat2 hgc))))
    have HST:=Lib.hid (And.intro hst hNN)
    clear hrun hW3 hcl hcg har hat2 har2 hat hka harz hcs hst hNN
    go_wp2
    go_meet
    obtain ⟨hst,hNN⟩:=HST.out
    obtain ⟨hcl,hcg,har,hat2,hgc⟩:=HCS.out
    have hW3:=HW3.out
    have hws : w.heap.size < wc.heap.size:=by
     have:=HMD.out.ho.size
     have:=HA.out.2.2.2.2
     omega
    have ho3 : Oth (fun _ => False) wc W3:=by
     rw [← hW3]
     have:=HW.out.2.2.drew
     exact ⟨this.os,this.tape,this.output,by simpa [World.setRow] using this.size,fun k hk e => (setRow_other W2.drew wc.heap.size k _ (by omega)).trans (this.block k hk e)⟩
    have hroom : W3.heap[wc.heap.size + 1]? = some (.cells #[.slice (some ⟨wc.heap.size,0,none⟩) NN NN,.int .i64 ((st : Nat) : Int)] 228 (0,0)):=by
     rw [← hW3,hst,hNN]
     exact (setRow_other W2.drew wc.heap.size (wc.heap.size + 1) _ (by omega)).trans HW.out.1
    have harr : W3.heap[wc.heap.size]? = some (.cells (cur.toList.take (st * 8) ++ cs ++ cur.toList.drop (st * 8 + cs.length)).toArray 36 (0,0)):=by
     rw [← hW3]
     exact setRow_heap W2.drew wc.heap.size cur _ 36 _ HW.out.2.1
    have hasz : (cur.toList.take (st * 8) ++ cs ++ cur.toList.drop (st * 8 + cs.length)).toArray.size = NN * 8:=by
     simp only [List.size_toArray,List.length_append,List.length_take,List.length_drop,Array.length_toList,hcl,hcz]
     omega
    have hnew:=HB2.out.1.new (w':=W3) (x:=⟨wc.heap.size,st,wc.heap.size + 1⟩) (N:=NN) ho3 (Nat.le_refl _) (by show wc.heap.size ≤ wc.heap.size + 1;omega) hroom harr hasz (by show st ≤ NN;omega) (by omega)
    refine ⟨rs2,⟨wc.heap.size,st,wc.heap.size + 1⟩,NN,hnew.1,?_,HB2.out.2.1.trans hnew.2,rfl,by show 1 ≤ st;omega,by show st + l.len = NN;omega,by omega,hroom,⟨_,harr,hasz⟩,Vl.At.copy hnew.2 hgc (fun t ht => ⟨?_,fun e => ?_⟩) hat2,HMD.out.ho.st.trans ho3.st,?_,by show wc.heap.size ≠ _;omega,by show wc.heap.size + 1 ≠ _;omega⟩
    ·obtain ⟨es,cl,h1,h2⟩:=HB2.out.2.2
     exact ⟨es,cl,(ho3.block rb (lt_of_block h1) (fun e => e)).trans h1,h2⟩
    ·have ht' : t < cs.length:=by rw [hcl];simpa [off] using ht
     have htk : (cur.toList.take (st * 8)).length = st * 8:=by rw [List.length_take,Array.length_toList,hcz];omega
     rw [cell_of_row W3 _ _ _ _ _ harr,cell_of_row wc g (o + t) _ _ _ har,← hcg,List.getElem?_toArray,List.append_assoc,List.getElem?_append_right (by rw [htk];show st * 8 ≤ st * 8 + t;omega),htk,show st * 8 + t - st * 8 = t by omega,List.getElem?_append_left ht']
    ·rcases e with e | e | e | e | ⟨y,hy,e⟩
     ·have:=HB.out.2
      simp only at e
      omega
     ·have:=HB.out.2
      simp only at e
      omega
     ·have:=(HB2.out.1.ownB (.inl e)).2
      simp only at this
      omega
     ·have:=(HB2.out.1.ownB (.inr e)).2
      simp only at this
      omega
     ·rcases List.mem_append.1 hy with hy | hy
      ·have:=HB2.out.1.rmlt hy
       simp only at e
       omega
      ·rw [List.mem_singleton.1 hy] at e
       simp only at e
       omega
    ·exact (ho3.block _ hws (fun e => e)).trans (HMD.out.ho.block _ (by rw [HA.out.2.2.2.2];omega) (by have:=HB.out.2;omega))
 obtain ⟨rs1,⟨xb,xs,xq⟩,N,hrdy⟩:=hcut
 obtain ⟨p,rfl⟩ : ∃ p,xs = p + 1:=⟨xs - 1,by have:=hrdy.hs;simp only at this;omega⟩
 obtain ⟨cur,hcb,hcz⟩:=hrdy.hb
 obtain rfl:=hrdy.s7
 have hN:=hrdy.hN
 have hpl:=hrdy.hl
 have hq:=hrdy.hq
 simp only at hq hpl hcb
 have q0:=cell_of_row wc xq 0 _ _ (0,0) hq
 have q1:=cell_of_row wc xq 1 _ _ (0,0) hq
 have r1:=frozen_of_row wc xq 1 _ _ hq
 simp at q0 q1
 have hp0 : ((p : Nat) : Int) ≤ 1000000:=by omega
 have hp1 : (0 : Int) ≤ ((p : Nat) : Int):=by omega
 have HR:=Lib.hid (And.intro hrdy (And.intro hcb (And.intro hcz (And.intro hN (And.intro hpl hq)))))
 clear hrdy hcb hcz hN hpl hq w6
 have hp3 : p ≤ N:=by have:=HR.out.2.2.2.2.1;omega
 have hp4 : ¬ N = p:=by have:=HR.out.2.2.2.2.1;omega
 go_upto_region 10 with (fail)
 obtain ⟨V1,hV1⟩ : ∃ Q9,wc.setCell ⟨xq,1,none⟩ (.int .i64 ((p : Nat) : Int)) = Q9:=⟨_,rfl⟩
 rw [hV1]
 clear q0 q1 r1
 have hbq : xb ≠ xq:=fun e => by
  have h1:=HR.out.2.1
  rw [e,HR.out.2.2.2.2.2] at h1
  cases h1
 have ho1 : Oth (· = xq) wc V1:=by rw [← hV1];exact (Oth.refl (· = xq) wc).setCell (fun _ => rfl) _
 have hq1 : V1.heap[xq]? = some (.cells #[.slice (some ⟨xb,0,none⟩) N N,.int .i64 ((p : Nat) : Int)] 228 (0,0)):=by
  rw [← hV1]
  simpa using Joins.block_setCell HR.out.2.2.2.2.2 (i:=1) (.int .i64 ((p : Nat) : Int))
 have hb1 : V1.heap[xb]? = some (.cells cur 36 (0,0)):=(ho1.block xb (lt_of_block HR.out.2.1) hbq).trans HR.out.2.1
 have hxl : w.heap.size < wc.heap.size:=by
  have:=HR.out.1.x0.trans HA.out.2.2.1
  exact lt_of_block this
 have hx1:=(ho1.block w.heap.size hxl (fun e => HR.out.1.nx.2 e.symm)).trans (HR.out.1.x0.trans HA.out.2.2.1)
 have q0:=cell_of_row V1 xq 0 _ _ (0,0) hq1
 have q1:=cell_of_row V1 xq 1 _ _ (0,0) hq1
 simp at q0 q1
 obtain ⟨x0,x1,x2,x3,x4,x5,x6,x7,_,_,_,_,_,_,_,_⟩:=row8 hx1
 have hcell : ∀ j,j < 8 → ∃ u,V1.cell? ⟨xb,p * 8 + j,none⟩ = some u:=fun j hj => ⟨_,(cell_of_row V1 xb _ _ _ _ hb1).trans (Array.getElem?_eq_getElem (by rw [HR.out.2.2.1];omega))⟩
 obtain ⟨z0,y0⟩:=hcell 0 (by omega)
 obtain ⟨z1,y1⟩:=hcell 1 (by omega)
 obtain ⟨z2,y2⟩:=hcell 2 (by omega)
 obtain ⟨z3,y3⟩:=hcell 3 (by omega)
 obtain ⟨z4,y4⟩:=hcell 4 (by omega)
 obtain ⟨z5,y5⟩:=hcell 5 (by omega)
 obtain ⟨z6,y6⟩:=hcell 6 (by omega)
 obtain ⟨z7,y7⟩:=hcell 7 (by omega)
 rw [Nat.add_zero] at y0
 have f0:=frozen_of_row V1 xb (p * 8) _ _ hb1
 have f1:=frozen_of_row V1 xb (p * 8 + 1) _ _ hb1
 have f2:=frozen_of_row V1 xb (p * 8 + 2) _ _ hb1
 have f3:=frozen_of_row V1 xb (p * 8 + 3) _ _ hb1
 have f4:=frozen_of_row V1 xb (p * 8 + 4) _ _ hb1
 have f5:=frozen_of_row V1 xb (p * 8 + 5) _ _ hb1
 have f6:=frozen_of_row V1 xb (p * 8 + 6) _ _ hb1
 have f7:=frozen_of_row V1 xb (p * 8 + 7) _ _ hb1
 have hp2 : ((p : Nat) : Int) < ((N : Nat) : Int):=by have:=HR.out.2.2.2.2.1;omega
 have HV1:=Lib.hid (And.intro ho1 (And.intro hq1 (And.intro hb1 hbq)))
 clear hV1 ho1 hq1 hb1 hbq hx1 hcell hxl
 go_still_tail 10,(by kernel_rfl)
 change wpList _ _ _ _ _ V1.drew
 go_upto_region 11 with (fail)
 obtain ⟨V2,hV2⟩ : ∃ Q9,((((((((V1.setCell ⟨xb,p * 8,none⟩ (.int .i64 v.k)).setCell ⟨xb,p * 8 + 1,none⟩ (.int .i64 v.i)).setCell ⟨xb,p * 8 + 2,none⟩ (.slice lA v.l.len lc)).setCell ⟨xb,p * 8 + 3,none⟩ (.int .i64 0)).setCell ⟨xb,p * 8 + 4,none⟩ (.string v.p)).setCell ⟨xb,p * 8 + 5,none⟩ (.string v.q)).setCell ⟨xb,p * 8 + 6,none⟩ (.slice bA v.b.len bc)).setCell ⟨xb,p * 8 + 7,none⟩ (.slice eA v.e.len ec)).drew = Q9:=⟨_,rfl⟩
 rw [hV2]
 clear q0 q1 x0 x1 x2 x3 x4 x5 x6 x7 y0 y1 y2 y3 y4 y5 y6 y7 f0 f1 f2 f3 f4 f5 f6 f7
 have ho2 : Oth (· = xb) V1 V2:=by rw [← hV2];exact (oth8 V1 xb (p * 8) _ _ _ _ _ _ _ _).drew
 have hb2 : V2.heap[xb]? = some (.cells (setAll cur (p * 8) (v.cells lA lc bA bc eA ec)) 36 (0,0)):=by
  rw [← hV2,heap_drew1]
  exact store8 _ _ _ _ _ _ _ _ HV1.out.2.2.1
 have hq2 : V2.heap[xq]? = some (.cells #[.slice (some ⟨xb,0,none⟩) N N,.int .i64 ((p : Nat) : Int)] 228 (0,0)):=(ho2.block xq (lt_of_block HV1.out.2.1) (fun e => HV1.out.2.2.2 e.symm)).trans HV1.out.2.1
 obtain ⟨xb1,xq1,_⟩:=HR.out.1.en.nm.at_ ⟨xb,p + 1,xq⟩ (by simp)
 simp only at xb1 xq1
 have hoo : Oth (fun k => k = rb ∨ k = xq ∨ k = xb) wc V2:=(HV1.out.1.mono fun _ _ e => .inr (.inl e)).trans (ho2.mono fun _ _ e => .inr (.inr e))
 have hm2 : RmM V2 rb rs1:=by
  obtain ⟨es,cl,h1,h2⟩:=HR.out.1.mp
  have hb:=lt_of_block h1
  refine ⟨es,cl,(ho2.block rb (Nat.lt_of_lt_of_le hb HV1.out.1.size) (by omega)).trans ((HV1.out.1.block rb hb (by omega)).trans h1),h2⟩
 have hvb2 : V2.cell? ⟨vb,6,none⟩ = some (.map (some rb)):=by
  have hb:=lt_of_block HR.out.1.en.ev.blk
  rw [World.cell?_of_block (ho2.block vb (Nat.lt_of_lt_of_le hb HV1.out.1.size) (by omega)),World.cell?_of_block (HV1.out.1.block vb hb (by omega)),cell_of_row wc vb 6 _ _ _ HR.out.1.en.ev.blk]
  simp [evC]
 have hka2 : ∀ y ∈ rs1,∃ n,Ka V2 y.b n:=fun y hy => by
  obtain ⟨_,_,N',cur2,a3,a4,_⟩:=HR.out.1.en.nm.at_ y (by simp [hy])
  have hd:=(List.pairwise_append.1 HR.out.1.en.nm.dis).2.2 y hy ⟨xb,p + 1,xq⟩ (by simp)
  simp only at hd
  refine ⟨_,cur2,(ho2.block _ (Nat.lt_of_lt_of_le (lt_of_block a4) HV1.out.1.size) hd.1).trans ((HV1.out.1.block _ (lt_of_block a4) fun e => ?_).trans a4),rfl⟩
  rw [e,HR.out.2.2.2.2.2] at a4
  cases a4
 obtain ⟨O,hO,hrun,hm3⟩:=hm2.push hka2 (x:=⟨xb,p,xq⟩) ⟨_,hb2,rfl⟩ (fun y hy => ((List.pairwise_append.1 HR.out.1.en.nm.dis).2.2 y hy ⟨xb,p + 1,xq⟩ (by simp)).1.symm)
 have q0:=cell_of_row V2 xq 0 _ _ (0,0) hq2
 have q1:=cell_of_row V2 xq 1 _ _ (0,0) hq2
 simp at q0 q1
 have HV2:=Lib.hid (And.intro hoo (And.intro hb2 (And.intro hq2 (And.intro hrun (And.intro hm3 (And.intro xb1 xq1))))))
 clear hV2 ho2 hb2 hq2 hoo hm2 hka2 hrun hm3 xb1 xq1 HV1 hO
 go_still_tail 14,(by kernel_rfl)
 change wpList _ _ _ _ _ V2.drew
 refine wpList_update_raw rfl _ _ _ _ rfl _ _ _ rfl rfl rfl (HV2.out.2.2.2.1 1) ?_
 obtain ⟨V3,hV3⟩ : ∃ Q9,(V2.drewN 1).putObj rb O = Q9:=⟨_,rfl⟩
 rw [hV3]
 have ho3 : Oth (· = rb) V2 V3:=by rw [← hV3];exact oth_put V2 1 rb O
 have hm3 : RmM V3 rb (rs1 ++ [⟨xb,p,xq⟩]):=by rw [← hV3];exact HV2.out.2.2.2.2.1
 have hq3:=(ho3.block xq (lt_of_block HV2.out.2.2.1) (by have:=HV2.out.2.2.2.2.2.2;omega)).trans HV2.out.2.2.1
 have hb3:=(ho3.block xb (lt_of_block HV2.out.2.1) (by have:=HV2.out.2.2.2.2.2.1;omega)).trans HV2.out.2.1
 clear q0 q1 hvb2 hV3
 have q0:=cell_of_row V3 xq 0 _ _ (0,0) hq3
 have q1:=cell_of_row V3 xq 1 _ _ (0,0) hq3
 simp at q0 q1
 have HV3:=Lib.hid (And.intro ho3 (And.intro hm3 (And.intro hq3 hb3)))
 clear ho3 hm3 hq3 hb3
 go_wp2
 go_quiet (fail)
 go_wp2
 go_ret
 obtain ⟨hrdy,hcb,hcz,hN,hpl,hq⟩:=HR.out
 have h8 : ∀ (us : List Value),us.length = 8 → p * 8 + us.length ≤ cur.size:=fun us e => by rw [e,hcz];omega
 have hfin:=hrdy.en.fin (x:=⟨xb,p + 1,xq⟩) (N:=N) (l:=l) (w':=V3.drewN nq) (cur:=cur) (cur':=setAll cur (p * 8) (v.cells lA lc bA bc eA ec)) hrdy.hs hpl hN hrdy.la (HV.out.keep hrdy.kp) ((HV2.out.1.trans (HV3.out.1.mono fun _ _ e => .inl e)).drewN nq) hq HV3.out.2.2.1 hcb hcz HV3.out.2.2.2 (setAll_size _ _ _) (fun i hi => setAll_other _ _ _ _ (.inr (by simp only at hi;show p * 8 + 8 ≤ i;omega))) (fun t c hc => setAll_in _ _ _ _ _ (h8 _ rfl) hc) HV3.out.2.1
 refine ⟨some ⟨xb,p * 8,none⟩,N - p,by rw [show l.len + 1 = N - p by omega];rfl,_,hfin.1,hrdy.kp.trans hfin.2.1,(HA.out.2.2.2.1.st.trans hrdy.st).trans (HV2.out.1.trans (HV3.out.1.mono fun _ _ e => .inl e)).st,hfin.2.2⟩
end
end Go.Proofs.YtnfndgmlnoeelaaGreatDoor
