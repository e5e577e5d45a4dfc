/- A range over a function whose iterator turns one cell of its own, over a builder that grows: a law for a body that never stops early. Nothing of a program. -/
import Derived.Test.YtnfndgmlnoeelaaGreatDoorZlb
import Derived.Lib.OthersKept
import Derived.Lib.UnsafeStr
import Derived.Test.YtnfndgmlnoeelaaGreatDoorProg
import Derived.WalkKit
import Derived.KernelRfl
import Derived.Shelf.Strings.BuilderK
import Derived.Shelf.Abstract
import Derived.OwnWalkIn
import Derived.TacticsInMore
import Derived.LoopNIn
import Derived.LoopIn
import Derived.IntWalk
import Derived.Lib.Hide
namespace Go.Proofs.YtnfndgmlnoeelaaGreatDoor
open Go Go.RowKit
def IterB {α : Type} (P : Program) (gf : Nat) (lb : Array Value) (encs : α → Array Value) (nb : Nat) (ti : TypeId) (xs : List α) (w : World) : Prop:=
 ∀ (l : Nat) (J : List α → World → Prop) (W : World),Keeps (fun _ => True) w W →
  (∀ s X v,J s X → (∃ c fz,X.heap[nb]? = some (.cells c ti fz)) → J s (X.setCell ⟨nb,0,none⟩ v)) →
  (∀ pre x X,pre ++ [x] <+: xs → J pre X → YieldAt Fence.wide 0 P l (encs x) X fun e Y =>
   e = .returned (.bool true) ∧ J (pre ++ [x]) Y ∧ (∀ c fz,X.heap[nb]? = some (.cells c ti fz) → Y.heap[nb]? = some (.cells c ti fz))) →
  J [] W →
  CallsIn Fence.wide 0 P gf (#[.func (.yield l) #[] #[]] ++ lb) W fun e W' => (∃ v,e = .returned v) ∧ J xs W'
def rndB {α : Type} (e : TypeId) (b : Nat) (I : List α → World → Prop) (xs : List α) (W : World) : Exit → Act → World → Prop
 | .normal,_,W' => Lib.OthersKept e (some b) W W' ∧ I xs W'
 | _,_,_ => False
theorem wpIn_rangeB {P : Program} {α : Type} {g : Operand} {ps : Array Tmp} {assign body : Code} {Q : Exit → Act → World → Prop} {a : Act} {w : World}
  {gf : Nat} {lb : Array Value} (hg : a.eval g = .func (.func gf) #[] lb) (eg : ∀ args w,(callFunc gf args).run P w = .ok (.enter gf args) w)
  {encs : α → Array Value} {nb : Nat} {ti : TypeId} {xs : List α} {w0 : World} (hit : IterB P gf lb encs nb ti xs w0) (hw0 : Keeps (fun _ => True) w0 w) (hps : ∀ x,(encs x).size = ps.size)
  (e : TypeId) (b : Nat) (hb : b < w.heap.size) (hnb : nb < w.heap.size) (hne : nb ≠ b) (hte : ti ≠ e)
  (I : List α → World → Prop)
  (hIs : ∀ s X v,I s X → (∃ c fz,X.heap[nb]? = some (.cells c ti fz)) → I s (X.setCell ⟨nb,0,none⟩ v))
  (hIp : ∀ s X r o,I s X → X.heap[w.heap.size + 1]? = some (.loop r) → I s (X.putObj (w.heap.size + 1) o))
  (hIa : ∀ s X o,I s X → w.heap.size ≤ X.heap.size → I s (X.alloc o))
  (h0 : I [] w) (a₁ : α → Act)
  (hassign : ∀ (l : Nat) (x : α) (W : World) (K : Act → World → Prop),K (a₁ x) W →
   assign.wpIn (Fence.wide.inRound l) 0 P (Exit.then K (fun _ _ _ => False)) { tmps:=(ps.zip (encs x)).foldl (fun t (p,v) => t.setIfInBounds p v) a.tmps,defers:=[] } W)
  (hbody : ∀ (l : Nat) (pre : List α) (x : α) (W : World),pre ++ [x] <+: xs → I pre W → w.heap.size ≤ W.heap.size → body.wpIn (Fence.wide.inRound l) 0 P (rndB e b I (pre ++ [x]) W) (a₁ x) W)
  (hdone : ∀ (D : Nat) (W : World),w.heap.size ≤ D → I xs W → W.heap[D]? = some (.deferred (some [])) → Q .normal { a with defers:={ target:=.collected D,args:=#[] } :: a.defers } W) :
  (Code.rangeFunc g ps assign body).wpIn Fence.wide 0 P Q a w:=by
 refine wpIn_rangeFunc ?_
 intro fn hfn
 show ∃ (l : Nat) (mark : List Deferred) (w₁ : World) (d : Deferred) (w₁' : World) (f : FuncId) (args : Array Value) (w₂ : World),(Instr.enterLoop fn a.tmps ps assign body none).run P w = .ok (l,mark) w₁ ∧ _
 obtain ⟨rec,hrec⟩ : ∃ rec : LoopState → Option Code → Loop,rec = fun st pe => { state:=st,pending:=pe,fn,tmps:=a.tmps,params:=ps,assign,body,defers:=w.heap.size }:=⟨_,rfl⟩
 obtain ⟨W1,hW1⟩ : ∃ W1,(w.alloc (.deferred (some []))).alloc (.loop (rec .ready none)) = W1:=⟨_,rfl⟩
 have hL1 : W1.heap[w.heap.size + 1]? = some (.loop (rec .ready none)):=by
  rw [← hW1];have:=World.alloc_heap_new (w.alloc (.deferred (some []))) (.loop (rec .ready none));rwa [World.size_alloc] at this
 have hD1 : W1.heap[w.heap.size]? = some (.deferred (some [])):=by
  rw [← hW1];exact (Below.heap_alloc _ _ _ (by simp)).trans (World.alloc_heap_new w _)
 have hz1 : W1.heap.size = w.heap.size + 2:=by rw [← hW1];simp
 have hk1 : Keeps (fun _ => True) w W1:=by rw [← hW1];exact ((Keeps.refl _ w).alloc _).alloc _
 have hI1 : I [] W1:=by rw [← hW1];exact hIa _ _ _ (hIa _ _ _ h0 (Nat.le_refl _)) (by simp)
 refine ⟨w.heap.size + 1,[{ target:=.collected w.heap.size,args:=#[] }],W1,{ target:=.fn (.func gf) lb,args:=#[.func (.yield (w.heap.size + 1)) #[] #[]] },W1,gf,
  #[.func (.yield (w.heap.size + 1)) #[] #[]] ++ lb,W1,?_,?_,?_,?_,?_,?_⟩
 ·rw [← hW1,hrec];exact run_enterLoop_outer _ _ _ _ _
 ·simp only [resolve,hg]
  simp [go_sem]
 ·intro f' _;trivial
 ·simp [invoke,go_sem,eg]
 ·intro h;simp [Fence.wide] at h
 ·refine (hit (w.heap.size + 1)
   (fun pre W => I pre W ∧ W.heap[w.heap.size + 1]? = some (.loop (rec .ready none)) ∧ W.heap[w.heap.size]? = some (.deferred (some [])))
   W1 (hw0.trans hk1)
   (fun s X v hs hc => ⟨hIs s X v hs.1 hc,(Below.heap_setCell _ _ _ _ (by simp;omega)).trans hs.2.1,(Below.heap_setCell _ _ _ _ (by simp;omega)).trans hs.2.2⟩)
   ?_ ⟨hI1,hL1,hD1⟩).mono ?_
  ·rintro pre x W hpre ⟨hi,hl,hk⟩
   have hlt : w.heap.size + 1 < W.heap.size:=(Array.getElem?_eq_some_iff.1 hl).1
   have hy:=run_yield (P:=P) (args:=encs x) hl (by rw [hrec];exact hps x)
   rw [hrec] at hy
   refine ⟨fn,_,assign,body,hy,roundIn_of_wpIn hfn (hassign _ x W _ ?_)⟩
   refine ⟨_,run_beginRound hl (by rw [hrec]),?_⟩
   obtain ⟨W2,hW2⟩ : ∃ W2,W.putObj (w.heap.size + 1) (.loop { rec .ready none with state:=.busy }) = W2:=⟨_,rfl⟩
   rw [hW2]
   have hl2 : W2.heap[w.heap.size + 1]? = some (.loop { rec .ready none with state:=.busy }):=by rw [← hW2];exact World.putObj_heap_same hlt
   have hk2 : W2.heap[w.heap.size]? = some (.deferred (some [])):=by rw [← hW2];exact (World.putObj_heap_other (by omega)).trans hk
   have hi2 : I pre W2:=by rw [← hW2];exact hIp _ _ _ _ hi hl
   have hs2 : w.heap.size ≤ W2.heap.size:=by have:=(Array.getElem?_eq_some_iff.1 hl2).1;omega
   refine wpIn_mono (hbody _ pre x _ hpre hi2 hs2) ?_
   rintro ex a3 W3 hp
   cases ex with
   | normal =>
    obtain ⟨hk3,hi3⟩:=hp
    have hl3 : W3.heap[w.heap.size + 1]? = some (.loop { rec .ready none with state:=.busy }):=hk3 _ _ hl2 (by intro h;cases h;omega) (fun c fz h => by cases h)
    have hd3 : W3.heap[w.heap.size]? = some (.deferred (some [])):=hk3 _ _ hk2 (by intro h;cases h;omega) (fun c fz h => by cases h)
    have hr:=run_endRound (P:=P) none hl3
    rw [hrec] at hr
    refine ⟨_,_,hr,rfl,⟨hIp _ _ _ _ hi3 hl3,?_,(World.putObj_heap_other (by omega)).trans hd3⟩,fun c fz hc => ?_⟩
    ·rw [hrec];exact World.putObj_heap_same (Array.getElem?_eq_some_iff.1 hl3).1
    ·have h2 : W2.heap[nb]? = some (.cells c ti fz):=by rw [← hW2];exact (World.putObj_heap_other (by omega)).trans hc
     have h3 : W3.heap[nb]? = some (.cells c ti fz):=hk3 _ _ h2 (by intro h;exact hne (Option.some.inj h)) (fun c' fz' h => hte (by injection h))
     exact (World.putObj_heap_other (by omega)).trans h3
   | ret => exact hp.elim
   | exit id => exact hp.elim
   | goto t => exact hp.elim
   | panic ch => exact hp.elim
   | outgrown => exact hp.elim
  ·rintro ed W2 ⟨⟨v,rfl⟩,hi,hl,hk⟩
   exact ⟨none,_,by have:=run_endLoop (P:=P) hl (by rw [hrec];simp);rw [hrec] at this;exact this,hdone _ _ (Nat.le_refl _) (hIp _ _ _ _ hi hl) ((World.putObj_heap_other (by omega)).trans hk)⟩
end Go.Proofs.YtnfndgmlnoeelaaGreatDoor
/- Numbers and texts as bytes, in plain words -/
namespace Go.Proofs.YtnfndgmlnoeelaaGreatDoor
open Go
def encL (n : Nat) : List UInt8:=if n < 128 then [UInt8.ofNat n] else UInt8.ofNat (n % 128 + 128) :: encL (n / 128)
termination_by n
decreasing_by omega
theorem encL_small {n : Nat} (h : n < 128) : encL n = [UInt8.ofNat n]:=by rw [encL,if_pos h]
theorem encL_big {n : Nat} (h : ¬ n < 128) : encL n = UInt8.ofNat (n % 128 + 128) :: encL (n / 128):=by rw [encL,if_neg h]
theorem encL_len : ∀ (k n : Nat),n < 128 ^ (k + 1) → (encL n).length ≤ k + 1
 | 0,n,h => by rw [encL_small (by simpa using h)];simp
 | k + 1,n,h => by
  by_cases hn : n < 128
  ·rw [encL_small hn];simp
  ·rw [encL_big hn,List.length_cons]
   have:=encL_len k (n / 128) (by rw [Nat.pow_succ] at h;omega)
   omega
theorem encL_40 {n : Nat} (h : n ≤ 1099511627776) : (encL n).length ≤ 6:=encL_len 5 n (by omega)
def numL (n : Int) : List UInt8:=if 0 ≤ n ∧ n ≤ 1099511627776 then encL n.toNat else []
def txtL (s : ByteArray) : List UInt8:=if s.size ≤ 65536 then encL s.size ++ s.data.toList else []
theorem numL_len (n : Int) : (numL n).length ≤ 6:=by
 unfold numL
 split
 ·exact encL_40 (by omega)
 ·simp
theorem u8_nat {n : Nat} (h : n < 256) : ((UInt8.ofNat n).toNat : Int) = (n : Int):=by
 rw [UInt8.toNat_ofNat',Nat.mod_eq_of_lt (by simpa using h)]
end Go.Proofs.YtnfndgmlnoeelaaGreatDoor
/- Contracts of strings.Builder, laid at this program (printed by gen_lyb.py) -/
namespace Go.Proofs
open Go.Shelf
def Tryz.laysB_ren : Ren where
 f:=fun x => match x with
  | 166 => 32
  | 167 => 101
  | 169 => 36
  | 240 => 66
  | 276 => 102
  | n => n
 t:=fun x => match x with
  | 0 => 0
  | 3 => 3
  | 4 => 4
  | 5 => 5
  | 9 => 9
  | 20 => 20
  | 37 => 88
  | 70 => 87
  | 72 => 90
  | 75 => 93
  | 80 => 100
  | 127 => 150
  | 164 => 177
  | n => n
 g:=fun x => x
set_option maxRecDepth 100000 in
theorem Tryz.laysWS : Lays.n166 Tryz.prog Tryz.laysB_ren where
 mixed:=by kernel_rfl
 f166:=Tryz.func32.trans (congrArg some (by kernel_rfl))
 f240:=Tryz.func66.trans (congrArg some (by kernel_rfl))
 f276:=Tryz.func102.trans (congrArg some (by kernel_rfl))
 t0:=Tryz.underlying0
 a0:=Tryz.isAgg0
 z0:=Tryz.sizeOf0
 v0:=Tryz.zeroValue0
 t3:=Tryz.underlying3
 a3:=Tryz.isAgg3
 z3:=Tryz.sizeOf3
 v3:=Tryz.zeroValue3
 t4:=Tryz.underlying4
 a4:=Tryz.isAgg4
 z4:=Tryz.sizeOf4
 v4:=Tryz.zeroValue4
 t9:=Tryz.underlying9
 a9:=Tryz.isAgg9
 z9:=Tryz.sizeOf9
 v9:=Tryz.zeroValue9
 t20:=Tryz.underlying20
 a20:=Tryz.isAgg20
 z20:=Tryz.sizeOf20
 v20:=Tryz.zeroValue20
 t37:=Tryz.underlying88
 a37:=Tryz.isAgg88
 z37:=Tryz.sizeOf88
 v37:=Tryz.zeroValue88
 t70:=Tryz.underlying87
 a70:=Tryz.isAgg87
 z70:=Tryz.sizeOf87
 v70:=Tryz.zeroValue87
 t72:=Tryz.underlying90
 a72:=Tryz.isAgg90
 z72:=Tryz.sizeOf90
 v72:=Tryz.zeroValue90
 t75:=Tryz.underlying93
 a75:=Tryz.isAgg93
 z75:=Tryz.sizeOf93
 v75:=Tryz.zeroValue93
 t164:=Tryz.underlying177
 a164:=Tryz.isAgg177
 z164:=Tryz.sizeOf177
 v164:=Tryz.zeroValue177
set_option maxRecDepth 100000 in
theorem Tryz.laysWB : Lays.n167 Tryz.prog Tryz.laysB_ren where
 mixed:=by kernel_rfl
 f167:=Tryz.func101.trans (congrArg some (by kernel_rfl))
 f240:=Tryz.func66.trans (congrArg some (by kernel_rfl))
 f276:=Tryz.func102.trans (congrArg some (by kernel_rfl))
 t0:=Tryz.underlying0
 a0:=Tryz.isAgg0
 z0:=Tryz.sizeOf0
 v0:=Tryz.zeroValue0
 t4:=Tryz.underlying4
 a4:=Tryz.isAgg4
 z4:=Tryz.sizeOf4
 v4:=Tryz.zeroValue4
 t5:=Tryz.underlying5
 a5:=Tryz.isAgg5
 z5:=Tryz.sizeOf5
 v5:=Tryz.zeroValue5
 t9:=Tryz.underlying9
 a9:=Tryz.isAgg9
 z9:=Tryz.sizeOf9
 v9:=Tryz.zeroValue9
 t20:=Tryz.underlying20
 a20:=Tryz.isAgg20
 z20:=Tryz.sizeOf20
 v20:=Tryz.zeroValue20
 t37:=Tryz.underlying88
 a37:=Tryz.isAgg88
 z37:=Tryz.sizeOf88
 v37:=Tryz.zeroValue88
 t70:=Tryz.underlying87
 a70:=Tryz.isAgg87
 z70:=Tryz.sizeOf87
 v70:=Tryz.zeroValue87
 t72:=Tryz.underlying90
 a72:=Tryz.isAgg90
 z72:=Tryz.sizeOf90
 v72:=Tryz.zeroValue90
 t75:=Tryz.underlying93
 a75:=Tryz.isAgg93
 z75:=Tryz.sizeOf93
 v75:=Tryz.zeroValue93
 t164:=Tryz.underlying177
 a164:=Tryz.isAgg177
 z164:=Tryz.sizeOf177
 v164:=Tryz.zeroValue177
set_option maxRecDepth 100000 in
theorem Tryz.laysBS : Lays.n169 Tryz.prog Tryz.laysB_ren where
 mixed:=by kernel_rfl
 f169:=Tryz.func36.trans (congrArg some (by kernel_rfl))
 t0:=Tryz.underlying0
 a0:=Tryz.isAgg0
 z0:=Tryz.sizeOf0
 v0:=Tryz.zeroValue0
 t3:=Tryz.underlying3
 a3:=Tryz.isAgg3
 z3:=Tryz.sizeOf3
 v3:=Tryz.zeroValue3
 t9:=Tryz.underlying9
 a9:=Tryz.isAgg9
 z9:=Tryz.sizeOf9
 v9:=Tryz.zeroValue9
 t37:=Tryz.underlying88
 a37:=Tryz.isAgg88
 z37:=Tryz.sizeOf88
 v37:=Tryz.zeroValue88
 t70:=Tryz.underlying87
 a70:=Tryz.isAgg87
 z70:=Tryz.sizeOf87
 v70:=Tryz.zeroValue87
 t72:=Tryz.underlying90
 a72:=Tryz.isAgg90
 z72:=Tryz.sizeOf90
 v72:=Tryz.zeroValue90
 t127:=Tryz.underlying150
 a127:=Tryz.isAgg150
 z127:=Tryz.sizeOf150
 v127:=Tryz.zeroValue150
theorem Tryz.Builder_Extra : Builder.Extra Tryz.prog Tryz.laysB_ren where
 sizeBuilder:=by kernel_rfl
 liesBuilder:=by kernel_rfl
 t5:=Tryz.underlying5
 a5:=Tryz.isAgg5
 z5:=Tryz.sizeOf5
 v5:=Tryz.zeroValue5
 infoByte:=by kernel_rfl
 cellsByte:=by kernel_rfl
 sizeByte:=by kernel_rfl
 neB5:=by decide
open Go.RowKit in
theorem Tryz.WriteByte_k (B b : Nat) (bs : List Value) (c : Int) (w : World) (h : Lib.IsBuilderF 90 5 B b bs w) (hlen : bs.length + 1 ≤ 140737488355328) (hBw : B ≤ w.heap.size) :
  Calls Tryz.prog 101 #[.pointer (some ⟨b,0,none⟩),.int .u8 c] w fun e w' => e = .returned .nilIface ∧ (Lib.BuilderAtF 90 5 B b (.pointer (some ⟨b,0,none⟩)) (bs ++ [.int .u8 c]) w' ∧ Below B w w' ∧ Lib.OthersKept 5 (some b) w w'):=
 Any.Builder_WriteByte_k Tryz.laysWB Tryz.Builder_Extra B b bs c w h hlen hBw
open Go.RowKit in
theorem Tryz.WriteString_k (B b : Nat) (bs : List Value) (s : ByteArray) (w : World) (h : Lib.IsBuilderF 90 5 B b bs w) (hlen : bs.length + s.size ≤ 140737488355328) (hBw : B ≤ w.heap.size) :
  Calls Tryz.prog 32 #[.pointer (some ⟨b,0,none⟩),.string s] w fun e w' => e = .returned (.tuple #[.int .i64 s.size,.nilIface]) ∧ (Lib.BuilderAtF 90 5 B b (.pointer (some ⟨b,0,none⟩)) (bs ++ Lib.strCells s) w' ∧ Below B w w' ∧ Lib.OthersKept 5 (some b) w w'):=
 Any.Builder_WriteString_k Tryz.laysWS Tryz.Builder_Extra B b bs s w h hlen hBw
open Go.RowKit in
theorem Tryz.BString_k (B b : Nat) (l : List UInt8) (w : World) (h : Lib.IsBuilderF 90 5 B b (Lib.byteCells l) w) (hBw : B ≤ w.heap.size) :
  Calls Tryz.prog 36 #[.pointer (some ⟨b,0,none⟩)] w fun e w' => e = .returned (.string ⟨l.toArray⟩) ∧ (Lib.IsBuilderF 90 5 B b (Lib.byteCells l) w' ∧ Below B w w' ∧ Lib.OthersKept 5 (some b) w w'):=
 Any.Builder_String_any_k Tryz.laysBS Tryz.Builder_Extra B b l w h hBw
end Go.Proofs
/- codec.digits, writeInt, PutInt, PutText -/
namespace Go.Proofs.YtnfndgmlnoeelaaGreatDoor
open Go.RowKit Go.Proofs Go.Shelf
attribute [local go_sem] Oper.semAt_some wide_fn wide_depth
def natIn : Option Value → Nat
 | some (.int _ n) => n.toNat
 | _ => 0
set_option maxRecDepth 100000 in
set_option maxHeartbeats 1000000 in
theorem digits1_iter (n nb : Nat) (w : World) (h1 : w.heap[nb]? = some (.cells #[.int .i64 n] 3 (0,0))) (hn : n ≤ 1099511627776) :
  IterB Tryz.prog 133 #[.pointer (some ⟨nb,0,none⟩)] (fun c : UInt8 => #[.int .u8 c.toNat]) nb 3 (encL n) w:=by
 intro l J W hW hJ hY h0
 have k1:=(hW.block nb (Array.getElem?_eq_some_iff.1 h1).1 trivial).trans h1
 have HW:=Lib.hid (And.intro hJ hY)
 clear hJ hY h1 hW
 refine callsIn_of_wp Tryz.func133 rfl trivial ?_ rfl
 simp only [Tryz.ntmps133,List.size_toArray,List.length_cons,List.length_nil,Nat.reduceAdd,Nat.reduceSub,Array.replicate_succ,Array.replicate_zero,List.push_toArray,List.append_toArray,List.nil_append,List.cons_append]
 gi_wp2
 gi_loopw [] (fun wr => ∃ (pre : List UInt8) (cur : Nat),pre ++ encL cur = encL n ∧ cur ≤ 1099511627776 ∧ J pre wr ∧ wr.heap[nb]? = some (.cells #[.int .i64 cur] 3 (0,0))) (fun wr => natIn (wr.cell? ⟨nb,0,none⟩))
 case atStart => exact ⟨[],n,rfl,hn,h0,k1⟩
 case round =>
  obtain ⟨pre,cur,hpc,hcm,hJ,hb⟩:=hrel
  have HP:=Lib.hid hpc
  have c0 : wr.cell? ⟨nb,0,none⟩ = some (.int .i64 cur):=cell_of_row wr nb 0 _ _ (0,0) hb
  have HB:=Lib.hid hb
  have cm : (cur : Int) ≤ 1099511627776:=by omega
  clear hpc hb hn k1 h0
  by_cases hlt : cur < 128
  ·obtain ⟨fn,tmps,assign,body,hy,hR⟩:=HW.out.2 pre (UInt8.ofNat cur) wr (by rw [← HP.out,encL_small hlt];exact List.prefix_rfl) hJ
   have HF:=Lib.hid (show pre ++ [UInt8.ofNat cur] = encL n by rw [← HP.out,encL_small hlt])
   rw [u8_nat (by omega)] at hy
   gi_wp2
   refine hR.mono ?_
   rintro e Y ⟨rfl,hJ',hk⟩
   gi_wp2
   go_end0
   exact ⟨⟨_,rfl⟩,by rw [← HF.out];exact hJ'⟩
  ·obtain ⟨fn,tmps,assign,body,hy,hR⟩:=HW.out.2 pre (UInt8.ofNat (cur % 128 + 128)) wr (by rw [← HP.out,encL_big hlt];exact ⟨_,by rw [List.append_assoc];rfl⟩) hJ
   have HF:=Lib.hid (show (pre ++ [UInt8.ofNat (cur % 128 + 128)]) ++ encL (cur / 128) = encL n by rw [← HP.out,encL_big hlt,List.append_assoc];rfl)
   rw [u8_nat (by omega),show ((cur % 128 + 128 : Nat) : Int) = (cur : Int) % 128 + 128 by omega] at hy
   gi_wp2
   refine hR.mono ?_
   rintro e Y ⟨rfl,hJ',hk⟩
   have hbY:=hk _ _ HB.out
   have cY : Y.cell? ⟨nb,0,none⟩ = some (.int .i64 cur):=cell_of_row Y nb 0 _ _ (0,0) hbY
   have fY : Y.frozen? ⟨nb,0,none⟩ = false:=Lib.frozen_of_heap hbY 0
   have hj2:=HW.out.1 _ _ (.int .i64 ((cur / 128 : Nat) : Int)) hJ' ⟨_,_,hbY⟩
   have HJ2:=Lib.hid (And.intro hj2 hbY)
   have C0:=Lib.hid c0
   clear hj2 hbY hJ' hk hJ hR hy c0
   gi_wp2
   have e : ((cur : Int) / 128) = ((cur / 128 : Nat) : Int):=by omega
   have hs : (Y.setCell ⟨nb,0,none⟩ (.int .i64 ((cur : Int) / 128))).heap[nb]? = some (.cells #[.int .i64 ((cur / 128 : Nat) : Int)] 3 (0,0)):=by
    rw [e]
    simp [World.setCell,Array.getElem?_modify,HJ2.out.2]
   refine ⟨⟨_,cur / 128,HF.out,by omega,by rw [e];exact HJ2.out.1,hs⟩,?_⟩
   rw [cell_of_row _ nb 0 _ _ (0,0) hs,C0.out]
   simp only [natIn,List.getElem?_toArray,List.getElem?_cons_zero]
   omega
theorem digits_any (n : Int) (w : World) : Calls Tryz.prog 100 #[.int .i64 n] w fun e w' =>
  e = .returned (.func (.func 133) #[] #[.pointer (some ⟨w.heap.size,0,none⟩)]) ∧ w.alloc (.cells #[.int .i64 n] 3) = w':=by
 have hmf : ∀ (fn : Fn) (first cap : Array Value) (w : World),(Instr.makeFunc fn first cap).run Tryz.prog w = .ok (.func fn first cap) w:=fun _ _ _ _ => rfl
 go_enter Tryz.func100,Tryz.ntmps100
 go_wp2
 go_ret
 exact ⟨rfl,rfl⟩
theorem builderAt_kept {T e : TypeId} {B b : Nat} {p : Value} {bs : List Value} {X Y : World} (h : Lib.BuilderAtF T e B b p bs X)
  (hk : ∀ (k : Nat) (c : Array Value) (t : TypeId) (fz : Nat × Nat),X.heap[k]? = some (Obj.cells c t fz) → (t = T ∨ t = e) → Y.heap[k]? = some (Obj.cells c t fz)) : Lib.BuilderAtF T e B b p bs Y:=by
 obtain ⟨hB,v,hb,hown,hne⟩:=h
 refine ⟨hB,v,hk _ _ _ _ hb (.inl rfl),⟨hown.1,?_⟩,hne⟩
 rcases hown.2 with hn | ⟨g,cap,cur,fz,hv,hbg,hg,rest⟩
 ·exact .inl hn
 ·exact .inr ⟨g,cap,cur,fz,hv,hbg,hk _ _ _ _ hg (.inr rfl),rest⟩
theorem builder_kept {T e : TypeId} {B b : Nat} {bs : List Value} {X Y : World} (h : Lib.IsBuilderF T e B b bs X)
  (hk : ∀ (k : Nat) (c : Array Value) (t : TypeId) (fz : Nat × Nat),X.heap[k]? = some (Obj.cells c t fz) → (t = T ∨ t = e) → Y.heap[k]? = some (Obj.cells c t fz)) : Lib.IsBuilderF T e B b bs Y:=
 h.imp (fun h => builderAt_kept h hk) (fun h => builderAt_kept h hk)
theorem others_above {e : TypeId} {b : Option Nat} {w X Y : World} (h : Lib.OthersKept e b w X) (hk : ∀ k,k < w.heap.size → Y.heap[k]? = X.heap[k]?) : Lib.OthersKept e b w Y:=
 fun k o hko hb ho => (hk k (Array.getElem?_eq_some_iff.1 hko).1).trans (h k o hko hb ho)
theorem others_below {e : TypeId} {b : Option Nat} {w X : World} (h : Below w.heap.size w X) : Lib.OthersKept e b w X:=
 fun k _ hko _ _ => (h.block k (Array.getElem?_eq_some_iff.1 hko).1).trans hko
def Wrote (B b : Nat) (l : List UInt8) (w X : World) : Prop:=Lib.IsBuilderF 90 5 B b (Lib.byteCells l) X ∧ Below B w X ∧ Lib.OthersKept 5 (some b) w X
theorem Wrote.set {B b : Nat} {l : List UInt8} {w X : World} (h : Wrote B b l w X) {nb : Nat} (hn : w.heap.size ≤ nb) (hB : B ≤ w.heap.size) (hc : ∃ c fz,X.heap[nb]? = some (.cells c 3 fz)) (v : Value) : Wrote B b l w (X.setCell ⟨nb,0,none⟩ v):=by
 obtain ⟨c,fz,hc⟩:=hc
 refine ⟨builder_kept h.1 fun k c' t fz' hk ht => (Below.heap_setCell _ _ _ _ fun e => ?_).trans hk,h.2.1.setCell (by simp;omega) _,others_above h.2.2 fun k hk => Below.heap_setCell _ _ _ _ (by simp;omega)⟩
 simp only at e
 rw [e,hc] at hk
 simp only [Option.some.injEq,Obj.cells.injEq] at hk
 rcases ht with ht | ht <;> (rw [← hk.2.1] at ht;revert ht;decide)
theorem Wrote.put {B b : Nat} {l : List UInt8} {w X : World} (h : Wrote B b l w X) {L : Nat} (hn : w.heap.size ≤ L) (hB : B ≤ w.heap.size) {o : Obj} (hc : X.heap[L]? = some o) (ho : o.isCells = false) (o' : Obj) : Wrote B b l w (X.putObj L o'):=by
 refine ⟨builder_kept h.1 fun k c' t fz' hk ht => (World.putObj_heap_other fun e => ?_).trans hk,below_putObj h.2.1 (by omega) _,others_above h.2.2 fun k hk => World.putObj_heap_other (by omega)⟩
 subst e
 rw [hc] at hk
 obtain rfl:=Option.some.inj hk
 simp [Obj.isCells] at ho
theorem Wrote.alloc {B b : Nat} {l : List UInt8} {w X : World} (h : Wrote B b l w X) (hB : B ≤ X.heap.size) (o : Obj) : Wrote B b l w (X.alloc o):=
 ⟨h.1.alloc o,h.2.1.alloc hB _,h.2.2.alloc o⟩
set_option maxRecDepth 100000 in
set_option maxHeartbeats 1000000 in
theorem writeInt_any (n : Nat) (b : Nat) (acc : List UInt8) (w : World) (hn : n ≤ 1099511627776) (B : Nat) (hB : B ≤ w.heap.size) (h : Lib.IsBuilderF 90 5 B b (Lib.byteCells acc) w) (hl : acc.length ≤ 70368744177664) :
  Calls Tryz.prog 65 #[.pointer (some ⟨b,0,none⟩),.int .i64 n] w fun e w' => e = .returned (.tuple #[]) ∧ Wrote B b (acc ++ encL n) w w':=by
 refine (callsIn_wide (n:=0)).1 ?_
 refine callsIn_of_wp_marks Tryz.func65 rfl trivial ?_ rfl
 simp only [Tryz.ntmps65,List.size_toArray,List.length_cons,List.length_nil,Nat.reduceAdd,Nat.reduceSub,Array.replicate_succ,Array.replicate_zero,List.push_toArray,List.append_toArray,List.nil_append,List.cons_append]
 gi_wp2_with (gi_at_call 100;refine (callsIn_wide.2 (digits_any _ _)).mono ?_;rintro e w' ⟨rfl,rfl⟩)
 obtain ⟨W0,hW0⟩ : ∃ W0,(w.alloc (.cells #[.pointer (some ⟨b,0,none⟩)] 87)).alloc (.cells #[.int .i64 n] 3) = W0:=⟨_,rfl⟩
 have z0 : W0.heap.size = w.heap.size + 2:=by subst hW0;simp
 have p0 : W0.heap[w.heap.size]? = some (.cells #[.pointer (some ⟨b,0,none⟩)] 87 (0,0)):=by
  rw [← hW0,Below.heap_alloc _ _ _ (by simp)]
  exact heap_alloc_new w _
 have n0 : W0.heap[w.heap.size + 1]? = some (.cells #[.int .i64 n] 3 (0,0)):=by
  rw [← hW0]
  have:=heap_alloc_new (w.alloc (.cells #[.pointer (some ⟨b,0,none⟩)] 87)) (.cells #[.int .i64 n] 3)
  simpa using this
 have hwr : Wrote B b (acc ++ []) w W0:=by
  rw [← hW0,List.append_nil]
  exact (Wrote.alloc (Wrote.alloc ⟨h,Below.refl _ _,Lib.OthersKept.refl _ _ _⟩ hB _) (by simp;omega) _)
 have hbl : b < w.heap.size:=h.elim (fun h => h.lt) (fun h => h.lt)
 have hlen:=encL_40 hn
 have HN:=Lib.hid (And.intro hl hlen)
 rw [hW0]
 clear hW0 h hl hlen
 have hit:=digits1_iter n (w.heap.size + 1) W0 n0 hn
 refine wpIn_rangeB (P:=Tryz.prog) (w0:=W0) (gf:=133) rfl (fun args w => Tryz.call133 args w) hit (Keeps.refl _ _) (fun _ => rfl) 5 b (by omega) (by omega) (by omega) (by decide)
  (fun pre W => W.heap[w.heap.size]? = some (.cells #[.pointer (some ⟨b,0,none⟩)] 87 (0,0)) ∧ Wrote B b (acc ++ pre) w W)
  (fun s X v hi hc => ⟨(Below.heap_setCell _ _ _ _ (by simp)).trans hi.1,hi.2.set (by omega) hB hc v⟩)
  (fun s X r o hi hc => ⟨(World.putObj_heap_other (by omega)).trans hi.1,hi.2.put (by omega) hB hc rfl o⟩)
  (fun s X o hi hs => ⟨(Below.heap_alloc _ _ _ (by omega)).trans hi.1,hi.2.alloc (by omega) o⟩)
  ⟨p0,hwr⟩
  (fun x => { tmps:=#[.pointer (some ⟨b,0,none⟩),.int .i64 n,.pointer (some ⟨w.heap.size,0,none⟩),undef,.int .u8 x.toNat,.int .i64 n,.func (.func 133) #[] #[.pointer (some ⟨w.heap.size + 1,0,none⟩)],.int .u8 x.toNat,undef,undef,undef],defers:=[] })
  ?assign ?body ?done
 case assign =>
  intro l x W K hK
  gi_wp2
  exact hK
 case body =>
  rintro l pre x W hpre ⟨hp,hw⟩ hsz
  have c0 : W.cell? ⟨w.heap.size,0,none⟩ = some (.pointer (some ⟨b,0,none⟩)):=cell_of_row W _ 0 _ _ (0,0) hp
  have hpl : (pre ++ [x]).length ≤ (encL n).length:=hpre.length_le
  have hcall:=Tryz.WriteByte_k B b (Lib.byteCells (acc ++ pre)) x.toNat W hw.1 (by rw [Lib.byteCells_length,List.length_append];rw [List.length_append] at hpl;simp at hpl;have:=HN.out;omega) (by omega)
  have HC:=Lib.hid hcall
  have HH:=Lib.hid (And.intro hp hw)
  clear hcall hp hw hpre hpl hit p0 n0 hwr
  gi_wp2_with fail
  refine (CallsIn.inRound l (callsIn_wide.2 HC.out)).mono ?_
  rintro e w' ⟨rfl,h1,h2,h3⟩
  have HR:=Lib.hid (And.intro h1 (And.intro h2 h3))
  clear h1 h2 h3
  gi_wp2
  obtain ⟨h1,h2,h3⟩:=HR.out
  refine ⟨h3,h3 _ _ HH.out.1 (by intro h;have:=Option.some.inj h;omega) (fun c fz h => by injection h with _ h;revert h;decide),?_,HH.out.2.2.1.trans h2,HH.out.2.2.2.trans h3⟩
  rw [← List.append_assoc,Lib.byteCells_append]
  exact .inr h1
 case done =>
  rintro D W hD ⟨hp,hw⟩ hK
  have HH:=Lib.hid (And.intro hp hw)
  clear hp hw
  gi_wp2
  refine ret_mark (v:=.tuple #[]) hK (results_none rfl _ _ _) ⟨rfl,HH.out.2.put (by omega) hB hK rfl _⟩
end Go.Proofs.YtnfndgmlnoeelaaGreatDoor
/- codec.PutInt, PutText; the closures of compile.Encode -/
namespace Go.Proofs.YtnfndgmlnoeelaaGreatDoor
open Go.RowKit Go.Proofs Go.Shelf
theorem coInRange_any (n : Int) (w : World) : Calls Tryz.prog 64 #[.int .i64 n] w fun e w' => e = .returned (.bool (decide (0 ≤ n) && decide (n ≤ 1099511627776))) ∧ w = w':=by
 cases h1 : decide (0 ≤ n) <;> cases h2 : decide (n ≤ 1099511627776)
 all_goals (
  go_enter Tryz.func64,Tryz.ntmps64
  go_wp2
  go_ret
  exact ⟨rfl,rfl⟩)
set_option maxRecDepth 100000 in
set_option maxHeartbeats 1000000 in
theorem PutInt_in (n : Nat) (w : World) (hn : n ≤ 1099511627776) : Calls Tryz.prog 31 #[.int .i64 n] w fun e w' => e = .returned (.tuple #[.string ⟨(encL n).toArray⟩,.int .i64 0]) ∧ Below w.heap.size w w':=by
 have hr:=coInRange_any n w
 rw [show (decide ((0 : Int) ≤ (n : Int)) && decide ((n : Int) ≤ 1099511627776)) = true by simp;omega] at hr
 have HR:=Lib.hid hr
 obtain ⟨W0,hW0⟩ : ∃ W0,w.alloc (.cells #[.pointer none,.slice none 0 0] 90) = W0:=⟨_,rfl⟩
 have hB0 : Below w.heap.size w W0:=by rw [← hW0];exact (Below.refl _ _).alloc (Nat.le_refl _) _
 have hz0 : w.heap.size < W0.heap.size:=by rw [← hW0];simp
 have hbd : Lib.IsBuilderF 90 5 w.heap.size w.heap.size (Lib.byteCells []) W0:=by rw [← hW0];exact Lib.IsBuilderF.of (Lib.fresh_isBuilder _ _ w)
 have HW:=Lib.hid (writeInt_any n w.heap.size [] W0 hn w.heap.size (by omega) hbd (by simp))
 have HB:=Lib.hid (And.intro hB0 hz0)
 clear hr hB0 hz0 hbd hn
 go_enter Tryz.func31,Tryz.ntmps31
 go_wp2_with fail
 refine HR.out.mono ?_
 rintro e w' ⟨rfl,rfl⟩
 go_wp2_with fail
 refine HW.out.mono ?_
 rintro e w1 ⟨rfl,h1⟩
 have H1:=Lib.hid h1
 have HS:=Lib.hid (Tryz.BString_k w.heap.size w.heap.size _ w1 h1.1 (by have:=h1.2.1.size;have:=HB.out.2;omega))
 clear h1
 go_wp2_with fail
 refine HS.out.mono ?_
 rintro e w2 ⟨rfl,_,h2,_⟩
 have H2:=Lib.hid h2
 clear h2
 go_wp2
 go_ret2
 exact ⟨rfl,HB.out.1.trans (H1.out.2.1.trans H2.out)⟩
set_option maxRecDepth 100000 in
set_option maxHeartbeats 1000000 in
theorem PutInt_out (n : Int) (w : World) (hn : ¬ (0 ≤ n ∧ n ≤ 1099511627776)) : Calls Tryz.prog 31 #[.int .i64 n] w fun e w' => e = .returned (.tuple #[.string ⟨#[]⟩,.int .i64 2]) ∧ Below w.heap.size w w':=by
 have hr:=coInRange_any n w
 rw [show (decide ((0 : Int) ≤ n) && decide (n ≤ 1099511627776)) = false by simp;omega] at hr
 have HR:=Lib.hid hr
 clear hr hn
 go_enter Tryz.func31,Tryz.ntmps31
 go_wp2_with fail
 refine HR.out.mono ?_
 rintro e w' ⟨rfl,rfl⟩
 go_wp2
 go_ret2
 exact ⟨rfl,Below.refl _ _⟩
theorem PutInt_any (n : Int) (w : World) : Calls Tryz.prog 31 #[.int .i64 n] w fun e w' => (∃ c : Int,e = .returned (.tuple #[.string ⟨(numL n).toArray⟩,.int .i64 c])) ∧ Below w.heap.size w w':=by
 by_cases h : 0 ≤ n ∧ n ≤ 1099511627776
 ·obtain ⟨k,rfl⟩:=Int.eq_ofNat_of_zero_le h.1
  refine (PutInt_in k w (by omega)).mono ?_
  rintro e w' ⟨rfl,h2⟩
  exact ⟨⟨0,by rw [numL,if_pos h,Int.toNat_natCast]⟩,h2⟩
 ·refine (PutInt_out n w h).mono ?_
  rintro e w' ⟨rfl,h2⟩
  exact ⟨⟨2,by rw [numL,if_neg h]⟩,h2⟩
set_option maxRecDepth 100000 in
set_option maxHeartbeats 1000000 in
theorem PutText_in (s : ByteArray) (w : World) (hs : s.size ≤ 65536) : Calls Tryz.prog 34 #[.string s] w fun e w' => e = .returned (.tuple #[.string ⟨(encL s.size ++ s.data.toList).toArray⟩,.int .i64 0]) ∧ Below w.heap.size w w':=by
 have hd : decide (65536 < (s.size : Int)) = false:=by simp;omega
 obtain ⟨W0,hW0⟩ : ∃ W0,w.alloc (.cells #[.pointer none,.slice none 0 0] 90) = W0:=⟨_,rfl⟩
 have hB0 : Below w.heap.size w W0:=by rw [← hW0];exact (Below.refl _ _).alloc (Nat.le_refl _) _
 have hz0 : w.heap.size < W0.heap.size:=by rw [← hW0];simp
 have hbd : Lib.IsBuilderF 90 5 w.heap.size w.heap.size (Lib.byteCells []) W0:=by rw [← hW0];exact Lib.IsBuilderF.of (Lib.fresh_isBuilder _ _ w)
 have HW:=Lib.hid (writeInt_any s.size w.heap.size [] W0 (by omega) w.heap.size (by omega) hbd (by simp))
 have HB:=Lib.hid (And.intro hB0 (And.intro hz0 hs))
 clear hB0 hz0 hbd hs
 go_enter Tryz.func34,Tryz.ntmps34
 go_wp2_with fail
 refine HW.out.mono ?_
 rintro e w1 ⟨rfl,h1⟩
 have H1:=Lib.hid h1
 have HS:=Lib.hid (Tryz.WriteString_k w.heap.size w.heap.size _ s w1 h1.1 (by have:=encL_40 (n:=s.size) (by have:=HB.out.2.2;omega);have:=HB.out.2.2;rw [Lib.byteCells_length,List.nil_append];omega) (by have:=h1.2.1.size;have:=HB.out.2.1;omega))
 clear h1
 go_wp2_with fail
 refine HS.out.mono ?_
 rintro e w2 ⟨rfl,h2,h3,_⟩
 have H2:=Lib.hid (And.intro h2 h3)
 have HT:=Lib.hid (Tryz.BString_k w.heap.size w.heap.size (encL s.size ++ s.data.toList) w2 (by rw [Lib.byteCells_append];exact .inr (by rw [← Lib.strCells_eq,← List.nil_append (encL s.size)];exact h2)) (by have:=h3.size;have:=H1.out.2.1.size;have:=HB.out.2.1;omega))
 clear h2 h3
 go_wp2_with fail
 refine HT.out.mono ?_
 rintro e w3 ⟨rfl,_,h4,_⟩
 have H4:=Lib.hid h4
 clear h4
 go_wp2
 go_ret2
 exact ⟨rfl,HB.out.1.trans (H1.out.2.1.trans (H2.out.2.trans H4.out))⟩
set_option maxRecDepth 100000 in
set_option maxHeartbeats 1000000 in
theorem PutText_out (s : ByteArray) (w : World) (hs : ¬ s.size ≤ 65536) : Calls Tryz.prog 34 #[.string s] w fun e w' => e = .returned (.tuple #[.string ⟨#[]⟩,.int .i64 4]) ∧ Below w.heap.size w w':=by
 have hd : decide (65536 < (s.size : Int)) = true:=by simp;omega
 clear hs
 go_enter Tryz.func34,Tryz.ntmps34
 go_wp2
 go_ret2
 exact ⟨rfl,Below.refl _ _⟩
theorem PutText_any (s : ByteArray) (w : World) : Calls Tryz.prog 34 #[.string s] w fun e w' => (∃ c : Int,e = .returned (.tuple #[.string ⟨(txtL s).toArray⟩,.int .i64 c])) ∧ Below w.heap.size w w':=by
 by_cases h : s.size ≤ 65536
 ·refine (PutText_in s w h).mono ?_
  rintro e w' ⟨rfl,h2⟩
  exact ⟨⟨0,by rw [txtL,if_pos h]⟩,h2⟩
 ·refine (PutText_out s w h).mono ?_
  rintro e w' ⟨rfl,h2⟩
  exact ⟨⟨4,by rw [txtL,if_neg h]⟩,h2⟩
theorem Wrote.trans {B b : Nat} {l m : List UInt8} {w X Y : World} (h : Wrote B b l w X) (k : Wrote B b m X Y) : Wrote B b m w Y:=⟨k.1,h.2.1.trans k.2.1,h.2.2.trans k.2.2⟩
end Go.Proofs.YtnfndgmlnoeelaaGreatDoor
