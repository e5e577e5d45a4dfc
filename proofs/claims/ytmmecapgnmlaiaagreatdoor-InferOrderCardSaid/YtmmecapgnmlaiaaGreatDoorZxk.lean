/- The arguments opened: expressions, declarations, modules that came in -/
import Derived.Test.YtmmecapgnmlaiaaGreatDoorZxj
import Derived.SliceStrings
import Derived.ChangeArms
import Derived.Lib.SmallJoins
import Derived.WideKeyArgs
import Derived.ChangeSame
import Derived.Below
import Derived.Test.YtmmecapgnmlaiaaGreatDoorCards
import Derived.Test.YtmmecapgnmlaiaaGreatDoorTie
import Derived.WalkKit
import Derived.ProofKit
import Derived.OpenShut
import Derived.Deep.DeepHandedRow
namespace Go.Proofs.YtmmecapgnmlaiaaGreatDoor
open Go.RowKit Go.Proofs Go.ChangeShapes Go.WideShapes Go.Joins
section
variable {H : Type} {enc : TypeId × Value → H} {W : World}
theorem add_none {W : World} {a : Addr} {n : Nat} {v : Value} (h : W.cell? (a.add n) = some v) : a.add n = ⟨a.block,a.off + n,none⟩:=by
  unfold Addr.add at h ⊢
  split
  · rename_i h0
    subst h0
    simp at h
    obtain ⟨b,o,sp⟩:=a
    unfold World.cell? at h
    cases sp with
    | none => rfl
    | some q => simp at h;split at h <;> simp at h
  · rfl
theorem add_add' (a : Addr) (n m : Nat) : (a.add n).add m = a.add (n + m):=by
  unfold Addr.add
  by_cases h : n = 0 <;> by_cases h2 : m = 0 <;> simp [h,h2]
  omega
theorem trod_fields {t : TypeId} {fs : Array Field} {fuel : Nat} {cs : List Value} {x : DataW H × List MemPlace} (ht : Tryz.prog.underlying t = some (.struct fs)) (h : DataW.trod enc Tryz.prog W 0 (fun _ => true) true fuel t cs = some x)
    (j : Nat) (f : Field) (hj : fs[j]? = some f) (ft : TypeId) (o c : Nat) (hft : f.type = ft) (ho : f.offset = o) (hc : Tryz.prog.cellsOf ft = c) : ∃ n y,n < fuel ∧ DataW.trod enc Tryz.prog W 0 (fun _ => true) true n ft ((cs.drop o).take c) = some y:=by
  subst hft ho hc
  obtain ⟨xs,n,rfl,_,_,hl,hf⟩:=DataW.trod_struct ht h
  have:=hf j f hj
  have hjl : j < fs.size:=(Array.getElem?_eq_some_iff.1 hj).1
  exact ⟨n,_,by omega,this.trans (List.getElem?_eq_getElem (by omega))⟩
theorem Tryz.cellsExpr : Tryz.prog.cellsOf 44 = 6:=by kernel_rfl
theorem Tryz.cellsInt : Tryz.prog.cellsOf 3 = 1:=by kernel_rfl
theorem Tryz.cellsString : Tryz.prog.cellsOf 9 = 1:=by kernel_rfl
theorem Tryz.cellsExprs : Tryz.prog.cellsOf 42 = 1:=by kernel_rfl
theorem trod_expr {fuel : Nat} {cs : List Value} {x : DataW H × List MemPlace} (h : DataW.trod enc Tryz.prog W 0 (fun _ => true) true fuel 44 cs = some x) (hcs : cs.length = 6) :
    ∃ k n m i d v n' y,cs = [.int .i64 k,.string n,.string m,.int .i64 i,.int .i64 d,v] ∧ n.size ≤ maxLen ∧ m.size ≤ maxLen ∧ n' < fuel ∧ DataW.trod enc Tryz.prog W 0 (fun _ => true) true n' 42 [v] = some y:=by
  match cs,hcs with
  | [c0,c1,c2,c3,c4,c5],_ =>
    obtain ⟨_,_,_,h0⟩:=trod_fields Tryz.underlying44 h 0 _ rfl 3 0 1 rfl rfl Tryz.cellsInt
    obtain ⟨_,_,_,h1⟩:=trod_fields Tryz.underlying44 h 1 _ rfl 9 1 1 rfl rfl Tryz.cellsString
    obtain ⟨_,_,_,h2⟩:=trod_fields Tryz.underlying44 h 2 _ rfl 9 2 1 rfl rfl Tryz.cellsString
    obtain ⟨_,_,_,h3⟩:=trod_fields Tryz.underlying44 h 3 _ rfl 3 3 1 rfl rfl Tryz.cellsInt
    obtain ⟨_,_,_,h4⟩:=trod_fields Tryz.underlying44 h 4 _ rfl 3 4 1 rfl rfl Tryz.cellsInt
    obtain ⟨n',y,hn',h5⟩:=trod_fields Tryz.underlying44 h 5 _ rfl 42 5 1 rfl rfl Tryz.cellsExprs
    simp only [List.drop_succ_cons,List.drop_zero,List.take_succ_cons,List.take_zero] at h0 h1 h2 h3 h4 h5
    obtain ⟨k,e0,_⟩:=DataW.trod_int Tryz.underlying3 h0
    obtain ⟨n,e1,_,s1⟩:=DataW.trod_string Tryz.underlying9 h1
    obtain ⟨m,e2,_,s2⟩:=DataW.trod_string Tryz.underlying9 h2
    obtain ⟨i,e3,_⟩:=DataW.trod_int Tryz.underlying3 h3
    obtain ⟨d,e4,_⟩:=DataW.trod_int Tryz.underlying3 h4
    simp only [List.cons.injEq,and_true] at e0 e1 e2 e3 e4
    subst e0 e1 e2 e3 e4
    exact ⟨k,n,m,i,d,c5,n',y,rfl,s1,s2,hn',h5⟩
def Fo.Str : Fo → Prop
  | .nil => True
  | .cons _ n m _ _ _ _ s r => n.size ≤ maxLen ∧ m.size ≤ maxLen ∧ s.Str ∧ r.Str
theorem build_fo {W : World} {b o len : Nat} (h : ∀ i,i < len → ∃ k n m ii d A s c,W.cell? ⟨b,o + i * 6,none⟩ = some (.int .i64 k) ∧ W.cell? ⟨b,o + i * 6 + 1,none⟩ = some (.string n) ∧ W.cell? ⟨b,o + i * 6 + 2,none⟩ = some (.string m) ∧ W.cell? ⟨b,o + i * 6 + 3,none⟩ = some (.int .i64 ii) ∧
      W.cell? ⟨b,o + i * 6 + 4,none⟩ = some (.int .i64 d) ∧ W.cell? ⟨b,o + i * 6 + 5,none⟩ = some (.slice A s.len c) ∧ Fo.Sl W W.heap.size A c s ∧ n.size ≤ maxLen ∧ m.size ≤ maxLen ∧ s.Str) :
    ∀ j,j ≤ len → ∃ s : Fo,s.len = j ∧ s.At W W.heap.size b (o + (len - j) * 6) ∧ s.Str
  | 0,_ => ⟨.nil,rfl,trivial,trivial⟩
  | j + 1,hj => by
    obtain ⟨r,hr,hat,hst⟩:=build_fo h j (by omega)
    obtain ⟨k,n,m,ii,d,A,s,c,h0,h1,h2,h3,h4,h5,hs,hn,hm,hss⟩:=h (len - (j + 1)) (by omega)
    refine ⟨.cons k n m ii d A c s r,by simp [Fo.len,hr],⟨h0,h1,h2,h3,h4,⟨h5,hs⟩,?_⟩,hn,hm,hss,hst⟩
    rw [show o + (len - (j + 1)) * 6 + 6 = o + (len - j) * 6 by omega]
    exact hat
theorem open_exprs : ∀ (fuel : Nat) (v : Value) (x : DataW H × List MemPlace),DataW.trod enc Tryz.prog W 0 (fun _ => true) true fuel 42 [v] = some x →
    ∃ A s c,v = .slice A s.len c ∧ Fo.Sl W W.heap.size A c s ∧ s.Str:=by
  intro fuel
  induction fuel using Nat.strongRecOn with
  | _ fuel ih =>
    intro v x h
    rcases DataW.trod_slice Tryz.underlying42 h with ⟨h0,_⟩ | ⟨a,len,cap,elems,rest,n,rfl,h0,_,_,hl,hm,hlen,hel,_,_⟩
    · simp only [List.cons.injEq,and_true] at h0
      exact ⟨none,.nil,0,h0,Fo.Sl.nil _ _ _ _ (by simp [maxLen]),trivial⟩
    · simp only [List.cons.injEq,and_true] at h0
      subst h0
      rw [Tryz.cellsExpr] at hel
      have hall : ∀ i,i < len → ∃ k n m ii d A s c,W.cell? ⟨a.block,a.off + i * 6,none⟩ = some (.int .i64 k) ∧ W.cell? ⟨a.block,a.off + i * 6 + 1,none⟩ = some (.string n) ∧ W.cell? ⟨a.block,a.off + i * 6 + 2,none⟩ = some (.string m) ∧ W.cell? ⟨a.block,a.off + i * 6 + 3,none⟩ = some (.int .i64 ii) ∧
          W.cell? ⟨a.block,a.off + i * 6 + 4,none⟩ = some (.int .i64 d) ∧ W.cell? ⟨a.block,a.off + i * 6 + 5,none⟩ = some (.slice A s.len c) ∧ Fo.Sl W W.heap.size A c s ∧ n.size ≤ maxLen ∧ m.size ≤ maxLen ∧ s.Str:=by
        intro i hi
        have h1:=(hel i hi).trans (List.getElem?_eq_getElem (by omega))
        obtain ⟨cs,hc,h2⟩:=Option.bind_eq_some_iff.1 h1
        obtain ⟨_,hcl,hcell⟩:=World.cells?_some hc
        obtain ⟨k,nn,m,ii,d,v,n',y,rfl,s1,s2,hn',hv⟩:=trod_expr h2 hcl
        obtain ⟨A,s,c,rfl,hs,hst⟩:=ih n' (by omega) v y hv
        have hc' : ∀ q u,q < 6 → ([.int .i64 k,.string nn,.string m,.int .i64 ii,.int .i64 d,.slice A s.len c] : List Value)[q]? = some u → W.cell? ⟨a.block,a.off + i * 6 + q,none⟩ = some u:=by
          intro q u hq hu
          have h3:=(hcell q hq).trans hu
          rw [add_add'] at h3
          rw [add_none h3] at h3
          rw [Nat.add_assoc]
          exact h3
        exact ⟨k,nn,m,ii,d,A,s,c,hc' 0 _ (by omega) rfl,hc' 1 _ (by omega) rfl,hc' 2 _ (by omega) rfl,hc' 3 _ (by omega) rfl,hc' 4 _ (by omega) rfl,hc' 5 _ (by omega) rfl,hs,s1,s2,hst⟩
      obtain ⟨s,hs,hat,hst⟩:=build_fo hall len (Nat.le_refl _)
      rw [Nat.sub_self,Nat.zero_mul,Nat.add_zero] at hat
      refine ⟨some a,s,cap,by rw [hs],⟨by omega,hm,fun hne => ?_⟩,hst⟩
      have hpos : 0 < len:=by
        cases s with
        | nil => exact absurd rfl hne
        | cons => simp [Fo.len] at hs;omega
      obtain ⟨k,nn,m,ii,d,A,s',c,h0,_⟩:=hall 0 hpos
      have h1:=(hel 0 hpos).trans (List.getElem?_eq_getElem (by omega))
      obtain ⟨cs,hc,h2⟩:=Option.bind_eq_some_iff.1 h1
      obtain ⟨_,hcl,hcell⟩:=World.cells?_some hc
      have h3:=hcell 0 (by omega)
      rw [add_add',List.getElem?_eq_getElem (by omega)] at h3
      have h4:=add_none h3
      simp [Addr.add] at h4
      rw [Nat.zero_mul,Nat.add_zero] at h0
      exact ⟨a.block,a.off,by rw [← h4],World.block_lt_of_cell? W ⟨a.block,a.off,none⟩ h0,hat⟩
end
end Go.Proofs.YtmmecapgnmlaiaaGreatDoor
/- A module that came in, opened: its label, its uses, its declarations -/
namespace Go.Proofs.YtmmecapgnmlaiaaGreatDoor
open Go.RowKit Go.Proofs Go.ChangeShapes Go.WideShapes Go.Joins
theorem Tryz.cellsBool : Tryz.prog.cellsOf 4 = 1:=by kernel_rfl
theorem Tryz.cellsStrings : Tryz.prog.cellsOf 22 = 1:=by kernel_rfl
theorem Tryz.cellsDecl : Tryz.prog.cellsOf 46 = 11:=by kernel_rfl
theorem Tryz.cellsModule : Tryz.prog.cellsOf 25 = 3:=by kernel_rfl
theorem list_of {α : Type} {P : Nat → α → Prop} : ∀ n : Nat,(∀ i,i < n → ∃ x,P i x) → ∃ l : List α,l.length = n ∧ ∀ j x,l[j]? = some x → P j x
 | 0,_ => ⟨[],rfl,fun j x h => by simp at h⟩
 | n + 1,h => by
  obtain ⟨l,hl,hp⟩:=list_of n fun i hi => h i (by omega)
  obtain ⟨x,hx⟩:=h n (by omega)
  refine ⟨l ++ [x],by simp [hl],fun j y hj => ?_⟩
  by_cases hlt : j < l.length
  ·rw [List.getElem?_append_left hlt] at hj
   exact hp j y hj
  ·rw [List.getElem?_append_right (by omega)] at hj
   have h0 : j - l.length = 0:=by
    have:=(List.getElem?_eq_some_iff.1 hj).1
    simp at this
    omega
   rw [h0] at hj
   simp at hj
   subst hj
   have : j = n:=by omega
   subst this
   exact hx
def Dc.Str (x : Dc) : Prop:=(∀ s ∈ x.names,s.size ≤ maxLen) ∧ x.n.size ≤ maxLen ∧ x.m.size ≤ maxLen ∧ x.s.Str
section
variable {H : Type} {enc : TypeId × Value → H} {W : World}
theorem open_strs {fuel : Nat} {v : Value} {x : DataW H × List MemPlace} (h : DataW.trod enc Tryz.prog W 0 (fun _ => true) true fuel 22 [v] = some x) :
  ∃ A l c,v = .slice A (List.length l) c ∧ SlS W W.heap.size A c l ∧ ∀ s ∈ l,s.size ≤ maxLen:=by
 rcases open_strings Tryz.underlying22 Tryz.underlying9 Tryz.cellsString h with ⟨h0,_⟩ | ⟨a,len,cap,ss,h0,_,hl,hm,hz,_,hcell,hsz⟩
 ·simp only [List.cons.injEq,and_true] at h0
  exact ⟨none,[],0,h0,SlS.nil _ _ _ _ (by simp [maxLen]),by simp⟩
 ·simp only [List.cons.injEq,and_true] at h0
  subst h0
  simp only [if_true] at hz
  have htl : (ss.take len).length = len:=by rw [List.length_take];omega
  refine ⟨some a,ss.take len,cap,by rw [htl],⟨by omega,hm,fun hne => ?_⟩,fun s hs => hsz s (List.mem_of_mem_take hs)⟩
  have hpos : 0 < len:=by
   rcases Nat.eq_zero_or_pos len with h | h
   ·subst h;simp at hne
   ·exact h
  have h0:=hcell 0 (by omega)
  have h4:=add_none h0
  simp [Addr.add] at h4
  have hc' : ∀ j s,(ss.take len)[j]? = some s → W.cell? ⟨a.block,a.off + j,none⟩ = some (.string s):=by
   intro j s hs
   have hj : j < len:=by
    have:=(List.getElem?_eq_some_iff.1 hs).1
    omega
   rw [List.getElem?_take_of_lt hj] at hs
   have h3:=hcell j (by omega)
   rw [add_none h3,List.getD_eq_getElem?_getD,hs] at h3
   exact h3
  exact ⟨a.block,a.off,by rw [← h4],World.block_lt_of_cell? W ⟨a.block,a.off + 0,none⟩ (hc' 0 _ (List.getElem?_eq_getElem (by omega))),hc'⟩
theorem trod_decl {fuel : Nat} {cs : List Value} {x : DataW H × List MemPlace} (h : DataW.trod enc Tryz.prog W 0 (fun _ => true) true fuel 46 cs = some x) (hcs : cs.length = 11) :
  ∃ d : Dc,cs = d.cells.toList ∧ d.Ok W W.heap.size ∧ d.Str:=by
 match cs,hcs with
 | [c0,c1,c2,c3,c4,c5,c6,c7,c8,c9,c10],_ =>
  obtain ⟨_,_,_,h0⟩:=trod_fields Tryz.underlying46 h 0 _ rfl 3 0 1 rfl rfl Tryz.cellsInt
  obtain ⟨_,_,_,h1⟩:=trod_fields Tryz.underlying46 h 1 _ rfl 3 1 1 rfl rfl Tryz.cellsInt
  obtain ⟨_,_,_,h2⟩:=trod_fields Tryz.underlying46 h 2 _ rfl 4 2 1 rfl rfl Tryz.cellsBool
  obtain ⟨_,_,_,h3⟩:=trod_fields Tryz.underlying46 h 3 _ rfl 22 3 1 rfl rfl Tryz.cellsStrings
  obtain ⟨_,_,_,h4⟩:=trod_fields Tryz.underlying46 h 4 _ rfl 4 4 1 rfl rfl Tryz.cellsBool
  obtain ⟨_,_,_,h5⟩:=trod_fields Tryz.underlying46 h 5 _ rfl 44 5 6 rfl rfl Tryz.cellsExpr
  simp only [List.drop_succ_cons,List.drop_zero,List.take_succ_cons,List.take_zero] at h0 h1 h2 h3 h4 h5
  obtain ⟨id,e0,_⟩:=DataW.trod_int Tryz.underlying3 h0
  obtain ⟨kind,e1,_⟩:=DataW.trod_int Tryz.underlying3 h1
  obtain ⟨pub,e2,_⟩:=DataW.trod_bool Tryz.underlying4 h2
  obtain ⟨nA,names,nc,e3,hn,hns⟩:=open_strs h3
  obtain ⟨doubt,e4,_⟩:=DataW.trod_bool Tryz.underlying4 h4
  obtain ⟨k,n,m,i,d,v,n',y,e5,s1,s2,_,hv⟩:=trod_expr h5 rfl
  obtain ⟨A,s,c,e6,hs,hst⟩:=open_exprs _ _ _ hv
  simp only [List.cons.injEq,and_true] at e0 e1 e2 e4 e5
  obtain ⟨rfl,rfl,rfl,rfl,rfl,rfl⟩:=e5
  subst e0 e1 e2 e3 e4 e6
  exact ⟨⟨id,kind,pub,nA,nc,names,doubt,k,n,m,i,d,A,c,s⟩,rfl,⟨hn,hs⟩,hns,s1,s2,hst⟩
theorem open_decls {fuel : Nat} {v : Value} {x : DataW H × List MemPlace} (h : DataW.trod enc Tryz.prog W 0 (fun _ => true) true fuel 23 [v] = some x) :
  ∃ A l c,v = .slice A (List.length l) c ∧ SlD W W.heap.size A c l ∧ ∀ d ∈ l,Dc.Str d:=by
 rcases DataW.trod_slice Tryz.underlying23 h with ⟨h0,_⟩ | ⟨a,len,cap,elems,rest,n,rfl,h0,_,_,hl,hm,hlen,hel,_,_⟩
 ·simp only [List.cons.injEq,and_true] at h0
  exact ⟨none,[],0,h0,⟨by simp,by simp [maxLen],fun h => absurd rfl h⟩,by simp⟩
 ·simp only [List.cons.injEq,and_true] at h0
  subst h0
  rw [Tryz.cellsDecl] at hel
  have hall : ∀ i,i < len → ∃ d : Dc,(∀ q v,d.cells[q]? = some v → W.cell? ⟨a.block,a.off + i * 11 + q,none⟩ = some v) ∧ d.Ok W W.heap.size ∧ d.Str:=by
   intro i hi
   have h1:=(hel i hi).trans (List.getElem?_eq_getElem (by omega))
   obtain ⟨cs,hc,h2⟩:=Option.bind_eq_some_iff.1 h1
   obtain ⟨_,hcl,hcell⟩:=World.cells?_some hc
   obtain ⟨d,hd,hok,hst⟩:=trod_decl h2 hcl
   refine ⟨d,fun q v hq => ?_,hok,hst⟩
   have hq' : q < 11:=(Array.getElem?_eq_some_iff.1 hq).1
   have h3:=hcell q hq'
   rw [hd,Array.getElem?_toList,hq,add_add'] at h3
   rw [add_none h3] at h3
   rw [Nat.add_assoc]
   exact h3
  obtain ⟨l,hll,hP⟩:=list_of len hall
  refine ⟨some a,l,cap,by rw [hll],⟨by omega,hm,fun hne => ?_⟩,fun d hd => ?_⟩
  ·have hpos : 0 < len:=by
    rcases Nat.eq_zero_or_pos len with h | h
    ·rw [h] at hll;exact absurd (List.length_eq_zero_iff.1 hll) hne
    ·exact h
   obtain ⟨d0,h0,_⟩:=hall 0 hpos
   have h00:=h0 0 _ rfl
   have h1:=(hel 0 hpos).trans (List.getElem?_eq_getElem (by omega))
   obtain ⟨cs,hc,h2⟩:=Option.bind_eq_some_iff.1 h1
   obtain ⟨_,hcl,hcell⟩:=World.cells?_some hc
   have h3:=hcell 0 (by omega)
   rw [add_add',List.getElem?_eq_getElem (by omega)] at h3
   have h4:=add_none h3
   simp [Addr.add] at h4
   exact ⟨a.block,a.off,by rw [← h4],World.block_lt_of_cell? W ⟨a.block,a.off + 0 * 11 + 0,none⟩ h00,fun j x hj => ⟨(hP j x hj).1,(hP j x hj).2.1⟩⟩
  ·obtain ⟨j,hj⟩:=List.getElem?_of_mem hd
   exact (hP j d hj).2.2
set_option maxRecDepth 100000 in
theorem open_module {b0 : Nat} {v : Value} {d : DataW H} {p : List MemPlace} (hv : Value.okWide Tryz.prog W .any b0 25 v) (h : DataW.Trod enc Tryz.prog W 0 (fun _ => true) true 25 v d p) :
  ∃ label uA uses uc dA decls dc,v = .agg #[.string label,.slice uA (List.length uses) uc,.slice dA (List.length decls) dc] ∧ label.size ≤ maxLen ∧ SlS W W.heap.size uA uc uses ∧ SlD W W.heap.size dA dc decls ∧ (∀ s ∈ uses,s.size ≤ maxLen) ∧ ∀ d ∈ decls,Dc.Str d:=by
 obtain ⟨c0,c1,c2,y0,y1,y2,n,rfl,_,_,h0,h1,h2⟩:=open_agg3 Tryz.underlying25 (by kernel_rfl) Tryz.cellsModule hv h
 obtain ⟨label,e0,_,hl⟩:=DataW.trod_string Tryz.underlying9 h0
 obtain ⟨uA,uses,uc,e1,hu,hus⟩:=open_strs h1
 obtain ⟨dA,decls,dc,e2,hd,hds⟩:=open_decls h2
 simp only [List.cons.injEq,and_true] at e0
 subst e0 e1 e2
 exact ⟨label,uA,uses,uc,dA,decls,dc,rfl,hl,hu,hd,hus,hds⟩
end
end Go.Proofs.YtmmecapgnmlaiaaGreatDoor
/- The shell of the laws over a module: from a walk that answers true to the row and the card -/
namespace Go.Proofs.YtmmecapgnmlaiaaGreatDoor
open Go.ChangeShapes Go.WideShapes Go.ChangeAt Go.RowKit
theorem Tryz.own : ownKnob Tryz.prog.godebug = none:=by kernel_rfl
theorem Tryz.laidOut : laidOutB Tryz.prog = true:=by kernel_rfl
section
variable {H : Type} {enc : TypeId × Value → H}
theorem post_below {P : Program} {f : Func} {s : ChangeSpec} {apart fresh handsOn again : Bool} {W W' : World} {args : Array Value} {v : Value} {ds gs : List (DataW H)} {before pa pv : List MemPlace}
  (hW : DataW.Whole enc P f.params.toList s.vars apart W args.toList ds gs before)
  (hres : ∀ (b : Nat) (sp : Nat → Bool) (hd : Bool),DataW.TrodAll enc P W' b sp hd f.resultTypes.toList (v.resultList f.resultTypes.size) (s.fn H (ds ++ gs)).results [])
  (hargs : ∀ sp : Nat → Bool,(∀ p ∈ before,sp p.block = true) → DataW.TrodAll enc P W' 0 sp true f.params.toList args.toList (s.fn H (ds ++ gs)).args pa)
  (hvars : ∀ sp : Nat → Bool,(∀ p ∈ before,sp p.block = true) → DataW.TrodVars enc P W' sp s.vars (s.fn H (ds ++ gs)).vars pv)
  (hps : before = pa ++ pv) (hb : Below W.heap.size W W')
  (hok : ∀ (j : Nat) (t : TypeId) (r : Value),f.resultTypes[j]? = some t → (v.resultList f.resultTypes.size)[j]? = some r → Value.okWide P W' .any 0 t r) :
  s.post enc P f apart fresh handsOn again W args v W':=by
 have hlt : ∀ p ∈ before,p.block < W.heap.size:=fun p hp => hW.lt p hp
 have hold : ∀ p ∈ before,(fun b => decide (b < W.heap.size)) p.block = true:=fun p hp => by simpa using hlt p hp
 refine ⟨ds,gs,before,[],pa,pv,hW,hres _ _ _,hargs _ hold,hvars _ hold,World.keptBut_mono (fun p hp => ⟨hp,?_⟩) (hb.frame (· ∈ before)),fun _ => ?_⟩
 ·rw [hps,List.mem_append] at hp
  exact Or.inr hp
 ·obtain ⟨_,_,_,_,_,hz,hn⟩:=hW
  refine ⟨hok,_,_,([] ++ pa) ++ pv,⟨[] ++ pa,pv,trodAll_append (hargs _ (fun _ _ => rfl)) (hres _ _ _),hvars _ (fun _ _ => rfl),rfl,?_,?_⟩,?_⟩
  ·intro b off hp
   have hin : MemPlace.cell b off ∈ before:=by rw [hps];simpa using hp
   rw [hb.frozen (hlt _ hin)]
   exact hz b off hin
  ·intro ha
   have:=hn ha
   rw [hps] at this
   simpa using this
  ·intro p hp _
   rw [hps]
   simpa using hp
theorem trodAll_stays {W W' : World} {sp' : Nat → Bool} : ∀ {ts : List TypeId} {vs : List Value} {ds : List (DataW H)} {ps : List MemPlace},(∀ t ∈ ts,Tryz.prog.readableRec t = true ∧ t < Tryz.prog.types.size) →
  DataW.TrodAll enc Tryz.prog W 0 (fun _ => true) true ts vs ds ps → (∀ p ∈ ps,W.sameAt W' p) → (∀ p ∈ ps,sp' p.block = true) → DataW.TrodAll enc Tryz.prog W' 0 sp' true ts vs ds ps
 | [],[],[],_,_,h,_,_ => h
 | t :: ts,v :: vs,d :: ds,_,hT,⟨p,q,h1,h2,e⟩,hsame,hs => ⟨p,q,
   WideElems.Trod_stays Tryz.laidOut (hT t (List.mem_cons_self ..)).1 (hT t (List.mem_cons_self ..)).2 h1 (fun x hx => hsame x (by rw [e];exact List.mem_append_left _ hx)) (fun x hx => hs x (by rw [e];exact List.mem_append_left _ hx)),
   trodAll_stays (fun t ht => hT t (List.mem_cons_of_mem _ ht)) h2 (fun x hx => hsame x (by rw [e];exact List.mem_append_right _ hx)) (fun x hx => hs x (by rw [e];exact List.mem_append_right _ hx)),e⟩
set_option maxRecDepth 100000 in
theorem post_true {f : Func} {s : ChangeSpec} {apart fresh handsOn again : Bool} {W W' : World} {args : Array Value} {ds gs : List (DataW H)} {before : List MemPlace}
  (hW : DataW.Whole enc Tryz.prog f.params.toList s.vars apart W args.toList ds gs before) (hv : s.vars = []) (hrt : f.resultTypes = #[4])
  (hfn : s.fn H ds = { results:=[.lit (.bool true)],args:=ds }) (hts : ∀ t ∈ f.params.toList,Tryz.prog.readableRec t = true ∧ t < Tryz.prog.types.size) (hb : Below W.heap.size W W') :
  s.post enc Tryz.prog f apart fresh handsOn again W args (.bool true) W':=by
 have hW':=hW
 obtain ⟨p,q,hA,hV,rfl,_,_⟩:=hW
 rw [hv] at hV
 obtain ⟨rfl,rfl⟩:=trodVars_none hV
 refine post_below (pa:=p) (pv:=[]) hW' ?_ ?_ ?_ rfl hb ?_
 ·intro b sp hd
  rw [hrt,List.append_nil,hfn]
  exact trodAll_mk1 (shut_bool Tryz.underlying4 true)
 ·intro sp hsp
  rw [List.append_nil,hfn]
  exact trodAll_stays hts hA (fun x hx => hb.same (hW'.lt x (by simpa using hx))) (fun x hx => hsp x (by simpa using hx))
 ·intro sp _
  rw [hv,List.append_nil,hfn]
  exact rfl
 ·exact ok_one hrt rfl (okWide_bool_mk Tryz.underlying4 true)
set_option maxRecDepth 100000 in
theorem contract1 {f : FuncId} {fn : Func} {s : ChangeSpec} {apart fresh handsOn again : Bool} (hp : fn.params = #[25]) (hrt : fn.resultTypes = #[4]) (hv : s.vars = []) (hfn : ∀ d : DataW H,s.fn H [d] = { results:=[.lit (.bool true)],args:=[d] })
  (law : ∀ (label : ByteArray) (uses : List ByteArray) (uA : Option Addr) (uc : Nat) (decls : List Dc) (dA : Option Addr) (dc : Nat) (w : World),SlS w w.heap.size uA uc uses → SlD w w.heap.size dA dc decls → (∀ s ∈ uses,s.size ≤ maxLen) → (∀ d ∈ decls,Dc.Str d) →
   Calls Tryz.prog f #[.agg #[.string label,.slice uA uses.length uc,.slice dA decls.length dc]] w fun e w' => e = .returned (.bool true) ∧ Below w.heap.size w w')
  (W : World) (base : Nat) (args : Array Value) (ds gs : List (DataW H)) (before : List MemPlace)
  (hval : ∀ (j : Nat) t v,fn.params[j]? = some t → args[j]? = some v → Value.okWide Tryz.prog W .any base t v)
  (hW : DataW.Whole enc Tryz.prog fn.params.toList s.vars apart W args.toList ds gs before) :
  Calls Tryz.prog f args W fun e W' => ∃ v,e = .returned v ∧ s.post enc Tryz.prog fn apart fresh handsOn again W args v W':=by
 have hW':=hW
 obtain ⟨p,q,hA,_,_,_,_⟩:=hW
 have hA1:=hA
 rw [hp] at hA1 hval
 obtain ⟨v0,vs0,d0,ds0,p0,q0,hargs,rfl,rfl,h0,r0⟩:=trodAll_cons hA1
 obtain ⟨rfl,rfl,rfl⟩:=trodAll_nil r0
 obtain rfl : args = #[v0]:=by cases args;simp_all
 obtain ⟨label,uA,uses,uc,dA,decls,dc,rfl,_,hu,hd,hus,hds⟩:=open_module (hval 0 25 v0 rfl rfl) h0
 refine (law label uses uA uc decls dA dc W hu hd hus hds).mono fun e W' ⟨he,hb⟩ => ?_
 subst he
 refine ⟨_,rfl,post_true hW' hv hrt (hfn d0) ?_ hb⟩
 rw [hp]
 intro t ht
 obtain rfl : t = 25:=by simpa using ht
 exact ⟨by kernel_rfl,of_decide_eq_true (by kernel_rfl)⟩
end
noncomputable def laidWorld (os : Os) : World:=
 let w0:=World.holding Tryz.prog os ⟨#[],#[],[]⟩
 { w0 with heap:=(w0.heap.modify 1 fun
   | .cells _ t frozen => .cells (Go.Pinned.utf8FirstZ.map fun n => Value.int .u8 (Int.ofNat n)).toArray t frozen
   | o => o).modify 2 fun
   | .cells _ t frozen => .cells #[.int .u8 128,.int .u8 191,.int .u8 160,.int .u8 191,.int .u8 128,.int .u8 159,.int .u8 144,.int .u8 191,.int .u8 128,.int .u8 143,.int .u8 0,.int .u8 0,.int .u8 0,.int .u8 0,.int .u8 0,.int .u8 0,.int .u8 0,.int .u8 0,.int .u8 0,.int .u8 0,.int .u8 0,.int .u8 0,.int .u8 0,.int .u8 0,.int .u8 0,.int .u8 0,.int .u8 0,.int .u8 0,.int .u8 0,.int .u8 0,.int .u8 0,.int .u8 0] t frozen
   | o => o }
def argM : Array Value:=#[.agg #[.string ⟨#[]⟩,.slice none 0 0,.slice none 0 0]]
set_option maxRecDepth 100000 in
theorem laid_met (os : Os) : laidMet Tryz.prog [("unicode/utf8.acceptRanges", Rows.laid_unicode_utf8_acceptRanges), ("unicode/utf8.first", Rows.laid_unicode_utf8_first)] ((laidWorld os).forCall (fun _ _ => 0) ⟨#[], argM, []⟩).memory :=
 laidMet_of_run' 8 (by kernel_rfl) (by kernel_rfl)
end Go.Proofs.YtmmecapgnmlaiaaGreatDoor
