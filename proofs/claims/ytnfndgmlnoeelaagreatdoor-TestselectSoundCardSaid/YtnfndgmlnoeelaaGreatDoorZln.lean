/- The arguments opened: expressions, declarations, modules that came in -/
import Derived.Test.YtnfndgmlnoeelaaGreatDoorZlj
import Derived.SliceStrings
import Derived.ChangeArms
import Derived.Lib.SmallJoins
import Derived.WideKeyArgs
import Derived.ChangeSame
import Derived.Below
import Derived.Test.YtnfndgmlnoeelaaGreatDoorZla
import Derived.Test.YtnfndgmlnoeelaaGreatDoorZle
namespace Go.Proofs.YtnfndgmlnoeelaaGreatDoor
open Go.RowKit Go.Proofs Go.ChangeShapes Go.WideShapes Go.Joins
section
variable {H : Type} {enc : TypeId × Value → H} {W : World}
theorem add_none {W : World} {a : Addr} {n : Nat} {v : Value} (h : W.cell? (a.add n) = some v) : a.add n = ⟨a.block,a.off + n,none⟩:=by
  unfold Addr.add at h ⊢
  split
  · rename_i h0
    subst h0
    simp at h
    obtain ⟨b,o,sp⟩:=a
    unfold World.cell? at h
    cases sp with
    | none => rfl
    | some q => simp at h;split at h <;> simp at h
  · rfl
theorem add_add' (a : Addr) (n m : Nat) : (a.add n).add m = a.add (n + m):=by
  unfold Addr.add
  by_cases h : n = 0 <;> by_cases h2 : m = 0 <;> simp [h,h2]
  omega
theorem trod_fields {t : TypeId} {fs : Array Field} {fuel : Nat} {cs : List Value} {x : DataW H × List MemPlace} (ht : Tryz.prog.underlying t = some (.struct fs)) (h : DataW.trod enc Tryz.prog W 0 (fun _ => true) true fuel t cs = some x)
    (j : Nat) (f : Field) (hj : fs[j]? = some f) (ft : TypeId) (o c : Nat) (hft : f.type = ft) (ho : f.offset = o) (hc : Tryz.prog.cellsOf ft = c) : ∃ n y,n < fuel ∧ DataW.trod enc Tryz.prog W 0 (fun _ => true) true n ft ((cs.drop o).take c) = some y:=by
  subst hft ho hc
  obtain ⟨xs,n,rfl,_,_,hl,hf⟩:=DataW.trod_struct ht h
  have:=hf j f hj
  have hjl : j < fs.size:=(Array.getElem?_eq_some_iff.1 hj).1
  exact ⟨n,_,by omega,this.trans (List.getElem?_eq_getElem (by omega))⟩
theorem Tryz.cellsExpr : Tryz.prog.cellsOf 60 = 6:=by kernel_rfl
theorem Tryz.cellsInt : Tryz.prog.cellsOf 3 = 1:=by kernel_rfl
theorem Tryz.cellsString : Tryz.prog.cellsOf 9 = 1:=by kernel_rfl
theorem Tryz.cellsExprs : Tryz.prog.cellsOf 33 = 1:=by kernel_rfl
theorem trod_expr {fuel : Nat} {cs : List Value} {x : DataW H × List MemPlace} (h : DataW.trod enc Tryz.prog W 0 (fun _ => true) true fuel 60 cs = some x) (hcs : cs.length = 6) :
    ∃ k n m i d v n' y,cs = [.int .i64 k,.string n,.string m,.int .i64 i,.int .i64 d,v] ∧ n.size ≤ maxLen ∧ m.size ≤ maxLen ∧ n' < fuel ∧ DataW.trod enc Tryz.prog W 0 (fun _ => true) true n' 33 [v] = some y:=by
  match cs,hcs with
  | [c0,c1,c2,c3,c4,c5],_ =>
    obtain ⟨_,_,_,h0⟩:=trod_fields Tryz.underlying60 h 0 _ rfl 3 0 1 rfl rfl Tryz.cellsInt
    obtain ⟨_,_,_,h1⟩:=trod_fields Tryz.underlying60 h 1 _ rfl 9 1 1 rfl rfl Tryz.cellsString
    obtain ⟨_,_,_,h2⟩:=trod_fields Tryz.underlying60 h 2 _ rfl 9 2 1 rfl rfl Tryz.cellsString
    obtain ⟨_,_,_,h3⟩:=trod_fields Tryz.underlying60 h 3 _ rfl 3 3 1 rfl rfl Tryz.cellsInt
    obtain ⟨_,_,_,h4⟩:=trod_fields Tryz.underlying60 h 4 _ rfl 3 4 1 rfl rfl Tryz.cellsInt
    obtain ⟨n',y,hn',h5⟩:=trod_fields Tryz.underlying60 h 5 _ rfl 33 5 1 rfl rfl Tryz.cellsExprs
    simp only [List.drop_succ_cons,List.drop_zero,List.take_succ_cons,List.take_zero] at h0 h1 h2 h3 h4 h5
    obtain ⟨k,e0,_⟩:=DataW.trod_int Tryz.underlying3 h0
    obtain ⟨n,e1,_,s1⟩:=DataW.trod_string Tryz.underlying9 h1
    obtain ⟨m,e2,_,s2⟩:=DataW.trod_string Tryz.underlying9 h2
    obtain ⟨i,e3,_⟩:=DataW.trod_int Tryz.underlying3 h3
    obtain ⟨d,e4,_⟩:=DataW.trod_int Tryz.underlying3 h4
    simp only [List.cons.injEq,and_true] at e0 e1 e2 e3 e4
    subst e0 e1 e2 e3 e4
    exact ⟨k,n,m,i,d,c5,n',y,rfl,s1,s2,hn',h5⟩
def Fo.Str : Fo → Prop
  | .nil => True
  | .cons _ n m _ _ _ _ s r => n.size ≤ maxLen ∧ m.size ≤ maxLen ∧ s.Str ∧ r.Str
theorem build_fo {W : World} {b o len : Nat} (h : ∀ i,i < len → ∃ k n m ii d A s c,W.cell? ⟨b,o + i * 6,none⟩ = some (.int .i64 k) ∧ W.cell? ⟨b,o + i * 6 + 1,none⟩ = some (.string n) ∧ W.cell? ⟨b,o + i * 6 + 2,none⟩ = some (.string m) ∧ W.cell? ⟨b,o + i * 6 + 3,none⟩ = some (.int .i64 ii) ∧
      W.cell? ⟨b,o + i * 6 + 4,none⟩ = some (.int .i64 d) ∧ W.cell? ⟨b,o + i * 6 + 5,none⟩ = some (.slice A s.len c) ∧ Fo.Sl W W.heap.size A c s ∧ n.size ≤ maxLen ∧ m.size ≤ maxLen ∧ s.Str) :
    ∀ j,j ≤ len → ∃ s : Fo,s.len = j ∧ s.At W W.heap.size b (o + (len - j) * 6) ∧ s.Str
  | 0,_ => ⟨.nil,rfl,trivial,trivial⟩
  | j + 1,hj => by
    obtain ⟨r,hr,hat,hst⟩:=build_fo h j (by omega)
    obtain ⟨k,n,m,ii,d,A,s,c,h0,h1,h2,h3,h4,h5,hs,hn,hm,hss⟩:=h (len - (j + 1)) (by omega)
    refine ⟨.cons k n m ii d A c s r,by simp [Fo.len,hr],⟨h0,h1,h2,h3,h4,⟨h5,hs⟩,?_⟩,hn,hm,hss,hst⟩
    rw [show o + (len - (j + 1)) * 6 + 6 = o + (len - j) * 6 by omega]
    exact hat
theorem open_exprs : ∀ (fuel : Nat) (v : Value) (x : DataW H × List MemPlace),DataW.trod enc Tryz.prog W 0 (fun _ => true) true fuel 33 [v] = some x →
    ∃ A s c,v = .slice A s.len c ∧ Fo.Sl W W.heap.size A c s ∧ s.Str:=by
  intro fuel
  induction fuel using Nat.strongRecOn with
  | _ fuel ih =>
    intro v x h
    rcases DataW.trod_slice Tryz.underlying33 h with ⟨h0,_⟩ | ⟨a,len,cap,elems,rest,n,rfl,h0,_,_,hl,hm,hlen,hel,_,_⟩
    · simp only [List.cons.injEq,and_true] at h0
      exact ⟨none,.nil,0,h0,Fo.Sl.nil _ _ _ _ (by simp [maxLen]),trivial⟩
    · simp only [List.cons.injEq,and_true] at h0
      subst h0
      rw [Tryz.cellsExpr] at hel
      have hall : ∀ i,i < len → ∃ k n m ii d A s c,W.cell? ⟨a.block,a.off + i * 6,none⟩ = some (.int .i64 k) ∧ W.cell? ⟨a.block,a.off + i * 6 + 1,none⟩ = some (.string n) ∧ W.cell? ⟨a.block,a.off + i * 6 + 2,none⟩ = some (.string m) ∧ W.cell? ⟨a.block,a.off + i * 6 + 3,none⟩ = some (.int .i64 ii) ∧
          W.cell? ⟨a.block,a.off + i * 6 + 4,none⟩ = some (.int .i64 d) ∧ W.cell? ⟨a.block,a.off + i * 6 + 5,none⟩ = some (.slice A s.len c) ∧ Fo.Sl W W.heap.size A c s ∧ n.size ≤ maxLen ∧ m.size ≤ maxLen ∧ s.Str:=by
        intro i hi
        have h1:=(hel i hi).trans (List.getElem?_eq_getElem (by omega))
        obtain ⟨cs,hc,h2⟩:=Option.bind_eq_some_iff.1 h1
        obtain ⟨_,hcl,hcell⟩:=World.cells?_some hc
        obtain ⟨k,nn,m,ii,d,v,n',y,rfl,s1,s2,hn',hv⟩:=trod_expr h2 hcl
        obtain ⟨A,s,c,rfl,hs,hst⟩:=ih n' (by omega) v y hv
        have hc' : ∀ q u,q < 6 → ([.int .i64 k,.string nn,.string m,.int .i64 ii,.int .i64 d,.slice A s.len c] : List Value)[q]? = some u → W.cell? ⟨a.block,a.off + i * 6 + q,none⟩ = some u:=by
          intro q u hq hu
          have h3:=(hcell q hq).trans hu
          rw [add_add'] at h3
          rw [add_none h3] at h3
          rw [Nat.add_assoc]
          exact h3
        exact ⟨k,nn,m,ii,d,A,s,c,hc' 0 _ (by omega) rfl,hc' 1 _ (by omega) rfl,hc' 2 _ (by omega) rfl,hc' 3 _ (by omega) rfl,hc' 4 _ (by omega) rfl,hc' 5 _ (by omega) rfl,hs,s1,s2,hst⟩
      obtain ⟨s,hs,hat,hst⟩:=build_fo hall len (Nat.le_refl _)
      rw [Nat.sub_self,Nat.zero_mul,Nat.add_zero] at hat
      refine ⟨some a,s,cap,by rw [hs],⟨by omega,hm,fun hne => ?_⟩,hst⟩
      have hpos : 0 < len:=by
        cases s with
        | nil => exact absurd rfl hne
        | cons => simp [Fo.len] at hs;omega
      obtain ⟨k,nn,m,ii,d,A,s',c,h0,_⟩:=hall 0 hpos
      have h1:=(hel 0 hpos).trans (List.getElem?_eq_getElem (by omega))
      obtain ⟨cs,hc,h2⟩:=Option.bind_eq_some_iff.1 h1
      obtain ⟨_,hcl,hcell⟩:=World.cells?_some hc
      have h3:=hcell 0 (by omega)
      rw [add_add',List.getElem?_eq_getElem (by omega)] at h3
      have h4:=add_none h3
      simp [Addr.add] at h4
      rw [Nat.zero_mul,Nat.add_zero] at h0
      exact ⟨a.block,a.off,by rw [← h4],World.block_lt_of_cell? W ⟨a.block,a.off,none⟩ h0,hat⟩
end
end Go.Proofs.YtnfndgmlnoeelaaGreatDoor
/- A module that came in, opened: its label, its uses, its declarations -/
namespace Go.Proofs.YtnfndgmlnoeelaaGreatDoor
open Go.RowKit Go.Proofs Go.ChangeShapes Go.WideShapes Go.Joins
theorem Tryz.cellsBool : Tryz.prog.cellsOf 4 = 1:=by kernel_rfl
theorem Tryz.cellsStrings : Tryz.prog.cellsOf 55 = 1:=by kernel_rfl
theorem Tryz.cellsDecl : Tryz.prog.cellsOf 62 = 11:=by kernel_rfl
theorem Tryz.cellsDecls : Tryz.prog.cellsOf 56 = 1:=by kernel_rfl
theorem Tryz.cellsModule : Tryz.prog.cellsOf 58 = 3:=by kernel_rfl
theorem list_of {α : Type} {P : Nat → α → Prop} : ∀ n : Nat,(∀ i,i < n → ∃ x,P i x) → ∃ l : List α,l.length = n ∧ ∀ j x,l[j]? = some x → P j x
  | 0,_ => ⟨[],rfl,fun j x h => by simp at h⟩
  | n + 1,h => by
    obtain ⟨l,hl,hp⟩:=list_of n fun i hi => h i (by omega)
    obtain ⟨x,hx⟩:=h n (by omega)
    refine ⟨l ++ [x],by simp [hl],fun j y hj => ?_⟩
    by_cases hlt : j < l.length
    · rw [List.getElem?_append_left hlt] at hj
      exact hp j y hj
    · rw [List.getElem?_append_right (by omega)] at hj
      have h0 : j - l.length = 0:=by
        have:=(List.getElem?_eq_some_iff.1 hj).1
        simp at this
        omega
      rw [h0] at hj
      simp at hj
      subst hj
      have : j = n:=by omega
      subst this
      exact hx
def Dc.Str (x : Dc) : Prop:=(∀ s ∈ x.names,s.size ≤ maxLen) ∧ x.n.size ≤ maxLen ∧ x.m.size ≤ maxLen ∧ x.s.Str
section
variable {H : Type} {enc : TypeId × Value → H} {W : World}
theorem open_strs {fuel : Nat} {v : Value} {x : DataW H × List MemPlace} (h : DataW.trod enc Tryz.prog W 0 (fun _ => true) true fuel 55 [v] = some x) :
    ∃ A l c,v = .slice A (List.length l) c ∧ SlS W W.heap.size A c l ∧ ∀ s ∈ l,s.size ≤ maxLen:=by
  rcases open_strings Tryz.underlying55 Tryz.underlying9 Tryz.cellsString h with ⟨h0,_⟩ | ⟨a,len,cap,ss,h0,_,hl,hm,hz,_,hcell,hsz⟩
  · simp only [List.cons.injEq,and_true] at h0
    exact ⟨none,[],0,h0,SlS.nil _ _ _ _ (by simp [maxLen]),by simp⟩
  · simp only [List.cons.injEq,and_true] at h0
    subst h0
    simp only [if_true] at hz
    have htl : (ss.take len).length = len:=by rw [List.length_take];omega
    refine ⟨some a,ss.take len,cap,by rw [htl],⟨by omega,hm,fun hne => ?_⟩,fun s hs => hsz s (List.mem_of_mem_take hs)⟩
    have hpos : 0 < len:=by
      rcases Nat.eq_zero_or_pos len with h | h
      · subst h;simp at hne
      · exact h
    have h0:=hcell 0 (by omega)
    have h4:=add_none h0
    simp [Addr.add] at h4
    have hc' : ∀ j s,(ss.take len)[j]? = some s → W.cell? ⟨a.block,a.off + j,none⟩ = some (.string s):=by
      intro j s hs
      have hj : j < len:=by
        have:=(List.getElem?_eq_some_iff.1 hs).1
        omega
      rw [List.getElem?_take_of_lt hj] at hs
      have h3:=hcell j (by omega)
      rw [add_none h3,List.getD_eq_getElem?_getD,hs] at h3
      exact h3
    exact ⟨a.block,a.off,by rw [← h4],World.block_lt_of_cell? W ⟨a.block,a.off + 0,none⟩ (hc' 0 _ (List.getElem?_eq_getElem (by omega))),hc'⟩
theorem trod_decl {fuel : Nat} {cs : List Value} {x : DataW H × List MemPlace} (h : DataW.trod enc Tryz.prog W 0 (fun _ => true) true fuel 62 cs = some x) (hcs : cs.length = 11) :
    ∃ d : Dc,cs = d.cells.toList ∧ d.Ok W W.heap.size ∧ d.Str:=by
  match cs,hcs with
  | [c0,c1,c2,c3,c4,c5,c6,c7,c8,c9,c10],_ =>
    obtain ⟨_,_,_,h0⟩:=trod_fields Tryz.underlying62 h 0 _ rfl 3 0 1 rfl rfl Tryz.cellsInt
    obtain ⟨_,_,_,h1⟩:=trod_fields Tryz.underlying62 h 1 _ rfl 3 1 1 rfl rfl Tryz.cellsInt
    obtain ⟨_,_,_,h2⟩:=trod_fields Tryz.underlying62 h 2 _ rfl 4 2 1 rfl rfl Tryz.cellsBool
    obtain ⟨_,_,_,h3⟩:=trod_fields Tryz.underlying62 h 3 _ rfl 55 3 1 rfl rfl Tryz.cellsStrings
    obtain ⟨_,_,_,h4⟩:=trod_fields Tryz.underlying62 h 4 _ rfl 4 4 1 rfl rfl Tryz.cellsBool
    obtain ⟨_,_,_,h5⟩:=trod_fields Tryz.underlying62 h 5 _ rfl 60 5 6 rfl rfl Tryz.cellsExpr
    simp only [List.drop_succ_cons,List.drop_zero,List.take_succ_cons,List.take_zero] at h0 h1 h2 h3 h4 h5
    obtain ⟨id,e0,_⟩:=DataW.trod_int Tryz.underlying3 h0
    obtain ⟨kind,e1,_⟩:=DataW.trod_int Tryz.underlying3 h1
    obtain ⟨pub,e2,_⟩:=DataW.trod_bool Tryz.underlying4 h2
    obtain ⟨nA,names,nc,e3,hn,hns⟩:=open_strs h3
    obtain ⟨doubt,e4,_⟩:=DataW.trod_bool Tryz.underlying4 h4
    obtain ⟨k,n,m,i,d,v,n',y,e5,s1,s2,_,hv⟩:=trod_expr h5 rfl
    obtain ⟨A,s,c,e6,hs,hst⟩:=open_exprs _ _ _ hv
    simp only [List.cons.injEq,and_true] at e0 e1 e2 e4 e5
    obtain ⟨rfl,rfl,rfl,rfl,rfl,rfl⟩:=e5
    subst e0 e1 e2 e3 e4 e6
    exact ⟨⟨id,kind,pub,nA,nc,names,doubt,k,n,m,i,d,A,c,s⟩,rfl,⟨hn,hs⟩,hns,s1,s2,hst⟩
end
end Go.Proofs.YtnfndgmlnoeelaaGreatDoor
/- compile.hasSum -/
namespace Go.Proofs.YtnfndgmlnoeelaaGreatDoor
open Go.RowKit Go.Proofs Go.Shelf
def Fo.sum : Fo → Bool
  | .nil => false
  | .cons k _ _ _ _ _ _ s r => (k == 15 || s.sum) || r.sum
end Go.Proofs.YtnfndgmlnoeelaaGreatDoor
