/- compile: what the code of an expression is, in plain functions -/
import Derived.Test.YtmmecapgnmlaiaaGreatDoorZxc
import Derived.Test.YtmmecapgnmlaiaaGreatDoorZxj
import Derived.Test.YtmmecapgnmlaiaaGreatDoorZyd
import Derived.BigQuiet
namespace Go.Proofs.YtmmecapgnmlaiaaGreatDoor
open Go.RowKit Go.Proofs
structure Ins where
 op : Int
 a : Int
 b : Int
 nm : ByteArray
structure Blk where
 cap : Int
 par : Bool
 l : List Ins
structure FnE where
 k : Int
 n : ByteArray
 m : ByteArray
 i : Int
 d : Int
 A : Option Addr
 c : Nat
 s : Fo
 place : Nat
 vars : List ByteArray
 mks : Nat → List Blk
def Comp : Type:=List ByteArray → Nat → List Ins × List FnE
def noComp : Comp:=fun _ _ => ([],[])
def setA (l : List Ins) (j : Nat) (v : Int) : List Ins:=l.modify j fun x => { x with a:=v }
def fnsOf : List FnE → List Ins → Nat → List Ins × List Blk
 | [],l,_ => (l,[])
 | f :: r,l,ix => ((fnsOf r (setA l f.place ix) (ix + (f.mks ix).length)).1,f.mks ix ++ (fnsOf r (setA l f.place ix) (ix + (f.mks ix).length)).2)
def retI : Ins:=⟨7,0,0,⟨#[]⟩⟩
def blkOf (P : Comp) (vars : List ByteArray) (cap : Int) (par : Bool) (ix : Nat) : List Blk:=
 ⟨cap,par,(fnsOf (P vars 0).2 ((P vars 0).1 ++ [retI]) (ix + 1)).1⟩ :: (fnsOf (P vars 0).2 ((P vars 0).1 ++ [retI]) (ix + 1)).2
def lastV (n : ByteArray) : List ByteArray → Option Nat
 | [] => none
 | x :: r => match lastV n r with
  | some j => some (j + 1)
  | none => if (x.toList == n.toList) = true then some 0 else none
def simpleI (label : ByteArray) (k : Int) (n : ByteArray) (i d : Int) (vars : List ByteArray) : Ins:=
 if k = 1 then ⟨1,i,0,⟨#[]⟩⟩ else if k = 2 then ⟨2,i,0,⟨#[]⟩⟩ else if k = 14 then ⟨16,i,d,⟨#[]⟩⟩ else
 if k = 5 then (if n.toList.isEmpty = true then ⟨4,i,0,label⟩ else ⟨4,i,0,n⟩) else
 if k = 3 then (match lastV n vars with | some j => ⟨3,j,0,⟨#[]⟩⟩ | none => ⟨11,0,0,⟨#[]⟩⟩) else ⟨11,0,0,⟨#[]⟩⟩
def twoC (P Q : Comp) (x : Ins) : Comp:=fun vars st =>
 ((P vars st).1 ++ (Q vars (st + (P vars st).1.length)).1 ++ [x],(P vars st).2 ++ (Q vars (st + (P vars st).1.length)).2)
def letC (P Q : Comp) (n : ByteArray) : Comp:=fun vars st =>
 ((P vars st).1 ++ [⟨14,0,0,⟨#[]⟩⟩] ++ (Q (vars ++ [n]) (st + (P vars st).1.length + 1)).1 ++ [⟨15,1,0,⟨#[]⟩⟩],(P vars st).2 ++ (Q (vars ++ [n]) (st + (P vars st).1.length + 1)).2)
def ifC (P Q R : Comp) : Comp:=fun vars st =>
 let a:=st + (P vars st).1.length
 let b:=a + 1 + (Q vars (a + 1)).1.length
 ((P vars st).1 ++ [⟨9,(b + 1 : Nat),0,⟨#[]⟩⟩] ++ (Q vars (a + 1)).1 ++ [⟨8,(b + 1 + (R vars (b + 1)).1.length : Nat),0,⟨#[]⟩⟩] ++ (R vars (b + 1)).1,(P vars st).2 ++ (Q vars (a + 1)).2 ++ (R vars (b + 1)).2)
def caseC (P Q R : Comp) (n m : ByteArray) : Comp:=fun vars st =>
 let a:=st + (P vars st).1.length
 let j:=a + 2 + (R (vars ++ [n,m]) (a + 1)).1.length
 ((P vars st).1 ++ [⟨13,(j + 1 : Nat),0,⟨#[]⟩⟩] ++ (R (vars ++ [n,m]) (a + 1)).1 ++ [⟨15,2,0,⟨#[]⟩⟩,⟨8,(j + 1 + (Q vars (j + 1)).1.length : Nat),0,⟨#[]⟩⟩] ++ (Q vars (j + 1)).1,
  (P vars st).2 ++ (R (vars ++ [n,m]) (a + 1)).2 ++ (Q vars (j + 1)).2)
def nodeC (label : ByteArray) (k : Int) (n m : ByteArray) (i d : Int) (A : Option Addr) (c : Nat) (s : Fo) (cs : List Comp) : Comp:=fun vars st =>
 if k = 6 then ([⟨5,0,0,⟨#[]⟩⟩],[⟨k,n,m,i,d,A,c,s,st,vars,blkOf (cs.getD 0 noComp) (vars ++ [n]) vars.length true⟩]) else
 if k = 7 then twoC (cs.getD 0 noComp) (cs.getD 1 noComp) ⟨6,0,0,⟨#[]⟩⟩ vars st else
 if k = 10 then twoC (cs.getD 0 noComp) (cs.getD 1 noComp) ⟨10,0,0,n⟩ vars st else
 if k = 12 then twoC (cs.getD 0 noComp) (cs.getD 1 noComp) ⟨12,0,0,⟨#[]⟩⟩ vars st else
 if k = 8 then letC (cs.getD 0 noComp) (cs.getD 1 noComp) n vars st else
 if k = 9 then ifC (cs.getD 0 noComp) (cs.getD 1 noComp) (cs.getD 2 noComp) vars st else
 if k = 13 then caseC (cs.getD 0 noComp) (cs.getD 1 noComp) (cs.getD 2 noComp) n m vars st else
 ([simpleI label k n i d vars],[])
def Fo.comp (label : ByteArray) : Fo → List Comp
 | .nil => []
 | .cons k n m i d A c s r => nodeC label k n m i d A c s (s.comp label) :: r.comp label
def okC (k : Int) (len : Nat) : Prop:=(k = 6 → 1 ≤ len) ∧ (k = 7 ∨ k = 10 ∨ k = 12 ∨ k = 8 → 2 ≤ len) ∧ (k = 9 ∨ k = 13 → 3 ≤ len)
def Fo.Cok : Fo → Prop
 | .nil => True
 | .cons k _ _ _ _ _ _ s r => okC k s.len ∧ s.Cok ∧ r.Cok
def Small (N : Nat) (P : Comp) : Prop:=∀ vars st,(∀ f ∈ (P vars st).2,f.s.count ≤ N ∧ f.s.Cok ∧ okC f.k f.s.len) ∧ (P vars st).1.length ≤ 3 * (N + 1) ∧ (P vars st).2.length ≤ N + 1
end Go.Proofs.YtmmecapgnmlaiaaGreatDoor
/- What a valid module is like -/
namespace Go.Proofs.YtmmecapgnmlaiaaGreatDoor
open Go.RowKit Go.Proofs Go.Shelf
theorem err_len {k : Int} {n m : ByteArray} {i d : Int} {len : Nat} (h : nodeE k n m i d len = 0) : (len : Int) = (shapeZ k).2.2.1:=by
 unfold nodeE at h
 obtain ⟨⟨a,b,c,ok⟩,hs⟩ : ∃ t,shapeZ k = t:=⟨_,rfl⟩
 rw [hs] at h ⊢
 cases ok
 ·simp at h
 ·simp only at h
  cases ha : argB a b c n m i d len
  ·unfold argB at ha
   simp only [Bool.or_eq_false_iff] at ha
   have:=ha.2
   simpa using this
  ·rw [ha] at h;simp at h
theorem okC_of_err {k : Int} {n m : ByteArray} {i d : Int} {len : Nat} (h : nodeE k n m i d len = 0) : okC k len:=by
 have hl:=err_len h
 refine ⟨?_,?_,?_⟩
 ·rintro rfl
  have : (shapeZ 6).2.2.1 = 1:=rfl
  omega
 ·rintro (rfl | rfl | rfl | rfl)
  ·have : (shapeZ 7).2.2.1 = 2:=rfl
   omega
  ·have : (shapeZ 10).2.2.1 = 2:=rfl
   omega
  ·have : (shapeZ 12).2.2.1 = 2:=rfl
   omega
  ·have : (shapeZ 8).2.2.1 = 2:=rfl
   omega
 ·rintro (rfl | rfl)
  ·have : (shapeZ 9).2.2.1 = 3:=rfl
   omega
  ·have : (shapeZ 13).2.2.1 = 3:=rfl
   omega
theorem Fo.cok_of_err : ∀ (f : Fo) (dp : Nat),(∀ x ∈ f.pre dp,x.err = 0) → f.Cok
 | .nil,_,_ => trivial
 | .cons k n m i d A c s r,dp,h => by
  simp only [Fo.pre,List.mem_cons,List.mem_append] at h
  exact ⟨okC_of_err (h ⟨dp,k,n,m,i,d,A,s.len,c⟩ (.inl rfl)),s.cok_of_err (dp + 1) (fun x hx => h x (.inr (.inl hx))),r.cok_of_err dp (fun x hx => h x (.inr (.inr hx)))⟩
theorem Fo.vis_err : ∀ (f : Fo) (dp : Nat),(∀ x ∈ f.pre dp,x.err = 0) → ∀ x ∈ f.vis,x.err = 0
 | .nil,_,_,x,hx => by simp [Fo.vis] at hx
 | .cons k n m i d A c s r,dp,h,x,hx => by
  simp only [Fo.pre,List.mem_cons,List.mem_append] at h
  simp only [Fo.vis,List.mem_append,List.mem_cons] at hx
  rcases hx with hx | rfl | hx
  ·exact r.vis_err dp (fun x hx => h x (.inr (.inr hx))) x hx
  ·exact h ⟨dp,k,n,m,i,d,A,s.len,c⟩ (.inl rfl)
  ·exact s.vis_err (dp + 1) (fun x hx => h x (.inr (.inl hx))) x hx
theorem ref_err {n m : ByteArray} {i d : Int} {len : Nat} (h : nodeE 5 n m i d len = 0) : n.size ≤ 90 ∧ 1 ≤ i ∧ i ≤ 999999:=by
 have e : nodeE 5 n m i d len = if argB 1 1 0 n m i d len then 1 else if namesE 5 n m 1 = 0 then numE 5 i d else namesE 5 n m 1:=rfl
 rw [e] at h
 cases ha : argB 1 1 0 n m i d len
 ·rw [ha] at h
  simp only [Bool.false_eq_true,if_false] at h
  by_cases hn : namesE 5 n m 1 = 0
  ·rw [if_pos hn] at h
   refine ⟨?_,?_⟩
   ·have hb : nmB 5 n 1 = true:=by
     cases hb : nmB 5 n 1
     ·simp [namesE,hb] at hn
     ·rfl
    simp only [nmB,if_true,Bool.or_eq_true] at hb
    rcases hb with hb | hb
    ·have : n.toList = []:=by simpa using hb
     rw [Lib.toList_data] at this
     have : n.size = 0:=by
      have h2 : n.data.toList.length = n.size:=by simp
      rw [this] at h2
      simpa using h2.symm
     omega
    ·unfold labelB at hb
     simp at hb
     exact hb.1
   ·unfold numE at h
    cases hb : numB 5 i d
    ·rw [hb] at h;simp at h
    ·simp [numB] at hb;exact hb
  ·rw [if_neg hn] at h;exact absurd h hn
 ·rw [ha] at h;simp at h
theorem dd_sub : ∀ (p : ByteArray × Int) (l : List (ByteArray × Int)),∀ x ∈ dd p l,x ∈ l
 | _,[],x,h => by simp [dd] at h
 | p,y :: r,x,h => by
  unfold dd at h
  split at h
  ·exact List.mem_cons_of_mem _ (dd_sub y r x h)
  ·rcases List.mem_cons.1 h with rfl | h
   ·exact List.mem_cons_self ..
   ·exact List.mem_cons_of_mem _ (dd_sub y r x h)
theorem compactL_sub : ∀ (l : List (ByteArray × Int)),∀ x ∈ compactL l,x ∈ l
 | [],x,h => by simp [compactL] at h
 | y :: r,x,h => by
  rcases List.mem_cons.1 h with rfl | h
  ·exact List.mem_cons_self ..
  ·exact List.mem_cons_of_mem _ (dd_sub y r x h)
theorem refsOf_sub (l : List Nd) : ∀ r ∈ refsOf l,∃ x ∈ l,x.k = 5 ∧ r = (x.n,x.i):=by
 intro r hr
 have h1:=compactL_sub _ _ hr
 have h2 : r ∈ refL l:=List.mem_mergeSort.1 h1
 simp only [refL,List.mem_filterMap] at h2
 obtain ⟨x,hx,h3⟩:=h2
 by_cases hk : x.k = 5
 ·rw [if_pos hk] at h3
  exact ⟨x,hx,hk,(Option.some.inj h3).symm⟩
 ·rw [if_neg hk] at h3;cases h3
structure DcV (label : ByteArray) (x : Dc) : Prop where
 id : 1 ≤ x.id ∧ x.id ≤ 999999
 kind : x.kind = 1 ∨ x.kind = 2 ∨ x.kind = 3
 names : dnE x.names = 0
 cnt : x.s.count ≤ 399
 okc : okC x.k x.s.len
 cok : x.s.Cok
 err : ∀ y ∈ x.body.vis,y.err = 0
 nodot : x.body.vis.any (fun y => y.k == 4) = false
 nofree : nodeFree x.k x.n x.m x.s [] = false
 noref : x.body.vis.any (isRefTo label) = false
theorem declE_zero {label : ByteArray} {x : Dc} (h : declE label x = 0) : DcV label x:=by
 unfold declE at h
 by_cases h1 : x.id < 1 ∨ 999999 < x.id
 ·rw [if_pos h1] at h;simp at h
 rw [if_neg h1] at h
 by_cases h2 : x.kind ≠ 1 ∧ x.kind ≠ 2 ∧ x.kind ≠ 3
 ·rw [if_pos h2] at h;simp at h
 rw [if_neg h2] at h
 by_cases h3 : dnE x.names ≠ 0
 ·rw [if_pos h3] at h;exact absurd h h3
 rw [if_neg h3] at h
 by_cases h4 : exprE x.pre ≠ 0
 ·rw [if_pos h4] at h;exact absurd h h4
 rw [if_neg h4] at h
 have h4' : exprE x.pre = 0:=by omega
 by_cases h5 : x.body.vis.any (fun y => y.k == 4) = true
 ·rw [if_pos h5] at h;simp at h
 rw [if_neg h5] at h
 by_cases h6 : nodeFree x.k x.n x.m x.s [] = true
 ·rw [if_pos h6] at h;simp at h
 rw [if_neg h6] at h
 by_cases h7 : x.body.vis.any (isRefTo label) = true
 ·rw [if_pos h7] at h;simp at h
 obtain ⟨_,_,h8⟩:=exprE_zero h4'
 have hpre : ∀ y ∈ x.body.pre 1,y.err = 0:=by
  intro y hy
  refine h8 y ?_
  simpa [Dc.body,Dc.pre,Fo.pre] using hy
 exact ⟨by omega,by omega,by omega,(Dc.valid h4').2.2,okC_of_err (h8 _ (List.mem_cons_self ..)),x.s.cok_of_err 2 fun y hy => h8 y (List.mem_cons_of_mem _ hy),x.body.vis_err 1 hpre,by simpa using h5,by simpa using h6,by simpa using h7⟩
theorem declsE_zero (label : ByteArray) : ∀ (l : List Dc) (p : Option Int),declsE label p l = 0 → ∀ x ∈ l,declE label x = 0
 | [],_,_,x,hx => by simp at hx
 | y :: r,p,h,x,hx => by
  have key : declE label y = 0 ∧ declsE label (some y.id) r = 0:=by
   cases p with
   | none =>
    unfold declsE at h
    by_cases hy : declE label y = 0
    ·rw [if_pos hy] at h;exact ⟨hy,h⟩
    ·rw [if_neg hy] at h;exact absurd h hy
   | some p =>
    unfold declsE at h
    by_cases hy : declE label y = 0
    ·rw [if_pos hy] at h
     by_cases hp : y.id ≤ p
     ·rw [if_pos hp] at h;simp at h
     ·rw [if_neg hp] at h;exact ⟨hy,h⟩
    ·rw [if_neg hy] at h;exact absurd h hy
  rcases List.mem_cons.1 hx with rfl | hx
  ·exact key.1
  ·exact declsE_zero label r _ key.2 x hx
theorem checkE_zero {label : ByteArray} {uses : List ByteArray} {decls : List Dc} (h : checkE label uses decls = 0) : labelB label = true ∧ decls.length ≤ 100 ∧ ∀ x ∈ decls,DcV label x:=by
 unfold checkE at h
 cases h0 : labelB label
 ·rw [h0] at h;simp at h
 rw [h0] at h
 simp only [Bool.true_eq_false,if_false] at h
 by_cases h1 : srcE uses ≠ 0
 ·rw [if_pos h1] at h;exact absurd h h1
 rw [if_neg h1] at h
 by_cases h2 : useAll label uses uses.length 0 ≠ 0
 ·rw [if_pos h2] at h;exact absurd h h2
 rw [if_neg h2] at h
 by_cases h3 : 100 < decls.length
 ·rw [if_pos h3] at h;simp at h
 rw [if_neg h3] at h
 exact ⟨rfl,by omega,fun x hx => declE_zero (declsE_zero label decls none h x hx)⟩
theorem wf64 {i : Int} (h : 1 ≤ i ∧ i ≤ 999999) : (Lit.int .i64 i).wf = true:=by
 simp [Lit.wf,IntKind.min,IntKind.max,IntKind.bits,IntKind.signed]
 omega
theorem DcV.refs {label : ByteArray} {x : Dc} (h : DcV label x) : ∀ r ∈ x.refs,r.1.size ≤ 90 ∧ 1 ≤ r.2 ∧ r.2 ≤ 999999:=by
 intro r hr
 obtain ⟨y,hy,hk,rfl⟩:=refsOf_sub _ r hr
 have he:=h.err y hy
 unfold Nd.err at he
 rw [hk] at he
 exact ref_err he
theorem strD_of {label : ByteArray} {decls : List Dc} (h : ∀ x ∈ decls,DcV label x) : StrD decls:=by
 intro x hx s hs
 have hn:=(h x hx).names
 unfold dnE at hn
 split at hn
 ·simp at hn
 ·split at hn
  ·rename_i _ ha
   have:=List.all_eq_true.1 ha s hs
   unfold dnB at this
   simp only [Bool.or_eq_true] at this
   rcases this with h1 | h1
   ·have:=wordB_size h1;unfold maxLen;omega
   ·simp at h1
    have h2 : s.toList = []:=h1.2
    rw [Lib.toList_data] at h2
    have h3 : s.data.toList.length = s.size:=by simp
    rw [h2] at h3
    simp at h3
    unfold maxLen;omega
  ·simp at hn
end Go.Proofs.YtmmecapgnmlaiaaGreatDoor
/- infer.uses -/
namespace Go.Proofs.YtmmecapgnmlaiaaGreatDoor
open Go Go.RowKit Go.Proofs Go.Proofs.Scc
def usL (l : List (ByteArray × Int)) : List Int:=l.filterMap fun r => if r.1 = ⟨#[]⟩ then some r.2 else none
def Dc.us (x : Dc) : List Int:=usL x.refs
def UsesP (R : List Int) (w : World) (e : Ending) (w' : World) : Prop:=∃ v,e = .returned v ∧ w'.ownsRow w.heap.size 3 1 v R.length (R.map (.int .i64)) ∧ RowKit.Below w.heap.size w w'
theorem refsOf_le {l : List Nd} : (refsOf l).length ≤ l.length:=by
 have h0 : ∀ (l : List (ByteArray × Int)) (p : ByteArray × Int),(dd p l).length ≤ l.length:=fun l => by
  induction l with
  | nil => exact fun p => Nat.le_refl _
  | cons y r ih =>
   intro p
   unfold dd
   split
   ·exact Nat.le_trans (ih y) (Nat.le_succ _)
   ·exact Nat.succ_le_succ (ih y)
 have h1 : ∀ l : List (ByteArray × Int),(compactL l).length ≤ l.length:=fun l => by
  cases l with
  | nil => exact Nat.le_refl _
  | cons y r => exact Nat.succ_le_succ (h0 r y)
 refine Nat.le_trans (h1 _) ?_
 rw [show (sortNames (refL l)).length = (refL l).length by simp [sortNames]]
 exact List.length_filterMap_le _ _
theorem empty_no {x : ByteArray} (h : ¬ x = ⟨#[]⟩) : x.toList.isEmpty = false:=by
 cases e : x.toList.isEmpty with
 | false => rfl
 | true =>
  rw [List.isEmpty_iff,Lib.toList_data] at e
  exact absurd (by cases x with | mk d => exact congrArg ByteArray.mk (Array.ext' (by simpa using e))) h
theorem usL_snoc (l : List (ByteArray × Int)) (r : ByteArray × Int) : usL (l ++ [r]) = if r.1 = ⟨#[]⟩ then usL l ++ [r.2] else usL l:=by
 unfold usL
 rw [List.filterMap_append]
 by_cases h : r.1 = ⟨#[]⟩
 ·simp [h]
 ·simp [h]
theorem usL_le (l : List (ByteArray × Int)) : (usL l).length ≤ l.length:=List.length_filterMap_le _ _
set_option maxRecDepth 100000 in
set_option maxHeartbeats 4000000 in
theorem iUses_any (x : Dc) {w : World} (hs : x.s.Sl w w.heap.size x.A x.c) (hcnt : x.s.count ≤ 100000) :
  Calls Tryz.prog 43 #[.agg #[.int .i64 x.id,.int .i64 x.kind,.bool x.pub,.slice x.nA x.names.length x.nc,.bool x.doubt,.int .i64 x.k,.string x.n,.string x.m,.int .i64 x.i,.int .i64 x.d,.slice x.A x.s.len x.c]] w (UsesP x.us w):=by
 have hlen : x.refs.length ≤ 1000000:=by
  have h1 : x.refs.length ≤ x.body.vis.length:=refsOf_le
  rw [Fo.vis_length] at h1
  simp only [Dc.body,Fo.count] at h1
  omega
 have hus : usL x.refs = x.us:=rfl
 have hrf : refsOf (Fo.cons x.k x.n x.m x.i x.d x.A x.c x.s .nil).vis = x.refs:=rfl
 obtain ⟨id,kind,pub,nA,nc,names,doubt,k,n,m,i,d,A,c,s⟩:=x
 obtain ⟨W0,hW0⟩ : ∃ W0,w.alloc (.cells #[.int .i64 id,.int .i64 kind,.bool pub,.slice nA names.length nc,.bool doubt,.int .i64 k,.string n,.string m,.int .i64 i,.int .i64 d,.slice A s.len c] 46) = W0:=⟨_,rfl⟩
 have hb0 : RowKit.Below w.heap.size w W0:=by subst hW0;exact (Below.refl _ _).alloc (Nat.le_refl _) _
 have hr0 : W0.heap[w.heap.size]? = some (.cells #[.int .i64 id,.int .i64 kind,.bool pub,.slice nA names.length nc,.bool doubt,.int .i64 k,.string n,.string m,.int .i64 i,.int .i64 d,.slice A s.len c] 46 (0,0)):=by subst hW0;exact heap_alloc_new w _
 have e5:=cell_of_row W0 w.heap.size 5 _ _ (0,0) hr0
 have e6:=cell_of_row W0 w.heap.size 6 _ _ (0,0) hr0
 have e7:=cell_of_row W0 w.heap.size 7 _ _ (0,0) hr0
 have e8:=cell_of_row W0 w.heap.size 8 _ _ (0,0) hr0
 have e9:=cell_of_row W0 w.heap.size 9 _ _ (0,0) hr0
 have e10:=cell_of_row W0 w.heap.size 10 _ _ (0,0) hr0
 simp at e5 e6 e7 e8 e9 e10
 have HC:=Lib.hid (refs_any k n m i d A c s W0 (hs.keep (Nat.le_of_lt (by have:=hb0.size;subst hW0;simp)) fun p hp => hb0.cell hp) hcnt)
 obtain ⟨RF,HRF⟩ : ∃ RF,RF = refsOf (Fo.cons k n m i d A c s .nil).vis:=⟨_,rfl⟩
 rw [← HRF] at HC hrf
 rw [← hrf] at hus hlen
 rw [← hus]
 obtain ⟨L,HL⟩ : ∃ L,Hid (RF.length = L):=⟨_,Lib.hid rfl⟩
 rw [HL.out] at hlen
 obtain ⟨nl,hnl⟩ : ∃ nl,Hid (names.length = nl):=⟨_,Lib.hid rfl⟩
 rw [hnl.out] at hW0 ⊢
 obtain ⟨sl,hsl⟩ : ∃ sl,Hid (s.len = sl):=⟨_,Lib.hid rfl⟩
 rw [hsl.out] at hW0 HC e10 ⊢
 have HB:=Lib.hid hb0
 clear hs hcnt hr0 hb0 HRF hrf hus
 go_enter Tryz.func43,Tryz.ntmps43
 go_wp2_with (go_at_call 54;(with_reducible refine Calls.mono HC.out ?_);rintro e w2 ⟨v,rfl,hrow,hb2⟩;obtain ⟨vA,vc,rfl⟩:=row_slice hrow;have HR2:=Lib.hid (And.intro hrow hb2);clear hrow hb2;rw [HL.out])
 go_loopg [3,5,10] L (fun g lv _ ct wr => ∃ j : Nat,g = L - j ∧ j ≤ L ∧ ct = .int .i64 j ∧ wr.ownsRow w2.heap.size 3 1 lv (usL (RF.take j)).length ((usL (RF.take j)).map (.int .i64)) ∧ RowKit.Below w2.heap.size w2 wr)
 case atStart => exact ⟨0,rfl,Nat.zero_le _,rfl,World.ownsRow_nil _ _ _ _,RowKit.Below.refl _ _⟩
 case round =>
  obtain ⟨j,hg,hj,rfl,hlv,hB⟩:=hrel
  obtain ⟨lA,lc,rfl⟩:=row_slice hlv
  obtain ⟨q,hq⟩ : ∃ q,Hid ((usL (RF.take j)).length = q):=⟨_,Lib.hid rfl⟩
  have hqj : q ≤ 1000000:=by
   rw [← hq.out]
   have:=usL_le (RF.take j)
   rw [List.length_take] at this
   omega
  by_cases hlt : j < L
  ·have hlt' : j < RF.length:=by rw [HL.out];exact hlt
   obtain ⟨x,hx⟩ : ∃ x,RF[j]? = some x:=⟨_,List.getElem?_eq_getElem hlt'⟩
   obtain ⟨n0,n1⟩:=namesC_at x RF j hx
   obtain ⟨b,rfl⟩ : ∃ b,vA = some ⟨b,0,none⟩:=by
    rcases HR2.out.1.2 with ⟨e,e'⟩ | ⟨g',cap',cur,e,_⟩
    ·rw [HL.out] at e';omega
    ·cases e;exact ⟨_,rfl⟩
   have hbz:=(HR2.out.1.lt b rfl).2
   have hrow':=HR2.out.1
   have c0 : wr.cell? ⟨b,j * 2,none⟩ = some (.string x.1):=(hB.cell (p:=⟨b,j * 2,none⟩) hbz).trans ((hrow'.cellAt _ (by omega)).trans n0)
   have c1 : wr.cell? ⟨b,j * 2 + 1,none⟩ = some (.int .i64 x.2):=(hB.cell (p:=⟨b,j * 2 + 1,none⟩) hbz).trans ((hrow'.cellAt _ (by omega)).trans n1)
   have htk : RF.take (j + 1) = RF.take j ++ [x]:=by rw [List.take_add_one,hx];rfl
   have hsn:=usL_snoc (RF.take j) x
   rw [← htk] at hsn
   obtain ⟨xn,xi⟩:=x
   simp only at c0 c1 hsn
   obtain ⟨W3,hW3⟩ : ∃ W3,wr.alloc (.cells #[.string xn,.int .i64 xi] 102) = W3:=⟨_,rfl⟩
   have hb3 : RowKit.Below wr.heap.size wr W3:=by subst hW3;exact (RowKit.Below.refl _ _).alloc (Nat.le_refl _) _
   have hr3 : W3.heap[wr.heap.size]? = some (.cells #[.string xn,.int .i64 xi] 102 (0,0)):=by subst hW3;exact heap_alloc_new wr _
   have f0:=cell_of_row W3 wr.heap.size 0 _ _ (0,0) hr3
   have f1:=cell_of_row W3 wr.heap.size 1 _ _ (0,0) hr3
   simp at f0 f1
   have hlv3:=row_keep hlv (w':=W3) fun g hg => hb3.block g (hlv.lt g hg).2
   rw [hq.out] at hlv3 ⊢
   by_cases he : xn = ⟨#[]⟩
   ·subst he
    rw [if_pos rfl] at hsn
    obtain ⟨i1',hi',hz0',hz1',hz2'⟩:=info_parts Tryz.infoInt
    have hrl : (W3.alloc (.cells #[.int .i64 xi] 3)).ownsRow w2.heap.size 3 1 (.slice lA q lc) q ((usL (RF.take j)).map (.int .i64)):=hlv3.alloc _
    have HI3:=Lib.hid (And.intro hrl (And.intro (show w2.heap.size ≤ (W3.alloc (.cells #[.int .i64 xi] 3)).heap.size by have:=hB.size;have:=hb3.size;simp;omega) (And.intro (hB.trans (hb3.mono hB.size)) (And.intro hsn hg))))
    clear hlv hlv3 hrl hB hb3 hr3 hx n0 n1 htk hsn hg hrow' hlt'
    go_upto_region 5 with fail
    try rw [hW3]
    go_wp2_with (at_builtin;refine wpList_append_own_at _ rfl _ _ 39 rfl w2.heap.size 3 i1' _ 1 8 Tryz.undInts hi' hz0' hz1' hz2' rfl (by decide) (.slice lA q lc) q _ rfl HI3.out.1 ⟨W3.heap.size,0,none⟩ 1 1 [.int .i64 xi] rfl rfl (new_one W3 _ _) (by simp [Value.oneCell']) (by unfold maxLen;omega) (by omega) HI3.out.2.1 ?_;intro lv6 Z6 hown6 hgrow6 _ _;have HZ6:=Lib.hid (And.intro hown6 hgrow6);clear hown6 hgrow6)
    go_roundg (L - (j + 1))
    case measure => have:=HI3.out.2.2.2.2;omega
    case rel =>
     refine ⟨j + 1,rfl,by omega,by go_num,?_,?_⟩
     ·rw [HI3.out.2.2.2.1,List.length_append,List.map_append,List.length_singleton,hq.out]
      exact HZ6.out.1
     ·have h1:=HI3.out.2.2.1
      exact h1.trans (((RowKit.Below.refl _ _).alloc h1.size (.cells #[.int .i64 xi] 3)).trans (grown_bel HZ6.out.2 HI3.out.2.1 fun k e => (HI3.out.1.lt k e).1))
   ·rw [if_neg he] at hsn
    have he' : xn.toList.isEmpty = false:=empty_no he
    have HI3:=Lib.hid (And.intro hlv3 (And.intro (hB.trans (hb3.mono hB.size)) (And.intro hsn hg)))
    clear hlv hlv3 hB hb3 hr3 hx n0 n1 htk hsn hg hrow' hlt'
    go_upto_region 5 with fail
    try rw [hW3]
    go_wp2
    go_roundg (L - (j + 1))
    case measure => have:=HI3.out.2.2.2;omega
    case rel =>
     refine ⟨j + 1,rfl,by omega,by go_num,?_,HI3.out.2.1⟩
     rw [HI3.out.2.2.1,hq.out]
     exact HI3.out.1
  ·obtain rfl : j = L:=by omega
   have i1 : decide ((j : Int) < (j : Int)) = false:=decide_eq_false (by omega)
   have i2 : decide (j < j) = false:=decide_eq_false (by omega)
   have htk : RF.take j = RF:=List.take_of_length_le (by rw [HL.out];exact Nat.le_refl _)
   rw [htk] at hlv hq
   have HI3:=Lib.hid (And.intro hlv hB)
   rw [htk]
   clear hlv hB hg
   go_wp2
   go_ret
   refine ⟨_,rfl,?_,?_⟩
   ·have h2:=HI3.out.1
    have h3:=HR2.out.2.size
    have h4:=HB.out.size
    exact row_mono h2 (by omega)
   ·have h2:=HR2.out.2
    have h3:=HB.out
    exact h3.trans ((h2.mono h3.size).trans (HI3.out.2.mono (Nat.le_trans h3.size h2.size)))
end Go.Proofs.YtmmecapgnmlaiaaGreatDoor
/- infer.Groups -/
namespace Go.Proofs.YtmmecapgnmlaiaaGreatDoor
open Go Go.RowKit Go.Proofs Go.Proofs.Scc
def usedF (ds : List Dc) (a : Int) : List Int:=match ds.find? (fun d => d.id == a) with
 | some d => d.us
 | none => []
def idsF (ds : List Dc) : List Int:=ds.map Dc.id
def missF (ds : List Dc) : Bool:=ds.any fun d => d.us.any fun u => !(decide (u ∈ idsF ds))
def grpE (label : ByteArray) (uses : List ByteArray) (ds : List Dc) : Int:=if checkE label uses ds ≠ 0 then checkE label uses ds else if missF ds = true then 21 else 0
def grpsOf (ds : List Dc) : List (List Int):=groupsT (usedF ds) (idsF ds)
theorem declsE_asc : ∀ {label : ByteArray} {ds : List Dc} {p : Option Int},declsE label p ds = 0 → (∀ x ∈ ds,∀ q,p = some q → q < x.id) ∧ (idsF ds).Pairwise (· < ·)
 | _,[],_,_ => ⟨fun x hx => (by cases hx),List.Pairwise.nil⟩
 | label,y :: r,p,h => by
  have key : declsE label (some y.id) r = 0 ∧ ∀ q,p = some q → q < y.id:=by
   cases p with
   | none =>
    unfold declsE at h
    by_cases hy : declE label y = 0
    ·rw [if_pos hy] at h;exact ⟨h,fun q e => by cases e⟩
    ·rw [if_neg hy] at h;exact absurd h hy
   | some p =>
    unfold declsE at h
    by_cases hy : declE label y = 0
    ·rw [if_pos hy] at h
     by_cases hp : y.id ≤ p
     ·rw [if_pos hp] at h;simp at h
     ·rw [if_neg hp] at h;exact ⟨h,fun q e => by cases e;omega⟩
    ·rw [if_neg hy] at h;exact absurd h hy
  obtain ⟨k1,k2⟩:=declsE_asc key.1
  have k3 : ∀ x ∈ r,y.id < x.id:=fun x hx => k1 x hx _ rfl
  refine ⟨fun x hx q hq => ?_,?_⟩
  ·rcases List.mem_cons.1 hx with rfl | hx
   ·exact key.2 q hq
   ·have:=key.2 q hq;have:=k3 x hx;omega
  ·show (y.id :: idsF r).Pairwise _
   rw [List.pairwise_cons]
   refine ⟨fun a ha => ?_,k2⟩
   obtain ⟨x,hx,rfl⟩:=List.mem_map.1 ha
   exact k3 x hx
structure MdV (label : ByteArray) (ds : List Dc) : Prop where
 asc : (idsF ds).Pairwise (· < ·)
 len : ds.length ≤ 100
 v : ∀ x ∈ ds,DcV label x
theorem MdV.of {label : ByteArray} {uses : List ByteArray} {ds : List Dc} (h : checkE label uses ds = 0) : MdV label ds:=by
 obtain ⟨_,h2,h3⟩:=checkE_zero h
 refine ⟨?_,h2,h3⟩
 have h4 : declsE label none ds = 0:=by
  unfold checkE at h
  split at h
  ·simp at h
  ·split at h
   ·rename_i h1;exact absurd h h1
   ·split at h
    ·rename_i h1;exact absurd h h1
    ·split at h
     ·simp at h
     ·exact h
 exact (declsE_asc h4).2
section
variable {label : ByteArray} {ds : List Dc}
theorem find_id (h : (idsF ds).Pairwise (· < ·)) {j : Nat} {x : Dc} (hx : ds[j]? = some x) : ds.find? (fun d => d.id == x.id) = some x:=by
 induction ds generalizing j with
 | nil => simp at hx
 | cons y r ih =>
  have h' : (y.id :: idsF r).Pairwise (· < ·):=h
  rw [List.pairwise_cons] at h'
  cases j with
  | zero =>
   simp only [List.getElem?_cons_zero,Option.some.injEq] at hx
   subst hx
   simp [List.find?]
  | succ j =>
   rw [List.getElem?_cons_succ] at hx
   have h1 : y.id < x.id:=h'.1 x.id (List.mem_map.2 ⟨x,List.mem_of_getElem? hx,rfl⟩)
   have e : (y.id == x.id) = false:=by simp;omega
   rw [List.find?_cons,e]
   exact ih h'.2 hx
theorem usedF_at (h : (idsF ds).Pairwise (· < ·)) {j : Nat} {x : Dc} (hx : ds[j]? = some x) : usedF ds x.id = x.us:=by
 unfold usedF
 rw [find_id h hx]
theorem usedF_mem (h : (idsF ds).Pairwise (· < ·)) {x : Dc} (hx : x ∈ ds) : usedF ds x.id = x.us:=by
 obtain ⟨j,hj⟩:=List.getElem?_of_mem hx
 exact usedF_at h hj
theorem DcV.us_ok {x : Dc} (h : DcV label x) : x.us.length ≤ 1000 ∧ ∀ u ∈ x.us,1 ≤ u ∧ u ≤ 999999:=by
 have h1 : x.refs.length ≤ x.body.vis.length:=refsOf_le
 rw [Fo.vis_length] at h1
 simp only [Dc.body,Fo.count] at h1
 have h2:=usL_le x.refs
 have h3:=h.cnt
 refine ⟨by unfold Dc.us;omega,fun u hu => ?_⟩
 unfold Dc.us usL at hu
 rw [List.mem_filterMap] at hu
 obtain ⟨r,hr,e⟩:=hu
 split at e
 ·cases e;exact (h.refs r hr).2
 ·cases e
theorem MdV.gr (h : MdV label ds) (hm : missF ds = false) : GrOk (usedF ds) (idsF ds):=by
 have hx : ∀ a ∈ idsF ds,∃ x ∈ ds,x.id = a ∧ usedF ds a = x.us:=fun a ha => by
  obtain ⟨x,hx,rfl⟩:=List.mem_map.1 ha
  exact ⟨x,hx,rfl,usedF_mem h.asc hx⟩
 refine ⟨asc_nodup h.asc,fun a ha => ?_,fun a ha u hu => ?_,by show (ds.map Dc.id).length ≤ 1000;rw [List.length_map];have:=h.len;omega,fun a ha => ?_⟩
 ·obtain ⟨x,hx,rfl,_⟩:=hx a ha
  exact wf64 (h.v x hx).id
 ·obtain ⟨x,hx,rfl,e⟩:=hx a ha
  rw [e] at hu
  unfold missF at hm
  rw [List.any_eq_false] at hm
  have:=hm x hx
  rw [Bool.not_eq_true,List.any_eq_false] at this
  simpa using this u hu
 ·obtain ⟨x,hx,rfl,e⟩:=hx a ha
  rw [e]
  have:=(h.v x hx).us_ok.1
  omega
end
def GrpsP (W : World) (E : Int) (R : List (List Int)) (e : Ending) (Y : World) : Prop:=
 ∃ v gl,e = .returned (.tuple #[v,.int .i64 E]) ∧ RowKit.Below W.heap.size W Y ∧ ((E = 0 ∧ RG Y W.heap.size W.heap.size v gl R) ∨ (E ≠ 0 ∧ v = .slice none 0 0))
theorem row_ints {w : World} {base : Nat} {v : Value} {l : List Int} (h : w.ownsRow base 3 1 v l.length (l.map (.int .i64))) : ∃ A c,v = .slice A l.length c ∧ IntsA w w.heap.size A c l:=by
 rcases h.2 with ⟨e1,e2⟩ | ⟨g,cap,cur,e1,e2,e3,e4,e5,e6,e7⟩
 ·have : l = []:=List.length_eq_zero_iff.1 e2
  subst this
  exact ⟨none,0,e1,Nat.le_refl _,Nat.zero_le _,fun h' => absurd rfl h'⟩
 ·subst e1
  refine ⟨_,cap,rfl,e4,e5,fun _ => ⟨g,0,rfl,lt_of_block e3,fun j i hj => ?_⟩⟩
  have:=(h.cellAt j (by rw [Nat.mul_one];exact (List.getElem?_eq_some_iff.1 hj).1))
  rw [List.getElem?_map,hj] at this
  rw [Nat.zero_add]
  exact this
def takeF (ids : List Int) (used : Int → List Int) (j : Nat) (a : Int) : List Int:=if a ∈ ids.take j then used a else []
structure GuI (W : World) (ub : Nat) (mo : Array Value) (ids : List Int) (used : Int → List Int) (j : Nat) (w : World) : Prop where
 bl : RowKit.Below W.heap.size W w
 box : w.heap[W.heap.size]? = some (.cells mo 25 (0,0))
 lt : W.heap.size < ub
 um : ∃ g,MapA intK w ub j g ∧ ∀ a,∃ A c,(g a).getD (.slice none 0 0) = .slice A (takeF ids used j a).length c ∧ IntsA w w.heap.size A c (takeF ids used j a)
section
variable {W w w' : World} {ub j : Nat} {mo : Array Value} {ids : List Int} {used : Int → List Int}
theorem IntsA.mono {B B' : Nat} {A : Option Addr} {c : Nat} {l : List Int} (h : IntsA w B A c l) (hB : B ≤ B') : IntsA w B' A c l:=⟨h.1,h.2.1,fun hne => by
 obtain ⟨g,o,e,hg,hc⟩:=h.2.2 hne
 exact ⟨g,o,e,Nat.lt_of_lt_of_le hg hB,hc⟩⟩
theorem GuI.below (h : GuI W ub mo ids used j w) (hb : RowKit.Below w.heap.size w w') : GuI W ub mo ids used j w':=by
 obtain ⟨g,hm,ha⟩:=h.um
 refine ⟨h.bl.trans (hb.mono h.bl.size),(hb.block _ (lt_of_block h.box)).trans h.box,h.lt,g,hm.keep (hb.block ub hm.lt),fun a => ?_⟩
 obtain ⟨A,c,e,hi⟩:=ha a
 exact ⟨A,c,e,(hi.below hb).mono hb.size⟩
theorem MapA.cells {α : Type} {K : KeyT α} {b N : Nat} {g : α → Option Value} (h : MapA K w b N g) {k : Nat} {cur : Array Value} {t : TypeId} {fz : Nat × Nat} (hc : w.heap[k]? = some (.cells cur t fz)) : k ≠ b:=fun e => by
 obtain ⟨_,_,⟨es,cl,h1,_⟩,_⟩:=h
 rw [e,h1] at hc
 cases hc
theorem IntsA.turn {A : Option Addr} {c : Nat} {l : List Int} (h : IntsA w w.heap.size A c l) {tb : Nat} (hz : w.heap.size ≤ w'.heap.size) (hs : ∀ k,k < w.heap.size → k ≠ tb → w'.heap[k]? = w.heap[k]?) (ht : ∃ es c,w.heap[tb]? = some (.map es c)) : IntsA w' w'.heap.size A c l:=
 ⟨h.1,h.2.1,fun hne => by
  obtain ⟨q,o,e,hq,hc⟩:=h.2.2 hne
  obtain ⟨i,hi⟩ : ∃ i,i ∈ l:=List.exists_mem_of_ne_nil _ hne
  obtain ⟨t,ht'⟩:=List.getElem?_of_mem hi
  have h0:=hc t i ht'
  have hqm : q ≠ tb:=fun e' => by
   obtain ⟨es,cl,h1⟩:=ht
   rw [e'] at h0
   simp [World.cell?,h1] at h0
  exact ⟨q,o,e,Nat.lt_of_lt_of_le hq hz,fun t' i' ht' => (World.cell?_of_block (hs q hq hqm)).trans (hc t' i' ht')⟩⟩
theorem GuI.put (h : GuI W ub mo ids used j w) {a : Int} (hj : ids[j]? = some a) (hn : ids.Nodup) (ha : intK.ok a) (hjm : j < maxLen) {A : Option Addr} {c : Nat} (hi : IntsA w w.heap.size A c (used a)) :
  ∃ Y,(Instr.mapUpdate 77 (.map (some ub)) (.int .i64 a) (.slice A (used a).length c)).run Tryz.prog w = .ok () Y ∧ GuI W ub mo ids used (j + 1) Y:=by
 obtain ⟨g,hm,hg⟩:=h.um
 obtain ⟨Y,hr,hm2,hgr⟩:=hm.put (t:=77) Tryz.undIntsM hjm ha (.slice A (used a).length c)
 have hlt:=h.lt
 have hbz:=lt_of_block h.box
 have hs : ∀ k,k < w.heap.size → k ≠ ub → Y.heap[k]? = w.heap[k]?:=fun k hk hne => hgr.block k hk (fun e => hne (Option.some.inj e))
 have htm : ∃ es c,w.heap[ub]? = some (.map es c):=by
  obtain ⟨_,_,⟨es,cl,h1,_⟩,_⟩:=hm
  exact ⟨es,cl,h1⟩
 have htk : ids.take (j + 1) = ids.take j ++ [a]:=by rw [List.take_add_one,hj];rfl
 have hna : a ∉ ids.take j:=fun hm' => by
  rw [← List.take_append_drop (j + 1) ids,htk,List.nodup_append] at hn
  exact (List.nodup_append.1 hn.1).2.2 a hm' a (by simp) rfl
 refine ⟨Y,hr,h.bl.trans (grown_bel hgr h.bl.size (fun k e => by have:=Option.some.inj e;omega)),(hs _ hbz (by omega)).trans h.box,hlt,_,hm2,fun x => ?_⟩
 unfold takeF
 rw [htk]
 by_cases e : x = a
 ·subst e
  rw [if_pos rfl,if_pos (by simp)]
  exact ⟨A,c,rfl,hi.turn hgr.size hs htm⟩
 ·rw [if_neg e]
  obtain ⟨A',c',e',hi'⟩:=hg x
  unfold takeF at e' hi'
  by_cases hx : x ∈ ids.take j
  ·rw [if_pos hx] at e' hi'
   rw [if_pos (List.mem_append_left _ hx)]
   exact ⟨A',c',e',hi'.turn hgr.size hs htm⟩
  ·rw [if_neg hx] at e' hi'
   rw [if_neg (by simp [hx,e])]
   exact ⟨A',c',e',hi'.turn hgr.size hs htm⟩
structure GuT (W : World) (ub tb : Nat) (mo : Array Value) (ids : List Int) (used : Int → List Int) (j : Nat) (w : World) : Prop where
 i : GuI W ub mo ids used ids.length w
 ne : ub < tb
 tm : MapA intK w tb j (fun a => if a ∈ ids.take j then some (.bool true) else none)
theorem GuT.below {tb : Nat} (h : GuT W ub tb mo ids used j w) (hb : RowKit.Below w.heap.size w w') : GuT W ub tb mo ids used j w':=⟨h.i.below hb,h.ne,h.tm.keep (hb.block tb h.tm.lt)⟩
theorem GuT.put {tb : Nat} (h : GuT W ub tb mo ids used j w) {a : Int} (hj : ids[j]? = some a) (ha : intK.ok a) (hjm : j < maxLen) :
  ∃ Y,(Instr.mapUpdate 79 (.map (some tb)) (.int .i64 a) (.bool true)).run Tryz.prog w = .ok () Y ∧ GuT W ub tb mo ids used (j + 1) Y:=by
 obtain ⟨Y,hr,hm2,hgr⟩:=h.tm.put (t:=79) Tryz.undBoolM hjm ha (.bool true)
 have hs : ∀ k,k < w.heap.size → k ≠ tb → Y.heap[k]? = w.heap[k]?:=fun k hk hne => hgr.block k hk (fun e => hne (Option.some.inj e))
 have htk : ids.take (j + 1) = ids.take j ++ [a]:=by rw [List.take_add_one,hj];rfl
 have hne:=h.ne
 have hlt:=h.i.lt
 obtain ⟨g,hm,hg⟩:=h.i.um
 have htm : ∃ es c,w.heap[tb]? = some (.map es c):=by
  obtain ⟨_,_,⟨es,cl,h1,_⟩,_⟩:=h.tm
  exact ⟨es,cl,h1⟩
 refine ⟨Y,hr,⟨h.i.bl.trans (grown_bel hgr h.i.bl.size (fun k e => by have:=Option.some.inj e;omega)),(hs _ (lt_of_block h.i.box) (by omega)).trans h.i.box,hlt,g,hm.keep (hs ub hm.lt (by omega)),fun x => ?_⟩,hne,hm2.cong fun x _ => ?_⟩
 ·obtain ⟨A,c,e,hi⟩:=hg x
  exact ⟨A,c,e,hi.turn hgr.size hs htm⟩
 ·rw [htk]
  by_cases e : x = a
  ·subst e;simp
  ·simp [e]
theorem GuT.looks {tb : Nat} (h : GuT W ub tb mo ids used ids.length w) (hu : ∀ a,a ∉ ids → used a = []) {a : Int} (ha : intK.ok a) :
  (∃ A c,(Instr.lookup 77 (.map (some ub)) (.int .i64 a) false).run Tryz.prog w = .ok (.slice A (used a).length c) w ∧ IntsA w w.heap.size A c (used a)) ∧ (Instr.lookup 79 (.map (some tb)) (.int .i64 a) false).run Tryz.prog w = .ok (.bool (decide (a ∈ ids))) w:=by
 constructor
 ·obtain ⟨g,hm,hg⟩:=h.i.um
  have:=hm.look false (t:=77) Tryz.undIntsM (zeroInts w) ha
  simp only [Bool.false_eq_true,if_false,intK] at this
  obtain ⟨A,c,e,hi⟩:=hg a
  have e2 : takeF ids used ids.length a = used a:=by
   unfold takeF
   rw [List.take_length]
   split
   ·rfl
   ·rename_i hn;exact (hu a hn).symm
  rw [e2] at e hi
  rw [e] at this
  exact ⟨A,c,this,hi⟩
 ·have:=h.tm.look false (t:=79) Tryz.undBoolM (zeroBoolI w) ha
  simp only [Bool.false_eq_true,if_false,intK] at this
  have e : (if a ∈ ids.take ids.length then some (Value.bool true) else none).getD (.bool false) = .bool (decide (a ∈ ids)):=by
   rw [List.take_length]
   by_cases e : a ∈ ids
   ·rw [if_pos e,decide_eq_true e];rfl
   ·rw [if_neg e,decide_eq_false e];rfl
  rw [e] at this
  exact this
theorem GuI.done (h : GuI W ub mo ids used ids.length w) (hu : ∀ a,a ∉ ids → used a = []) : UsAt w.heap.size ub used w:=by
 obtain ⟨g,hm,ha⟩:=h.um
 have e : takeF ids used ids.length = used:=by
  funext a
  unfold takeF
  rw [List.take_length]
  split
  ·rfl
  ·rename_i hn;exact (hu a hn).symm
 rw [e] at ha
 exact ⟨_,g,hm,ha⟩
end
end Go.Proofs.YtmmecapgnmlaiaaGreatDoor
/- ref25.SameGroups -/
namespace Go.Proofs.YtmmecapgnmlaiaaGreatDoor
open Go Go.RowKit Go.Proofs Go.Proofs.Scc
def GsA (w : World) (A : Option Addr) (c : Nat) (gs : List (List Int)) : Prop:=
 gs.length ≤ c ∧ c ≤ maxLen ∧ (gs ≠ [] → ∃ g o,A = some ⟨g,o,none⟩ ∧ ∀ (j : Nat) (l : List Int),gs[j]? = some l → ∃ A' c',w.cell? ⟨g,o + j,none⟩ = some (.slice A' l.length c') ∧ IntsA w w.heap.size A' c' l)
theorem GsA.keep {w w' : World} {A : Option Addr} {c : Nat} {gs : List (List Int)} (h : GsA w A c gs) (hb : RowKit.Below w.heap.size w w') : GsA w' A c gs:=
 ⟨h.1,h.2.1,fun hne => by
  obtain ⟨g,o,e,hc⟩:=h.2.2 hne
  refine ⟨g,o,e,fun j l hj => ?_⟩
  obtain ⟨A',c',h1,h2⟩:=hc j l hj
  exact ⟨A',c',(hb.cell (p:=⟨g,o + j,none⟩) (World.block_lt_of_cell? w ⟨g,o + j,none⟩ h1)).trans h1,(h2.below hb).mono hb.size⟩⟩
theorem RG.gsA {w : World} {base rb : Nat} {v : Value} {gl : List Value} {gs : List (List Int)} (h : RG w base rb v gl gs) : ∃ A c,v = .slice A gs.length c ∧ GsA w A c gs:=by
 have hl:=h.len
 rcases h.row.2 with ⟨e1,e2⟩ | ⟨g,cap,cur,e1,e2,e3,e4,e5,e6,e7⟩
 ·have : gs = []:=List.length_eq_zero_iff.1 (by omega)
  subst this
  exact ⟨none,0,e1,Nat.le_refl _,Nat.zero_le _,fun h' => absurd rfl h'⟩
 ·subst e1
  rw [hl] at e4 ⊢
  refine ⟨_,cap,rfl,e4,e5,fun _ => ⟨g,0,rfl,fun j l hj => ?_⟩⟩
  obtain ⟨v,hv⟩ : ∃ v,gl[j]? = some v:=⟨_,List.getElem?_eq_getElem (by have:=(List.getElem?_eq_some_iff.1 hj).1;omega)⟩
  obtain ⟨A',c',rfl,hi⟩:=(h.gs j v l hv hj).ints
  have:=(h.row.cellAt j (by rw [Nat.mul_one];exact (List.getElem?_eq_some_iff.1 hv).1)).trans hv
  rw [Nat.zero_add]
  exact ⟨A',c',this,hi⟩
set_option maxRecDepth 100000 in
set_option maxHeartbeats 8000000 in
theorem sameGroups_any {w : World} {A1 A2 : Option Addr} {c1 c2 : Nat} {g1 g2 : List (List Int)} (h1 : GsA w A1 c1 g1) (h2 : GsA w A2 c2 g2) :
  Calls Tryz.prog 16 #[.slice A1 g1.length c1,.slice A2 g2.length c2] w fun e w' => e = .returned (.bool (decide (g1 = g2))) ∧ RowKit.Below w.heap.size w w':=by
 obtain ⟨R,HR⟩ : ∃ R,Hid (decide (g1 = g2) = R):=⟨_,Lib.hid rfl⟩
 obtain ⟨N1,HN1⟩ : ∃ N,Hid (g1.length = N):=⟨_,Lib.hid rfl⟩
 obtain ⟨N2,HN2⟩ : ∃ N,Hid (g2.length = N):=⟨_,Lib.hid rfl⟩
 have HH:=Lib.hid (And.intro h1 h2)
 have hc1:=h1.1
 have hc1':=h1.2.1
 have hc2:=h2.1
 have hc2':=h2.2.1
 unfold maxLen at hc1' hc2'
 rw [HN1.out] at hc1
 rw [HN2.out] at hc2
 rw [HR.out,HN1.out,HN2.out]
 clear h1 h2
 by_cases hl : N1 = N2
 rotate_left
 ·have hl' : ((N1 : Int) != (N2 : Int)) = true:=bne_iff_ne.2 (by omega)
  have HV:=Lib.hid (show R = false by rw [← HR.out];exact decide_eq_false fun e => hl (by rw [← HN1.out,← HN2.out,e]))
  clear hl
  go_enter Tryz.func16,Tryz.ntmps16
  go_wp2
  go_ret
  exact ⟨by rw [HV.out];rfl,RowKit.Below.refl _ _⟩
 subst hl
 go_enter Tryz.func16,Tryz.ntmps16
 go_wp2
 go_loopg [5] N1 (fun g ct wr => ∃ j : Nat,g = N1 - j ∧ j ≤ N1 ∧ ct = .int .i64 j ∧ RowKit.Below w.heap.size w wr ∧ g1.take j = g2.take j)
 case atStart => exact ⟨0,rfl,Nat.zero_le _,rfl,RowKit.Below.refl _ _,by simp⟩
 case round =>
  obtain ⟨j,hg,hj,rfl,hb,ht⟩:=hrel
  by_cases hlt : j < N1
  ·obtain ⟨l1,hl1⟩ : ∃ l,g1[j]? = some l:=⟨_,List.getElem?_eq_getElem (by rw [HN1.out];exact hlt)⟩
   obtain ⟨l2,hl2⟩ : ∃ l,g2[j]? = some l:=⟨_,List.getElem?_eq_getElem (by rw [HN2.out];exact hlt)⟩
   obtain ⟨b1,o1,rfl,hc⟩:=(HH.out.1.keep hb).2.2 (by intro e;rw [e] at hl1;simp at hl1)
   obtain ⟨A1',c1',k1,i1⟩:=hc j l1 hl1
   obtain ⟨b2,o2,rfl,hc'⟩:=(HH.out.2.keep hb).2.2 (by intro e;rw [e] at hl2;simp at hl2)
   obtain ⟨A2',c2',k2,i2⟩:=hc' j l2 hl2
   obtain ⟨M1,HM1⟩ : ∃ M,Hid (l1.length = M):=⟨_,Lib.hid rfl⟩
   obtain ⟨M2,HM2⟩ : ∃ M,Hid (l2.length = M):=⟨_,Lib.hid rfl⟩
   have z1:=i1.1
   have z1':=i1.2.1
   have z2:=i2.1
   have z2':=i2.2.1
   unfold maxLen at z1' z2'
   rw [HM1.out] at k1 z1
   rw [HM2.out] at k2 z2
   have p1 : (0 : Int) ≤ (j : Int):=by omega
   have p2 : (j : Int) < (N1 : Int):=by omega
   have HJ:=Lib.hid (And.intro hg (And.intro ht (And.intro i1 (And.intro i2 (And.intro hl1 (And.intro hl2 hb))))))
   clear hg ht hl1 hl2 hc hc' i1 i2 hb
   by_cases hm : M1 = M2
   rotate_left
   ·have hm' : ((M1 : Int) != (M2 : Int)) = true:=bne_iff_ne.2 (by omega)
    have HV:=Lib.hid (show R = false by
     rw [← HR.out]
     refine decide_eq_false fun e => hm ?_
     have h1:=HJ.out.2.2.2.2.1
     rw [e,HJ.out.2.2.2.2.2.1] at h1
     cases h1
     rw [← HM1.out,← HM2.out])
    clear hm
    go_upto_region 6 with fail
    go_quiet (fail)
    go_wp2
    go_ret
    exact ⟨by rw [HV.out];rfl,HJ.out.2.2.2.2.2.2.trans ((below_drewNi _ _).mono HJ.out.2.2.2.2.2.2.size)⟩
   subst hm
   have hm' : ((M1 : Int) != (M1 : Int)) = false:=by simp
   go_upto_region 6 with fail
   go_quiet (fail)
   go_wp2
   go_loopg [6] M1 (fun g ct w' => ∃ q : Nat,g = M1 - q ∧ q ≤ M1 ∧ ct = .int .i64 q ∧ RowKit.Below w.heap.size w w' ∧ l1.take q = l2.take q)
   case atStart => exact ⟨0,rfl,Nat.zero_le _,rfl,HJ.out.2.2.2.2.2.2.trans ((below_drewNi _ _).mono HJ.out.2.2.2.2.2.2.size),by simp⟩
   case round =>
    obtain ⟨q,hg,hq,rfl,hb,ht⟩:=hrel
    obtain ⟨b1',o1',eb1,hc⟩:=(HH.out.1.keep hb).2.2 (by intro e;have:=HJ.out.2.2.2.2.1;rw [e] at this;simp at this)
    cases eb1
    obtain ⟨B1,d1,k1,i1⟩:=hc j l1 HJ.out.2.2.2.2.1
    obtain ⟨b2',o2',eb2,hc'⟩:=(HH.out.2.keep hb).2.2 (by intro e;have:=HJ.out.2.2.2.2.2.1;rw [e] at this;simp at this)
    cases eb2
    obtain ⟨B2,d2,k2,i2⟩:=hc' j l2 HJ.out.2.2.2.2.2.1
    have z1:=i1.1
    have z1':=i1.2.1
    have z2:=i2.1
    have z2':=i2.2.1
    unfold maxLen at z1' z2'
    rw [HM1.out] at k1 z1
    rw [HM2.out] at k2 z2
    by_cases hlq : q < M1
    ·obtain ⟨x,hx⟩ : ∃ x,l1[q]? = some x:=⟨_,List.getElem?_eq_getElem (by rw [HM1.out];exact hlq)⟩
     obtain ⟨y,hy⟩ : ∃ y,l2[q]? = some y:=⟨_,List.getElem?_eq_getElem (by rw [HM2.out];exact hlq)⟩
     obtain ⟨e1,f1,rfl,_,he1⟩:=i1.2.2 (by intro e;rw [e] at hx;simp at hx)
     obtain ⟨e2,f2,rfl,_,he2⟩:=i2.2.2 (by intro e;rw [e] at hy;simp at hy)
     have ex:=he1 q x hx
     have ey:=he2 q y hy
     have p3 : (0 : Int) ≤ (q : Int):=by omega
     have p4 : (q : Int) < (M1 : Int):=by omega
     by_cases hxy : x = y
     ·subst hxy
      have hn : (x != x) = false:=by simp
      have HQ:=Lib.hid (And.intro hg (And.intro hb (show l1.take (q + 1) = l2.take (q + 1) by rw [List.take_add_one,List.take_add_one,hx,hy,ht])))
      clear hg hb ht hc hc' i1 i2 hx hy he1 he2
      go_wp2
      go_quiet (fail)
      go_wp2
      go_roundg (M1 - (q + 1))
      case measure => have:=HQ.out.1;omega
      case rel => exact ⟨q + 1,rfl,by omega,by go_num,HQ.out.2.1.trans ((below_drewNi _ _).mono HQ.out.2.1.size),HQ.out.2.2⟩
     ·have hn : (x != y) = true:=bne_iff_ne.2 hxy
      have HV:=Lib.hid (And.intro (show R = false by
       rw [← HR.out]
       refine decide_eq_false fun e => hxy ?_
       have h1:=HJ.out.2.2.2.2.1
       rw [e,HJ.out.2.2.2.2.2.1] at h1
       cases h1
       rw [hx] at hy
       cases hy
       rfl) hb)
      clear hg hb ht hc hc' i1 i2 hx hy he1 he2 hxy
      go_wp2
      go_quiet (fail)
      go_wp2
      go_ret
      exact ⟨by rw [HV.out.1];rfl,HV.out.2.trans ((below_drewNi _ _).mono HV.out.2.size)⟩
    ·have hqM : M1 = q:=by omega
     subst hqM
     have i1' : decide ((M1 : Int) < (M1 : Int)) = false:=decide_eq_false (by omega)
     have i2' : decide (M1 < M1) = false:=decide_eq_false (by omega)
     rw [List.take_of_length_le (by rw [HM1.out];exact Nat.le_refl _),List.take_of_length_le (by rw [HM2.out];exact Nat.le_refl _)] at ht
     have HQ:=Lib.hid (And.intro hb (show g1.take (j + 1) = g2.take (j + 1) by rw [List.take_add_one,List.take_add_one,HJ.out.2.2.2.2.1,HJ.out.2.2.2.2.2.1,HJ.out.2.1,ht]))
     clear hg hb ht hc hc' i1 i2
     go_wp2
     go_roundg (N1 - (j + 1))
     case measure => have:=HJ.out.1;omega
     case rel => exact ⟨j + 1,rfl,by omega,by go_num,HQ.out.1,HQ.out.2⟩
  ·have hjN : N1 = j:=by omega
   subst hjN
   have i1 : decide ((N1 : Int) < (N1 : Int)) = false:=decide_eq_false (by omega)
   have i2 : decide (N1 < N1) = false:=decide_eq_false (by omega)
   rw [List.take_of_length_le (by rw [HN1.out];exact Nat.le_refl _),List.take_of_length_le (by rw [HN2.out];exact Nat.le_refl _)] at ht
   have HV:=Lib.hid (And.intro (show R = true by rw [← HR.out];exact decide_eq_true ht) hb)
   clear ht hb hg
   go_wp2
   go_ret
   exact ⟨by rw [HV.out.1];rfl,HV.out.2⟩
end Go.Proofs.YtmmecapgnmlaiaaGreatDoor
