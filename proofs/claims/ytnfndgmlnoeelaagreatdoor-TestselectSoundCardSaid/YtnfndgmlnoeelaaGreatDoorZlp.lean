/- compile: what the code of an expression is, in plain functions -/
import Derived.Test.YtnfndgmlnoeelaaGreatDoorZlg
import Derived.Test.YtnfndgmlnoeelaaGreatDoorZle
import Derived.Test.YtnfndgmlnoeelaaGreatDoorZlm
import Derived.Lib.OwnKind
import Derived.Test.YtnfndgmlnoeelaaGreatDoorZln
import Derived.Test.YtnfndgmlnoeelaaGreatDoorZlj
namespace Go.Proofs.YtnfndgmlnoeelaaGreatDoor
open Go.RowKit Go.Proofs
structure Ins where
 op : Int
 a : Int
 b : Int
 nm : ByteArray
structure Blk where
 cap : Int
 par : Bool
 l : List Ins
structure FnE where
 k : Int
 n : ByteArray
 m : ByteArray
 i : Int
 d : Int
 A : Option Addr
 c : Nat
 s : Fo
 place : Nat
 vars : List ByteArray
 mks : Nat → List Blk
def Comp : Type:=List ByteArray → Nat → List Ins × List FnE
def noComp : Comp:=fun _ _ => ([],[])
def setA (l : List Ins) (j : Nat) (v : Int) : List Ins:=l.modify j fun x => { x with a:=v }
def fnsOf : List FnE → List Ins → Nat → List Ins × List Blk
 | [],l,_ => (l,[])
 | f :: r,l,ix => ((fnsOf r (setA l f.place ix) (ix + (f.mks ix).length)).1,f.mks ix ++ (fnsOf r (setA l f.place ix) (ix + (f.mks ix).length)).2)
def retI : Ins:=⟨7,0,0,⟨#[]⟩⟩
def blkOf (P : Comp) (vars : List ByteArray) (cap : Int) (par : Bool) (ix : Nat) : List Blk:=
 ⟨cap,par,(fnsOf (P vars 0).2 ((P vars 0).1 ++ [retI]) (ix + 1)).1⟩ :: (fnsOf (P vars 0).2 ((P vars 0).1 ++ [retI]) (ix + 1)).2
def lastV (n : ByteArray) : List ByteArray → Option Nat
 | [] => none
 | x :: r => match lastV n r with
  | some j => some (j + 1)
  | none => if (x.toList == n.toList) = true then some 0 else none
def simpleI (label : ByteArray) (k : Int) (n : ByteArray) (i d : Int) (vars : List ByteArray) : Ins:=
 if k = 1 then ⟨1,i,0,⟨#[]⟩⟩ else if k = 2 then ⟨2,i,0,⟨#[]⟩⟩ else if k = 14 then ⟨16,i,d,⟨#[]⟩⟩ else
 if k = 5 then (if n.toList.isEmpty = true then ⟨4,i,0,label⟩ else ⟨4,i,0,n⟩) else
 if k = 3 then (match lastV n vars with | some j => ⟨3,j,0,⟨#[]⟩⟩ | none => ⟨11,0,0,⟨#[]⟩⟩) else ⟨11,0,0,⟨#[]⟩⟩
def twoC (P Q : Comp) (x : Ins) : Comp:=fun vars st =>
 ((P vars st).1 ++ (Q vars (st + (P vars st).1.length)).1 ++ [x],(P vars st).2 ++ (Q vars (st + (P vars st).1.length)).2)
def letC (P Q : Comp) (n : ByteArray) : Comp:=fun vars st =>
 ((P vars st).1 ++ [⟨14,0,0,⟨#[]⟩⟩] ++ (Q (vars ++ [n]) (st + (P vars st).1.length + 1)).1 ++ [⟨15,1,0,⟨#[]⟩⟩],(P vars st).2 ++ (Q (vars ++ [n]) (st + (P vars st).1.length + 1)).2)
def ifC (P Q R : Comp) : Comp:=fun vars st =>
 let a:=st + (P vars st).1.length
 let b:=a + 1 + (Q vars (a + 1)).1.length
 ((P vars st).1 ++ [⟨9,(b + 1 : Nat),0,⟨#[]⟩⟩] ++ (Q vars (a + 1)).1 ++ [⟨8,(b + 1 + (R vars (b + 1)).1.length : Nat),0,⟨#[]⟩⟩] ++ (R vars (b + 1)).1,(P vars st).2 ++ (Q vars (a + 1)).2 ++ (R vars (b + 1)).2)
def caseC (P Q R : Comp) (n m : ByteArray) : Comp:=fun vars st =>
 let a:=st + (P vars st).1.length
 let j:=a + 2 + (R (vars ++ [n,m]) (a + 1)).1.length
 ((P vars st).1 ++ [⟨13,(j + 1 : Nat),0,⟨#[]⟩⟩] ++ (R (vars ++ [n,m]) (a + 1)).1 ++ [⟨15,2,0,⟨#[]⟩⟩,⟨8,(j + 1 + (Q vars (j + 1)).1.length : Nat),0,⟨#[]⟩⟩] ++ (Q vars (j + 1)).1,
  (P vars st).2 ++ (R (vars ++ [n,m]) (a + 1)).2 ++ (Q vars (j + 1)).2)
def nodeC (label : ByteArray) (k : Int) (n m : ByteArray) (i d : Int) (A : Option Addr) (c : Nat) (s : Fo) (cs : List Comp) : Comp:=fun vars st =>
 if k = 6 then ([⟨5,0,0,⟨#[]⟩⟩],[⟨k,n,m,i,d,A,c,s,st,vars,blkOf (cs.getD 0 noComp) (vars ++ [n]) vars.length true⟩]) else
 if k = 7 then twoC (cs.getD 0 noComp) (cs.getD 1 noComp) ⟨6,0,0,⟨#[]⟩⟩ vars st else
 if k = 10 then twoC (cs.getD 0 noComp) (cs.getD 1 noComp) ⟨10,0,0,n⟩ vars st else
 if k = 12 then twoC (cs.getD 0 noComp) (cs.getD 1 noComp) ⟨12,0,0,⟨#[]⟩⟩ vars st else
 if k = 8 then letC (cs.getD 0 noComp) (cs.getD 1 noComp) n vars st else
 if k = 9 then ifC (cs.getD 0 noComp) (cs.getD 1 noComp) (cs.getD 2 noComp) vars st else
 if k = 13 then caseC (cs.getD 0 noComp) (cs.getD 1 noComp) (cs.getD 2 noComp) n m vars st else
 ([simpleI label k n i d vars],[])
def Fo.comp (label : ByteArray) : Fo → List Comp
 | .nil => []
 | .cons k n m i d A c s r => nodeC label k n m i d A c s (s.comp label) :: r.comp label
def okC (k : Int) (len : Nat) : Prop:=(k = 6 → 1 ≤ len) ∧ (k = 7 ∨ k = 10 ∨ k = 12 ∨ k = 8 → 2 ≤ len) ∧ (k = 9 ∨ k = 13 → 3 ≤ len)
def Fo.Cok : Fo → Prop
 | .nil => True
 | .cons k _ _ _ _ _ _ s r => okC k s.len ∧ s.Cok ∧ r.Cok
def FnE.Ok (label : ByteArray) (f : FnE) : Prop:=f.k = 6 ∧ f.mks = blkOf ((f.s.comp label).getD 0 noComp) (f.vars ++ [f.n]) f.vars.length true
def Small (N : Nat) (P : Comp) : Prop:=∀ vars st,(∀ f ∈ (P vars st).2,f.s.count ≤ N ∧ f.s.Cok ∧ okC f.k f.s.len) ∧ (P vars st).1.length ≤ 3 * (N + 1) ∧ (P vars st).2.length ≤ N + 1
end Go.Proofs.YtnfndgmlnoeelaaGreatDoor
/- compile: the closures of maker.block, and what they leave alone -/
namespace Go.Proofs.YtnfndgmlnoeelaaGreatDoor
open Go.RowKit Go.Proofs Go.Shelf
def Ins.cells (x : Ins) : List Value:=[.int .i64 x.op,.int .i64 x.a,.int .i64 x.b,.string x.nm]
def insC : List Ins → List Value
 | [] => []
 | x :: r => x.cells ++ insC r
def VarsAt (X : World) (A : Option Addr) (c : Nat) (l : List ByteArray) : Prop:=X.ownsRow 0 9 1 (.slice A l.length c) l.length (l.map .string)
theorem VarsAt.keep {X Y : World} {A : Option Addr} {c : Nat} {l : List ByteArray} (h : VarsAt X A c l) (hk : ∀ (k : Nat) (cur : Array Value) (fz : Nat × Nat),X.heap[k]? = some (.cells cur 9 fz) → Y.heap[k]? = X.heap[k]?) : VarsAt Y A c l:=by
 refine ⟨h.1,?_⟩
 rcases h.2 with h | ⟨g,cap,cur,h1,h2,h3,h4⟩
 ·exact .inl h
 ·exact .inr ⟨g,cap,cur,h1,h2,(hk g _ _ h3).trans h3,h4⟩
theorem VarsAt.sls {X : World} {A : Option Addr} {c : Nat} {l : List ByteArray} (h : VarsAt X A c l) : SlS X X.heap.size A c l ∧ (A = none → c = 0):=by
 rcases h.2 with ⟨h1,h2⟩ | ⟨g,cap,cur,h1,h2,h3,h4,h5,h6,h7⟩
 ·simp only [Value.slice.injEq] at h1
  obtain ⟨rfl,h1,rfl⟩:=h1
  obtain rfl : l = []:=List.length_eq_zero_iff.1 h1
  exact ⟨SlS.nil _ _ _ _ (by simp [maxLen]),fun _ => rfl⟩
 ·simp only [Value.slice.injEq,true_and] at h1
  obtain ⟨rfl,rfl⟩:=h1
  refine ⟨⟨h4,h5,fun _ => ⟨g,0,rfl,lt_of_block h3,fun j s hj => ?_⟩⟩,fun h => by cases h⟩
  rw [cell_of_row _ _ _ _ _ _ h3]
  have hjl:=(List.getElem?_eq_some_iff.1 hj).1
  have e : (cur.toList.take (l.length * 1))[j]? = some (.string s):=by rw [h7];simp [hj]
  rw [List.getElem?_take,if_pos (by omega)] at e
  simpa using e
theorem VarsAt.nil (X : World) : VarsAt X none 0 []:=World.ownsRow_nil X 0 9 1
theorem VarsAt.of {X : World} {base : Nat} {v : Value} {l : List ByteArray} (h : X.ownsRow base 9 1 v l.length (l.map .string)) : ∃ A c,v = .slice A l.length c ∧ VarsAt X A c l:=by
 rcases h.2 with ⟨h1,h2⟩ | ⟨g,cap,cur,h1,h2,h3,h4⟩
 ·refine ⟨none,0,by rw [h1,h2],?_⟩
  obtain rfl : l = []:=List.length_eq_zero_iff.1 h2
  exact VarsAt.nil X
 ·exact ⟨some ⟨g,0,none⟩,cap,h1,h.1,.inr ⟨g,cap,cur,rfl,Nat.zero_le _,h3,h4⟩⟩
def FnsC (X : World) : List FnE → List Value → Prop
 | [],cs => cs = []
 | f :: r,cs => ∃ vA vc cs',cs = [.int .i64 f.k,.string f.n,.string f.m,.int .i64 f.i,.int .i64 f.d,.slice f.A f.s.len f.c,.int .i64 f.place,.slice vA f.vars.length vc] ++ cs' ∧ VarsAt X vA vc f.vars ∧ FnsC X r cs'
theorem FnsC.keep {X Y : World} (hk : ∀ (k : Nat) (cur : Array Value) (fz : Nat × Nat),X.heap[k]? = some (.cells cur 9 fz) → Y.heap[k]? = X.heap[k]?) : ∀ {F : List FnE} {cs : List Value},FnsC X F cs → FnsC Y F cs
 | [],_,h => h
 | _ :: _,_,⟨vA,vc,cs',h1,h2,h3⟩ => ⟨vA,vc,cs',h1,h2.keep hk,FnsC.keep hk h3⟩
theorem FnsC.snoc {X : World} {f : FnE} {vA : Option Addr} {vc : Nat} (hv : VarsAt X vA vc f.vars) : ∀ {F : List FnE} {cs : List Value},FnsC X F cs →
  FnsC X (F ++ [f]) (cs ++ [.int .i64 f.k,.string f.n,.string f.m,.int .i64 f.i,.int .i64 f.d,.slice f.A f.s.len f.c,.int .i64 f.place,.slice vA f.vars.length vc])
 | [],_,h => by subst h;exact ⟨vA,vc,[],by simp,hv,rfl⟩
 | _ :: _,_,⟨vA',vc',cs',h1,h2,h3⟩ => ⟨vA',vc',_,by rw [h1,List.append_assoc],h2,FnsC.snoc hv h3⟩
end Go.Proofs.YtnfndgmlnoeelaaGreatDoor
/- compile.checkConflicts -/
namespace Go.Proofs.YtnfndgmlnoeelaaGreatDoor
open Go.RowKit Go.Proofs Go.Shelf
end Go.Proofs.YtnfndgmlnoeelaaGreatDoor
