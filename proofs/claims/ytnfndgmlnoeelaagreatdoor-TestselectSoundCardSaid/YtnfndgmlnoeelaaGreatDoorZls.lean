/- compile.checkRefs -/
import Derived.Test.YtnfndgmlnoeelaaGreatDoorZlp
import Derived.Test.YtnfndgmlnoeelaaGreatDoorZlq
import Derived.Test.YtnfndgmlnoeelaaGreatDoorZlr
import Derived.Test.YtnfndgmlnoeelaaGreatDoorZlj
import Derived.Test.YtnfndgmlnoeelaaGreatDoorChk
namespace Go.Proofs.YtnfndgmlnoeelaaGreatDoor
open Go.RowKit Go.Proofs Go.Shelf
theorem SlD.cells_at {w wr : World} {B : Nat} {A : Option Addr} {c : Nat} {l : List Dc} (h : SlD w B A c l) (hb : ∀ p : Addr,p.block < B → wr.cell? p = w.cell? p) {j : Nat} {x : Dc} (hx : l[j]? = some x) : ∃ b o,A = some ⟨b,o,none⟩ ∧ b < B ∧
  wr.cell? ⟨b,o + j * 11,none⟩ = some (.int .i64 x.id) ∧ wr.cell? ⟨b,o + j * 11 + 1,none⟩ = some (.int .i64 x.kind) ∧ wr.cell? ⟨b,o + j * 11 + 2,none⟩ = some (.bool x.pub) ∧ wr.cell? ⟨b,o + j * 11 + 3,none⟩ = some (.slice x.nA x.names.length x.nc) ∧ wr.cell? ⟨b,o + j * 11 + 4,none⟩ = some (.bool x.doubt) ∧
  wr.cell? ⟨b,o + j * 11 + 5,none⟩ = some (.int .i64 x.k) ∧ wr.cell? ⟨b,o + j * 11 + 6,none⟩ = some (.string x.n) ∧ wr.cell? ⟨b,o + j * 11 + 7,none⟩ = some (.string x.m) ∧ wr.cell? ⟨b,o + j * 11 + 8,none⟩ = some (.int .i64 x.i) ∧ wr.cell? ⟨b,o + j * 11 + 9,none⟩ = some (.int .i64 x.d) ∧ wr.cell? ⟨b,o + j * 11 + 10,none⟩ = some (.slice x.A x.s.len x.c) ∧ x.Ok w B:=by
 obtain ⟨b,o,e,hB,hall⟩:=h.2.2 (by intro e;subst e;simp at hx)
 obtain ⟨hcs,hok⟩:=hall j x hx
 have q : ∀ q v,x.cells[q]? = some v → wr.cell? ⟨b,o + j * 11 + q,none⟩ = some v:=fun q v hq => (hb _ hB).trans (hcs q v hq)
 exact ⟨b,o,e,hB,q 0 _ rfl,q 1 _ rfl,q 2 _ rfl,q 3 _ rfl,q 4 _ rfl,q 5 _ rfl,q 6 _ rfl,q 7 _ rfl,q 8 _ rfl,q 9 _ rfl,q 10 _ rfl,hok⟩
theorem own_pos2 {X : World} {base : Nat} {e : TypeId} {size : Nat} {v : Value} {n : Nat} {xs : List Value} (h : X.ownsRow base e size v n xs) (hn : 0 < n) : ∃ g c,v = .slice (some ⟨g,0,none⟩) n c ∧ n ≤ c ∧ c ≤ 9223372036854775807:=by
 rcases h.2 with ⟨_,h0⟩ | ⟨g,cap,cur,h1,_,_,hle,hmx,_⟩
 ·omega
 ·unfold maxLen at hmx;exact ⟨g,cap,h1,hle,hmx⟩
def Dc.refs (x : Dc) : List (ByteArray × Int):=refsOf x.body.vis
end Go.Proofs.YtnfndgmlnoeelaaGreatDoor
/- What a valid module is like -/
namespace Go.Proofs.YtnfndgmlnoeelaaGreatDoor
open Go.RowKit Go.Proofs Go.Shelf
theorem err_len {k : Int} {n m : ByteArray} {i d : Int} {len : Nat} (h : nodeE k n m i d len = 0) : (len : Int) = (shapeZ k).2.2.1:=by
 unfold nodeE at h
 obtain ⟨⟨a,b,c,ok⟩,hs⟩ : ∃ t,shapeZ k = t:=⟨_,rfl⟩
 rw [hs] at h ⊢
 cases ok
 ·simp at h
 ·simp only at h
  cases ha : argB a b c n m i d len
  ·unfold argB at ha
   simp only [Bool.or_eq_false_iff] at ha
   have:=ha.2
   simpa using this
  ·rw [ha] at h;simp at h
theorem okC_of_err {k : Int} {n m : ByteArray} {i d : Int} {len : Nat} (h : nodeE k n m i d len = 0) : okC k len:=by
 have hl:=err_len h
 refine ⟨?_,?_,?_⟩
 ·rintro rfl
  have : (shapeZ 6).2.2.1 = 1:=rfl
  omega
 ·rintro (rfl | rfl | rfl | rfl)
  ·have : (shapeZ 7).2.2.1 = 2:=rfl
   omega
  ·have : (shapeZ 10).2.2.1 = 2:=rfl
   omega
  ·have : (shapeZ 12).2.2.1 = 2:=rfl
   omega
  ·have : (shapeZ 8).2.2.1 = 2:=rfl
   omega
 ·rintro (rfl | rfl)
  ·have : (shapeZ 9).2.2.1 = 3:=rfl
   omega
  ·have : (shapeZ 13).2.2.1 = 3:=rfl
   omega
theorem Fo.cok_of_err : ∀ (f : Fo) (dp : Nat),(∀ x ∈ f.pre dp,x.err = 0) → f.Cok
 | .nil,_,_ => trivial
 | .cons k n m i d A c s r,dp,h => by
  simp only [Fo.pre,List.mem_cons,List.mem_append] at h
  exact ⟨okC_of_err (h ⟨dp,k,n,m,i,d,A,s.len,c⟩ (.inl rfl)),s.cok_of_err (dp + 1) (fun x hx => h x (.inr (.inl hx))),r.cok_of_err dp (fun x hx => h x (.inr (.inr hx)))⟩
theorem Fo.vis_err : ∀ (f : Fo) (dp : Nat),(∀ x ∈ f.pre dp,x.err = 0) → ∀ x ∈ f.vis,x.err = 0
 | .nil,_,_,x,hx => by simp [Fo.vis] at hx
 | .cons k n m i d A c s r,dp,h,x,hx => by
  simp only [Fo.pre,List.mem_cons,List.mem_append] at h
  simp only [Fo.vis,List.mem_append,List.mem_cons] at hx
  rcases hx with hx | rfl | hx
  ·exact r.vis_err dp (fun x hx => h x (.inr (.inr hx))) x hx
  ·exact h ⟨dp,k,n,m,i,d,A,s.len,c⟩ (.inl rfl)
  ·exact s.vis_err (dp + 1) (fun x hx => h x (.inr (.inl hx))) x hx
theorem ref_err {n m : ByteArray} {i d : Int} {len : Nat} (h : nodeE 5 n m i d len = 0) : n.size ≤ 90 ∧ 1 ≤ i ∧ i ≤ 999999:=by
 have e : nodeE 5 n m i d len = if argB 1 1 0 n m i d len then 1 else if namesE 5 n m 1 = 0 then numE 5 i d else namesE 5 n m 1:=rfl
 rw [e] at h
 cases ha : argB 1 1 0 n m i d len
 ·rw [ha] at h
  simp only [Bool.false_eq_true,if_false] at h
  by_cases hn : namesE 5 n m 1 = 0
  ·rw [if_pos hn] at h
   refine ⟨?_,?_⟩
   ·have hb : nmB 5 n 1 = true:=by
     cases hb : nmB 5 n 1
     ·simp [namesE,hb] at hn
     ·rfl
    simp only [nmB,if_true,Bool.or_eq_true] at hb
    rcases hb with hb | hb
    ·have : n.toList = []:=by simpa using hb
     rw [Lib.toList_data] at this
     have : n.size = 0:=by
      have h2 : n.data.toList.length = n.size:=by simp
      rw [this] at h2
      simpa using h2.symm
     omega
    ·unfold labelB at hb
     simp at hb
     exact hb.1
   ·unfold numE at h
    cases hb : numB 5 i d
    ·rw [hb] at h;simp at h
    ·simp [numB] at hb;exact hb
  ·rw [if_neg hn] at h;exact absurd h hn
 ·rw [ha] at h;simp at h
theorem dd_sub : ∀ (p : ByteArray × Int) (l : List (ByteArray × Int)),∀ x ∈ dd p l,x ∈ l
 | _,[],x,h => by simp [dd] at h
 | p,y :: r,x,h => by
  unfold dd at h
  split at h
  ·exact List.mem_cons_of_mem _ (dd_sub y r x h)
  ·rcases List.mem_cons.1 h with rfl | h
   ·exact List.mem_cons_self ..
   ·exact List.mem_cons_of_mem _ (dd_sub y r x h)
theorem compactL_sub : ∀ (l : List (ByteArray × Int)),∀ x ∈ compactL l,x ∈ l
 | [],x,h => by simp [compactL] at h
 | y :: r,x,h => by
  rcases List.mem_cons.1 h with rfl | h
  ·exact List.mem_cons_self ..
  ·exact List.mem_cons_of_mem _ (dd_sub y r x h)
theorem refsOf_sub (l : List Nd) : ∀ r ∈ refsOf l,∃ x ∈ l,x.k = 5 ∧ r = (x.n,x.i):=by
 intro r hr
 have h1:=compactL_sub _ _ hr
 have h2 : r ∈ refL l:=List.mem_mergeSort.1 h1
 simp only [refL,List.mem_filterMap] at h2
 obtain ⟨x,hx,h3⟩:=h2
 by_cases hk : x.k = 5
 ·rw [if_pos hk] at h3
  exact ⟨x,hx,hk,(Option.some.inj h3).symm⟩
 ·rw [if_neg hk] at h3;cases h3
structure DcV (label : ByteArray) (x : Dc) : Prop where
 id : 1 ≤ x.id ∧ x.id ≤ 999999
 kind : x.kind = 1 ∨ x.kind = 2 ∨ x.kind = 3
 names : dnE x.names = 0
 cnt : x.s.count ≤ 399
 okc : okC x.k x.s.len
 cok : x.s.Cok
 err : ∀ y ∈ x.body.vis,y.err = 0
 nodot : x.body.vis.any (fun y => y.k == 4) = false
 nofree : nodeFree x.k x.n x.m x.s [] = false
 noref : x.body.vis.any (isRefTo label) = false
theorem declE_zero {label : ByteArray} {x : Dc} (h : declE label x = 0) : DcV label x:=by
 unfold declE at h
 by_cases h1 : x.id < 1 ∨ 999999 < x.id
 ·rw [if_pos h1] at h;simp at h
 rw [if_neg h1] at h
 by_cases h2 : x.kind ≠ 1 ∧ x.kind ≠ 2 ∧ x.kind ≠ 3
 ·rw [if_pos h2] at h;simp at h
 rw [if_neg h2] at h
 by_cases h3 : dnE x.names ≠ 0
 ·rw [if_pos h3] at h;exact absurd h h3
 rw [if_neg h3] at h
 by_cases h4 : exprE x.pre ≠ 0
 ·rw [if_pos h4] at h;exact absurd h h4
 rw [if_neg h4] at h
 have h4' : exprE x.pre = 0:=by omega
 by_cases h5 : x.body.vis.any (fun y => y.k == 4) = true
 ·rw [if_pos h5] at h;simp at h
 rw [if_neg h5] at h
 by_cases h6 : nodeFree x.k x.n x.m x.s [] = true
 ·rw [if_pos h6] at h;simp at h
 rw [if_neg h6] at h
 by_cases h7 : x.body.vis.any (isRefTo label) = true
 ·rw [if_pos h7] at h;simp at h
 obtain ⟨_,_,h8⟩:=exprE_zero h4'
 have hpre : ∀ y ∈ x.body.pre 1,y.err = 0:=by
  intro y hy
  refine h8 y ?_
  simpa [Dc.body,Dc.pre,Fo.pre] using hy
 exact ⟨by omega,by omega,by omega,(Dc.valid h4').2.2,okC_of_err (h8 _ (List.mem_cons_self ..)),x.s.cok_of_err 2 fun y hy => h8 y (List.mem_cons_of_mem _ hy),x.body.vis_err 1 hpre,by simpa using h5,by simpa using h6,by simpa using h7⟩
theorem declsE_zero (label : ByteArray) : ∀ (l : List Dc) (p : Option Int),declsE label p l = 0 → ∀ x ∈ l,declE label x = 0
 | [],_,_,x,hx => by simp at hx
 | y :: r,p,h,x,hx => by
  have key : declE label y = 0 ∧ declsE label (some y.id) r = 0:=by
   cases p with
   | none =>
    unfold declsE at h
    by_cases hy : declE label y = 0
    ·rw [if_pos hy] at h;exact ⟨hy,h⟩
    ·rw [if_neg hy] at h;exact absurd h hy
   | some p =>
    unfold declsE at h
    by_cases hy : declE label y = 0
    ·rw [if_pos hy] at h
     by_cases hp : y.id ≤ p
     ·rw [if_pos hp] at h;simp at h
     ·rw [if_neg hp] at h;exact ⟨hy,h⟩
    ·rw [if_neg hy] at h;exact absurd h hy
  rcases List.mem_cons.1 hx with rfl | hx
  ·exact key.1
  ·exact declsE_zero label r _ key.2 x hx
theorem checkE_zero {label : ByteArray} {uses : List ByteArray} {decls : List Dc} (h : checkE label uses decls = 0) : labelB label = true ∧ decls.length ≤ 100 ∧ ∀ x ∈ decls,DcV label x:=by
 unfold checkE at h
 cases h0 : labelB label
 ·rw [h0] at h;simp at h
 rw [h0] at h
 simp only [Bool.true_eq_false,if_false] at h
 by_cases h1 : srcE uses ≠ 0
 ·rw [if_pos h1] at h;exact absurd h h1
 rw [if_neg h1] at h
 by_cases h2 : useAll label uses uses.length 0 ≠ 0
 ·rw [if_pos h2] at h;exact absurd h h2
 rw [if_neg h2] at h
 by_cases h3 : 100 < decls.length
 ·rw [if_pos h3] at h;simp at h
 rw [if_neg h3] at h
 exact ⟨rfl,by omega,fun x hx => declE_zero (declsE_zero label decls none h x hx)⟩
theorem wf64 {i : Int} (h : 1 ≤ i ∧ i ≤ 999999) : (Lit.int .i64 i).wf = true:=by
 simp [Lit.wf,IntKind.min,IntKind.max,IntKind.bits,IntKind.signed]
 omega
theorem DcV.refs {label : ByteArray} {x : Dc} (h : DcV label x) : ∀ r ∈ x.refs,r.1.size ≤ 90 ∧ 1 ≤ r.2 ∧ r.2 ≤ 999999:=by
 intro r hr
 obtain ⟨y,hy,hk,rfl⟩:=refsOf_sub _ r hr
 have he:=h.err y hy
 unfold Nd.err at he
 rw [hk] at he
 exact ref_err he
end Go.Proofs.YtnfndgmlnoeelaaGreatDoor
/- Names in order; what is reached from a name -/
namespace Go.Proofs.YtnfndgmlnoeelaaGreatDoor
open Go.RowKit Go.Proofs Go.Shelf
theorem eqN_iff {x y : ByteArray × Int} : eqN x y = true ↔ x = y:=by
 obtain ⟨a,i⟩:=x
 obtain ⟨b,j⟩:=y
 simp only [eqN,Bool.and_eq_true,beq_iff_eq,Prod.mk.injEq]
 refine and_congr_left fun _ => ⟨fun h => ?_,fun h => by rw [h]⟩
 rw [ByteArray.toList_eq,ByteArray.toList_eq] at h
 exact ByteArray.ext (Array.ext' h)
theorem mem_dd : ∀ (l : List (ByteArray × Int)) (p y : ByteArray × Int),y ∈ l → y = p ∨ y ∈ dd p l
 | [],_,_,h => by simp at h
 | x :: r,p,y,h => by
  by_cases he : eqN x p = true
  ·rw [dd_eq he]
   have hx:=eqN_iff.1 he
   subst hx
   rcases List.mem_cons.1 h with rfl | h
   ·exact .inl rfl
   ·exact mem_dd r x y h
  ·rw [dd_ne (by simpa using he)]
   rcases List.mem_cons.1 h with rfl | h
   ·exact .inr (List.mem_cons_self ..)
   ·rcases mem_dd r x y h with rfl | h
    ·exact .inr (List.mem_cons_self ..)
    ·exact .inr (List.mem_cons_of_mem _ h)
theorem mem_compactL (l : List (ByteArray × Int)) (y : ByteArray × Int) : y ∈ compactL l ↔ y ∈ l:=by
 refine ⟨compactL_sub l y,fun h => ?_⟩
 cases l with
 | nil => simp at h
 | cons x r =>
  simp only [compactL]
  rcases List.mem_cons.1 h with rfl | h
  ·exact List.mem_cons_self ..
  ·rcases mem_dd r x y h with rfl | h
   ·exact List.mem_cons_self ..
   ·exact List.mem_cons_of_mem _ h
theorem ltN_irrefl (x : ByteArray × Int) : ¬ ltN x x:=by simp [ltN,List.lt_irrefl]
theorem ltN_trans {x y z : ByteArray × Int} (h1 : ltN x y) (h2 : ltN y z) : ltN x z:=by
 unfold ltN at *
 rcases h1 with h1 | ⟨h1,h1'⟩ <;> rcases h2 with h2 | ⟨h2,h2'⟩
 ·exact .inl (List.lt_trans h1 h2)
 ·exact .inl (h2 ▸ h1)
 ·exact .inl (h1 ▸ h2)
 ·exact .inr ⟨h1.trans h2,by omega⟩
theorem ltN_tri (x y : ByteArray × Int) : ltN x y ∨ x = y ∨ ltN y x:=by
 unfold ltN
 rcases lt_tri x.1.data.toList y.1.data.toList with h | h | h
 ·exact .inl (.inl h)
 ·rcases Int.lt_trichotomy x.2 y.2 with h2 | h2 | h2
  ·exact .inl (.inr ⟨h,h2⟩)
  ·exact .inr (.inl (Prod.ext (WideShapes.bytes_inj h) h2))
  ·exact .inr (.inr (.inr ⟨h.symm,h2⟩))
 ·exact .inr (.inr (.inl h))
theorem ltN_nodup {l : List (ByteArray × Int)} (h : l.Pairwise ltN) : l.Nodup:=by
 refine List.nodup_iff_pairwise_ne.2 (h.imp ?_)
 intro a b hab e
 subst e
 exact ltN_irrefl a hab
theorem ltN_ext {l m : List (ByteArray × Int)} (hl : l.Pairwise ltN) (hm : m.Pairwise ltN) (h : ∀ x,x ∈ l ↔ x ∈ m) : l = m:=by
 refine List.Perm.eq_of_pairwise (le:=ltN) (fun a b _ _ h1 h2 => absurd (ltN_trans h1 h2) (ltN_irrefl a)) hl hm ((List.perm_ext_iff_of_nodup (ltN_nodup hl) (ltN_nodup hm)).2 h)
theorem sortNames_le (l : List (ByteArray × Int)) : (sortNames l).Pairwise fun a b => ¬ ltN b a:=by
 have h:=List.pairwise_mergeSort (le:=fun x y => !(decide (ltN y x))) (fun a b c h1 h2 => ?_) (fun a b => ?_) l
 ·exact h.imp fun {a b} hab => by simpa using hab
 ·simp only [Bool.not_eq_true',decide_eq_false_iff_not] at *
  intro h
  rcases ltN_tri b a with h3 | h3 | h3
  ·exact h1 h3
  ·subst h3;exact h2 h
  ·rcases ltN_tri c b with h4 | h4 | h4
   ·exact h2 h4
   ·subst h4;exact h1 h
   ·exact ltN_irrefl _ (ltN_trans (ltN_trans h3 h4) h)
 ·rcases ltN_tri a b with h3 | h3 | h3
  ·have : ¬ ltN b a:=fun h => ltN_irrefl _ (ltN_trans h h3)
   simp [this]
  ·subst h3;simp [ltN_irrefl]
  ·have : ¬ ltN a b:=fun h => ltN_irrefl _ (ltN_trans h h3)
   simp [this]
theorem dd_sorted : ∀ (l : List (ByteArray × Int)) (p : ByteArray × Int),(p :: l).Pairwise (fun a b => ¬ ltN b a) → (p :: dd p l).Pairwise ltN
 | [],p,_ => List.pairwise_singleton _ _
 | y :: r,p,h => by
  obtain ⟨h1,h2⟩:=List.pairwise_cons.1 h
  by_cases he : eqN y p = true
  ·rw [dd_eq he]
   obtain rfl:=eqN_iff.1 he
   exact dd_sorted r y h2
  ·rw [dd_ne (by simpa using he)]
   have ih:=dd_sorted r y h2
   have hpy : ltN p y:=by
    rcases ltN_tri p y with h3 | h3 | h3
    ·exact h3
    ·exact absurd (eqN_iff.2 h3.symm) he
    ·exact absurd h3 (h1 y (List.mem_cons_self ..))
   refine List.pairwise_cons.2 ⟨fun z hz => ?_,ih⟩
   rcases List.mem_cons.1 hz with rfl | hz
   ·exact hpy
   ·exact ltN_trans hpy ((List.pairwise_cons.1 ih).1 z hz)
theorem compactL_sorted {l : List (ByteArray × Int)} (h : l.Pairwise fun a b => ¬ ltN b a) : (compactL l).Pairwise ltN:=by
 cases l with
 | nil => exact List.Pairwise.nil
 | cons x r => exact dd_sorted r x h
def ordN (l : List (ByteArray × Int)) : List (ByteArray × Int):=compactL (sortNames l)
theorem ordN_sorted (l : List (ByteArray × Int)) : (ordN l).Pairwise ltN:=compactL_sorted (sortNames_le l)
theorem mem_ordN (l : List (ByteArray × Int)) (x : ByteArray × Int) : x ∈ ordN l ↔ x ∈ l:=by
 unfold ordN
 rw [mem_compactL]
 exact List.mem_mergeSort
theorem ordN_len (l : List (ByteArray × Int)) : (ordN l).length ≤ l.length:=by
 have h : ∀ (l : List (ByteArray × Int)) (p : ByteArray × Int),(dd p l).length ≤ l.length:=by
  intro l
  induction l with
  | nil => intro p;simp [dd]
  | cons x r ih =>
   intro p
   by_cases he : eqN x p = true
   ·rw [dd_eq he];have:=ih x;simp;omega
   ·rw [dd_ne (by simpa using he)];have:=ih x;simp;omega
 have h2 : ∀ l : List (ByteArray × Int),(compactL l).length ≤ l.length:=by
  intro l
  cases l with
  | nil => simp [compactL]
  | cons x r => have:=h r x;simp [compactL];omega
 have:=h2 (sortNames l)
 rw [ordN]
 have e : (sortNames l).length = l.length:=by simp [sortNames]
 omega
/-! ### closures -/
inductive Reach (f : ByteArray × Int → Option (List (ByteArray × Int))) (n : ByteArray × Int) : ByteArray × Int → Prop
 | refl : Reach f n n
 | step {x u : ByteArray × Int} {us : List (ByteArray × Int)} : Reach f n x → f x = some us → u ∈ us → Reach f n u
theorem Reach.trans {f : ByteArray × Int → Option (List (ByteArray × Int))} {a b c : ByteArray × Int} (h : Reach f a b) (k : Reach f b c) : Reach f a c:=by
 induction k with
 | refl => exact h
 | step _ h2 h3 ih => exact ih.step h2 h3
def Clo (f : ByteArray × Int → Option (List (ByteArray × Int))) (n : ByteArray × Int) : Option (List (ByteArray × Int)) → Prop
 | some L => L.Pairwise ltN ∧ (∀ x,x ∈ L ↔ Reach f n x) ∧ ∀ x,Reach f n x → f x ≠ none
 | none => ∃ x,Reach f n x ∧ f x = none
theorem Clo.unique {f : ByteArray × Int → Option (List (ByteArray × Int))} {n : ByteArray × Int} {r r' : Option (List (ByteArray × Int))} (h : Clo f n r) (k : Clo f n r') : r = r':=by
 cases r <;> cases r'
 ·rfl
 ·obtain ⟨x,h1,h2⟩:=h;exact absurd h2 (k.2.2 x h1)
 ·obtain ⟨x,h1,h2⟩:=k;exact absurd h2 (h.2.2 x h1)
 ·rw [ltN_ext h.1 k.1 fun x => (h.2.1 x).trans (k.2.1 x).symm]
theorem Reach.inside {f : ByteArray × Int → Option (List (ByteArray × Int))} {n : ByteArray × Int} {p : ByteArray × Int → Prop} (h0 : p n) (h : ∀ x us,p x → f x = some us → ∀ u ∈ us,p u) {x : ByteArray × Int} (hx : Reach f n x) : p x:=by
 induction hx with
 | refl => exact h0
 | step _ h2 h3 ih => exact h _ _ ih h2 _ h3
end Go.Proofs.YtnfndgmlnoeelaaGreatDoor
/- depend in plain words: modules as they lie in memory, bodies, uses, closures -/
namespace Go.Proofs.YtnfndgmlnoeelaaGreatDoor
open Go.RowKit Go.Proofs Go.Shelf
structure Mo where
 label : ByteArray
 uA : Option Addr
 uc : Nat
 uses : List ByteArray
 dA : Option Addr
 dc : Nat
 ds : List Dc
def Mo.cells (m : Mo) : Array Value:=#[.string m.label,.slice m.uA m.uses.length m.uc,.slice m.dA m.ds.length m.dc]
def Mo.Ok (m : Mo) (w : World) (B : Nat) : Prop:=SlS w B m.uA m.uc m.uses ∧ SlD w B m.dA m.dc m.ds
def SlM (w : World) (B : Nat) (A : Option Addr) (c : Nat) (l : List Mo) : Prop:=
 l.length ≤ c ∧ c ≤ maxLen ∧ (l ≠ [] → ∃ b o,A = some ⟨b,o,none⟩ ∧ b < B ∧ ∀ j x,l[j]? = some x → (∀ q v,x.cells[q]? = some v → w.cell? ⟨b,o + j * 3 + q,none⟩ = some v) ∧ x.Ok w B)
theorem SlM.keep {w w' : World} {B B' : Nat} {A : Option Addr} {c : Nat} {l : List Mo} (h : SlM w B A c l) (hB : B ≤ B') (hk : ∀ p : Addr,p.block < B → w'.cell? p = w.cell? p) : SlM w' B' A c l:=
 ⟨h.1,h.2.1,fun hne => by
  obtain ⟨b,o,e,hb,hs⟩:=h.2.2 hne
  exact ⟨b,o,e,Nat.lt_of_lt_of_le hb hB,fun j x hj => ⟨fun q v hq => (hk _ hb).trans ((hs j x hj).1 q v hq),(hs j x hj).2.1.keep hB hk,(hs j x hj).2.2.keep hB hk⟩⟩⟩
theorem SlM.below {w w' : World} {B : Nat} {A : Option Addr} {c : Nat} {l : List Mo} (h : SlM w B A c l) (hb : Below B w w') : SlM w' B A c l:=h.keep (Nat.le_refl _) fun _ hp => hb.cell hp
theorem SlM.at_ {w : World} {B : Nat} {A : Option Addr} {c : Nat} {l : List Mo} (h : SlM w B A c l) {j : Nat} {x : Mo} (hx : l[j]? = some x) : ∃ b o,A = some ⟨b,o,none⟩ ∧ b < B ∧
  w.cell? ⟨b,o + j * 3,none⟩ = some (.string x.label) ∧ w.cell? ⟨b,o + j * 3 + 1,none⟩ = some (.slice x.uA x.uses.length x.uc) ∧ w.cell? ⟨b,o + j * 3 + 2,none⟩ = some (.slice x.dA x.ds.length x.dc) ∧ x.Ok w B:=by
 obtain ⟨b,o,e,hB,hall⟩:=h.2.2 (by intro e;subst e;simp at hx)
 obtain ⟨hcs,hok⟩:=hall j x hx
 exact ⟨b,o,e,hB,hcs 0 _ rfl,hcs 1 _ rfl,hcs 2 _ rfl,hok⟩
/-! ### errors -/
def Mo.err (m : Mo) : Int:=checkE m.label m.uses m.ds
def chkL : List Mo → Int
 | [] => 0
 | m :: r => if m.err = 0 then chkL r else m.err
/-! ### bodies -/
def declAt (ds : List Dc) (i : Int) : Option Dc:=ds.find? fun x => decide (x.id = i)
def bodyOf : List Mo → ByteArray × Int → Option Dc
 | [],_ => none
 | m :: r,n => if m.label = n.1 then declAt m.ds n.2 else bodyOf r n
theorem bodyOf_mem : ∀ {l : List Mo} {n : ByteArray × Int} {x : Dc},bodyOf l n = some x → ∃ m ∈ l,x ∈ m.ds ∧ m.label = n.1 ∧ x.id = n.2
 | [],_,_,h => by cases h
 | m :: r,n,x,h => by
  unfold bodyOf at h
  split at h
  ·rename_i hl
   refine ⟨m,List.mem_cons_self ..,List.mem_of_find?_eq_some h,hl,?_⟩
   have:=List.find?_some h
   simpa using this
  ·obtain ⟨m',h1,h2⟩:=bodyOf_mem h
   exact ⟨m',List.mem_cons_of_mem _ h1,h2⟩
/-! ### uses -/
def fullN (pack : ByteArray) (r : ByteArray × Int) : ByteArray × Int:=if r.1.toList.isEmpty = true then (pack,r.2) else r
def usesOf (pack : ByteArray) (f : Fo) : List (ByteArray × Int):=ordN ((refsOf f.vis).map (fullN pack))
def grf (l : List Mo) (n : ByteArray × Int) : Option (List (ByteArray × Int)):=(bodyOf l n).map fun x => usesOf n.1 x.body
end Go.Proofs.YtnfndgmlnoeelaaGreatDoor
/- depend.check -/
namespace Go.Proofs.YtnfndgmlnoeelaaGreatDoor
open Go.RowKit Go.Proofs Go.Shelf

theorem chkL_drop {l : List Mo} {j : Nat} {m : Mo} (hj : l[j]? = some m) : chkL (l.drop j) = if m.err = 0 then chkL (l.drop (j + 1)) else m.err:=by
 obtain ⟨hlt,rfl⟩:=List.getElem?_eq_some_iff.1 hj
 rw [List.drop_eq_getElem_cons hlt,chkL]

set_option maxRecDepth 100000 in
set_option maxHeartbeats 1000000 in
theorem dCheck_any (l : List Mo) (A : Option Addr) (c : Nat) (w : World) (hl : SlM w w.heap.size A c l) :
  Calls Tryz.prog 48 #[.slice A l.length c] w fun e w' => e = .returned (.int .i64 (chkL l)) ∧ Below w.heap.size w w':=by
 obtain ⟨E,HE⟩ : ∃ E,Hid (chkL l = E):=⟨_,Lib.hid rfl⟩
 rw [HE.out]
 have h1:=hl.1
 have h2:=hl.2.1
 unfold maxLen at h2
 obtain ⟨N,HN⟩ : ∃ Q,Hid (l.length = Q):=⟨_,Lib.hid rfl⟩
 rw [HN.out] at h1 ⊢
 have HL:=Lib.hid hl
 clear hl
 go_enter Tryz.func48,Tryz.ntmps48
 go_wp2
 go_loopg [4,5,8] N (fun g _ _ ct wr => ∃ j : Nat,g = N - j ∧ j ≤ N ∧ ct = .int .i64 j ∧ chkL (l.drop j) = E ∧ Below w.heap.size w wr)
 case atStart => exact ⟨0,rfl,by omega,rfl,HE.out,Below.refl _ _⟩
 case round =>
  obtain ⟨j,HG,hj,rfl,hE,hB⟩:=hrel
  have hz:=hB.size
  by_cases hlt : j < N
  ·have hlt' : j < l.length:=by rw [HN.out];exact hlt
   have hj3 : l[j]? = some l[j]:=List.getElem?_eq_getElem hlt'
   rw [chkL_drop hj3] at hE
   obtain ⟨b,o,rfl,hb,d0,d1,d2,hok⟩:=(HL.out.keep hz (fun p hp => hB.cell hp)).at_ hj3
   obtain ⟨q,Hq⟩ : ∃ Q,Hid (l[j].err = Q):=⟨_,Lib.hid rfl⟩
   rw [Hq.out] at hE
   have HT:=Lib.hid (And.intro HG (And.intro hE (And.intro hB hok)))
   clear HG hE hB hok hj3
   generalize l[j] = m at d0 d1 d2 HT Hq
   obtain ⟨label,uA,uc,uses,dA,dc,ds⟩:=m
   simp only [Mo.Ok] at HT d0 d1 d2
   obtain ⟨W0,hW0⟩ : ∃ W0,wr.alloc (.cells #[.string label,.slice uA uses.length uc,.slice dA ds.length dc] 58) = W0:=⟨_,rfl⟩
   have hb0 : Below wr.heap.size wr W0:=by subst hW0;exact (Below.refl _ _).alloc (Nat.le_refl _) _
   have hz0 : wr.heap.size < W0.heap.size:=by subst hW0;simp
   have f0 : W0.cell? ⟨wr.heap.size,0,none⟩ = some (.string label):=by subst hW0;go_simp
   have f1 : W0.cell? ⟨wr.heap.size,1,none⟩ = some (.slice uA uses.length uc):=by subst hW0;go_simp
   have f2 : W0.cell? ⟨wr.heap.size,2,none⟩ = some (.slice dA ds.length dc):=by subst hW0;go_simp
   have HC:=Lib.hid (bCheck_any label uses uA uc ds dA dc W0 (HT.out.2.2.2.1.keep (by omega) fun p hp => hb0.cell hp) (HT.out.2.2.2.2.keep (by omega) fun p hp => hb0.cell hp))
   have HQ : Hid (checkE label uses ds = q):=Hq.out
   rw [HQ.out] at HC
   have HB0:=Lib.hid hb0
   clear hb0
   by_cases hq : q = 0
   ·have hE2:=Lib.hid (show chkL (l.drop (j + 1)) = E by have:=HT.out.2.1;rwa [if_pos hq] at this)
    subst hq
    go_wp2_with fail
    refine HC.out.mono ?_
    rintro e w1 ⟨rfl,hb1⟩
    have HB1:=Lib.hid hb1
    clear hb1 hW0
    go_wp2
    go_roundg (N - (j + 1))
    case measure => rw [HT.out.1];omega
    case rel => exact ⟨j + 1,rfl,by omega,by go_num,hE2.out,HT.out.2.2.1.trans ((HB0.out.trans (HB1.out.mono (by omega))).mono hz)⟩
   ·have hE2:=Lib.hid (show q = E by have:=HT.out.2.1;rwa [if_neg hq] at this)
    have hq2 : (q != 0) = true:=by simpa using hq
    go_wp2_with fail
    refine HC.out.mono ?_
    rintro e w1 ⟨rfl,hb1⟩
    have HB1:=Lib.hid hb1
    clear hb1 hW0
    go_wp2
    go_ret
    exact ⟨by rw [← hE2.out];rfl,HT.out.2.2.1.trans ((HB0.out.trans (HB1.out.mono (by omega))).mono hz)⟩
  ·obtain rfl : j = N:=by omega
   have HE2:=Lib.hid (show E = 0 by rw [← hE,List.drop_of_length_le (by rw [HN.out];exact Nat.le_refl _)];rfl)
   have HB2:=Lib.hid hB
   clear hE hB
   go_wp2
   go_ret
   exact ⟨by rw [HE2.out];rfl,HB2.out⟩
end Go.Proofs.YtnfndgmlnoeelaaGreatDoor
