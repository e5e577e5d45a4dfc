/- bind.checkDecl: words and its closures -/
import Derived.Test.YtnfndgmlnoeelaaGreatDoorZli
import Derived.Test.YtnfndgmlnoeelaaGreatDoorZle
import Derived.Test.YtnfndgmlnoeelaaGreatDoorZlf
namespace Go.Proofs.YtnfndgmlnoeelaaGreatDoor
open Go.RowKit Go.Proofs Go.Shelf
structure Dc where
 id : Int
 kind : Int
 pub : Bool
 nA : Option Addr
 nc : Nat
 names : List ByteArray
 doubt : Bool
 k : Int
 n : ByteArray
 m : ByteArray
 i : Int
 d : Int
 A : Option Addr
 c : Nat
 s : Fo
def Dc.cells (x : Dc) : Array Value:=#[.int .i64 x.id,.int .i64 x.kind,.bool x.pub,.slice x.nA x.names.length x.nc,.bool x.doubt,.int .i64 x.k,.string x.n,.string x.m,.int .i64 x.i,.int .i64 x.d,.slice x.A x.s.len x.c]
def Dc.Ok (x : Dc) (w : World) (B : Nat) : Prop:=SlS w B x.nA x.nc x.names ∧ x.s.Sl w B x.A x.c
def Dc.body (x : Dc) : Fo:=.cons x.k x.n x.m x.i x.d x.A x.c x.s .nil
def Dc.pre (x : Dc) : List Nd:=⟨1,x.k,x.n,x.m,x.i,x.d,x.A,x.s.len,x.c⟩ :: x.s.pre 2
def isRefTo (label : ByteArray) (x : Nd) : Bool:=(x.k == 5) && (x.n.toList == label.toList)
def declE (label : ByteArray) (x : Dc) : Int:=
 if x.id < 1 ∨ 999999 < x.id then 2 else
 if x.kind ≠ 1 ∧ x.kind ≠ 2 ∧ x.kind ≠ 3 then 9 else
 if dnE x.names ≠ 0 then dnE x.names else
 if exprE x.pre ≠ 0 then exprE x.pre else
 if x.body.vis.any (fun y => y.k == 4) = true then 9 else
 if nodeFree x.k x.n x.m x.s [] = true then 21 else
 if x.body.vis.any (isRefTo label) = true then 1 else 0
theorem firstE_zero : ∀ l : List Nd,firstE l = 0 → ∀ x ∈ l,x.err = 0
 | [],_,x,hx => by simp at hx
 | y :: r,h,x,hx => by
  unfold firstE at h
  by_cases hy : y.err = 0
  ·rw [if_pos hy] at h
   rcases List.mem_cons.1 hx with rfl | hx
   ·exact hy
   ·exact firstE_zero r h x hx
  ·rw [if_neg hy] at h;exact absurd h hy
theorem exprE_zero {l : List Nd} (h : exprE l = 0) : l.length ≤ 400 ∧ (∀ x ∈ l,x.dep ≤ 40) ∧ ∀ x ∈ l,x.err = 0:=by
 unfold exprE at h
 cases hl : limB l
 ·rw [hl] at h
  unfold limB at hl
  simp at hl
  exact ⟨hl.1,hl.2,firstE_zero l h⟩
 ·rw [hl] at h;simp at h
theorem wordB_size {s : ByteArray} (h : nameB s = true) : s.size ≤ 24:=by
 unfold nameB wordB at h
 simp at h
 exact h.2.1
theorem okN_of_err {k : Int} {n m : ByteArray} {i d : Int} {len : Nat} (h : nodeE k n m i d len = 0) : okN k n len:=by
 refine ⟨?_,?_,?_,?_⟩
 ·rintro rfl
  have : nodeE 6 n m i d len = if argB 1 0 1 n m i d len then 1 else if namesE 6 n m 1 = 0 then numE 6 i d else namesE 6 n m 1:=rfl
  rw [this] at h
  cases ha : argB 1 0 1 n m i d len
  ·unfold argB at ha;simp at ha;omega
  ·rw [ha] at h;simp at h
 ·rintro rfl
  have : nodeE 8 n m i d len = if argB 1 0 2 n m i d len then 1 else if namesE 8 n m 1 = 0 then numE 8 i d else namesE 8 n m 1:=rfl
  rw [this] at h
  cases ha : argB 1 0 2 n m i d len
  ·unfold argB at ha;simp at ha;omega
  ·rw [ha] at h;simp at h
 ·rintro rfl
  have : nodeE 13 n m i d len = if argB 2 0 3 n m i d len then 1 else if namesE 13 n m 2 = 0 then numE 13 i d else namesE 13 n m 2:=rfl
  rw [this] at h
  cases ha : argB 2 0 3 n m i d len
  ·unfold argB at ha;simp at ha;omega
  ·rw [ha] at h;simp at h
 ·rintro rfl
  have : nodeE 3 n m i d len = if argB 1 0 0 n m i d len then 1 else if namesE 3 n m 1 = 0 then numE 3 i d else namesE 3 n m 1:=rfl
  rw [this] at h
  cases ha : argB 1 0 0 n m i d len
  ·rw [ha] at h
   cases hn : nameB n
   ·simp [namesE,nmB,hn] at h
   ·have:=wordB_size hn;unfold maxLen;omega
  ·rw [ha] at h;simp at h
theorem Fo.pre_length : ∀ (f : Fo) (dp : Nat),(f.pre dp).length = f.count
 | .nil,_ => rfl
 | .cons _ _ _ _ _ _ _ s r,dp => by simp [Fo.pre,Fo.count,s.pre_length,r.pre_length];omega
theorem Fo.vld_of_err : ∀ (f : Fo) (dp : Nat),(∀ x ∈ f.pre dp,x.err = 0) → f.Vld
 | .nil,_,_ => trivial
 | .cons k n m i d A c s r,dp,h => by
  simp only [Fo.pre,List.mem_cons,List.mem_append] at h
  exact ⟨okN_of_err (h ⟨dp,k,n,m,i,d,A,s.len,c⟩ (.inl rfl)),s.vld_of_err (dp + 1) (fun x hx => h x (.inr (.inl hx))),r.vld_of_err dp (fun x hx => h x (.inr (.inr hx)))⟩
theorem Dc.valid {x : Dc} (h : exprE x.pre = 0) : okN x.k x.n x.s.len ∧ x.s.Vld ∧ x.s.count ≤ 399:=by
 obtain ⟨h1,_,h3⟩:=exprE_zero h
 unfold Dc.pre at h1 h3
 refine ⟨okN_of_err (h3 _ (List.mem_cons_self ..)),x.s.vld_of_err 2 fun y hy => h3 y (List.mem_cons_of_mem _ hy),?_⟩
 rw [List.length_cons,x.s.pre_length] at h1
 omega
theorem bCheckDecl1_any (x : Nd) (Z : World) : Calls Tryz.prog 122 (#[x.enc] ++ #[]) Z fun e Y => e = .returned (.bool (x.k == 4)) ∧ Below Z.heap.size Z Y:=by
 obtain ⟨dp,k,n,m,i,d,A,len,c⟩:=x
 have HB:=Lib.hid (fun o => (Below.refl Z.heap.size Z).alloc (Nat.le_refl _) o)
 simp only [Nd.enc,Array.append_empty]
 cases hk : k == 4
 all_goals
  go_enter Tryz.func122,Tryz.ntmps122
  go_wp2
  go_ret
  exact ⟨rfl,HB.out _⟩
set_option maxHeartbeats 400000 in
theorem bCheckDecl2_any (label : ByteArray) (lb : Nat) (x : Nd) (Z : World) (hl : Z.cell? ⟨lb,0,none⟩ = some (.string label)) : Calls Tryz.prog 124 (#[x.enc] ++ #[.pointer (some ⟨lb,0,none⟩)]) Z fun e Y => e = .returned (.bool (isRefTo label x)) ∧ Below Z.heap.size Z Y:=by
 obtain ⟨dp,k,n,m,i,d,A,len,c⟩:=x
 have HB:=Lib.hid (fun o => (Below.refl Z.heap.size Z).alloc (Nat.le_refl _) o)
 have hlt:=World.block_lt_of_cell? Z _ hl
 have hl2:=(World.cell?_alloc_lt Z (.cells #[.int .i64 k,.string n,.string m,.int .i64 i,.int .i64 d,.slice A len c] 60) ⟨lb,0,none⟩ hlt).trans hl
 have e : isRefTo label ⟨dp,k,n,m,i,d,A,len,c⟩ = ((k == 5) && (n.toList == label.toList)):=rfl
 rw [e]
 clear e hl hlt
 simp only [Nd.enc,List.append_toArray,List.cons_append,List.nil_append]
 cases hk : k == 5 <;> cases hn : n.toList == label.toList
 all_goals
  go_enter Tryz.func124,Tryz.ntmps124
  go_wp2
  go_ret
  exact ⟨rfl,HB.out _⟩
end Go.Proofs.YtnfndgmlnoeelaaGreatDoor
/- bind.checkDecl -/
namespace Go.Proofs.YtnfndgmlnoeelaaGreatDoor
open Go.RowKit Go.Proofs Go.Shelf

set_option maxRecDepth 100000 in
set_option maxHeartbeats 2000000 in
theorem bCheckDecl_any (label : ByteArray) (x : Dc) (w : World) (hx : x.Ok w w.heap.size) :
  Calls Tryz.prog 85 #[.string label,.agg x.cells] w fun e w' => e = .returned (.int .i64 (declE label x)) ∧ Below w.heap.size w w':=by
 obtain ⟨E,HE⟩ : ∃ E,Hid (E = declE label x):=⟨_,rfl⟩
 rw [← HE.out]
 have HV:=Lib.hid (fun h => x.valid h)
 obtain ⟨id,kind,pub,nA,nc,names,doubt,k,n,m,i,d,A,c,s⟩:=x
 simp only [Dc.cells]
 obtain ⟨W1,hW1⟩ : ∃ W1,(w.alloc (.cells #[.string label] 9)).alloc (.cells #[.int .i64 id,.int .i64 kind,.bool pub,.slice nA names.length nc,.bool doubt,.int .i64 k,.string n,.string m,.int .i64 i,.int .i64 d,.slice A s.len c] 62) = W1:=⟨_,rfl⟩
 have hzw : w.heap.size + 1 < W1.heap.size:=by subst hW1;simp
 have hB1 : Below w.heap.size w W1:=by subst hW1;exact ((Below.refl _ _).alloc (Nat.le_refl _) _).alloc (by simp) _
 have hl : W1.cell? ⟨w.heap.size,0,none⟩ = some (.string label):=by subst hW1;go_simp
 have h0 : W1.cell? ⟨w.heap.size + 1,0,none⟩ = some (.int .i64 id):=by subst hW1;go_simp
 have h1 : W1.cell? ⟨w.heap.size + 1,1,none⟩ = some (.int .i64 kind):=by subst hW1;go_simp
 have h3 : W1.cell? ⟨w.heap.size + 1,3,none⟩ = some (.slice nA names.length nc):=by subst hW1;go_simp
 have h5 : W1.cell? ⟨w.heap.size + 1,5,none⟩ = some (.int .i64 k):=by subst hW1;go_simp
 have h6 : W1.cell? ⟨w.heap.size + 1,6,none⟩ = some (.string n):=by subst hW1;go_simp
 have h7 : W1.cell? ⟨w.heap.size + 1,7,none⟩ = some (.string m):=by subst hW1;go_simp
 have h8 : W1.cell? ⟨w.heap.size + 1,8,none⟩ = some (.int .i64 i):=by subst hW1;go_simp
 have h9 : W1.cell? ⟨w.heap.size + 1,9,none⟩ = some (.int .i64 d):=by subst hW1;go_simp
 have h10 : W1.cell? ⟨w.heap.size + 1,10,none⟩ = some (.slice A s.len c):=by subst hW1;go_simp
 have hN:=hx.1.keep (w':=W1) (B':=W1.heap.size) (by omega) fun p hp => hB1.cell hp
 have hS:=hx.2.keep (w':=W1) (B':=W1.heap.size) (by omega) fun p hp => hB1.cell hp
 have HC : Hid (∀ X,Below W1.heap.size W1 X → Below w.heap.size w X ∧ w.heap.size + 1 < X.heap.size ∧ s.Sl X X.heap.size A c ∧ X.cell? ⟨w.heap.size,0,none⟩ = some (.string label) ∧ X.cell? ⟨w.heap.size + 1,5,none⟩ = some (.int .i64 k) ∧ X.cell? ⟨w.heap.size + 1,6,none⟩ = some (.string n) ∧ X.cell? ⟨w.heap.size + 1,7,none⟩ = some (.string m) ∧
   X.cell? ⟨w.heap.size + 1,8,none⟩ = some (.int .i64 i) ∧ X.cell? ⟨w.heap.size + 1,9,none⟩ = some (.int .i64 d) ∧ X.cell? ⟨w.heap.size + 1,10,none⟩ = some (.slice A s.len c)):=fun X hX =>
  ⟨hB1.trans (hX.mono (by omega)),Nat.lt_of_lt_of_le hzw hX.size,hS.keep hX.size (fun p hp => hX.cell hp),(hX.cell (p:=⟨w.heap.size,0,none⟩) (by simp;omega)).trans hl,(hX.cell (p:=⟨w.heap.size + 1,5,none⟩) hzw).trans h5,(hX.cell (p:=⟨w.heap.size + 1,6,none⟩) hzw).trans h6,(hX.cell (p:=⟨w.heap.size + 1,7,none⟩) hzw).trans h7,
   (hX.cell (p:=⟨w.heap.size + 1,8,none⟩) hzw).trans h8,(hX.cell (p:=⟨w.heap.size + 1,9,none⟩) hzw).trans h9,(hX.cell (p:=⟨w.heap.size + 1,10,none⟩) hzw).trans h10⟩
 have HN:=Lib.hid (bCheckNames_any names nA nc W1 hN)
 have HB1:=Lib.hid hB1
 clear hl h5 h6 h7 h8 h9 h10 hN hS hB1 hx
 obtain ⟨E1,HE1⟩ : ∃ E1,Hid (dnE names = E1):=⟨_,rfl⟩
 obtain ⟨E2,HE2⟩ : ∃ E2,Hid (exprE (Dc.pre ⟨id,kind,pub,nA,nc,names,doubt,k,n,m,i,d,A,c,s⟩) = E2):=⟨_,rfl⟩
 obtain ⟨b4,Hb4⟩ : ∃ b4,Hid ((Fo.cons k n m i d A c s .nil).vis.any (fun y => y.k == 4) = b4):=⟨_,rfl⟩
 obtain ⟨fb,Hfb⟩ : ∃ fb,Hid (nodeFree k n m s [] = fb):=⟨_,rfl⟩
 obtain ⟨br,Hbr⟩ : ∃ br,Hid ((Fo.cons k n m i d A c s .nil).vis.any (isRefTo label) = br):=⟨_,rfl⟩
 have HD : Hid (E = if id < 1 ∨ 999999 < id then 2 else if kind ≠ 1 ∧ kind ≠ 2 ∧ kind ≠ 3 then 9 else if E1 ≠ 0 then E1 else if E2 ≠ 0 then E2 else if b4 = true then 9 else if fb = true then 21 else if br = true then 1 else 0):=by
  show E = _
  rw [HE.out,declE,HE2.out]
  simp only [Dc.body,HE1.out,Hb4.out,Hfb.out,Hbr.out]
 clear HE
 by_cases c1 : id < 1
 ·have HR:=Lib.hid (HD.out.trans (if_pos (.inl c1)))
  go_enter Tryz.func85,Tryz.ntmps85
  go_wp2
  go_ret
  exact ⟨by rw [HR.out];rfl,HB1.out⟩
 have c1' : decide (id < 1) = false:=by simpa using c1
 by_cases c2 : 999999 < id
 ·have HR:=Lib.hid (HD.out.trans (if_pos (.inr c2)))
  clear c1
  go_enter Tryz.func85,Tryz.ntmps85
  go_wp2
  go_ret
  exact ⟨by rw [HR.out];rfl,HB1.out⟩
 have HD2:=Lib.hid (HD.out.trans (if_neg (by omega)))
 have c2' : decide (999999 < id) = false:=by simpa using c2
 clear HD c1 c2
 by_cases c3 : kind ≠ 1 ∧ kind ≠ 2 ∧ kind ≠ 3
 ·have HR:=Lib.hid (HD2.out.trans (if_pos c3))
  have k1 : (kind != 1) = true:=by simpa using c3.1
  have k2 : (kind != 2) = true:=by simpa using c3.2.1
  have k3 : (kind != 3) = true:=by simpa using c3.2.2
  clear c3
  go_enter Tryz.func85,Tryz.ntmps85
  go_wp2
  go_ret
  exact ⟨by rw [HR.out];rfl,HB1.out⟩
 have HD3:=Lib.hid (HD2.out.trans (if_neg c3))
 clear HD2
 have hkk : kind = 1 ∨ kind = 2 ∨ kind = 3:=by omega
 clear c3
 have hfn1:=enterFn (fid:=122) rfl rfl rfl
 have hfn2:=enterFn (fid:=124) rfl rfl rfl
 have H1:=Lib.hid hfn1
 have H2:=Lib.hid hfn2
 clear hfn1 hfn2
 rcases hkk with rfl | rfl | rfl
 all_goals
  go_enter Tryz.func85,Tryz.ntmps85
  go_wp2_with fail
  refine HN.out.mono ?_
  rintro e w2 ⟨rfl,hb2⟩
  rw [HE1.out]
  obtain ⟨hB2,hz2,hs2,hl2,y5,y6,y7,y8,y9,y10⟩:=HC.out w2 hb2
  have HB2:=Lib.hid (And.intro hb2 hB2)
  clear hb2 hB2 hW1 h0 h1 h3
  by_cases e1 : E1 = 0
  rotate_left
  ·have HR:=Lib.hid (HD3.out.trans (if_pos e1))
   have e1' : (E1 != 0) = true:=by simpa using e1
   go_wp2
   go_ret
   exact ⟨by rw [HR.out];rfl,HB2.out.2⟩
  subst e1
  have HD4:=Lib.hid (HD3.out.trans (if_neg (by simp)))
  have HC2:=Lib.hid (checkExpr_any k n m i d A c s w2 hs2)
  go_wp2_with fail
  refine HC2.out.mono ?_
  rintro e w3 ⟨rfl,hb3⟩
  have HE2':=HE2.out
  simp only [Dc.pre] at HE2'
  rw [HE2']
  have hb3':=HB2.out.1.trans (hb3.mono HB2.out.1.size)
  obtain ⟨hB3,hz3,hs3,hl3,z5,z6,z7,z8,z9,z10⟩:=HC.out w3 hb3'
  have HB3:=Lib.hid (And.intro hb3' hB3)
  clear hb3 hb3' hB3 y5 y6 y7 y8 y9 y10 hl2 hs2 HC2
  by_cases e2 : E2 = 0
  rotate_left
  ·have HR:=Lib.hid (HD4.out.trans (if_pos e2))
   have e2' : (E2 != 0) = true:=by simpa using e2
   clear HE2'
   go_wp2
   go_ret
   exact ⟨by rw [HR.out];rfl,HB3.out.2⟩
  subst e2
  have HD5:=Lib.hid (HD4.out.trans (if_neg (by simp)))
  obtain ⟨v1,v2,v3⟩:=HV.out HE2.out
  have HVV:=Lib.hid (And.intro HE2' (And.intro v1 (And.intro v2 v3)))
  have HC3:=Lib.hid (contains_any 122 H1.out #[] (fun y => y.k == 4) k n m i d A c s w3 hs3 (by omega) (fun x Z _ => bCheckDecl1_any x Z))
  clear HE2' v1 v2 v3
  go_wp2_with fail
  refine HC3.out.mono ?_
  rintro e w4 ⟨rfl,hb4⟩
  rw [Hb4.out]
  have hb4':=HB3.out.1.trans (hb4.mono HB3.out.1.size)
  obtain ⟨hB4,hz4,hs4,hl4,y5,y6,y7,y8,y9,y10⟩:=HC.out w4 hb4'
  have HB4:=Lib.hid (And.intro hb4' hB4)
  clear hb4 hb4' hB4 z5 z6 z7 z8 z9 z10 hl3 hs3 HC3
  cases b4
  rotate_left
  ·have HR:=Lib.hid (HD5.out.trans (if_pos rfl))
   go_wp2
   go_ret
   exact ⟨by rw [HR.out];rfl,HB4.out.2⟩
  have HD6:=Lib.hid (HD5.out.trans (if_neg (by simp)))
  have HC4:=Lib.hid (free_any k n m i d A c s w4 hs4 HVV.out.1 HVV.out.2.1 HVV.out.2.2.1 (by have:=HVV.out.2.2.2;omega))
  go_wp2_with fail
  refine HC4.out.mono ?_
  rintro e w5 ⟨fA,fn,fc,rfl,hff,hfn,hb5⟩
  rw [Hfb.out] at hff
  have hb5':=HB4.out.1.trans (hb5.mono HB4.out.1.size)
  obtain ⟨hB5,hz5,hs5,hl5,z5,z6,z7,z8,z9,z10⟩:=HC.out w5 hb5'
  have HB5:=Lib.hid (And.intro hb5' hB5)
  clear hb5 hb5' hB5 y5 y6 y7 y8 y9 y10 hl4 hs4 HC4
  cases fb
  rotate_left
  ·have HR:=Lib.hid (HD6.out.trans (if_pos rfl))
   have hpos : 0 < fn:=by
    rcases Nat.eq_zero_or_pos fn with h | h
    ·exact absurd (hff.1 h) (by simp)
    ·exact h
   clear hff
   go_wp2
   go_ret
   exact ⟨by rw [HR.out];rfl,HB5.out.2⟩
  obtain rfl:=hff.2 rfl
  have HD7:=Lib.hid (HD6.out.trans (if_neg (by simp)))
  have HC5:=Lib.hid (contains_any 124 H2.out #[.pointer (some ⟨w.heap.size,0,none⟩)] (isRefTo label) k n m i d A c s w5 hs5 (by have:=HVV.out.2.2.2;omega) (fun x Z hZ => bCheckDecl2_any label w.heap.size x Z ((hZ.cell (p:=⟨w.heap.size,0,none⟩) (by simp;omega)).trans hl5)))
  clear hff
  go_wp2_with fail
  refine HC5.out.mono ?_
  rintro e w6 ⟨rfl,hb6⟩
  rw [Hbr.out]
  have hB6:=Lib.hid (HB5.out.2.trans (hb6.mono HB5.out.2.size))
  clear hb6 z5 z6 z7 z8 z9 z10 hl5 hs5 HC5
  cases br
  ·have HR:=Lib.hid (HD7.out.trans (if_neg (by simp)))
   go_wp2
   go_ret
   exact ⟨by rw [HR.out];rfl,hB6.out⟩
  ·have HR:=Lib.hid (HD7.out.trans (if_pos rfl))
   go_wp2
   go_ret
   exact ⟨by rw [HR.out];rfl,hB6.out⟩
end Go.Proofs.YtnfndgmlnoeelaaGreatDoor
/- bind.Check: words -/
namespace Go.Proofs.YtnfndgmlnoeelaaGreatDoor
open Go.RowKit Go.Proofs Go.Shelf
def SlD (w : World) (B : Nat) (A : Option Addr) (c : Nat) (l : List Dc) : Prop:=
 l.length ≤ c ∧ c ≤ maxLen ∧ (l ≠ [] → ∃ b o,A = some ⟨b,o,none⟩ ∧ b < B ∧ ∀ j x,l[j]? = some x → (∀ q v,x.cells[q]? = some v → w.cell? ⟨b,o + j * 11 + q,none⟩ = some v) ∧ x.Ok w B)
theorem SlD.keep {w w' : World} {B B' : Nat} {A : Option Addr} {c : Nat} {l : List Dc} (h : SlD w B A c l) (hB : B ≤ B') (hk : ∀ p : Addr,p.block < B → w'.cell? p = w.cell? p) : SlD w' B' A c l:=
 ⟨h.1,h.2.1,fun hne => by
  obtain ⟨b,o,e,hb,hs⟩:=h.2.2 hne
  exact ⟨b,o,e,Nat.lt_of_lt_of_le hb hB,fun j x hj => ⟨fun q v hq => (hk _ hb).trans ((hs j x hj).1 q v hq),(hs j x hj).2.1.keep hB hk,(hs j x hj).2.2.keep hB hk⟩⟩⟩
def useAll (label : ByteArray) (l : List ByteArray) : Nat → Nat → Int
 | 0,_ => 0
 | f + 1,j => if useE label l j = 0 then useAll label l f (j + 1) else useE label l j
def declsE (label : ByteArray) : Option Int → List Dc → Int
 | _,[] => 0
 | none,x :: r => if declE label x = 0 then declsE label (some x.id) r else declE label x
 | some p,x :: r => if declE label x = 0 then (if x.id ≤ p then 10 else declsE label (some x.id) r) else declE label x
def checkE (label : ByteArray) (uses : List ByteArray) (decls : List Dc) : Int:=
 if labelB label = false then 6 else
 if srcE uses ≠ 0 then srcE uses else
 if useAll label uses uses.length 0 ≠ 0 then useAll label uses uses.length 0 else
 if 100 < decls.length then 4 else declsE label none decls
def prevI (l : List Dc) : Nat → Option Int
 | 0 => none
 | j + 1 => (l[j]?).map Dc.id
end Go.Proofs.YtnfndgmlnoeelaaGreatDoor
