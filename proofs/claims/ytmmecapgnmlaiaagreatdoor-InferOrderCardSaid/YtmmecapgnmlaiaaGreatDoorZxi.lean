/- syntax.CheckSource, for a source without declarations -/
import Derived.Test.YtmmecapgnmlaiaaGreatDoorZxh
import Derived.Test.YtmmecapgnmlaiaaGreatDoorZxd
import Derived.Test.YtmmecapgnmlaiaaGreatDoorZxb
namespace Go.Proofs.YtmmecapgnmlaiaaGreatDoor
open Go.RowKit Go.Proofs
def usesE : Option ByteArray → List ByteArray → Int
 | _,[] => 0
 | none,s :: r => if labelB s = true then usesE (some s) r else 6
 | some q,s :: r => if labelB s = true then (if Op.bytesLess q.toList s.toList = true then usesE (some s) r else 10) else 6
def srcE (l : List ByteArray) : Int:=if 20 < l.length then 4 else usesE none l
def prevO (l : List ByteArray) : Nat → Option ByteArray
 | 0 => none
 | j + 1 => l[j]?
set_option maxHeartbeats 1000000 in
theorem checkSource_any (l : List ByteArray) (A : Option Addr) (c : Nat) (w : World) (hs : SlS w w.heap.size A c l) :
  Calls Tryz.prog 56 #[.agg #[.slice A l.length c,.slice none 0 0]] w fun e w' => e = .returned (.int .i64 (srcE l)) ∧ Below w.heap.size w w':=by
 have hc1:=hs.1
 have hc2:=hs.2.1
 unfold maxLen at hc2
 have hmm:=@run_makeMap Tryz.prog
 have HS:=Lib.hid hs
 clear hs
 obtain ⟨E,HE⟩ : ∃ E,Hid (E = srcE l):=⟨_,rfl⟩
 rw [← HE.out]
 by_cases h1 : 20 < l.length
 ·have HR:=Lib.hid (HE.out.trans (show srcE l = 4 by unfold srcE;rw [if_pos h1]))
  go_enter Tryz.func56,Tryz.ntmps56
  go_wp2
  go_ret
  exact ⟨by rw [HR.out];rfl,(Below.refl _ _).alloc (Nat.le_refl _) _⟩
 ·have HE1:=Lib.hid (HE.out.trans (show srcE l = usesE none l by unfold srcE;rw [if_neg h1]))
  clear HE
  go_enter Tryz.func56,Tryz.ntmps56
  go_wp2
  obtain ⟨n,hn⟩ : ∃ n,l.length = n:=⟨_,rfl⟩
  rw [hn] at h1 hc1 ⊢
  have hn1 : n ≤ 20:=by omega
  clear h1
  obtain ⟨W0,hW0⟩ : ∃ W0,w.alloc (.cells #[.slice A n c,.slice none 0 0] 106) = W0:=⟨_,rfl⟩
  have hB0 : Below w.heap.size w W0:=by subst hW0;exact (Below.refl _ _).alloc (Nat.le_refl _) _
  have hz0 : W0.heap.size = w.heap.size + 1:=by subst hW0;simp
  have hx0 : W0.cell? ⟨w.heap.size,0,none⟩ = some (.slice A n c):=by subst hW0;go_simp
  have hx1 : W0.cell? ⟨w.heap.size,1,none⟩ = some (.slice none 0 0):=by subst hW0;go_simp
  rw [hW0]
  clear hW0
  go_loopg [3,4,16] n (fun g _ _ ct wr => ∃ j : Nat,g = n - j ∧ j ≤ n ∧ ct = .int .i64 j ∧ E = usesE (prevO l j) (l.drop j) ∧ Below W0.heap.size W0 wr)
  case atStart => exact ⟨0,rfl,by omega,rfl,by rw [HE1.out];rfl,Below.refl _ _⟩
  case round =>
   obtain ⟨j,HG,hj,rfl,HA,HB⟩:=hrel
   have HG':=Lib.hid HG
   have HA':=Lib.hid HA
   clear HG HA
   have hz:=HB.size
   have hB1:=hB0.trans (HB.mono (by omega))
   have hy0 : wr.cell? ⟨w.heap.size,0,none⟩ = some (.slice A n c):=(HB.cell (p:=⟨w.heap.size,0,none⟩) (by simp;omega)).trans hx0
   have hy1 : wr.cell? ⟨w.heap.size,1,none⟩ = some (.slice none 0 0):=(HB.cell (p:=⟨w.heap.size,1,none⟩) (by simp;omega)).trans hx1
   by_cases hlt : j < n
   ·have hjl : j < l.length:=by omega
    obtain ⟨b,o,rfl,hb,hcell⟩:=HS.out.2.2 (by intro e;subst e;simp at hjl)
    have hj2 : l[j]? = some l[j]:=List.getElem?_eq_getElem hjl
    have hcj : wr.cell? ⟨b,o + j,none⟩ = some (.string l[j]):=(hB1.cell (p:=⟨b,o + j,none⟩) hb).trans (hcell j _ hj2)
    have hdrop : l.drop j = l[j] :: l.drop (j + 1):=List.drop_eq_getElem_cons hjl
    have hprev : prevO l (j + 1) = some l[j]:=hj2
    rw [hdrop] at HA'
    have HP:=Lib.hid hprev
    have HC:=Lib.hid hcell
    clear hprev hdrop hj2 hcell
    generalize l[j] = u at hcj HP HA'
    cases hu : labelB u
    ·have HR:=Lib.hid (show E = 6 by rw [HA'.out];cases prevO l j <;> simp [usesE,hu])
     go_wp2_with (go_at_call 55;refine (label_any _ _).mono ?_;rintro e w3 ⟨rfl,hb3⟩;rw [hu])
     go_ret
     exact ⟨by rw [HR.out];rfl,hB1.trans (hb3.mono (by omega))⟩
    ·cases j with
     | zero =>
      rw [Nat.add_zero] at hcj
      have HR:=Lib.hid (HA'.out.trans (show usesE (prevO l 0) (u :: l.drop (0 + 1)) = usesE (some u) (l.drop (0 + 1)) by simp [prevO,usesE,hu]))
      go_wp2_with (go_at_call 55;refine (label_any _ _).mono ?_;rintro e w3 ⟨rfl,hb3⟩;rw [hu])
      go_roundg (n - (0 + 1))
      case measure => rw [HG'.out];omega
      case rel => exact ⟨0 + 1,rfl,by omega,by go_num,by rw [HR.out,HP.out],HB.trans (hb3.mono (by omega))⟩
     | succ j =>
      have hk2 : l[j]? = some l[j]:=List.getElem?_eq_getElem (by omega)
      have hck : wr.cell? ⟨b,o + j,none⟩ = some (.string l[j]):=(hB1.cell (p:=⟨b,o + j,none⟩) hb).trans (HC.out j _ hk2)
      have HQ:=Lib.hid (show prevO l (j + 1) = some l[j] from hk2)
      have hidx : ((j + 1 : Nat) : Int) - 1 = j:=by omega
      clear hk2
      generalize l[j] = q at hck HQ
      rw [HQ.out] at HA'
      cases hq : Op.bytesLess q.toList u.toList
      ·have HR:=Lib.hid (HA'.out.trans (show usesE (some q) (u :: l.drop (j + 1 + 1)) = 10 by simp [usesE,hu,hq]))
       go_wp2_with (go_at_call 55;refine (label_any _ _).mono ?_;rintro e w3 ⟨rfl,hb3⟩;rw [hu];have hf1:=(hb3.cell (p:=⟨w.heap.size,0,none⟩) (by simp;omega)).trans hy0;have hf2:=(hb3.cell (p:=⟨b,o + j,none⟩) (by simp;omega)).trans hck)
       go_ret
       exact ⟨by rw [HR.out];rfl,hB1.trans (hb3.mono (by omega))⟩
      ·have HR:=Lib.hid (HA'.out.trans (show usesE (some q) (u :: l.drop (j + 1 + 1)) = usesE (some u) (l.drop (j + 1 + 1)) by simp [usesE,hu,hq]))
       go_wp2_with (go_at_call 55;refine (label_any _ _).mono ?_;rintro e w3 ⟨rfl,hb3⟩;rw [hu];have hf1:=(hb3.cell (p:=⟨w.heap.size,0,none⟩) (by simp;omega)).trans hy0;have hf2:=(hb3.cell (p:=⟨b,o + j,none⟩) (by simp;omega)).trans hck)
       go_roundg (n - (j + 1 + 1))
       case measure => rw [HG'.out];omega
       case rel => exact ⟨j + 1 + 1,rfl,by omega,by go_num,by rw [HR.out,HP.out],HB.trans (hb3.mono (by omega))⟩
   ·obtain rfl : j = n:=by omega
    have HR:=Lib.hid (HA'.out.trans (show usesE (prevO l j) (l.drop j) = 0 by rw [List.drop_of_length_le (by omega)];cases prevO l j <;> rfl))
    have hy2 : (wr.alloc (.map #[] 0)).cell? ⟨w.heap.size,1,none⟩ = some (.slice none 0 0):=(World.cell?_alloc_lt wr _ _ (by simp;omega)).trans hy1
    go_wp2
    go_loopg [6,7,8,45] 0 (fun g _ _ _ ct wr2 => ct = .int .i64 0 ∧ Below w.heap.size w wr2)
    case atStart => exact ⟨rfl,hB1.alloc (by omega) _⟩
    obtain ⟨rfl,HB2⟩:=hrel
    go_wp2
    go_ret
    exact ⟨by rw [HR.out];rfl,HB2⟩
end Go.Proofs.YtmmecapgnmlaiaaGreatDoor
/- bind.checkDecl: words and its closures -/
namespace Go.Proofs.YtmmecapgnmlaiaaGreatDoor
open Go.RowKit Go.Proofs Go.Shelf
structure Dc where
 id : Int
 kind : Int
 pub : Bool
 nA : Option Addr
 nc : Nat
 names : List ByteArray
 doubt : Bool
 k : Int
 n : ByteArray
 m : ByteArray
 i : Int
 d : Int
 A : Option Addr
 c : Nat
 s : Fo
def Dc.cells (x : Dc) : Array Value:=#[.int .i64 x.id,.int .i64 x.kind,.bool x.pub,.slice x.nA x.names.length x.nc,.bool x.doubt,.int .i64 x.k,.string x.n,.string x.m,.int .i64 x.i,.int .i64 x.d,.slice x.A x.s.len x.c]
def Dc.Ok (x : Dc) (w : World) (B : Nat) : Prop:=SlS w B x.nA x.nc x.names ∧ x.s.Sl w B x.A x.c
def Dc.body (x : Dc) : Fo:=.cons x.k x.n x.m x.i x.d x.A x.c x.s .nil
def Dc.pre (x : Dc) : List Nd:=⟨1,x.k,x.n,x.m,x.i,x.d,x.A,x.s.len,x.c⟩ :: x.s.pre 2
def isRefTo (label : ByteArray) (x : Nd) : Bool:=(x.k == 5) && (x.n.toList == label.toList)
def declE (label : ByteArray) (x : Dc) : Int:=
 if x.id < 1 ∨ 999999 < x.id then 2 else
 if x.kind ≠ 1 ∧ x.kind ≠ 2 ∧ x.kind ≠ 3 then 9 else
 if dnE x.names ≠ 0 then dnE x.names else
 if exprE x.pre ≠ 0 then exprE x.pre else
 if x.body.vis.any (fun y => y.k == 4) = true then 9 else
 if nodeFree x.k x.n x.m x.s [] = true then 21 else
 if x.body.vis.any (isRefTo label) = true then 1 else 0
theorem firstE_zero : ∀ l : List Nd,firstE l = 0 → ∀ x ∈ l,x.err = 0
 | [],_,x,hx => by simp at hx
 | y :: r,h,x,hx => by
  unfold firstE at h
  by_cases hy : y.err = 0
  ·rw [if_pos hy] at h
   rcases List.mem_cons.1 hx with rfl | hx
   ·exact hy
   ·exact firstE_zero r h x hx
  ·rw [if_neg hy] at h;exact absurd h hy
theorem exprE_zero {l : List Nd} (h : exprE l = 0) : l.length ≤ 400 ∧ (∀ x ∈ l,x.dep ≤ 40) ∧ ∀ x ∈ l,x.err = 0:=by
 unfold exprE at h
 cases hl : limB l
 ·rw [hl] at h
  unfold limB at hl
  simp at hl
  exact ⟨hl.1,hl.2,firstE_zero l h⟩
 ·rw [hl] at h;simp at h
theorem wordB_size {s : ByteArray} (h : nameB s = true) : s.size ≤ 24:=by
 unfold nameB wordB at h
 simp at h
 exact h.2.1
theorem okN_of_err {k : Int} {n m : ByteArray} {i d : Int} {len : Nat} (h : nodeE k n m i d len = 0) : okN k n len:=by
 refine ⟨?_,?_,?_,?_⟩
 ·rintro rfl
  have : nodeE 6 n m i d len = if argB 1 0 1 n m i d len then 1 else if namesE 6 n m 1 = 0 then numE 6 i d else namesE 6 n m 1:=rfl
  rw [this] at h
  cases ha : argB 1 0 1 n m i d len
  ·unfold argB at ha;simp at ha;omega
  ·rw [ha] at h;simp at h
 ·rintro rfl
  have : nodeE 8 n m i d len = if argB 1 0 2 n m i d len then 1 else if namesE 8 n m 1 = 0 then numE 8 i d else namesE 8 n m 1:=rfl
  rw [this] at h
  cases ha : argB 1 0 2 n m i d len
  ·unfold argB at ha;simp at ha;omega
  ·rw [ha] at h;simp at h
 ·rintro rfl
  have : nodeE 13 n m i d len = if argB 2 0 3 n m i d len then 1 else if namesE 13 n m 2 = 0 then numE 13 i d else namesE 13 n m 2:=rfl
  rw [this] at h
  cases ha : argB 2 0 3 n m i d len
  ·unfold argB at ha;simp at ha;omega
  ·rw [ha] at h;simp at h
 ·rintro rfl
  have : nodeE 3 n m i d len = if argB 1 0 0 n m i d len then 1 else if namesE 3 n m 1 = 0 then numE 3 i d else namesE 3 n m 1:=rfl
  rw [this] at h
  cases ha : argB 1 0 0 n m i d len
  ·rw [ha] at h
   cases hn : nameB n
   ·simp [namesE,nmB,hn] at h
   ·have:=wordB_size hn;unfold maxLen;omega
  ·rw [ha] at h;simp at h
theorem Fo.pre_length : ∀ (f : Fo) (dp : Nat),(f.pre dp).length = f.count
 | .nil,_ => rfl
 | .cons _ _ _ _ _ _ _ s r,dp => by simp [Fo.pre,Fo.count,s.pre_length,r.pre_length];omega
theorem Fo.vld_of_err : ∀ (f : Fo) (dp : Nat),(∀ x ∈ f.pre dp,x.err = 0) → f.Vld
 | .nil,_,_ => trivial
 | .cons k n m i d A c s r,dp,h => by
  simp only [Fo.pre,List.mem_cons,List.mem_append] at h
  exact ⟨okN_of_err (h ⟨dp,k,n,m,i,d,A,s.len,c⟩ (.inl rfl)),s.vld_of_err (dp + 1) (fun x hx => h x (.inr (.inl hx))),r.vld_of_err dp (fun x hx => h x (.inr (.inr hx)))⟩
theorem Dc.valid {x : Dc} (h : exprE x.pre = 0) : okN x.k x.n x.s.len ∧ x.s.Vld ∧ x.s.count ≤ 399:=by
 obtain ⟨h1,_,h3⟩:=exprE_zero h
 unfold Dc.pre at h1 h3
 refine ⟨okN_of_err (h3 _ (List.mem_cons_self ..)),x.s.vld_of_err 2 fun y hy => h3 y (List.mem_cons_of_mem _ hy),?_⟩
 rw [List.length_cons,x.s.pre_length] at h1
 omega
theorem bCheckDecl1_any (x : Nd) (Z : World) : Calls Tryz.prog 126 (#[x.enc] ++ #[]) Z fun e Y => e = .returned (.bool (x.k == 4)) ∧ Below Z.heap.size Z Y:=by
 obtain ⟨dp,k,n,m,i,d,A,len,c⟩:=x
 have HB:=Lib.hid (fun o => (Below.refl Z.heap.size Z).alloc (Nat.le_refl _) o)
 simp only [Nd.enc,Array.append_empty]
 cases hk : k == 4
 all_goals
  go_enter Tryz.func126,Tryz.ntmps126
  go_wp2
  go_ret
  exact ⟨rfl,HB.out _⟩
set_option maxHeartbeats 400000 in
theorem bCheckDecl2_any (label : ByteArray) (lb : Nat) (x : Nd) (Z : World) (hl : Z.cell? ⟨lb,0,none⟩ = some (.string label)) : Calls Tryz.prog 128 (#[x.enc] ++ #[.pointer (some ⟨lb,0,none⟩)]) Z fun e Y => e = .returned (.bool (isRefTo label x)) ∧ Below Z.heap.size Z Y:=by
 obtain ⟨dp,k,n,m,i,d,A,len,c⟩:=x
 have HB:=Lib.hid (fun o => (Below.refl Z.heap.size Z).alloc (Nat.le_refl _) o)
 have hlt:=World.block_lt_of_cell? Z _ hl
 have hl2:=(World.cell?_alloc_lt Z (.cells #[.int .i64 k,.string n,.string m,.int .i64 i,.int .i64 d,.slice A len c] 44) ⟨lb,0,none⟩ hlt).trans hl
 have e : isRefTo label ⟨dp,k,n,m,i,d,A,len,c⟩ = ((k == 5) && (n.toList == label.toList)):=rfl
 rw [e]
 clear e hl hlt
 simp only [Nd.enc,List.append_toArray,List.cons_append,List.nil_append]
 cases hk : k == 5 <;> cases hn : n.toList == label.toList
 all_goals
  go_enter Tryz.func128,Tryz.ntmps128
  go_wp2
  go_ret
  exact ⟨rfl,HB.out _⟩
end Go.Proofs.YtmmecapgnmlaiaaGreatDoor
/- bind.checkDecl -/
namespace Go.Proofs.YtmmecapgnmlaiaaGreatDoor
open Go.RowKit Go.Proofs Go.Shelf
set_option maxRecDepth 100000 in
set_option maxHeartbeats 2000000 in
theorem bCheckDecl_any (label : ByteArray) (x : Dc) (w : World) (hx : x.Ok w w.heap.size) :
  Calls Tryz.prog 58 #[.string label,.agg x.cells] w fun e w' => e = .returned (.int .i64 (declE label x)) ∧ Below w.heap.size w w':=by
 obtain ⟨E,HE⟩ : ∃ E,Hid (E = declE label x):=⟨_,rfl⟩
 rw [← HE.out]
 have HV:=Lib.hid (fun h => x.valid h)
 obtain ⟨id,kind,pub,nA,nc,names,doubt,k,n,m,i,d,A,c,s⟩:=x
 simp only [Dc.cells]
 obtain ⟨W1,hW1⟩ : ∃ W1,(w.alloc (.cells #[.string label] 9)).alloc (.cells #[.int .i64 id,.int .i64 kind,.bool pub,.slice nA names.length nc,.bool doubt,.int .i64 k,.string n,.string m,.int .i64 i,.int .i64 d,.slice A s.len c] 46) = W1:=⟨_,rfl⟩
 have hzw : w.heap.size + 1 < W1.heap.size:=by subst hW1;simp
 have hB1 : Below w.heap.size w W1:=by subst hW1;exact ((Below.refl _ _).alloc (Nat.le_refl _) _).alloc (by simp) _
 have hl : W1.cell? ⟨w.heap.size,0,none⟩ = some (.string label):=by subst hW1;go_simp
 have h0 : W1.cell? ⟨w.heap.size + 1,0,none⟩ = some (.int .i64 id):=by subst hW1;go_simp
 have h1 : W1.cell? ⟨w.heap.size + 1,1,none⟩ = some (.int .i64 kind):=by subst hW1;go_simp
 have h3 : W1.cell? ⟨w.heap.size + 1,3,none⟩ = some (.slice nA names.length nc):=by subst hW1;go_simp
 have h5 : W1.cell? ⟨w.heap.size + 1,5,none⟩ = some (.int .i64 k):=by subst hW1;go_simp
 have h6 : W1.cell? ⟨w.heap.size + 1,6,none⟩ = some (.string n):=by subst hW1;go_simp
 have h7 : W1.cell? ⟨w.heap.size + 1,7,none⟩ = some (.string m):=by subst hW1;go_simp
 have h8 : W1.cell? ⟨w.heap.size + 1,8,none⟩ = some (.int .i64 i):=by subst hW1;go_simp
 have h9 : W1.cell? ⟨w.heap.size + 1,9,none⟩ = some (.int .i64 d):=by subst hW1;go_simp
 have h10 : W1.cell? ⟨w.heap.size + 1,10,none⟩ = some (.slice A s.len c):=by subst hW1;go_simp
 have hN:=hx.1.keep (w':=W1) (B':=W1.heap.size) (by omega) fun p hp => hB1.cell hp
 have hS:=hx.2.keep (w':=W1) (B':=W1.heap.size) (by omega) fun p hp => hB1.cell hp
 have HC : Hid (∀ X,Below W1.heap.size W1 X → Below w.heap.size w X ∧ w.heap.size + 1 < X.heap.size ∧ s.Sl X X.heap.size A c ∧ X.cell? ⟨w.heap.size,0,none⟩ = some (.string label) ∧ X.cell? ⟨w.heap.size + 1,5,none⟩ = some (.int .i64 k) ∧ X.cell? ⟨w.heap.size + 1,6,none⟩ = some (.string n) ∧ X.cell? ⟨w.heap.size + 1,7,none⟩ = some (.string m) ∧
   X.cell? ⟨w.heap.size + 1,8,none⟩ = some (.int .i64 i) ∧ X.cell? ⟨w.heap.size + 1,9,none⟩ = some (.int .i64 d) ∧ X.cell? ⟨w.heap.size + 1,10,none⟩ = some (.slice A s.len c)):=fun X hX =>
  ⟨hB1.trans (hX.mono (by omega)),Nat.lt_of_lt_of_le hzw hX.size,hS.keep hX.size (fun p hp => hX.cell hp),(hX.cell (p:=⟨w.heap.size,0,none⟩) (by simp;omega)).trans hl,(hX.cell (p:=⟨w.heap.size + 1,5,none⟩) hzw).trans h5,(hX.cell (p:=⟨w.heap.size + 1,6,none⟩) hzw).trans h6,(hX.cell (p:=⟨w.heap.size + 1,7,none⟩) hzw).trans h7,
   (hX.cell (p:=⟨w.heap.size + 1,8,none⟩) hzw).trans h8,(hX.cell (p:=⟨w.heap.size + 1,9,none⟩) hzw).trans h9,(hX.cell (p:=⟨w.heap.size + 1,10,none⟩) hzw).trans h10⟩
 have HN:=Lib.hid (bCheckNames_any names nA nc W1 hN)
 have HB1:=Lib.hid hB1
 clear hl h5 h6 h7 h8 h9 h10 hN hS hB1 hx
 obtain ⟨E1,HE1⟩ : ∃ E1,Hid (dnE names = E1):=⟨_,rfl⟩
 obtain ⟨E2,HE2⟩ : ∃ E2,Hid (exprE (Dc.pre ⟨id,kind,pub,nA,nc,names,doubt,k,n,m,i,d,A,c,s⟩) = E2):=⟨_,rfl⟩
 obtain ⟨b4,Hb4⟩ : ∃ b4,Hid ((Fo.cons k n m i d A c s .nil).vis.any (fun y => y.k == 4) = b4):=⟨_,rfl⟩
 obtain ⟨fb,Hfb⟩ : ∃ fb,Hid (nodeFree k n m s [] = fb):=⟨_,rfl⟩
 obtain ⟨br,Hbr⟩ : ∃ br,Hid ((Fo.cons k n m i d A c s .nil).vis.any (isRefTo label) = br):=⟨_,rfl⟩
 have HD : Hid (E = if id < 1 ∨ 999999 < id then 2 else if kind ≠ 1 ∧ kind ≠ 2 ∧ kind ≠ 3 then 9 else if E1 ≠ 0 then E1 else if E2 ≠ 0 then E2 else if b4 = true then 9 else if fb = true then 21 else if br = true then 1 else 0):=by
  show E = _
  rw [HE.out,declE,HE2.out]
  simp only [Dc.body,HE1.out,Hb4.out,Hfb.out,Hbr.out]
 clear HE
 by_cases c1 : id < 1
 ·have HR:=Lib.hid (HD.out.trans (if_pos (.inl c1)))
  go_enter Tryz.func58,Tryz.ntmps58
  go_wp2
  go_ret
  exact ⟨by rw [HR.out];rfl,HB1.out⟩
 have c1' : decide (id < 1) = false:=by simpa using c1
 by_cases c2 : 999999 < id
 ·have HR:=Lib.hid (HD.out.trans (if_pos (.inr c2)))
  clear c1
  go_enter Tryz.func58,Tryz.ntmps58
  go_wp2
  go_ret
  exact ⟨by rw [HR.out];rfl,HB1.out⟩
 have HD2:=Lib.hid (HD.out.trans (if_neg (by omega)))
 have c2' : decide (999999 < id) = false:=by simpa using c2
 clear HD c1 c2
 by_cases c3 : kind ≠ 1 ∧ kind ≠ 2 ∧ kind ≠ 3
 ·have HR:=Lib.hid (HD2.out.trans (if_pos c3))
  have k1 : (kind != 1) = true:=by simpa using c3.1
  have k2 : (kind != 2) = true:=by simpa using c3.2.1
  have k3 : (kind != 3) = true:=by simpa using c3.2.2
  clear c3
  go_enter Tryz.func58,Tryz.ntmps58
  go_wp2
  go_ret
  exact ⟨by rw [HR.out];rfl,HB1.out⟩
 have HD3:=Lib.hid (HD2.out.trans (if_neg c3))
 clear HD2
 have hkk : kind = 1 ∨ kind = 2 ∨ kind = 3:=by omega
 clear c3
 have hfn1:=enterFn (fid:=126) rfl rfl rfl
 have hfn2:=enterFn (fid:=128) rfl rfl rfl
 have H1:=Lib.hid hfn1
 have H2:=Lib.hid hfn2
 clear hfn1 hfn2
 rcases hkk with rfl | rfl | rfl
 all_goals
  go_enter Tryz.func58,Tryz.ntmps58
  go_wp2_with fail
  refine HN.out.mono ?_
  rintro e w2 ⟨rfl,hb2⟩
  rw [HE1.out]
  obtain ⟨hB2,hz2,hs2,hl2,y5,y6,y7,y8,y9,y10⟩:=HC.out w2 hb2
  have HB2:=Lib.hid (And.intro hb2 hB2)
  clear hb2 hB2 hW1 h0 h1 h3
  by_cases e1 : E1 = 0
  rotate_left
  ·have HR:=Lib.hid (HD3.out.trans (if_pos e1))
   have e1' : (E1 != 0) = true:=by simpa using e1
   go_wp2
   go_ret
   exact ⟨by rw [HR.out];rfl,HB2.out.2⟩
  subst e1
  have HD4:=Lib.hid (HD3.out.trans (if_neg (by simp)))
  have HC2:=Lib.hid (checkExpr_any k n m i d A c s w2 hs2)
  go_wp2_with fail
  refine HC2.out.mono ?_
  rintro e w3 ⟨rfl,hb3⟩
  have HE2':=HE2.out
  simp only [Dc.pre] at HE2'
  rw [HE2']
  have hb3':=HB2.out.1.trans (hb3.mono HB2.out.1.size)
  obtain ⟨hB3,hz3,hs3,hl3,z5,z6,z7,z8,z9,z10⟩:=HC.out w3 hb3'
  have HB3:=Lib.hid (And.intro hb3' hB3)
  clear hb3 hb3' hB3 y5 y6 y7 y8 y9 y10 hl2 hs2 HC2
  by_cases e2 : E2 = 0
  rotate_left
  ·have HR:=Lib.hid (HD4.out.trans (if_pos e2))
   have e2' : (E2 != 0) = true:=by simpa using e2
   clear HE2'
   go_wp2
   go_ret
   exact ⟨by rw [HR.out];rfl,HB3.out.2⟩
  subst e2
  have HD5:=Lib.hid (HD4.out.trans (if_neg (by simp)))
  obtain ⟨v1,v2,v3⟩:=HV.out HE2.out
  have HVV:=Lib.hid (And.intro HE2' (And.intro v1 (And.intro v2 v3)))
  have HC3:=Lib.hid (contains_any 126 H1.out #[] (fun y => y.k == 4) k n m i d A c s w3 hs3 (by omega) (fun x Z _ => bCheckDecl1_any x Z))
  clear HE2' v1 v2 v3
  go_wp2_with fail
  refine HC3.out.mono ?_
  rintro e w4 ⟨rfl,hb4⟩
  rw [Hb4.out]
  have hb4':=HB3.out.1.trans (hb4.mono HB3.out.1.size)
  obtain ⟨hB4,hz4,hs4,hl4,y5,y6,y7,y8,y9,y10⟩:=HC.out w4 hb4'
  have HB4:=Lib.hid (And.intro hb4' hB4)
  clear hb4 hb4' hB4 z5 z6 z7 z8 z9 z10 hl3 hs3 HC3
  cases b4
  rotate_left
  ·have HR:=Lib.hid (HD5.out.trans (if_pos rfl))
   go_wp2
   go_ret
   exact ⟨by rw [HR.out];rfl,HB4.out.2⟩
  have HD6:=Lib.hid (HD5.out.trans (if_neg (by simp)))
  have HC4:=Lib.hid (free_any k n m i d A c s w4 hs4 HVV.out.1 HVV.out.2.1 HVV.out.2.2.1 (by have:=HVV.out.2.2.2;omega))
  go_wp2_with fail
  refine HC4.out.mono ?_
  rintro e w5 ⟨fA,fn,fc,rfl,hff,hfn,hb5⟩
  rw [Hfb.out] at hff
  have hb5':=HB4.out.1.trans (hb5.mono HB4.out.1.size)
  obtain ⟨hB5,hz5,hs5,hl5,z5,z6,z7,z8,z9,z10⟩:=HC.out w5 hb5'
  have HB5:=Lib.hid (And.intro hb5' hB5)
  clear hb5 hb5' hB5 y5 y6 y7 y8 y9 y10 hl4 hs4 HC4
  cases fb
  rotate_left
  ·have HR:=Lib.hid (HD6.out.trans (if_pos rfl))
   have hpos : 0 < fn:=by
    rcases Nat.eq_zero_or_pos fn with h | h
    ·exact absurd (hff.1 h) (by simp)
    ·exact h
   clear hff
   go_wp2
   go_ret
   exact ⟨by rw [HR.out];rfl,HB5.out.2⟩
  obtain rfl:=hff.2 rfl
  have HD7:=Lib.hid (HD6.out.trans (if_neg (by simp)))
  have HC5:=Lib.hid (contains_any 128 H2.out #[.pointer (some ⟨w.heap.size,0,none⟩)] (isRefTo label) k n m i d A c s w5 hs5 (by have:=HVV.out.2.2.2;omega) (fun x Z hZ => bCheckDecl2_any label w.heap.size x Z ((hZ.cell (p:=⟨w.heap.size,0,none⟩) (by simp;omega)).trans hl5)))
  clear hff
  go_wp2_with fail
  refine HC5.out.mono ?_
  rintro e w6 ⟨rfl,hb6⟩
  rw [Hbr.out]
  have hB6:=Lib.hid (HB5.out.2.trans (hb6.mono HB5.out.2.size))
  clear hb6 z5 z6 z7 z8 z9 z10 hl5 hs5 HC5
  cases br
  ·have HR:=Lib.hid (HD7.out.trans (if_neg (by simp)))
   go_wp2
   go_ret
   exact ⟨by rw [HR.out];rfl,hB6.out⟩
  ·have HR:=Lib.hid (HD7.out.trans (if_pos rfl))
   go_wp2
   go_ret
   exact ⟨by rw [HR.out];rfl,hB6.out⟩
end Go.Proofs.YtmmecapgnmlaiaaGreatDoor
