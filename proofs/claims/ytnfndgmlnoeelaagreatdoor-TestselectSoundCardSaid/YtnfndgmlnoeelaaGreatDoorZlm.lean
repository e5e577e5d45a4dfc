/- bind.Refs: the visit -/
import Derived.Test.YtnfndgmlnoeelaaGreatDoorZle
import Derived.Deep.RegionHeld3
import Derived.Laws.Cover1
import Derived.Sort.Grow
namespace Go.Proofs.YtnfndgmlnoeelaaGreatDoor
open Go.RowKit Go.Proofs Go.Shelf
theorem Tryz.infoName : (Tryz.prog.info? 24).map (fun i => (i.zero,i.size,i.bytes)) = some (some (.agg #[.string ⟨#[]⟩,.int .i64 0]),2,24):=by kernel_rfl
def refC (l : List Nd) : List Value:=l.flatMap fun x => if x.k = 5 then [.string x.n,.int .i64 x.i] else []
def refN (l : List Nd) : Nat:=(l.filter fun x => x.k = 5).length
def RfJ (w : World) (n₀ lb base : Nat) (pre : List Nd) (X : World) : Prop:=
 Below n₀ w X ∧ base ≤ X.heap.size ∧ ∃ v,X.heap[lb]? = some (.cells #[v] 47 (0,0)) ∧ X.ownsRow base 24 2 v (refN pre) (refC pre)
theorem cell_pair_new (w : World) (a b : Value) (t : TypeId) : ∀ j u,([a,b] : List Value)[j]? = some u → (w.alloc (.cells #[a,b] t)).cell? ((⟨w.heap.size,0,none⟩ : Addr).add j) = some u:=by
 intro j u hu
 have h:=heap_alloc_new w (.cells #[a,b] t)
 have hadd : (⟨w.heap.size,0,none⟩ : Addr).add j = ⟨w.heap.size,j,none⟩:=by unfold Addr.add;split <;> simp_all
 rw [hadd,cell_of_row _ _ _ _ _ _ h]
 simpa using hu
set_option maxRecDepth 100000 in
set_option maxHeartbeats 1000000 in
theorem refs1_any (x : Nd) (lb base nn : Nat) (v : Value) (xs : List Value) (X : World) (hb : X.heap[lb]? = some (.cells #[v] 47 (0,0))) (hown : X.ownsRow base 24 2 v nn xs) (hlb : lb < base) (hsz : base ≤ X.heap.size) (hn : nn ≤ 1000000) :
  Calls Tryz.prog 111 (#[x.enc] ++ #[.pointer (some ⟨lb,0,none⟩)]) X fun e Y => e = .returned (.bool true) ∧ ∃ v',Y.heap[lb]? = some (.cells #[v'] 47 (0,0)) ∧
   Y.ownsRow base 24 2 v' (if x.k = 5 then nn + 1 else nn) (xs ++ if x.k = 5 then [.string x.n,.int .i64 x.i] else []) ∧ Keeps (fun k => k ≠ lb ∧ v.ownBlock ≠ some k) X Y:=by
 obtain ⟨i0,hi,hz0,hz1,hz2⟩:=info_parts Tryz.infoName
 obtain ⟨dp,k,n,m,i,d,A,len,c⟩:=x
 simp only [Nd.enc,List.append_toArray,List.cons_append,List.nil_append]
 obtain ⟨W0,hW0⟩ : ∃ W0,X.alloc (.cells #[.int .i64 k,.string n,.string m,.int .i64 i,.int .i64 d,.slice A len c] 60) = W0:=⟨_,rfl⟩
 have hzw : X.heap.size < W0.heap.size:=by subst hW0;simp
 have h0 : W0.cell? ⟨X.heap.size,0,none⟩ = some (.int .i64 k):=by subst hW0;go_simp
 have h1 : W0.cell? ⟨X.heap.size,1,none⟩ = some (.string n):=by subst hW0;go_simp
 have h3 : W0.cell? ⟨X.heap.size,3,none⟩ = some (.int .i64 i):=by subst hW0;go_simp
 have HK0:=Lib.hid (show Keeps (fun _ => True) X W0 by subst hW0;exact (Keeps.refl _ X).alloc _)
 have hb0 : W0.heap[lb]? = some (.cells #[v] 47 (0,0)):=(HK0.out.block lb (by omega) trivial).trans hb
 have hown0:=Lib.hid (show W0.ownsRow base 24 2 v nn xs by subst hW0;exact hown.alloc _)
 have hlc:=cell_of_one hb0
 have HB0:=Lib.hid hb0
 clear hb hown hb0
 by_cases hk : k = 5
 ·subst hk
  have hne : ∀ q,v.ownBlock = some q → lb ≠ q:=fun q hq e => by have:=(hown0.out.lt q hq).1;omega
  have HNE:=Lib.hid hne
  clear hne
  go_enter Tryz.func111,Tryz.ntmps111
  go_wp2_with (at_builtin;refine wpList_append_own _ rfl _ _ 47 rfl base 24 i0 _ 2 24 Tryz.underlying47 hi hz0 hz1 hz2 rfl (by decide) _ _ _ rfl (hown0.out.alloc _) ⟨W0.heap.size,0,none⟩ 1 1 [.string n,.int .i64 i] rfl rfl (cell_pair_new _ _ _ _) (by simp [Value.oneCell']) (by unfold maxLen;omega) (by omega) (by simp;omega) ?_;intro v' w1 hown1 hg1 _;have hb1 : w1.heap[lb]? = some (.cells #[v] 47 (0,0)):=(hg1.block lb (by simp;omega) (fun e => HNE.out lb e.symm rfl)).trans ((Below.heap_alloc _ _ _ (by omega)).trans HB0.out);have hc1:=cell_of_one hb1;have hf1:=free_of_one hb1;obtain ⟨gg,cc,rfl⟩:=ownsRow_succ hown1)
  go_ret
  refine ⟨rfl,_,one_setCell hb1,?_,?_⟩
  ·refine ownsRow_setCell_other hown1 ?_ _
   have:=(hown1.lt gg rfl).1
   simp [Value.ownBlock]
   omega
  ·exact (((HK0.out.mono fun _ _ => trivial).alloc _).grown hg1 (by rintro k hk ⟨_,h⟩;exact h hk)).setCell (by simp) _
 ·have hk' : (k == 5) = false:=by simpa using hk
  go_enter Tryz.func111,Tryz.ntmps111
  go_wp2
  go_ret
  exact ⟨rfl,v,HB0.out,by simpa [hk] using hown0.out,HK0.out.mono fun _ _ => trivial⟩
theorem refC_snoc (pre : List Nd) (x : Nd) : refC (pre ++ [x]) = refC pre ++ if x.k = 5 then [.string x.n,.int .i64 x.i] else []:=by simp [refC]
theorem refN_snoc (pre : List Nd) (x : Nd) : refN (pre ++ [x]) = if x.k = 5 then refN pre + 1 else refN pre:=by
 unfold refN
 rw [List.filter_append,List.length_append]
 by_cases h : x.k = 5 <;> simp [h]
theorem refN_le (l : List Nd) : refN l ≤ l.length:=List.length_filter_le _ _
theorem Fo.vis_length : ∀ f : Fo,f.vis.length = f.count
 | .nil => rfl
 | .cons _ _ _ _ _ _ _ s r => by simp [Fo.vis,Fo.count,s.vis_length,r.vis_length];omega
set_option maxRecDepth 100000 in
theorem refs_visit (k : Int) (n m : ByteArray) (i d : Int) (A : Option Addr) (c : Nat) (s : Fo) (w : World) (n₀ lb : Nat) (hs : s.Sl w n₀ A c) (hn : n₀ ≤ lb) (hcnt : s.count ≤ 100000)
  (hb : w.heap[lb]? = some (.cells #[.slice none 0 0] 47 (0,0))) :
  Calls Tryz.prog 110 #[.agg #[.int .i64 k,.string n,.string m,.int .i64 i,.int .i64 d,.slice A s.len c],.func (.func 111) #[] #[.pointer (some ⟨lb,0,none⟩)]] w fun e w' =>
   (∃ v,e = .returned v) ∧ RfJ w n₀ lb w.heap.size (Fo.cons k n m i d A c s .nil).vis w':=by
 have hlb:=lt_of_block hb
 have hfn:=enterFn (fid:=111) rfl rfl rfl
 refine (visit_law2 111 hfn #[.pointer (some ⟨lb,0,none⟩)] n₀ (RfJ w n₀ lb w.heap.size) (fun _ _ => False) k n m i d A c s w hs (by omega) hcnt ?_ ?_ ?_).mono ?_
 ·rintro pre X Y g ⟨h1,h2,v,h3,h4⟩ hg hE hk
  have hsz:=hk.size
  refine ⟨h1.trans (hk.to_below (by omega) fun k hk => by omega),by omega,v,(hk.block lb (by omega) (by omega)).trans h3,?_⟩
  refine hk.ownsRow h4 fun q hq e => ?_
  subst e
  obtain ⟨hq1,hq2⟩:=h4.lt _ hq
  obtain ⟨cur,fz,hc⟩:=hE hq2
  rcases h4.2 with ⟨rfl,_⟩ | ⟨g',cap',cur',rfl,_,hg',_⟩
  ·simp [Value.ownBlock] at hq
  ·simp only [Value.ownBlock,Option.some.injEq] at hq
   subst hq
   rw [hc] at hg'
   simp at hg'
 ·rintro pre x X hpx ⟨h1,h2,v,h3,h4⟩ hX
  have hlen : refN pre ≤ 1000000:=by
   have:=refN_le pre
   have hp:=hpx.length_le
   rw [Fo.vis_length,List.length_append] at hp
   simp [Fo.count] at hp
   omega
  refine (refs1_any x lb w.heap.size (refN pre) v (refC pre) X h3 h4 hlb h2 hlen).mono ?_
  rintro e Y ⟨rfl,v',h5,h6,h7⟩
  have hsz:=h7.size
  have hkeep : Keeps (fun k => k < n₀ ∨ (w.heap.size ≤ k ∧ IsE X k)) X Y:=h7.mono fun q hq => by
   rcases hq with hq | ⟨hq,cur,fz,hc⟩
   ·exact ⟨by omega,fun e => by have:=(h4.lt q e).1;omega⟩
   ·refine ⟨by omega,fun e => ?_⟩
    rcases h4.2 with ⟨rfl,_⟩ | ⟨g',cap',cur',rfl,_,hg',_⟩
    ·simp [Value.ownBlock] at e
    ·simp only [Value.ownBlock,Option.some.injEq] at e
     subst e
     rw [hc] at hg'
     simp at hg'
  refine .inl ⟨rfl,⟨h1.trans (hkeep.to_below (by have:=h1.size;omega) fun q hq => .inl hq),by omega,v',h5,?_⟩,hkeep⟩
  rw [refC_snoc,refN_snoc]
  exact h6
 ·exact ⟨Below.refl _ _,Nat.le_refl _,_,hb,by simpa [refN,refC] using World.ownsRow_nil w w.heap.size 24 2⟩
 ·rintro e w' ⟨hv,h | ⟨_,_,h⟩⟩
  ·exact ⟨hv,h⟩
  ·exact h.elim
end Go.Proofs.YtnfndgmlnoeelaaGreatDoor
/- cmp.Compare, cmp.Or -/
namespace Go.Proofs.YtnfndgmlnoeelaaGreatDoor
open Go.RowKit Go.Proofs Go.Shelf

theorem isNaNs_any (s : ByteArray) (w : World) : Calls Tryz.prog 145 #[.string s] w fun e w' => e = .returned (.bool false) ∧ w = w':=by
 have h : (s.toList == s.toList) = true:=by simp
 go_enter Tryz.func145,Tryz.ntmps145
 go_wp2
 go_ret
 exact ⟨by simp,rfl⟩
theorem isNaNi_any (i : Int) (w : World) : Calls Tryz.prog 109 #[.int .i64 i] w fun e w' => e = .returned (.bool false) ∧ w = w':=by
 go_enter Tryz.func109,Tryz.ntmps109
 go_wp2
 go_ret
 exact ⟨by simp,rfl⟩

def cmpB (a b : ByteArray) : Int:=if Op.bytesLess a.toList b.toList = true then -1 else if (a.toList == b.toList) = true then 0 else 1
def cmpZ (a b : Int) : Int:=if a < b then -1 else if b < a then 1 else 0

set_option maxHeartbeats 400000 in
theorem cmpS_any (a b : ByteArray) (w : World) : Calls Tryz.prog 113 #[.string a,.string b] w fun e w' => e = .returned (.int .i64 (cmpB a b)) ∧ w = w':=by
 obtain ⟨E,HE⟩ : ∃ E,Hid (E = cmpB a b):=⟨_,rfl⟩
 rw [← HE.out]
 cases h1 : Op.bytesLess a.toList b.toList
 ·cases h2 : (a.toList == b.toList)
  ·have HR:=Lib.hid (show E = 1 by rw [HE.out,cmpB,h1,h2];rfl)
   go_enter Tryz.func113,Tryz.ntmps113
   go_wp2_with (go_at_call 145;refine (isNaNs_any _ _).mono ?_;rintro e w1 ⟨rfl,rfl⟩)
   go_ret
   exact ⟨by rw [HR.out];rfl,rfl⟩
  ·have HR:=Lib.hid (show E = 0 by rw [HE.out,cmpB,h1,h2];rfl)
   go_enter Tryz.func113,Tryz.ntmps113
   go_wp2_with (go_at_call 145;refine (isNaNs_any _ _).mono ?_;rintro e w1 ⟨rfl,rfl⟩)
   go_ret
   exact ⟨by rw [HR.out];rfl,rfl⟩
 ·have HR:=Lib.hid (show E = -1 by rw [HE.out,cmpB,h1];rfl)
  go_enter Tryz.func113,Tryz.ntmps113
  go_wp2_with (go_at_call 145;refine (isNaNs_any _ _).mono ?_;rintro e w1 ⟨rfl,rfl⟩)
  go_ret
  exact ⟨by rw [HR.out];rfl,rfl⟩
set_option maxHeartbeats 400000 in
theorem cmpI_any (a b : Int) (w : World) : Calls Tryz.prog 76 #[.int .i64 a,.int .i64 b] w fun e w' => e = .returned (.int .i64 (cmpZ a b)) ∧ w = w':=by
 obtain ⟨E,HE⟩ : ∃ E,Hid (E = cmpZ a b):=⟨_,rfl⟩
 rw [← HE.out]
 by_cases h1 : a < b
 ·have HR:=Lib.hid (show E = -1 by rw [HE.out,cmpZ,if_pos h1])
  go_enter Tryz.func76,Tryz.ntmps76
  go_wp2_with (go_at_call 109;refine (isNaNi_any _ _).mono ?_;rintro e w1 ⟨rfl,rfl⟩)
  go_ret
  exact ⟨by rw [HR.out];rfl,rfl⟩
 ·have h1' : decide (a < b) = false:=by simpa using h1
  by_cases h2 : b < a
  ·have HR:=Lib.hid (show E = 1 by rw [HE.out,cmpZ,if_neg h1,if_pos h2])
   clear h1
   go_enter Tryz.func76,Tryz.ntmps76
   go_wp2_with (go_at_call 109;refine (isNaNi_any _ _).mono ?_;rintro e w1 ⟨rfl,rfl⟩)
   go_ret
   exact ⟨by rw [HR.out];rfl,rfl⟩
  ·have h2' : decide (b < a) = false:=by simpa using h2
   have HR:=Lib.hid (show E = 0 by rw [HE.out,cmpZ,if_neg h1,if_neg h2])
   clear h1 h2
   go_enter Tryz.func76,Tryz.ntmps76
   go_wp2_with (go_at_call 109;refine (isNaNi_any _ _).mono ?_;rintro e w1 ⟨rfl,rfl⟩)
   go_ret
   exact ⟨by rw [HR.out];rfl,rfl⟩
end Go.Proofs.YtnfndgmlnoeelaaGreatDoor
/- cmp.Or of two -/
namespace Go.Proofs.YtnfndgmlnoeelaaGreatDoor
open Go.RowKit Go.Proofs Go.Shelf

def orZ (x y : Int) : Int:=if x = 0 then y else x

set_option maxHeartbeats 400000 in
theorem cmpOr_any (b : Nat) (x y : Int) (w : World) (hx : w.cell? ⟨b,0,none⟩ = some (.int .i64 x)) (hy : w.cell? ⟨b,1,none⟩ = some (.int .i64 y)) :
  Calls Tryz.prog 74 #[.slice (some ⟨b,0,none⟩) 2 2] w fun e w' => e = .returned (.int .i64 (orZ x y)) ∧ w = w':=by
 obtain ⟨E,HE⟩ : ∃ E,Hid (E = orZ x y):=⟨_,rfl⟩
 rw [← HE.out]
 go_enter Tryz.func74,Tryz.ntmps74
 go_wp2
 go_loopg [5,8] 2 (fun g _ ct wr => ∃ j : Nat,g = 2 - j ∧ j ≤ 2 ∧ ct = .int .i64 j ∧ (0 < j → x = 0) ∧ (1 < j → y = 0) ∧ wr = w)
 case atStart => exact ⟨0,rfl,by omega,rfl,by omega,by omega,rfl⟩
 case round =>
  obtain ⟨j,HG,hj,rfl,H1,H2,rfl⟩:=hrel
  have HG':=Lib.hid (And.intro HG (And.intro H1 H2))
  clear HG H1 H2
  match j,hj,HG' with
  | 0,_,HG' =>
   by_cases h : x = 0
   ·have HX:=Lib.hid h
    have h' : (x != 0) = false:=by simp [h]
    clear h
    go_wp2
    go_roundg 1
    case measure => rw [HG'.out.1];omega
    case rel => exact ⟨1,rfl,by omega,by go_num,fun _ => HX.out,by omega,rfl⟩
   ·have HR:=Lib.hid (show E = x by rw [HE.out,orZ,if_neg h])
    have h' : (x != 0) = true:=by simpa using h
    go_wp2
    go_ret
    exact ⟨by rw [HR.out];rfl,rfl⟩
  | 1,_,HG' =>
   by_cases h : y = 0
   ·have HX:=Lib.hid h
    have h' : (y != 0) = false:=by simp [h]
    clear h
    go_wp2
    go_roundg 0
    case measure => rw [HG'.out.1];omega
    case rel => exact ⟨2,rfl,by omega,by go_num,fun _ => HG'.out.2.1 (by omega),fun _ => HX.out,rfl⟩
   ·have HR:=Lib.hid (show E = y by rw [HE.out,orZ,if_pos (HG'.out.2.1 (by omega))])
    have h' : (y != 0) = true:=by simpa using h
    go_wp2
    go_ret
    exact ⟨by rw [HR.out];rfl,rfl⟩
  | 2,_,HG' =>
   have HR:=Lib.hid (show E = 0 by rw [HE.out,orZ,if_pos (HG'.out.2.1 (by omega)),HG'.out.2.2 (by omega)])
   go_wp2
   go_ret
   exact ⟨by rw [HR.out];rfl,rfl⟩
end Go.Proofs.YtnfndgmlnoeelaaGreatDoor
/- bind.Refs: the order of names -/
namespace Go.Proofs.YtnfndgmlnoeelaaGreatDoor
open Go.RowKit Go.Proofs Go.Shelf

def cmpN (a : ByteArray) (i : Int) (b : ByteArray) (j : Int) : Int:=orZ (cmpB a b) (cmpZ i j)

set_option maxRecDepth 100000 in
set_option maxHeartbeats 1000000 in
theorem refs2_any (a b : ByteArray) (i j : Int) (w : World) : Calls Tryz.prog 112 #[.agg #[.string a,.int .i64 i],.agg #[.string b,.int .i64 j]] w fun e w' => e = .returned (.int .i64 (cmpN a i b j)) ∧ ∃ q os,w' = Sort.grow (w.drewN q) os:=by
 obtain ⟨p,Hp⟩ : ∃ p,Hid (cmpB a b = p):=⟨_,rfl⟩
 obtain ⟨r,Hr⟩ : ∃ r,Hid (cmpZ i j = r):=⟨_,rfl⟩
 have HE:=Lib.hid (show cmpN a i b j = orZ p r by rw [cmpN,Hp.out,Hr.out])
 rw [HE.out]
 obtain ⟨W0,hW0⟩ : ∃ W0,(w.alloc (.cells #[.string a,.int .i64 i] 24)).alloc (.cells #[.string b,.int .i64 j] 24) = W0:=⟨_,rfl⟩
 have hz : w.heap.size + 1 < W0.heap.size:=by subst hW0;simp
 have HB0:=Lib.hid (show Below w.heap.size w W0 by subst hW0;exact ((Below.refl _ _).alloc (Nat.le_refl _) _).alloc (by simp) _)
 have HG0 : Hid (W0 = Sort.grow w (#[.cells #[.string a,.int .i64 i] 24] ++ #[.cells #[.string b,.int .i64 j] 24])):=by
  show _ = _
  rw [← hW0,Sort.alloc_eq_grow,Sort.alloc_eq_grow,Sort.grow_grow]
 have h0 : W0.cell? ⟨w.heap.size,0,none⟩ = some (.string a):=by subst hW0;go_simp
 have h1 : W0.cell? ⟨w.heap.size,1,none⟩ = some (.int .i64 i):=by subst hW0;go_simp
 have h2 : W0.cell? ⟨w.heap.size + 1,0,none⟩ = some (.string b):=by subst hW0;go_simp
 have h3 : W0.cell? ⟨w.heap.size + 1,1,none⟩ = some (.int .i64 j):=by subst hW0;go_simp
 have HC:=Lib.hid (And.intro h0 (And.intro h1 (And.intro h2 h3)))
 have HN:=Lib.hid (show (W0.drew.alloc (.cells #[.int .i64 p,.int .i64 r] 3)).cell? ⟨w.heap.size,0,none⟩ = some (.string a) ∧ (W0.drew.alloc (.cells #[.int .i64 p,.int .i64 r] 3)).cell? ⟨w.heap.size,1,none⟩ = some (.int .i64 i) ∧ (W0.drew.alloc (.cells #[.int .i64 p,.int .i64 r] 3)).cell? ⟨w.heap.size + 1,0,none⟩ = some (.string b) ∧ (W0.drew.alloc (.cells #[.int .i64 p,.int .i64 r] 3)).cell? ⟨w.heap.size + 1,1,none⟩ = some (.int .i64 j) from
  ⟨(World.cell?_alloc_lt _ _ _ (show w.heap.size < W0.heap.size by omega)).trans h0,(World.cell?_alloc_lt _ _ _ (show w.heap.size < W0.heap.size by omega)).trans h1,(World.cell?_alloc_lt _ _ _ hz).trans h2,(World.cell?_alloc_lt _ _ _ hz).trans h3⟩)
 clear h0 h1 h2 h3
 have HB1:=Lib.hid (HB0.out.alloc (show w.heap.size ≤ W0.heap.size by omega) (.cells #[.int .i64 p,.int .i64 r] 3))
 go_enter Tryz.func112,Tryz.ntmps112
 go_wp2_with fail
 clear hW0
 go_region_held3 (fun W => W.cell? ⟨w.heap.size,0,none⟩ = some (.string a) ∧ W.cell? ⟨w.heap.size,1,none⟩ = some (.int .i64 i) ∧ W.cell? ⟨w.heap.size + 1,0,none⟩ = some (.string b) ∧ W.cell? ⟨w.heap.size + 1,1,none⟩ = some (.int .i64 j))
  (first | exact HC.out | exact HN.out)
  (first
   | (go_at_call 113;refine (cmpS_any a b _).mono ?_;rintro e w1 ⟨rfl,rfl⟩;rw [Hp.out])
   | (go_at_call 76;refine (cmpI_any i j _).mono ?_;rintro e w1 ⟨rfl,rfl⟩;rw [Hr.out])
   | (go_at_call 74;refine (cmpOr_any W0.heap.size p r _ (by go_simp) (by go_simp)).mono ?_;rintro e w1 ⟨rfl,rfl⟩))
 all_goals (
  go_wp2
  go_ret
  refine ⟨rfl,1,#[.cells #[.string a,.int .i64 i] 24] ++ #[.cells #[.string b,.int .i64 j] 24] ++ #[.cells #[.int .i64 p,.int .i64 r] 3],?_⟩
  show (W0.alloc (.cells #[.int .i64 p,.int .i64 r] 3)).drew = _
  rw [Sort.alloc_eq_grow,HG0.out,Sort.grow_grow]
  rfl)
end Go.Proofs.YtnfndgmlnoeelaaGreatDoor
