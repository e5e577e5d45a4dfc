/- strings.Compare; depend.compare -/
import Derived.Test.YtnfndgmlnoeelaaGreatDoorZlm
import Derived.Shelf.Small.Strs
import Derived.Sort.Walk0
import Derived.Test.YtnfndgmlnoeelaaGreatDoorZlv
import Derived.Test.YtnfndgmlnoeelaaGreatDoorZls
namespace Go.Proofs.YtnfndgmlnoeelaaGreatDoor
open Go.RowKit Go.Proofs Go.Shelf

theorem compareBytes_eq : ∀ (x y : List UInt8),Lib.compareBytes x y = if Op.bytesLess x y = true then -1 else if (x == y) = true then 0 else 1
 | [],[] => by simp [Lib.compareBytes,Op.bytesLess]
 | [],b :: y => by simp [Lib.compareBytes,Op.bytesLess]
 | a :: x,[] => by simp [Lib.compareBytes,Op.bytesLess]
 | a :: x,b :: y => by
  rw [Lib.compareBytes,Op.bytesLess,compareBytes_eq x y]
  by_cases h1 : a < b
  ·simp [h1]
  ·by_cases h2 : b < a
   ·have : a ≠ b:=fun e => by subst e;exact h1 h2
    simp [h1,h2,this]
   ·have : a = b:=by
     rw [UInt8.lt_iff_toNat_lt] at h1 h2
     exact UInt8.toNat_inj.1 (by omega)
    subst this
    simp [h1]
theorem compareBytes_cmpB (a b : ByteArray) : Lib.compareBytes a.data.toList b.data.toList = cmpB a b:=by
 rw [compareBytes_eq,cmpB,Lib.toList_data,Lib.toList_data]

set_option maxHeartbeats 1000000 in
set_option maxRecDepth 100000 in
theorem compareString_any (a b : ByteArray) (w : World) :
  Calls Tryz.prog 108 #[.string a,.string b] w fun e w' => e = .returned (.int .i64 (cmpB a b)) ∧ w = w':=by
 rw [← compareBytes_cmpB]
 go_enter Tryz.func108,Tryz.ntmps108
 go_wp2
 rw [run_callFunc_extern Tryz.func144 (by kernel_rfl) (by kernel_rfl) (by kernel_rfl) (e:=Extern.BytealgCompare.compare) (by kernel_rfl),Lib.run_compareString]
 simp only [Result.andThen]
 rw [Oper.upon_value]
 go_wp2
 go_ret
 exact ⟨rfl,rfl⟩
set_option maxHeartbeats 1000000 in
set_option maxRecDepth 100000 in
theorem sCompare_any (a b : ByteArray) (w : World) :
  Calls Tryz.prog 75 #[.string a,.string b] w fun e w' => e = .returned (.int .i64 (cmpB a b)) ∧ w = w':=by
 go_enter Tryz.func75,Tryz.ntmps75
 go_wp2_with (go_at_call 108;refine (compareString_any _ _ _).mono ?_;rintro e w' ⟨rfl,rfl⟩)
 go_ret
 exact ⟨rfl,rfl⟩
set_option maxRecDepth 100000 in
set_option maxHeartbeats 1000000 in
theorem compare40_any (a b : ByteArray) (i j : Int) (w : World) : Calls Tryz.prog 47 #[.agg #[.string a,.int .i64 i],.agg #[.string b,.int .i64 j]] w fun e w' => e = .returned (.int .i64 (cmpN a i b j)) ∧ ∃ q os,w' = Sort.grow (w.drewN q) os:=by
 obtain ⟨p,Hp⟩ : ∃ p,Hid (cmpB a b = p):=⟨_,rfl⟩
 obtain ⟨r,Hr⟩ : ∃ r,Hid (cmpZ i j = r):=⟨_,rfl⟩
 have HE:=Lib.hid (show cmpN a i b j = orZ p r by rw [cmpN,Hp.out,Hr.out])
 rw [HE.out]
 obtain ⟨W0,hW0⟩ : ∃ W0,(w.alloc (.cells #[.string a,.int .i64 i] 24)).alloc (.cells #[.string b,.int .i64 j] 24) = W0:=⟨_,rfl⟩
 have hz : w.heap.size + 1 < W0.heap.size:=by subst hW0;simp
 have HB0:=Lib.hid (show Below w.heap.size w W0 by subst hW0;exact ((Below.refl _ _).alloc (Nat.le_refl _) _).alloc (by simp) _)
 have HG0 : Hid (W0 = Sort.grow w (#[.cells #[.string a,.int .i64 i] 24] ++ #[.cells #[.string b,.int .i64 j] 24])):=by
  show _ = _
  rw [← hW0,Sort.alloc_eq_grow,Sort.alloc_eq_grow,Sort.grow_grow]
 have h0 : W0.cell? ⟨w.heap.size,0,none⟩ = some (.string a):=by subst hW0;go_simp
 have h1 : W0.cell? ⟨w.heap.size,1,none⟩ = some (.int .i64 i):=by subst hW0;go_simp
 have h2 : W0.cell? ⟨w.heap.size + 1,0,none⟩ = some (.string b):=by subst hW0;go_simp
 have h3 : W0.cell? ⟨w.heap.size + 1,1,none⟩ = some (.int .i64 j):=by subst hW0;go_simp
 have HC:=Lib.hid (And.intro h0 (And.intro h1 (And.intro h2 h3)))
 have HN:=Lib.hid (show (W0.drew.alloc (.cells #[.int .i64 p,.int .i64 r] 3)).cell? ⟨w.heap.size,0,none⟩ = some (.string a) ∧ (W0.drew.alloc (.cells #[.int .i64 p,.int .i64 r] 3)).cell? ⟨w.heap.size,1,none⟩ = some (.int .i64 i) ∧ (W0.drew.alloc (.cells #[.int .i64 p,.int .i64 r] 3)).cell? ⟨w.heap.size + 1,0,none⟩ = some (.string b) ∧ (W0.drew.alloc (.cells #[.int .i64 p,.int .i64 r] 3)).cell? ⟨w.heap.size + 1,1,none⟩ = some (.int .i64 j) from
  ⟨(World.cell?_alloc_lt _ _ _ (show w.heap.size < W0.heap.size by omega)).trans h0,(World.cell?_alloc_lt _ _ _ (show w.heap.size < W0.heap.size by omega)).trans h1,(World.cell?_alloc_lt _ _ _ hz).trans h2,(World.cell?_alloc_lt _ _ _ hz).trans h3⟩)
 clear h0 h1 h2 h3
 have HB1:=Lib.hid (HB0.out.alloc (show w.heap.size ≤ W0.heap.size by omega) (.cells #[.int .i64 p,.int .i64 r] 3))
 go_enter Tryz.func47,Tryz.ntmps47
 go_wp2_with fail
 clear hW0
 go_region_held3 (fun W => W.cell? ⟨w.heap.size,0,none⟩ = some (.string a) ∧ W.cell? ⟨w.heap.size,1,none⟩ = some (.int .i64 i) ∧ W.cell? ⟨w.heap.size + 1,0,none⟩ = some (.string b) ∧ W.cell? ⟨w.heap.size + 1,1,none⟩ = some (.int .i64 j))
  (first | exact HC.out | exact HN.out)
  (first
   | (go_at_call 75;refine (sCompare_any a b _).mono ?_;rintro e w1 ⟨rfl,rfl⟩;rw [Hp.out])
   | (go_at_call 76;refine (cmpI_any i j _).mono ?_;rintro e w1 ⟨rfl,rfl⟩;rw [Hr.out])
   | (go_at_call 74;refine (cmpOr_any W0.heap.size p r _ (by go_simp) (by go_simp)).mono ?_;rintro e w1 ⟨rfl,rfl⟩))
 all_goals (
  go_wp2
  go_ret
  refine ⟨rfl,1,#[.cells #[.string a,.int .i64 i] 24] ++ #[.cells #[.string b,.int .i64 j] 24] ++ #[.cells #[.int .i64 p,.int .i64 r] 3],?_⟩
  show (W0.alloc (.cells #[.int .i64 p,.int .i64 r] 3)).drew = _
  rw [Sort.alloc_eq_grow,HG0.out,Sort.grow_grow]
  rfl)
end Go.Proofs.YtnfndgmlnoeelaaGreatDoor
/- slices.SortFunc by depend.compare; slices.SortedFunc over the keys of a map -/
namespace Go.Proofs.YtnfndgmlnoeelaaGreatDoor
open Go.RowKit Go.Proofs Go.Shelf Go.Sort
theorem cmpLaysD (g n : Nat) (w : World) : CmpLays Tryz.prog 47 #[] encN 2 (fun x y => cmpN x.1 x.2 y.1 y.2) g 0 n w:=by
 intro m os dk _ x y
 have h:=compare40_any x.1 y.1 x.2 y.2 (sortWorldK encN 2 w g 0 m dk os)
 exact h
set_option maxRecDepth 100000 in
theorem sortD_any (l : List (ByteArray × Int)) (base g cap : Nat) (w : World) (h : w.ownsRow base 24 2 (.slice (some ⟨g,0,none⟩) l.length cap) l.length (namesC l)) (hl : l.length ≤ 1000000) :
  Calls Tryz.prog 70 #[.slice (some ⟨g,0,none⟩) l.length cap,.func (.func 47) #[] #[]] w (SortP l base g cap w):=by
 have eg:=enterFn (fid:=47) rfl rfl rfl
 have hg : g < w.heap.size:=(h.lt g rfl).2
 have hc:=AnyQ.slices_SortFunc_total Tryz.sortN 2 Tryz.aggName Tryz.sizeName encN (fun _ => rfl) (fun x v hv => by simp [encN] at hv;rcases hv with rfl | rfl <;> rfl) (fun x y => cmpN x.1 x.2 y.1 y.2) swoN 47 #[] g 0 cap l.toArray w eg
  (cmpLaysD g _ w) (holdsN h) hg (by simp;omega) totN
 have e : (l.mergeSort fun x y => !(ltOf (fun x y : ByteArray × Int => cmpN x.1 x.2 y.1 y.2)) y x) = sortNames l:=by
  unfold sortNames
  congr 1
  funext x y
  rw [ltOf_names]
 simp only [List.size_toArray] at hc
 rw [e] at hc
 refine Calls.mono hc ?_
 rintro e w' ⟨rfl,n,os,rfl⟩
 exact ⟨⟨_,rfl⟩,ownsN h (by simp [sortNames]),grownN _⟩
def SortedP (S : List (ByteArray × Int) → Prop) (w : World) (e : Ending) (w' : World) : Prop:=∃ v ss,e = .returned v ∧ S ss ∧ w'.ownsRow w.heap.size 24 2 v ss.length (namesC (sortNames ss)) ∧ Below w.heap.size w w'
set_option maxRecDepth 100000 in
set_option maxHeartbeats 1000000 in
theorem sortedN_any (gf : Nat) (lb : Array Value) (eg : ∀ args w,(callFunc gf args).run Tryz.prog w = .ok (.enter gf args) w) (S : List (ByteArray × Int) → Prop) (N : Nat) (hN : N ≤ 1000000) (w : World) (hit : SeqGives Fence.wide 0 Tryz.prog gf lb nameV S N w) (hS : ∀ ss,S ss → ss.length ≤ 1000000) :
  Calls Tryz.prog 45 #[.func (.func gf) #[] lb,.func (.func 47) #[] #[]] w (SortedP S w):=by
 have HC:=Lib.hid (collectN_any gf lb eg S N hN w hit)
 have HS:=Lib.hid hS
 clear hit hS
 go_enter Tryz.func45,Tryz.ntmps45
 go_wp2_with fail
 refine HC.out.mono ?_
 rintro e w1 ⟨v,ss,rfl,hS,hown,hb⟩
 have HX:=Lib.hid (And.intro hS (And.intro hown hb))
 have hsl:=HS.out ss hS
 clear hS hb
 rcases (refs_tail ss _ v w1 hown).2 with ⟨rfl,rfl⟩ | ⟨g,cap,rfl⟩
 ·clear hown
  go_wp2_with fail
  refine (sortN_none none 0 _ _).mono ?_
  rintro e w2 ⟨⟨v2,rfl⟩,rfl⟩
  go_wp2
  go_ret
  exact ⟨.slice none 0 0,[],rfl,HX.out.1,by rw [show sortNames [] = [] by simp [sortNames]];exact World.ownsRow_nil _ _ _ _,HX.out.2.2⟩
 ·have HSN:=Lib.hid (sortD_any ss w.heap.size g cap w1 hown hsl)
  unfold SortP at HSN
  have hlen : (sortNames ss).length = ss.length:=by simp [sortNames]
  rw [hlen] at HSN
  obtain ⟨N2,HN2⟩ : ∃ Q,Hid (ss.length = Q):=⟨_,Lib.hid rfl⟩
  rw [HN2.out] at HSN
  have HX2:=Lib.hid hown
  clear hown hlen hsl
  rw [HN2.out]
  go_wp2_with fail
  refine HSN.out.mono ?_
  rintro e w2 ⟨⟨v2,rfl⟩,hown2,hg2⟩
  have HX3:=Lib.hid (And.intro hown2 hg2)
  clear hown2 hg2
  go_wp2
  go_ret
  have hr : w2.ownsRow w.heap.size 24 2 (.slice (some ⟨g,0,none⟩) N2 cap) ss.length (namesC (sortNames ss)):=by rw [HN2.out];exact HX3.out.1
  refine ⟨.slice (some ⟨g,0,none⟩) N2 cap,ss,rfl,HX.out.1,hr,HX.out.2.2.grown HX3.out.2 HX.out.2.2.size (fun q hq => by cases hq;exact (HX2.out.lt g rfl).1)⟩
set_option maxRecDepth 100000 in
theorem sortedKeys_any (b N Bm : Nat) (g : ByteArray × Int → Option Value) (w : World) (hBm : Bm < w.heap.size) (hm : w.cell? ⟨Bm,0,none⟩ = some (.map (some b))) (hown : MapA nameK w b N g) (hN : N ≤ 1000000) (hlen : ∀ ss,KeysIn g ss → ss.length ≤ 1000000) :
  Calls Tryz.prog 45 #[.func (.func 73) #[] #[.pointer (some ⟨Bm,0,none⟩)],.func (.func 47) #[] #[]] w (SortedP (KeysIn g) w):=
 sortedN_any 73 _ (enterFn (fid:=73) rfl rfl rfl) (KeysIn g) N hN w (keysN_gives b N Bm g w hBm hm hown) hlen
end Go.Proofs.YtnfndgmlnoeelaaGreatDoor
/- slices.Clone at names; depend.uses -/
namespace Go.Proofs.YtnfndgmlnoeelaaGreatDoor
open Go.RowKit Go.Proofs Go.Shelf
theorem slcCloneN_nil (w : World) : Calls Tryz.prog 78 #[.slice none 0 0] w fun e w' => e = .returned (.slice none 0 0) ∧ w = w':=by
 have q22 : ∀ (w : World) (a : Option Addr) (n c n' c' : Nat),(binOp .eql 47 (.slice a n c) (.slice none n' c')).run Tryz.prog w = .ok (.bool a.isNone) w:=fun w a n c n' c' => Lib.run_eql_slice_nil w _ _ a n c n' c' Tryz.underlying47
 go_enter Tryz.func78,Tryz.ntmps78
 go_wp2
 go_ret
 exact ⟨rfl,rfl⟩
def CloneNP (l : List (ByteArray × Int)) (w : World) (e : Ending) (w' : World) : Prop:=
 ∃ v,e = .returned v ∧ w'.ownsRow w.heap.size 24 2 v l.length (namesC l) ∧ Below w.heap.size w w'
set_option maxRecDepth 100000 in
set_option maxHeartbeats 1000000 in
theorem slcCloneN_any (l : List (ByteArray × Int)) (g c base : Nat) (w : World) (hs : w.ownsRow base 24 2 (.slice (some ⟨g,0,none⟩) l.length c) l.length (namesC l)) (hl : l.length ≤ 1000000) :
  Calls Tryz.prog 78 #[.slice (some ⟨g,0,none⟩) l.length c] w (CloneNP l w):=by
 obtain ⟨i0,hi,hz0,hz1,hz2⟩:=info_parts Tryz.infoName
 have q22 : ∀ (w : World) (a : Option Addr) (n c n' c' : Nat),(binOp .eql 47 (.slice a n c) (.slice none n' c')).run Tryz.prog w = .ok (.bool a.isNone) w:=fun w a n c n' c' => Lib.run_eql_slice_nil w _ _ a n c n' c' Tryz.underlying47
 have hgl:=(hs.lt g rfl).2
 have hnews : ∀ a',some (⟨g,0,none⟩ : Addr) = some a' → ∀ j u,(namesC l)[j]? = some u → (w.alloc (.cells #[] 24)).cell? (a'.add j) = some u:=by
  intro a' e j u hu
  cases e
  have hj : j < l.length * 2:=by have:=(List.getElem?_eq_some_iff.1 hu).1;rwa [namesC_length] at this
  have h3:=(World.cell?_alloc_lt w (.cells #[] 24) ⟨g,j,none⟩ hgl).trans ((hs.cellAt j hj).trans hu)
  unfold Addr.add
  by_cases h0 : j = 0
  ·rw [if_pos h0]
   subst h0
   exact h3
  ·rw [if_neg h0]
   simpa using h3
 have HN:=Lib.hid hnews
 clear hnews hs
 have hrow:=World.ownsRow_lit (base:=w.heap.size) (e:=24) (size:=2) w #[] 0 (Nat.le_refl _) (by simp) rfl
 have HW:=Lib.hid hrow
 clear hrow
 go_enter Tryz.func78,Tryz.ntmps78
 go_wp2_with (at_builtin;refine wpList_append_own_any _ rfl _ _ 47 rfl w.heap.size 24 i0 _ 2 24 Tryz.underlying47 hi hz0 hz1 hz2 rfl (by decide) _ 0 [] rfl HW.out (some ⟨g,0,none⟩) l.length c (namesC l) rfl (namesC_length l) (by simp) HN.out (namesC_one l) (by unfold maxLen;omega) (by omega) (by simp) ?_;intro v' w1 hown' hgrow)
 go_ret
 refine ⟨_,rfl,?_,?_⟩
 ·simpa using hown'
 ·exact ((Below.refl _ _).alloc (Nat.le_refl _) _).trans (Keeps.to_below ((Keeps.refl (fun k => k < w.heap.size) _).grown hgrow (by rintro k hk;cases hk;simp)) (by simp) (by simp))
theorem namesC_set0 (p : ByteArray) : ∀ (l : List (ByteArray × Int)) (j : Nat) (a : ByteArray) (i : Int),l[j]? = some (a,i) → (namesC l).set (j * 2) (.string p) = namesC (l.set j (p,i))
 | [],j,a,i,h => by simp at h
 | y :: l,0,a,i,h => by
  simp at h
  subst h
  simp [namesC,encN]
 | y :: l,j + 1,a,i,h => by
  have ih:=namesC_set0 p l j a i (by simpa using h)
  rw [show (j + 1) * 2 = j * 2 + 1 + 1 by omega]
  simp only [namesC,encN,List.cons_append,List.nil_append,List.set_cons_succ,ih]
theorem set_mid {α : Type} (f : α → α) (l : List α) (j : Nat) (x : α) (hx : l[j]? = some x) : ((l.take j).map f ++ l.drop j).set j (f x) = (l.take (j + 1)).map f ++ l.drop (j + 1):=by
 obtain ⟨hlt,rfl⟩:=List.getElem?_eq_some_iff.1 hx
 rw [List.set_append_right _ _ (by simp;omega)]
 have e : j - ((l.take j).map f).length = 0:=by simp;omega
 rw [e,List.drop_eq_getElem_cons hlt,List.set_cons_zero,List.take_succ_eq_append_getElem hlt,List.map_append]
 simp
theorem get_mid {α : Type} (f : α → α) (l : List α) (j : Nat) (x : α) (hx : l[j]? = some x) : ((l.take j).map f ++ l.drop j)[j]? = some x:=by
 obtain ⟨hlt,rfl⟩:=List.getElem?_eq_some_iff.1 hx
 rw [List.getElem?_append_right (by simp;omega)]
 have e : j - ((l.take j).map f).length = 0:=by simp;omega
 rw [e,List.drop_eq_getElem_cons hlt]
 rfl
theorem set_same {α : Type} {l : List α} {j : Nat} {x : α} (h : l[j]? = some x) : l.set j x = l:=by
 obtain ⟨hlt,rfl⟩:=List.getElem?_eq_some_iff.1 h
 simp
def midN (pack : ByteArray) (R : List (ByteArray × Int)) (j : Nat) : List (ByteArray × Int):=(R.take j).map (fullN pack) ++ R.drop j
set_option maxRecDepth 100000 in
set_option maxHeartbeats 2000000 in
theorem dUses_any (pack : ByteArray) (k : Int) (n m : ByteArray) (i d : Int) (A : Option Addr) (c : Nat) (s : Fo) (w : World) (hs : s.Sl w w.heap.size A c) (hcnt : s.count ≤ 100000) :
  Calls Tryz.prog 51 #[.string pack,.agg #[.int .i64 k,.string n,.string m,.int .i64 i,.int .i64 d,.slice A s.len c]] w (RefsP (usesOf pack (Fo.cons k n m i d A c s .nil)) w):=by
 obtain ⟨W0,hW0⟩ : ∃ W0,(w.alloc (.cells #[.int .i64 k,.string n,.string m,.int .i64 i,.int .i64 d,.slice A s.len c] 60)) = W0:=⟨_,rfl⟩
 have hzw : w.heap.size < W0.heap.size:=by subst hW0;simp
 have hB0 : Below w.heap.size w W0:=by subst hW0;exact (Below.refl _ _).alloc (Nat.le_refl _) _
 have e0 : W0.cell? ⟨w.heap.size,0,none⟩ = some (.int .i64 k):=by subst hW0;go_simp
 have e1 : W0.cell? ⟨w.heap.size,1,none⟩ = some (.string n):=by subst hW0;go_simp
 have e2 : W0.cell? ⟨w.heap.size,2,none⟩ = some (.string m):=by subst hW0;go_simp
 have e3 : W0.cell? ⟨w.heap.size,3,none⟩ = some (.int .i64 i):=by subst hW0;go_simp
 have e4 : W0.cell? ⟨w.heap.size,4,none⟩ = some (.int .i64 d):=by subst hW0;go_simp
 have e5 : W0.cell? ⟨w.heap.size,5,none⟩ = some (.slice A s.len c):=by subst hW0;go_simp
 have hlen0 : (refsOf (Fo.cons k n m i d A c s .nil).vis).length ≤ 1000000:=by
  have h1:=ordN_len (refL (Fo.cons k n m i d A c s .nil).vis)
  have h2:=(refL_C (Fo.cons k n m i d A c s .nil).vis).2
  have h3:=refN_le (Fo.cons k n m i d A c s .nil).vis
  rw [Fo.vis_length] at h3
  simp [Fo.count] at h3
  have : refsOf (Fo.cons k n m i d A c s .nil).vis = ordN (refL (Fo.cons k n m i d A c s .nil).vis):=rfl
  rw [this]
  omega
 have HR:=Lib.hid (refs_any k n m i d A c s W0 (hs.below hB0 |>.keep (by omega) fun _ _ => rfl) hcnt)
 have HU : Hid (usesOf pack (Fo.cons k n m i d A c s .nil) = ordN ((refsOf (Fo.cons k n m i d A c s .nil).vis).map (fullN pack))):=rfl
 rw [HU.out]
 obtain ⟨R,HRR⟩ : ∃ Q,Hid (refsOf (Fo.cons k n m i d A c s .nil).vis = Q):=⟨_,Lib.hid rfl⟩
 rw [HRR.out] at HR hlen0 ⊢
 obtain ⟨U,HUU⟩ : ∃ Q,Hid (ordN (R.map (fullN pack)) = Q):=⟨_,Lib.hid rfl⟩
 rw [HUU.out]
 have HB0:=Lib.hid hB0
 clear hs hB0 HU
 go_enter Tryz.func51,Tryz.ntmps51
 go_wp2_with fail
 refine HR.out.mono ?_
 rintro e w1 ⟨v1,rfl,hown1,hb1⟩
 have HB1:=Lib.hid (And.intro (HB0.out.trans (hb1.mono (by omega))) hown1)
 have hz1:=hb1.size
 clear e0 e1 e2 e3 e4 e5 hb1 hW0
 rcases (refs_tail R _ v1 w1 hown1).2 with ⟨rfl,rfl⟩ | ⟨g,cap,rfl⟩
 ·clear hown1
  go_wp2_with fail
  refine (slcCloneN_nil _).mono ?_
  rintro e w2 ⟨rfl,rfl⟩
  go_wp2
  go_loopg [6,12] 0 (fun g _ ct wr => g = 0 ∧ ct = .int .i64 0 ∧ wr = w1)
  case atStart => exact ⟨rfl,rfl,rfl⟩
  case round =>
   obtain ⟨HG,rfl,rfl⟩:=hrel
   clear HG
   go_wp2_with fail
   refine (sortN_none none 0 _ _).mono ?_
   rintro e w2 ⟨⟨v2,rfl⟩,rfl⟩
   go_wp2_with fail
   refine (compact_small none 0 0 _ (by omega)).mono ?_
   rintro e w3 ⟨rfl,rfl⟩
   go_wp2
   go_ret
   exact ⟨.slice none 0 0,rfl,by rw [← HUU.out];simp [ordN,sortNames,compactL];exact World.ownsRow_nil _ _ _ _,HB1.out.1⟩
 ·have HCL:=Lib.hid (slcCloneN_any R g cap W0.heap.size w1 hown1 hlen0)
  obtain ⟨N,HN⟩ : ∃ Q,Hid (R.length = Q):=⟨_,Lib.hid rfl⟩
  rw [HN.out] at HCL hlen0 ⊢
  clear hown1
  go_wp2_with fail
  refine HCL.out.mono ?_
  rintro e w2 ⟨v2,rfl,hown2,hb2⟩
  have HB2:=Lib.hid (HB1.out.1.trans (hb2.mono (by omega)))
  have hz2:=hb2.size
  clear hb2
  rcases (refs_tail R _ v2 w2 hown2).2 with ⟨rfl,rfl⟩ | ⟨g2,cap2,rfl⟩
  ·obtain rfl : N = 0:=by rw [← HN.out];rfl
   clear hown2
   go_wp2
   go_loopg [6,12] 0 (fun g _ ct wr => g = 0 ∧ ct = .int .i64 0 ∧ wr = w2)
   case atStart => exact ⟨rfl,rfl,rfl⟩
   case round =>
    obtain ⟨HG,rfl,rfl⟩:=hrel
    clear HG
    go_wp2_with fail
    refine (sortN_none none 0 _ _).mono ?_
    rintro e w3 ⟨⟨v2,rfl⟩,rfl⟩
    go_wp2_with fail
    refine (compact_small none 0 0 _ (by omega)).mono ?_
    rintro e w4 ⟨rfl,rfl⟩
    go_wp2
    go_ret
    exact ⟨.slice none 0 0,rfl,by rw [← HUU.out];simp [ordN,sortNames,compactL];exact World.ownsRow_nil _ _ _ _,HB2.out⟩
  ·rw [HN.out] at hown2 ⊢
   obtain ⟨L,HL⟩ : ∃ Q,Hid (R.map (fullN pack) = Q):=⟨_,Lib.hid rfl⟩
   have hcap : N ≤ cap2 ∧ cap2 ≤ 9223372036854775807:=by
    rcases hown2.2 with ⟨h,_⟩ | ⟨_,_,_,h,_,_,h1,h2,_⟩
    ·cases h
    ·simp only [Value.slice.injEq,true_and] at h
     obtain ⟨_,rfl⟩:=h
     unfold maxLen at h2
     omega
   have hgl:=hown2.lt g2 rfl
   have HO:=Lib.hid (show w2.ownsRow w1.heap.size 24 2 (.slice (some ⟨g2,0,none⟩) N cap2) N (namesC (midN pack R 0)) by simpa [midN] using hown2)
   clear hown2
   go_wp2
   go_loopg [6,12] N (fun gg _ ct wr => ∃ j : Nat,gg = N - j ∧ j ≤ N ∧ ct = .int .i64 j ∧ wr.ownsRow w1.heap.size 24 2 (.slice (some ⟨g2,0,none⟩) N cap2) N (namesC (midN pack R j)) ∧ Below w.heap.size w wr)
   case atStart => exact ⟨0,rfl,by omega,rfl,HO.out,HB2.out⟩
   case round =>
    obtain ⟨j,HG,hj,rfl,hown,hB⟩:=hrel
    have hgr:=(hown.lt g2 rfl).2
    by_cases hlt : j < N
    ·have hlt' : j < R.length:=by rw [HN.out];exact hlt
     obtain ⟨⟨ra,ri⟩,hx⟩ : ∃ x,R[j]? = some x:=⟨_,List.getElem?_eq_getElem hlt'⟩
     have hmid:=get_mid (fullN pack) R j _ hx
     have hset:=set_mid (fullN pack) R j _ hx
     obtain ⟨n0,n1⟩:=namesC_at _ (midN pack R j) j hmid
     have c0 : wr.cell? ⟨g2,j * 2,none⟩ = some (.string ra):=(hown.cellAt _ (by omega)).trans n0
     have fz : wr.frozen? ⟨g2,j * 2,none⟩ = false:=hown.frozenAt _
     have hs0:=hown.stored (j * 2) (.string pack)
     rw [namesC_set0 pack (midN pack R j) j ra ri hmid] at hs0
     have HT:=Lib.hid (And.intro HG (And.intro hown (And.intro hB (And.intro hset hs0))))
     have HX:=Lib.hid hx
     clear HG hown hB hset hmid n0 n1 hs0 hx
     by_cases he : ra.toList.isEmpty = true
     ·have he' : ra.toList = []:=by simpa using he
      have HM : Hid ((midN pack R j).set j (pack,ri) = midN pack R (j + 1)):=by
       have:=HT.out.2.2.2.1
       unfold fullN at this
       simp only [he,if_true] at this
       exact this
      go_wp2
      go_roundg (N - (j + 1))
      case measure => rw [HT.out.1];omega
      case rel =>
       refine ⟨j + 1,rfl,by omega,by go_num,?_,HT.out.2.2.1.grown HT.out.2.2.2.2.2 HT.out.2.2.1.size (fun q e => by cases e;omega)⟩
       rw [← HM.out]
       exact HT.out.2.2.2.2.1
     ·have he' : ra.toList.isEmpty = false:=by simpa using he
      have he2 : (!ra.toList.isEmpty) = true:=by simp [he']
      have HM : Hid (midN pack R j = midN pack R (j + 1)):=by
       have:=HT.out.2.2.2.1
       unfold fullN at this
       simp only [he',Bool.false_eq_true,if_false] at this
       have h2 : (midN pack R j).set j (ra,ri) = midN pack R (j + 1):=this
       show _ = _
       have hg : (midN pack R j)[j]? = some (ra,ri):=get_mid (fullN pack) R j _ HX.out
       rw [← h2,set_same hg]
      go_wp2
      go_roundg (N - (j + 1))
      case measure => rw [HT.out.1];omega
      case rel => exact ⟨j + 1,rfl,by omega,by go_num,by rw [← HM.out];exact HT.out.2.1,HT.out.2.2.1⟩
    ·obtain rfl : j = N:=by omega
     have hmid : midN pack R j = L:=by
      rw [← HL.out,midN,List.take_of_length_le (by rw [HN.out];exact Nat.le_refl _),List.drop_of_length_le (by rw [HN.out];exact Nat.le_refl _),List.append_nil]
     rw [hmid] at hown
     have hLl : L.length = j:=by rw [← HL.out,List.length_map,HN.out]
     have HLl:=Lib.hid hLl
     have HSN:=Lib.hid (sortD_any L w1.heap.size g2 cap2 wr (by rw [hLl];exact hown) (by rw [hLl];exact hlen0))
     unfold SortP at HSN
     have hsl : (sortNames L).length = j:=by simp [sortNames,hLl]
     have hO2 : U = compactL (sortNames L):=by rw [← HUU.out,HL.out];rfl
     obtain ⟨sl,Hsl⟩ : ∃ Q,Hid (sortNames L = Q):=⟨_,Lib.hid rfl⟩
     rw [Hsl.out] at hsl HSN hO2
     have HO2:=Lib.hid hO2
     clear hO2
     rw [hsl,hLl] at HSN
     have Hsll:=Lib.hid hsl
     have HBr:=Lib.hid hB
     clear hown hB hmid hLl hsl HG
     go_wp2_with fail
     refine HSN.out.mono ?_
     rintro e w3 ⟨⟨v3,rfl⟩,hown3,hg3⟩
     have HB3:=Lib.hid (And.intro (HBr.out.grown hg3 HBr.out.size (fun q e => by cases e;omega)) hown3)
     clear hown3 hg3
     by_cases hN : j < 2
     ·go_wp2_with fail
      refine (compact_small _ j cap2 _ hN).mono ?_
      rintro e w4 ⟨rfl,rfl⟩
      go_wp2
      go_ret
      refine ⟨.slice (some ⟨g2,0,none⟩) j cap2,rfl,?_,HB3.out.1⟩
      rw [HO2.out,compactL_small (by rw [Hsll.out];exact hN),Hsll.out]
      exact World.ownsRow.mono HB3.out.2 (by omega)
     ·have hcm:=compact_any sl w1.heap.size g2 cap2 w3 (by rw [Hsll.out];exact HB3.out.2) (by rw [Hsll.out];exact hlen0) (by rw [Hsll.out];omega)
      rw [Hsll.out] at hcm
      have HCM:=Lib.hid hcm
      clear hcm
      go_wp2_with fail
      refine HCM.out.mono ?_
      rintro e w4 ⟨v4,rfl,hown4,hg4⟩
      go_wp2
      go_ret
      exact ⟨v4,rfl,by rw [HO2.out];exact World.ownsRow.mono hown4 (by omega),HB3.out.1.grown hg4 HB3.out.1.size (fun q e => by cases e;omega)⟩
end Go.Proofs.YtnfndgmlnoeelaaGreatDoor
