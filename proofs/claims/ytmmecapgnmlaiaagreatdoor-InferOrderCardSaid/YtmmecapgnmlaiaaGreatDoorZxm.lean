/- cmp.Compare, cmp.Or -/
import Derived.Test.YtmmecapgnmlaiaaGreatDoorZxb
import Derived.Deep.RegionHeld3
import Derived.Laws.Cover1
import Derived.Sort.Grow
import Derived.Test.YtmmecapgnmlaiaaGreatDoorLyn
import Derived.Sort.Walk0
import Derived.Lib.OwnKind
import Derived.Deep.QuietTactic
import Derived.BigQuiet
import Derived.IntWalk
import Derived.Laws.StructEq
namespace Go.Proofs.YtmmecapgnmlaiaaGreatDoor
open Go.RowKit Go.Proofs Go.Shelf
theorem isNaNs_any (s : ByteArray) (w : World) : Calls Tryz.prog 165 #[.string s] w fun e w' => e = .returned (.bool false) ∧ w = w':=by
 have h : (s.toList == s.toList) = true:=by simp
 go_enter Tryz.func165,Tryz.ntmps165
 go_wp2
 go_ret
 exact ⟨by simp,rfl⟩
theorem isNaNi_any (i : Int) (w : World) : Calls Tryz.prog 166 #[.int .i64 i] w fun e w' => e = .returned (.bool false) ∧ w = w':=by
 go_enter Tryz.func166,Tryz.ntmps166
 go_wp2
 go_ret
 exact ⟨by simp,rfl⟩
def cmpB (a b : ByteArray) : Int:=if Op.bytesLess a.toList b.toList = true then -1 else if (a.toList == b.toList) = true then 0 else 1
def cmpZ (a b : Int) : Int:=if a < b then -1 else if b < a then 1 else 0
set_option maxHeartbeats 400000 in
theorem cmpS_any (a b : ByteArray) (w : World) : Calls Tryz.prog 116 #[.string a,.string b] w fun e w' => e = .returned (.int .i64 (cmpB a b)) ∧ w = w':=by
 obtain ⟨E,HE⟩ : ∃ E,Hid (E = cmpB a b):=⟨_,rfl⟩
 rw [← HE.out]
 cases h1 : Op.bytesLess a.toList b.toList
 ·cases h2 : (a.toList == b.toList)
  ·have HR:=Lib.hid (show E = 1 by rw [HE.out,cmpB,h1,h2];rfl)
   go_enter Tryz.func116,Tryz.ntmps116
   go_wp2_with (go_at_call 165;refine (isNaNs_any _ _).mono ?_;rintro e w1 ⟨rfl,rfl⟩)
   go_ret
   exact ⟨by rw [HR.out];rfl,rfl⟩
  ·have HR:=Lib.hid (show E = 0 by rw [HE.out,cmpB,h1,h2];rfl)
   go_enter Tryz.func116,Tryz.ntmps116
   go_wp2_with (go_at_call 165;refine (isNaNs_any _ _).mono ?_;rintro e w1 ⟨rfl,rfl⟩)
   go_ret
   exact ⟨by rw [HR.out];rfl,rfl⟩
 ·have HR:=Lib.hid (show E = -1 by rw [HE.out,cmpB,h1];rfl)
  go_enter Tryz.func116,Tryz.ntmps116
  go_wp2_with (go_at_call 165;refine (isNaNs_any _ _).mono ?_;rintro e w1 ⟨rfl,rfl⟩)
  go_ret
  exact ⟨by rw [HR.out];rfl,rfl⟩
set_option maxHeartbeats 400000 in
theorem cmpI_any (a b : Int) (w : World) : Calls Tryz.prog 117 #[.int .i64 a,.int .i64 b] w fun e w' => e = .returned (.int .i64 (cmpZ a b)) ∧ w = w':=by
 obtain ⟨E,HE⟩ : ∃ E,Hid (E = cmpZ a b):=⟨_,rfl⟩
 rw [← HE.out]
 by_cases h1 : a < b
 ·have HR:=Lib.hid (show E = -1 by rw [HE.out,cmpZ,if_pos h1])
  go_enter Tryz.func117,Tryz.ntmps117
  go_wp2_with (go_at_call 166;refine (isNaNi_any _ _).mono ?_;rintro e w1 ⟨rfl,rfl⟩)
  go_ret
  exact ⟨by rw [HR.out];rfl,rfl⟩
 ·have h1' : decide (a < b) = false:=by simpa using h1
  by_cases h2 : b < a
  ·have HR:=Lib.hid (show E = 1 by rw [HE.out,cmpZ,if_neg h1,if_pos h2])
   clear h1
   go_enter Tryz.func117,Tryz.ntmps117
   go_wp2_with (go_at_call 166;refine (isNaNi_any _ _).mono ?_;rintro e w1 ⟨rfl,rfl⟩)
   go_ret
   exact ⟨by rw [HR.out];rfl,rfl⟩
  ·have h2' : decide (b < a) = false:=by simpa using h2
   have HR:=Lib.hid (show E = 0 by rw [HE.out,cmpZ,if_neg h1,if_neg h2])
   clear h1 h2
   go_enter Tryz.func117,Tryz.ntmps117
   go_wp2_with (go_at_call 166;refine (isNaNi_any _ _).mono ?_;rintro e w1 ⟨rfl,rfl⟩)
   go_ret
   exact ⟨by rw [HR.out];rfl,rfl⟩
end Go.Proofs.YtmmecapgnmlaiaaGreatDoor
/- cmp.Or of two -/
namespace Go.Proofs.YtmmecapgnmlaiaaGreatDoor
open Go.RowKit Go.Proofs Go.Shelf
def orZ (x y : Int) : Int:=if x = 0 then y else x
set_option maxHeartbeats 400000 in
theorem cmpOr_any (b : Nat) (x y : Int) (w : World) (hx : w.cell? ⟨b,0,none⟩ = some (.int .i64 x)) (hy : w.cell? ⟨b,1,none⟩ = some (.int .i64 y)) :
  Calls Tryz.prog 115 #[.slice (some ⟨b,0,none⟩) 2 2] w fun e w' => e = .returned (.int .i64 (orZ x y)) ∧ w = w':=by
 obtain ⟨E,HE⟩ : ∃ E,Hid (E = orZ x y):=⟨_,rfl⟩
 rw [← HE.out]
 go_enter Tryz.func115,Tryz.ntmps115
 go_wp2
 go_loopg [5,8] 2 (fun g _ ct wr => ∃ j : Nat,g = 2 - j ∧ j ≤ 2 ∧ ct = .int .i64 j ∧ (0 < j → x = 0) ∧ (1 < j → y = 0) ∧ wr = w)
 case atStart => exact ⟨0,rfl,by omega,rfl,by omega,by omega,rfl⟩
 case round =>
  obtain ⟨j,HG,hj,rfl,H1,H2,rfl⟩:=hrel
  have HG':=Lib.hid (And.intro HG (And.intro H1 H2))
  clear HG H1 H2
  match j,hj,HG' with
  | 0,_,HG' =>
   by_cases h : x = 0
   ·have HX:=Lib.hid h
    have h' : (x != 0) = false:=by simp [h]
    clear h
    go_wp2
    go_roundg 1
    case measure => rw [HG'.out.1];omega
    case rel => exact ⟨1,rfl,by omega,by go_num,fun _ => HX.out,by omega,rfl⟩
   ·have HR:=Lib.hid (show E = x by rw [HE.out,orZ,if_neg h])
    have h' : (x != 0) = true:=by simpa using h
    go_wp2
    go_ret
    exact ⟨by rw [HR.out];rfl,rfl⟩
  | 1,_,HG' =>
   by_cases h : y = 0
   ·have HX:=Lib.hid h
    have h' : (y != 0) = false:=by simp [h]
    clear h
    go_wp2
    go_roundg 0
    case measure => rw [HG'.out.1];omega
    case rel => exact ⟨2,rfl,by omega,by go_num,fun _ => HG'.out.2.1 (by omega),fun _ => HX.out,rfl⟩
   ·have HR:=Lib.hid (show E = y by rw [HE.out,orZ,if_pos (HG'.out.2.1 (by omega))])
    have h' : (y != 0) = true:=by simpa using h
    go_wp2
    go_ret
    exact ⟨by rw [HR.out];rfl,rfl⟩
  | 2,_,HG' =>
   have HR:=Lib.hid (show E = 0 by rw [HE.out,orZ,if_pos (HG'.out.2.1 (by omega)),HG'.out.2.2 (by omega)])
   go_wp2
   go_ret
   exact ⟨by rw [HR.out];rfl,rfl⟩
end Go.Proofs.YtmmecapgnmlaiaaGreatDoor
/- bind.Refs: the order of names -/
namespace Go.Proofs.YtmmecapgnmlaiaaGreatDoor
open Go.RowKit Go.Proofs Go.Shelf
def cmpN (a : ByteArray) (i : Int) (b : ByteArray) (j : Int) : Int:=orZ (cmpB a b) (cmpZ i j)
set_option maxRecDepth 100000 in
set_option maxHeartbeats 1000000 in
theorem refs2_any (a b : ByteArray) (i j : Int) (w : World) : Calls Tryz.prog 114 #[.agg #[.string a,.int .i64 i],.agg #[.string b,.int .i64 j]] w fun e w' => e = .returned (.int .i64 (cmpN a i b j)) ∧ ∃ q os,w' = Sort.grow (w.drewN q) os:=by
 obtain ⟨p,Hp⟩ : ∃ p,Hid (cmpB a b = p):=⟨_,rfl⟩
 obtain ⟨r,Hr⟩ : ∃ r,Hid (cmpZ i j = r):=⟨_,rfl⟩
 have HE:=Lib.hid (show cmpN a i b j = orZ p r by rw [cmpN,Hp.out,Hr.out])
 rw [HE.out]
 obtain ⟨W0,hW0⟩ : ∃ W0,(w.alloc (.cells #[.string a,.int .i64 i] 102)).alloc (.cells #[.string b,.int .i64 j] 102) = W0:=⟨_,rfl⟩
 have hz : w.heap.size + 1 < W0.heap.size:=by subst hW0;simp
 have HB0:=Lib.hid (show Below w.heap.size w W0 by subst hW0;exact ((Below.refl _ _).alloc (Nat.le_refl _) _).alloc (by simp) _)
 have HG0 : Hid (W0 = Sort.grow w (#[.cells #[.string a,.int .i64 i] 102] ++ #[.cells #[.string b,.int .i64 j] 102])):=by
  show _ = _
  rw [← hW0,Sort.alloc_eq_grow,Sort.alloc_eq_grow,Sort.grow_grow]
 have h0 : W0.cell? ⟨w.heap.size,0,none⟩ = some (.string a):=by subst hW0;go_simp
 have h1 : W0.cell? ⟨w.heap.size,1,none⟩ = some (.int .i64 i):=by subst hW0;go_simp
 have h2 : W0.cell? ⟨w.heap.size + 1,0,none⟩ = some (.string b):=by subst hW0;go_simp
 have h3 : W0.cell? ⟨w.heap.size + 1,1,none⟩ = some (.int .i64 j):=by subst hW0;go_simp
 have HC:=Lib.hid (And.intro h0 (And.intro h1 (And.intro h2 h3)))
 have HN:=Lib.hid (show (W0.drew.alloc (.cells #[.int .i64 p,.int .i64 r] 3)).cell? ⟨w.heap.size,0,none⟩ = some (.string a) ∧ (W0.drew.alloc (.cells #[.int .i64 p,.int .i64 r] 3)).cell? ⟨w.heap.size,1,none⟩ = some (.int .i64 i) ∧ (W0.drew.alloc (.cells #[.int .i64 p,.int .i64 r] 3)).cell? ⟨w.heap.size + 1,0,none⟩ = some (.string b) ∧ (W0.drew.alloc (.cells #[.int .i64 p,.int .i64 r] 3)).cell? ⟨w.heap.size + 1,1,none⟩ = some (.int .i64 j) from
  ⟨(World.cell?_alloc_lt _ _ _ (show w.heap.size < W0.heap.size by omega)).trans h0,(World.cell?_alloc_lt _ _ _ (show w.heap.size < W0.heap.size by omega)).trans h1,(World.cell?_alloc_lt _ _ _ hz).trans h2,(World.cell?_alloc_lt _ _ _ hz).trans h3⟩)
 clear h0 h1 h2 h3
 have HB1:=Lib.hid (HB0.out.alloc (show w.heap.size ≤ W0.heap.size by omega) (.cells #[.int .i64 p,.int .i64 r] 3))
 go_enter Tryz.func114,Tryz.ntmps114
 go_wp2_with fail
 clear hW0
 go_region_held3 (fun W => W.cell? ⟨w.heap.size,0,none⟩ = some (.string a) ∧ W.cell? ⟨w.heap.size,1,none⟩ = some (.int .i64 i) ∧ W.cell? ⟨w.heap.size + 1,0,none⟩ = some (.string b) ∧ W.cell? ⟨w.heap.size + 1,1,none⟩ = some (.int .i64 j))
  (first | exact HC.out | exact HN.out)
  (first
   | (go_at_call 116;refine (cmpS_any a b _).mono ?_;rintro e w1 ⟨rfl,rfl⟩;rw [Hp.out])
   | (go_at_call 117;refine (cmpI_any i j _).mono ?_;rintro e w1 ⟨rfl,rfl⟩;rw [Hr.out])
   | (go_at_call 115;refine (cmpOr_any W0.heap.size p r _ (by go_simp) (by go_simp)).mono ?_;rintro e w1 ⟨rfl,rfl⟩))
 all_goals (
  go_wp2
  go_ret
  refine ⟨rfl,1,#[.cells #[.string a,.int .i64 i] 102] ++ #[.cells #[.string b,.int .i64 j] 102] ++ #[.cells #[.int .i64 p,.int .i64 r] 3],?_⟩
  show (W0.alloc (.cells #[.int .i64 p,.int .i64 r] 3)).drew = _
  rw [Sort.alloc_eq_grow,HG0.out,Sort.grow_grow]
  rfl)
end Go.Proofs.YtmmecapgnmlaiaaGreatDoor
/- slices.SortFunc at names -/
namespace Go.Proofs.YtmmecapgnmlaiaaGreatDoor
open Go.RowKit Go.Proofs Go.Shelf Go.Sort
def encN (x : ByteArray × Int) : List Value:=[.string x.1,.int .i64 x.2]
def namesC : List (ByteArray × Int) → List Value
 | [] => []
 | x :: r => encN x ++ namesC r
theorem namesC_length (l : List (ByteArray × Int)) : (namesC l).length = l.length * 2:=by
 induction l with
 | nil => rfl
 | cons x l ih => simp [namesC,encN,ih];omega
theorem namesC_at (x : ByteArray × Int) : ∀ (l : List (ByteArray × Int)) (j : Nat),l[j]? = some x → (namesC l)[j * 2]? = some (.string x.1) ∧ (namesC l)[j * 2 + 1]? = some (.int .i64 x.2)
 | [],j,h => by simp at h
 | y :: l,0,h => by simp at h;subst h;simp [namesC,encN]
 | y :: l,j + 1,h => by
  have ih:=namesC_at x l j (by simpa using h)
  rw [show (j + 1) * 2 = j * 2 + 1 + 1 by omega,show j * 2 + 1 + 1 + 1 = j * 2 + 1 + 1 + 1 from rfl]
  simpa [namesC,encN] using ih
theorem flat_names (l : List (ByteArray × Int)) : (flatK encN 2 l.toArray).toList = namesC l:=by
 apply List.ext_getElem?
 intro t
 by_cases ht : t < l.length * 2
 ·have h2 : t / 2 < l.length:=by omega
  obtain ⟨x,hxe⟩ : ∃ x,l[t / 2] = x:=⟨_,rfl⟩
  have hx : l[t / 2]? = some x:=by rw [List.getElem?_eq_getElem h2,hxe]
  obtain ⟨h0,h1⟩:=namesC_at _ l (t / 2) hx
  have e : (flatK encN 2 l.toArray).toList[t]? = some ((encN x)[t % 2]!):=by
   have hs : t < (flatK encN 2 l.toArray).size:=by simpa using ht
   rw [Array.getElem?_toList,Array.getElem?_eq_getElem hs]
   have:=get_flatK encN 2 l.toArray t (by simpa using ht)
   rw [getElem!_pos (flatK encN 2 l.toArray) t hs] at this
   rw [this]
   simp [h2,hxe]
  rw [e]
  rcases (show t % 2 = 0 ∨ t % 2 = 1 by omega) with h | h
  ·rw [show t / 2 * 2 = t by omega] at h0;rw [h0,h];simp [encN]
  ·rw [show t / 2 * 2 + 1 = t by omega] at h1;rw [h1,h];simp [encN]
 ·rw [List.getElem?_eq_none (by simp;omega),List.getElem?_eq_none (by rw [namesC_length];omega)]
theorem holdsN {w : World} {base g cap : Nat} {l : List (ByteArray × Int)} (h : w.ownsRow base 102 2 (.slice (some ⟨g,0,none⟩) l.length cap) l.length (namesC l)) : HoldsK encN 2 w g 0 l.toArray:=by
 intro j hj
 have hj' : j < l.length * 2:=by simpa using hj
 rw [Nat.zero_add]
 refine ⟨?_,h.frozenAt j⟩
 rw [h.cellAt j hj',← flat_names,Array.getElem?_toList,Array.getElem?_eq_getElem hj,getElem!_pos _ j hj]
 rfl
theorem grownN {w : World} {g n : Nat} {os : Array Obj} (d : Array (ByteArray × Int)) : w.grownBy (sortWorldK encN 2 w g 0 n d os) (some g):=by
 refine ⟨rfl,rfl,rfl,by simp [sortWorldK,putRowK],fun k hk hne => ?_⟩
 have : g ≠ k:=fun e => hne (by rw [e])
 simp only [sortWorldK,putRowK]
 rw [heap_grow_old _ _ (by simpa using hk)]
 simp [putRow,mapBlock,Sort.ahead,Array.getElem?_modify,this]
theorem ownsN {w : World} {base g cap n : Nat} {os : Array Obj} {l m : List (ByteArray × Int)} (h : w.ownsRow base 102 2 (.slice (some ⟨g,0,none⟩) l.length cap) l.length (namesC l)) (hm : m.length = l.length) :
  (sortWorldK encN 2 w g 0 n m.toArray os).ownsRow base 102 2 (.slice (some ⟨g,0,none⟩) m.length cap) m.length (namesC m):=by
 rcases h.2 with ⟨h',_⟩ | ⟨g',cap',cur,h',hb,hg,h1,h2,h3,h4⟩
 ·simp at h'
 ·simp only [Value.slice.injEq,Option.some.injEq,Addr.mk.injEq,and_true,true_and] at h'
  obtain ⟨rfl,rfl⟩:=h'
  have hgl:=(Array.getElem?_eq_some_iff.1 hg).1
  refine ⟨namesC_length m,.inr ⟨g,cap,putCells id 0 (flatK encN 2 m.toArray) cur,rfl,hb,?_,by omega,h2,by simp [putCells,h3],?_⟩⟩
  ·simp only [sortWorldK,putRowK]
   rw [heap_grow_old _ _ (by simpa using hgl)]
   simp [putRow,mapBlock,Sort.ahead,Array.getElem?_modify,hg,onCells]
  ·rw [← flat_names]
   apply List.ext_getElem?
   intro j
   by_cases hj : j < m.length * 2
   ·have hs : j < (flatK encN 2 m.toArray).size:=by simpa using hj
    have hc : j < cur.size:=by rw [h3];omega
    rw [List.getElem?_take_of_lt hj,Array.getElem?_toList,Array.getElem?_toList]
    simp only [putCells]
    rw [Array.getElem?_eq_getElem (by simpa using hc),Array.getElem?_eq_getElem hs]
    simp [show j < m.length * 2 from hj]
   ·rw [List.getElem?_take_eq_none (by omega),List.getElem?_eq_none (by simp;omega)]
def ltN (x y : ByteArray × Int) : Prop:=x.1.data.toList < y.1.data.toList ∨ (x.1.data.toList = y.1.data.toList ∧ x.2 < y.2)
instance (x y : ByteArray × Int) : Decidable (ltN x y):=inferInstanceAs (Decidable (_ ∨ _))
theorem cmpN_lt (x y : ByteArray × Int) : cmpN x.1 x.2 y.1 y.2 < 0 ↔ ltN x y:=by
 unfold cmpN cmpB cmpZ orZ ltN
 rw [bytesLess_eq,Lib.toList_data,Lib.toList_data]
 by_cases h1 : x.1.data.toList < y.1.data.toList
 ·simp [h1]
 ·by_cases h2 : x.1.data.toList = y.1.data.toList
  ·by_cases h3 : x.2 < y.2
   ·simp [h2,h3]
   ·by_cases h4 : y.2 < x.2 <;> simp [h2,h3,h4]
  ·have h3 : ¬ x.1.data = y.1.data:=fun e => h2 (by rw [e])
   simp [h1,h3]
theorem ltOf_names (x y : ByteArray × Int) : ltOf (fun x y : ByteArray × Int => cmpN x.1 x.2 y.1 y.2) x y = decide (ltN x y):=decide_eq_decide.2 (cmpN_lt x y)
theorem lt_tri (a b : List UInt8) : a < b ∨ a = b ∨ b < a:=by
 rcases Std.lt_trichotomy a b with h | h | h
 ·exact .inl h
 ·exact .inr (.inl h)
 ·exact .inr (.inr h)
theorem swoN : SWO (ltOf fun x y : ByteArray × Int => cmpN x.1 x.2 y.1 y.2) where
 irrefl x:=by rw [ltOf_names];exact decide_eq_false (by simp [ltN,List.lt_irrefl])
 trans x y z h1 h2:=by
  rw [ltOf_names] at *
  replace h1:=of_decide_eq_true h1
  replace h2:=of_decide_eq_true h2
  refine decide_eq_true ?_
  unfold ltN at *
  rcases h1 with h1 | ⟨h1,h1'⟩ <;> rcases h2 with h2 | ⟨h2,h2'⟩
  ·exact .inl (List.lt_trans h1 h2)
  ·exact .inl (h2 ▸ h1)
  ·exact .inl (h1 ▸ h2)
  ·exact .inr ⟨h1.trans h2,by omega⟩
 ntrans x y z h1 h2:=by
  rw [ltOf_names] at *
  replace h1:=of_decide_eq_false h1
  replace h2:=of_decide_eq_false h2
  refine decide_eq_false ?_
  simp only [ltN,not_or,not_and,Int.not_lt] at *
  have hxy : y.1.data.toList < x.1.data.toList ∨ x.1.data.toList = y.1.data.toList:=by rcases lt_tri x.1.data.toList y.1.data.toList with h | h | h;exact absurd h h1.1;exact .inr h;exact .inl h
  have hyz : z.1.data.toList < y.1.data.toList ∨ y.1.data.toList = z.1.data.toList:=by rcases lt_tri y.1.data.toList z.1.data.toList with h | h | h;exact absurd h h2.1;exact .inr h;exact .inl h
  refine ⟨fun h => ?_,fun h => ?_⟩
  ·rcases hxy with a | a <;> rcases hyz with b | b
   ·exact List.lt_irrefl _ (List.lt_trans h (List.lt_trans b a))
   ·rw [← b] at h;exact List.lt_irrefl _ (List.lt_trans h a)
   ·rw [a] at h;exact List.lt_irrefl _ (List.lt_trans h b)
   ·rw [a,b] at h;exact List.lt_irrefl _ h
  ·rcases hxy with a | a <;> rcases hyz with b | b
   ·rw [h] at a;exact absurd (List.lt_trans a b) (List.lt_irrefl _)
   ·rw [h,b] at a;exact absurd a (List.lt_irrefl _)
   ·rw [← a,h] at b;exact absurd b (List.lt_irrefl _)
   ·have:=h1.2 a;have:=h2.2 b;omega
theorem totN (x y : ByteArray × Int) (h1 : ltOf (fun x y : ByteArray × Int => cmpN x.1 x.2 y.1 y.2) x y = false) (h2 : ltOf (fun x y : ByteArray × Int => cmpN x.1 x.2 y.1 y.2) y x = false) : x = y:=by
 rw [ltOf_names] at h1 h2
 replace h1:=of_decide_eq_false h1
 replace h2:=of_decide_eq_false h2
 simp only [ltN,not_or,not_and,Int.not_lt] at h1 h2
 rcases lt_tri x.1.data.toList y.1.data.toList with h | h | h
 ·exact absurd h h1.1
 ·have e1:=h1.2 h
  have e2:=h2.2 h.symm
  exact Prod.ext (WideShapes.bytes_inj h) (by omega)
 ·exact absurd h h2.1
def sortNames (l : List (ByteArray × Int)) : List (ByteArray × Int):=l.mergeSort fun x y => !(decide (ltN y x))
theorem Tryz.aggName (w : World) : (isAgg 102).run Tryz.prog w = .ok true w:=by kernel_rfl
theorem Tryz.sizeName (w : World) : (Go.sizeOf 102).run Tryz.prog w = .ok 2 w:=by kernel_rfl
def SortP (l : List (ByteArray × Int)) (base g cap : Nat) (w : World) (e : Ending) (w' : World) : Prop:=
 (∃ v,e = .returned v) ∧ w'.ownsRow base 102 2 (.slice (some ⟨g,0,none⟩) (sortNames l).length cap) (sortNames l).length (namesC (sortNames l)) ∧ w.grownBy w' (some g)
theorem cmpLaysN (g n : Nat) (w : World) : CmpLays Tryz.prog 114 #[] encN 2 (fun x y => cmpN x.1 x.2 y.1 y.2) g 0 n w:=by
 intro m os dk _ x y
 have h:=refs2_any x.1 y.1 x.2 y.2 (sortWorldK encN 2 w g 0 m dk os)
 exact h
set_option maxRecDepth 100000 in
theorem sortN_any (l : List (ByteArray × Int)) (base g cap : Nat) (w : World) (h : w.ownsRow base 102 2 (.slice (some ⟨g,0,none⟩) l.length cap) l.length (namesC l)) (hl : l.length ≤ 1000000) :
  Calls Tryz.prog 113 #[.slice (some ⟨g,0,none⟩) l.length cap,.func (.func 114) #[] #[]] w (SortP l base g cap w):=by
 have eg:=enterFn (fid:=114) rfl rfl rfl
 have hg : g < w.heap.size:=(h.lt g rfl).2
 have hc:=AnyQ.slices_SortFunc_total Tryz.sortN 2 Tryz.aggName Tryz.sizeName encN (fun _ => rfl) (fun x v hv => by simp [encN] at hv;rcases hv with rfl | rfl <;> rfl) (fun x y => cmpN x.1 x.2 y.1 y.2) swoN 114 #[] g 0 cap l.toArray w eg
  (cmpLaysN g _ w) (holdsN h) hg (by simp;omega) totN
 have e : (l.mergeSort fun x y => !(ltOf (fun x y : ByteArray × Int => cmpN x.1 x.2 y.1 y.2)) y x) = sortNames l:=by
  unfold sortNames
  congr 1
  funext x y
  rw [ltOf_names]
 simp only [List.size_toArray] at hc
 rw [e] at hc
 refine Calls.mono hc ?_
 rintro e w' ⟨rfl,n,os,rfl⟩
 exact ⟨⟨_,rfl⟩,ownsN h (by simp [sortNames]),grownN _⟩
theorem sortN_none (p : Option Addr) (cap : Nat) (fv : Value) (w : World) : Calls Tryz.prog 113 #[.slice p 0 cap,fv] w fun e w' => (∃ v,e = .returned v) ∧ w = w':=
 (AnyF.slices_SortFunc_none Tryz.sortN p cap fv w).mono fun _ _ h => ⟨⟨_,h.1⟩,h.2.symm⟩
end Go.Proofs.YtmmecapgnmlaiaaGreatDoor
/- slices.Compact at names -/
namespace Go.Proofs.YtmmecapgnmlaiaaGreatDoor
open Go.RowKit Go.Proofs Go.Shelf
def eqN (x y : ByteArray × Int) : Bool:=(x.1.toList == y.1.toList) && (x.2 == y.2)
def dd : ByteArray × Int → List (ByteArray × Int) → List (ByteArray × Int)
 | _,[] => []
 | p,y :: r => if eqN y p then dd y r else y :: dd y r
def compactL : List (ByteArray × Int) → List (ByteArray × Int)
 | [] => []
 | x :: r => x :: dd x r
def CompactP (l : List (ByteArray × Int)) (base : Nat) (w : World) (g : Nat) (e : Ending) (w' : World) : Prop:=
 ∃ v,e = .returned v ∧ w'.ownsRow base 102 2 v (compactL l).length (namesC (compactL l)) ∧ w.grownBy w' (some g)
theorem run_eqlN (a b : ByteArray) (i j : Int) (w : World) : (binOp .eql 102 (.agg #[.string a,.int .i64 i]) (.agg #[.string b,.int .i64 j])).run Tryz.prog w = .ok (.bool ((a.toList == b.toList) && (i == j))) w:=by
 have hm : Tryz.prog.stoodInHeld 102 = false:=by kernel_rfl
 rw [run_eql_struct,run_equalIn_struct w 9999 102 _ _ (by kernel_rfl) hm]
 have hf:=Tryz.underlying102
 cases h1 : (a.toList == b.toList) <;> cases h2 : (i == j) <;> simp [Op.eqFields,Program.fieldsOf,hf,go_sem,h1,h2]
theorem run_neqN (a b : ByteArray) (i j : Int) (w : World) : (binOp .neq 102 (.agg #[.string a,.int .i64 i]) (.agg #[.string b,.int .i64 j])).run Tryz.prog w = .ok (.bool (!((a.toList == b.toList) && (i == j)))) w:=by
 have hm : Tryz.prog.stoodInHeld 102 = false:=by kernel_rfl
 rw [run_neq_struct,run_equalIn_struct w 9999 102 _ _ (by kernel_rfl) hm]
 have hf:=Tryz.underlying102
 cases h1 : (a.toList == b.toList) <;> cases h2 : (i == j) <;> simp [Op.eqFields,Program.fieldsOf,hf,go_sem,h1,h2]
theorem dd_ne {x y : ByteArray × Int} (h : eqN y x = false) (r : List (ByteArray × Int)) : dd x (y :: r) = y :: dd y r:=by rw [dd,if_neg (by rw [h];simp)]
theorem dd_eq {x y : ByteArray × Int} (h : eqN y x = true) (r : List (ByteArray × Int)) : dd x (y :: r) = dd y r:=by rw [dd,if_pos h]
theorem own_shrink {w : World} {base g n cap size m : Nat} {e : TypeId} {xs : List Value} (h : w.ownsRow base e size (.slice (some ⟨g,0,none⟩) n cap) n xs) (hm : m ≤ n) : w.ownsRow base e size (.slice (some ⟨g,0,none⟩) m cap) m (xs.take (m * size)):=by
 rcases h.2 with ⟨h',_⟩ | ⟨g',cap',cur,h',hb,hg,h1,h2,h3,h4⟩
 ·simp at h'
 ·simp only [Value.slice.injEq,Option.some.injEq,Addr.mk.injEq,and_true,true_and] at h'
  obtain ⟨rfl,rfl⟩:=h'
  have hms : m * size ≤ n * size:=Nat.mul_le_mul_right _ hm
  refine ⟨by rw [List.length_take,h.1];omega,.inr ⟨g,cap,cur,rfl,hb,hg,by omega,h2,h3,?_⟩⟩
  rw [← h4,List.take_take,Nat.min_eq_left hms]
theorem own_setCells {base g n cap size : Nat} {e : TypeId} : ∀ (vs : List Value) (o : Nat) (xs : List Value) (w : World),w.ownsRow base e size (.slice (some ⟨g,0,none⟩) n cap) n xs →
  ∃ xs',(w.setCells g o vs).ownsRow base e size (.slice (some ⟨g,0,none⟩) n cap) n xs' ∧ xs'.take o = xs.take o ∧ w.grownBy (w.setCells g o vs) (some g)
 | [],o,xs,w,h => ⟨xs,h,rfl,World.grownBy.refl _ _⟩
 | v :: vs,o,xs,w,h => by
  obtain ⟨h1,hg1⟩:=h.stored o v
  obtain ⟨xs',h2,h3,hg2⟩:=own_setCells vs (o + 1) _ _ h1
  refine ⟨xs',h2,?_,?_⟩
  ·have:=congrArg (List.take o) h3
   rw [List.take_take,List.take_take,Nat.min_eq_left (by omega)] at this
   rw [this,List.take_set_of_le (Nat.le_refl _)]
  ·exact ⟨hg2.os.trans hg1.os,hg2.tape.trans hg1.tape,hg2.output.trans hg1.output,Nat.le_trans hg1.size hg2.size,fun k hk hne => (hg2.block k (Nat.lt_of_lt_of_le hk hg1.size) hne).trans (hg1.block k hk hne)⟩
theorem wpList_clearN (w : World) {ops : Array Oper} {rest : List Oper} {o : Oper} {a : Act} {Q : Exit → Act → World → Prop} (hgd : o.guard = none) (s : Operand) (ho : o.op = .call { callee:=.builtin .clear,args:=#[s],argTypes:=#[99] })
  (b off n c : Nat) (hs : a.eval s = .slice (some ⟨b,off,none⟩) n c) (hn : 0 < n) (hc : ∀ j,j < n * 2 → (w.cell? ⟨b,off + j,none⟩).isSome = true) (hf : ∀ j,j < n * 2 → w.frozen? ⟨b,off + j,none⟩ = false)
  (h : ∀ zs : List Value,wpList Tryz.prog ops Q rest (a.put o.dst (.tuple #[])) (w.setCells b off zs)) : wpList Tryz.prog ops Q (o :: rest) a w:=by
 refine wpList_plain hgd fun K hK => ?_
 obtain ⟨zs,hzs⟩ : ∃ zs,(Builtin.zeroCells (Value.cells (.agg #[.string ⟨#[]⟩,.int .i64 0])) n).toList = zs:=⟨_,rfl⟩
 have hzl : zs.length = n * 2:=by rw [← hzs];simp [Builtin.zeroCells,Value.cells]
 have hz1 : ∀ v ∈ zs,v.oneCell' = true:=by
  intro v hv
  rw [← hzs] at hv
  simp only [Builtin.zeroCells,Value.cells,Array.toList_map,List.mem_map,Array.toList_range] at hv
  obtain ⟨j,_,rfl⟩:=hv
  rcases (show j % 2 = 0 ∨ j % 2 = 1 by omega) with h | h <;> simp [h,Value.oneCell']
 have hst:=run_storeCells_cells (P:=Tryz.prog) b off zs 0 w (by intro j hj;simp only [Nat.add_zero];exact hc j (by omega)) (by intro j hj;simp only [Nat.add_zero];exact hf j (by omega)) hz1
 simp only [Nat.add_zero] at hst
 have hrun : (Builtin.clear_ #[99] o.type #[.slice (some ⟨b,off,none⟩) n c]).run Tryz.prog w = .ok (.tuple #[]) (w.setCells b off zs):=by
  obtain ⟨m,rfl⟩ : ∃ m,n = m + 1:=⟨n - 1,by omega⟩
  simp [Builtin.clear_,run_underlying Tryz.underlying99,hzs,hst]
 unfold Oper.wp
 simp [execOp,ho,resolve,invoke,builtin,hs,hrun,Result.andThen]
 exact hK _ _ (h zs)
theorem namesC_set (x : ByteArray × Int) : ∀ (l : List (ByteArray × Int)) (j : Nat),j < l.length → ((namesC l).set (j * 2) (.string x.1)).set (j * 2 + 1) (.int .i64 x.2) = namesC (l.set j x)
 | [],j,h => by simp at h
 | y :: l,0,_ => by simp [namesC,encN]
 | y :: l,j + 1,h => by
  have ih:=namesC_set x l j (by simpa using h)
  rw [show (j + 1) * 2 = j * 2 + 1 + 1 by omega,show j * 2 + 1 + 1 + 1 = (j * 2 + 1) + 1 + 1 from rfl]
  simp only [namesC,encN,List.cons_append,List.nil_append,List.set_cons_succ,ih]
theorem namesC_take : ∀ (l : List (ByteArray × Int)) (m : Nat),(namesC l).take (m * 2) = namesC (l.take m)
 | [],m => by simp [namesC]
 | x :: l,0 => by simp [namesC]
 | x :: l,m + 1 => by
  rw [show (m + 1) * 2 = m * 2 + 1 + 1 by omega]
  simp [namesC,encN,namesC_take l m]
def CptR (l : List (ByteArray × Int)) (base g cap N k : Nat) (w : World) (gg : Nat) (kv k2v : Value) (wr : World) : Prop:=
 ∃ (m j : Nat) (Z : List (ByteArray × Int)),gg = N - (k + 2 + j) ∧ k + 2 + j ≤ N ∧ 1 ≤ m ∧ m ≤ k + 1 + j ∧ kv = .int .i64 m ∧ k2v = .int .i64 ((j : Int) + 1) ∧ Z.length = N ∧ wr.ownsRow base 102 2 (.slice (some ⟨g,0,none⟩) N cap) N (namesC Z) ∧ w.grownBy wr (some g) ∧
  compactL l = Z.take m ++ dd (l.getD (k + 1 + j) (⟨#[]⟩,0)) (l.drop (k + 2 + j)) ∧ ∀ i,k + 1 + j ≤ i → Z[i]? = l[i]?
set_option maxRecDepth 100000 in
set_option maxHeartbeats 2000000 in
theorem compact_any (l : List (ByteArray × Int)) (base g cap : Nat) (w : World) (h : w.ownsRow base 102 2 (.slice (some ⟨g,0,none⟩) l.length cap) l.length (namesC l)) (hl : l.length ≤ 1000000) (hl2 : 2 ≤ l.length) :
  Calls Tryz.prog 118 #[.slice (some ⟨g,0,none⟩) l.length cap] w (CompactP l base w g):=by
 have hcap : l.length ≤ cap ∧ cap ≤ 9223372036854775807:=by
  rcases h.2 with ⟨h0,_⟩ | ⟨g',cap',cur,h0,_,_,hle,hmx,_⟩
  ·cases h0
  ·cases h0;unfold maxLen at hmx;omega
 obtain ⟨N,HN⟩ : ∃ Q,Hid (l.length = Q):=⟨_,Lib.hid rfl⟩
 rw [HN.out] at hcap hl hl2 h ⊢
 have HO:=Lib.hid h
 clear h
 go_enter Tryz.func118,Tryz.ntmps118
 go_wp2
 go_loopg [3] (N - 1) (fun gg kv wr => ∃ k : Nat,gg = N - (k + 1) ∧ k + 1 ≤ N ∧ kv = .int .i64 ((k : Int) + 1) ∧ compactL l = l.take (k + 1) ++ dd (l.getD k (⟨#[]⟩,0)) (l.drop (k + 1)) ∧ ∃ q,wr = w.drewN q)
 case atStart =>
  refine ⟨0,rfl,by omega,rfl,?_,0,rfl⟩
  cases l with
  | nil => have:=HN.out;simp at this;omega
  | cons x r => simp [compactL]
 case round =>
  obtain ⟨k,HG,hk,rfl,HC,q,rfl⟩:=hrel
  have HG':=Lib.hid (And.intro HG HC)
  clear HG HC
  by_cases hlt : k + 1 < N
  ·have hkl : k + 1 < l.length:=by rw [HN.out];exact hlt
   obtain ⟨x,hx⟩ : ∃ x,l[k]? = some x:=⟨_,List.getElem?_eq_getElem (by omega)⟩
   obtain ⟨y,hy⟩ : ∃ y,l[k + 1]? = some y:=⟨_,List.getElem?_eq_getElem hkl⟩
   obtain ⟨x0,x1⟩:=namesC_at x l k hx
   obtain ⟨y0,y1⟩:=namesC_at y l (k + 1) hy
   have cx0 : w.cell? ⟨g,k * 2,none⟩ = some (.string x.1):=(HO.out.cellAt (k * 2) (by omega)).trans x0
   have cx1 : w.cell? ⟨g,k * 2 + 1,none⟩ = some (.int .i64 x.2):=(HO.out.cellAt (k * 2 + 1) (by omega)).trans x1
   have cy0 : w.cell? ⟨g,(k + 1) * 2,none⟩ = some (.string y.1):=(HO.out.cellAt ((k + 1) * 2) (by omega)).trans y0
   have cy1 : w.cell? ⟨g,(k + 1) * 2 + 1,none⟩ = some (.int .i64 y.2):=(HO.out.cellAt ((k + 1) * 2 + 1) (by omega)).trans y1
   have HXY:=Lib.hid (And.intro hx hy)
   clear x0 x1 y0 y1 hx hy hkl
   have hw1 : IntKind.i64.wrap (k : Int) = k:=IntWalk.i64_in _ (by omega)
   have hj0 : (0 : Int) ≤ (k : Int):=by omega
   have hj1 : (k : Int) < (N : Int):=by omega
   have hj2 : (0 : Int) ≤ (k : Int) + 1:=by omega
   have hj3 : (k : Int) + 1 < (N : Int):=by omega
   obtain ⟨xa,xi⟩:=x
   obtain ⟨ya,yi⟩:=y
   simp only at cx0 cx1 cy0 cy1
   have hdrop : l.drop (k + 1) = (ya,yi) :: l.drop (k + 2):=by
    have h:=HXY.out.2
    rw [List.drop_eq_getElem_cons (by rw [HN.out];omega)]
    rw [List.getElem?_eq_getElem (by rw [HN.out];omega)] at h
    simp only [Option.some.injEq] at h
    rw [h]
   have htake : l.take (k + 2) = l.take (k + 1) ++ [(ya,yi)]:=by
    rw [List.take_succ_eq_append_getElem (by rw [HN.out];omega)]
    have h:=HXY.out.2
    rw [List.getElem?_eq_getElem (by rw [HN.out];omega)] at h
    simp only [Option.some.injEq] at h
    rw [h]
   have hgx : l.getD k (⟨#[]⟩,0) = (xa,xi):=by rw [List.getD_eq_getElem?_getD,HXY.out.1];rfl
   have hgy : l.getD (k + 1) (⟨#[]⟩,0) = (ya,yi):=by rw [List.getD_eq_getElem?_getD,HXY.out.2];rfl
   have HD:=Lib.hid (And.intro hdrop (And.intro htake (And.intro hgx hgy)))
   clear hdrop htake hgx hgy
   have hE:=run_eqlN ya xa yi xi
   cases he : eqN (ya,yi) (xa,xi)
   ·have HEQ:=Lib.hid he
    unfold eqN at he
    simp only at he
    rw [he] at hE
    go_wp2_with fail
    go_quiet (fail)
    go_wp2_with fail
    go_roundg (N - (k + 1 + 1))
    case measure => rw [HG'.out.1];omega
    case rel =>
     refine ⟨k + 1,rfl,by omega,by go_num,?_,q + nq,by simp [World.drewN]⟩
     rw [HG'.out.2,HD.out.1,HD.out.2.2.1,HD.out.2.2.2,dd_ne HEQ.out,HD.out.2.1]
     simp
   ·have HEQ:=Lib.hid he
    unfold eqN at he
    simp only at he
    rw [he] at hE
    have HCC:=Lib.hid (show compactL l = l.take (k + 1) ++ dd (l.getD (k + 1) (⟨#[]⟩,0)) (l.drop (k + 2)) by
     rw [HG'.out.2,HD.out.1,HD.out.2.2.1,HD.out.2.2.2,dd_eq HEQ.out])
    have hsl1 : k + 1 < cap:=by omega
    go_wp2_with fail
    go_quiet (fail)
    clear cx0 cx1 cy0 cy1 hE he HD HXY
    go_wp2_with fail
    go_loopg [3,5] (N - (k + 2)) (fun gg kv k2v wr => CptR l base g cap N k w gg kv k2v wr)
    case atStart => exact ⟨k + 1,0,l,rfl,by omega,by omega,by omega,by go_num,rfl,HN.out,HO.out,⟨rfl,rfl,rfl,Nat.le_refl _,fun _ _ _ => rfl⟩,HCC.out,fun _ _ => rfl⟩
    case round =>
     obtain ⟨m,j,Z,HG2,hj,hm0,hm,rfl,rfl,hZ,hown,hgr,HC2,HZ⟩:=hrel
     have H2:=Lib.hid (And.intro HG2 (And.intro hZ (And.intro hown (And.intro hgr (And.intro HC2 HZ)))))
     have hmN : m < N:=by omega
     clear HG2 hZ hgr HC2 HZ
     by_cases hlt2 : k + 2 + j < N
     ·obtain ⟨x,hx⟩ : ∃ x,Z[k + 1 + j]? = some x:=⟨_,List.getElem?_eq_getElem (by rw [H2.out.2.1];omega)⟩
      obtain ⟨y,hy⟩ : ∃ y,Z[k + 2 + j]? = some y:=⟨_,List.getElem?_eq_getElem (by rw [H2.out.2.1];omega)⟩
      obtain ⟨z,hzz⟩ : ∃ z,Z[m]? = some z:=⟨_,List.getElem?_eq_getElem (by rw [H2.out.2.1];omega)⟩
      obtain ⟨x0,x1⟩:=namesC_at x Z _ hx
      obtain ⟨y0,y1⟩:=namesC_at y Z _ hy
      obtain ⟨z0,z1⟩:=namesC_at z Z _ hzz
      have cx0 : wr.cell? ⟨g,(k + 1) * 2 + j * 2,none⟩ = some (.string x.1):=by rw [show (k + 1) * 2 + j * 2 = (k + 1 + j) * 2 by omega];exact (hown.cellAt _ (by omega)).trans x0
      have cx1 : wr.cell? ⟨g,(k + 1) * 2 + j * 2 + 1,none⟩ = some (.int .i64 x.2):=by rw [show (k + 1) * 2 + j * 2 = (k + 1 + j) * 2 by omega];exact (hown.cellAt _ (by omega)).trans x1
      have cy0 : wr.cell? ⟨g,(k + 1) * 2 + (j + 1) * 2,none⟩ = some (.string y.1):=by rw [show (k + 1) * 2 + (j + 1) * 2 = (k + 2 + j) * 2 by omega];exact (hown.cellAt _ (by omega)).trans y0
      have cy1 : wr.cell? ⟨g,(k + 1) * 2 + (j + 1) * 2 + 1,none⟩ = some (.int .i64 y.2):=by rw [show (k + 1) * 2 + (j + 1) * 2 = (k + 2 + j) * 2 by omega];exact (hown.cellAt _ (by omega)).trans y1
      have cz0 : wr.cell? ⟨g,m * 2,none⟩ = some (.string z.1):=(hown.cellAt _ (by omega)).trans z0
      have cz1 : wr.cell? ⟨g,m * 2 + 1,none⟩ = some (.int .i64 z.2):=(hown.cellAt _ (by omega)).trans z1
      have fz0:=hown.frozenAt (m * 2)
      have fz1:=hown.frozenAt (m * 2 + 1)
      have hst:=(hown.stored (m * 2) (.string y.1)).1.stored (m * 2 + 1) (.int .i64 y.2)
      have hst0:=(hown.stored (m * 2) (.string y.1)).2
      rw [namesC_set y Z m (by rw [H2.out.2.1];omega)] at hst
      have HXY:=Lib.hid (And.intro hx (And.intro hy (And.intro hst hst0)))
      clear x0 x1 y0 y1 z0 z1 hx hy hzz hst hst0 hown
      have hw1 : IntKind.i64.wrap (j : Int) = j:=IntWalk.i64_in _ (by omega)
      have b0 : (0 : Int) ≤ (j : Int):=by omega
      have b1 : j < N - (k + 1):=by omega
      have b2 : j + 1 < N - (k + 1):=by omega
      have b3 : (j : Int) < ((N - (k + 1) : Nat) : Int):=by omega
      have b4 : (j : Int) + 1 < ((N - (k + 1) : Nat) : Int):=by omega
      have b5 : (0 : Int) ≤ (j : Int) + 1:=by omega
      have b6 : (m : Int) < (N : Int):=by omega
      have hbz : ((N - (k + 1) : Nat) : Int) ≤ 1000000:=by omega
      obtain ⟨xa,xi⟩:=x
      obtain ⟨ya,yi⟩:=y
      obtain ⟨za,zi⟩:=z
      simp only at cx0 cx1 cy0 cy1 cz0 cz1 HXY
      have hZd : l.drop (k + 2 + j) = (ya,yi) :: l.drop (k + 2 + (j + 1)):=by
       have h:=HXY.out.2.1
       rw [H2.out.2.2.2.2.2 _ (by omega)] at h
       rw [List.drop_eq_getElem_cons (by rw [HN.out];omega)]
       rw [List.getElem?_eq_getElem (by rw [HN.out];omega)] at h
       simp only [Option.some.injEq] at h
       rw [h]
       rfl
      have hgx : l.getD (k + 1 + j) (⟨#[]⟩,0) = (xa,xi):=by rw [List.getD_eq_getElem?_getD,← H2.out.2.2.2.2.2 _ (Nat.le_refl _),HXY.out.1];rfl
      have hgy : l.getD (k + 1 + (j + 1)) (⟨#[]⟩,0) = (ya,yi):=by rw [List.getD_eq_getElem?_getD,← H2.out.2.2.2.2.2 _ (by omega),show k + 1 + (j + 1) = k + 2 + j by omega,HXY.out.2.1];rfl
      have HD:=Lib.hid (And.intro hZd (And.intro hgx hgy))
      clear hZd hgx hgy
      have hE:=run_neqN ya xa yi xi
      cases he : eqN (ya,yi) (xa,xi)
      ·have HEQ:=Lib.hid he
       unfold eqN at he
       simp only at he
       rw [he] at hE
       go_wp2_with fail
       go_quiet (fail)
       go_wp2_with fail
       go_roundg (N - (k + 2 + (j + 1)))
       case measure => rw [H2.out.1];omega
       case rel =>
        refine ⟨m + 1,j + 1,Z.set m (ya,yi),rfl,by omega,by omega,by omega,by go_num,by go_num,by simpa using H2.out.2.1,HXY.out.2.2.1.1,?_,?_,?_⟩
        ·have hg:=H2.out.2.2.2.1
         have h1:=HXY.out.2.2.2
         have h2:=HXY.out.2.2.1.2
         exact ⟨hg.os,hg.tape,hg.output,by simpa [World.setCell] using hg.size,fun q hq hne => (h2.block q (by have:=hg.size;simp [World.setCell];omega) hne).trans ((h1.block q (by have:=hg.size;omega) hne).trans (hg.block q hq hne))⟩
        ·rw [H2.out.2.2.2.2.1,HD.out.1,HD.out.2.1,HD.out.2.2,dd_ne HEQ.out]
         rw [List.take_succ_eq_append_getElem (by rw [List.length_set,H2.out.2.1];omega),List.take_set_of_le (Nat.le_refl _)]
         simp
        ·intro i hi
         rw [List.getElem?_set_ne (by omega)]
         exact H2.out.2.2.2.2.2 i (by omega)
      ·have HEQ:=Lib.hid he
       unfold eqN at he
       simp only at he
       rw [he] at hE
       go_wp2_with fail
       go_quiet (fail)
       go_wp2_with fail
       go_roundg (N - (k + 2 + (j + 1)))
       case measure => rw [H2.out.1];omega
       case rel =>
        refine ⟨m,j + 1,Z,rfl,by omega,by omega,by omega,rfl,by go_num,H2.out.2.1,H2.out.2.2.1,?_,?_,fun i hi => H2.out.2.2.2.2.2 i (by omega)⟩
        ·have hg:=H2.out.2.2.2.1
         exact ⟨hg.os,hg.tape,hg.output,hg.size,hg.block⟩
        ·rw [H2.out.2.2.2.2.1,HD.out.1,HD.out.2.1,HD.out.2.2,dd_eq HEQ.out]
     ·have HFIN:=Lib.hid (show compactL l = Z.take m by
       rw [H2.out.2.2.2.2.1,List.drop_of_length_le (by rw [HN.out];omega)]
       simp [dd])
      have b1 : ¬ (j + 1 < N - (k + 1)):=by omega
      have b4 : decide ((j : Int) + 1 < ((N - (k + 1) : Nat) : Int)) = false:=by simp;omega
      have hsl2 : m < cap:=by omega
      have hb6 : (m : Int) ≤ (N : Int):=by omega
      have hcl : ∀ i,i < (N - m) * 2 → (wr.cell? ⟨g,m * 2 + i,none⟩).isSome = true:=by
       intro i hi
       rw [hown.cellAt (m * 2 + i) (by omega),List.getElem?_eq_getElem (by rw [namesC_length,H2.out.2.1];omega)]
       rfl
      have hfl : ∀ i,i < (N - m) * 2 → wr.frozen? ⟨g,m * 2 + i,none⟩ = false:=fun i _ => hown.frozenAt _
      have HCL:=Lib.hid (And.intro hcl hfl)
      clear hcl hfl hown
      go_wp2_with (with_reducible refine wpList_clearN _ rfl _ rfl g (m * 2) (N - m) (cap - m) rfl (by omega) HCL.out.1 HCL.out.2 ?_;intro zs)
      go_ret
      obtain ⟨xs',h1,h2,h3⟩:=own_setCells zs (m * 2) _ _ H2.out.2.2.1
      have h4:=own_shrink (m:=m) h1 (by omega)
      rw [h2,namesC_take,← HFIN.out] at h4
      have hlen : (compactL l).length = m:=by rw [HFIN.out,List.length_take,H2.out.2.1];omega
      refine ⟨_,rfl,?_,?_⟩
      ·rw [hlen];exact h4
      ·have hg:=H2.out.2.2.2.1
       exact ⟨h3.os.trans hg.os,h3.tape.trans hg.tape,h3.output.trans hg.output,Nat.le_trans hg.size h3.size,fun q hq hne => (h3.block q (Nat.lt_of_lt_of_le hq hg.size) hne).trans (hg.block q hq hne)⟩
  ·have HFIN:=Lib.hid (show compactL l = l by
    rw [HG'.out.2,List.drop_of_length_le (by rw [HN.out];omega),List.take_of_length_le (by rw [HN.out];omega)]
    simp [dd])
   have b1 : decide ((k : Int) + 1 < (N : Int)) = false:=by simp;omega
   go_wp2
   go_ret
   refine ⟨_,rfl,?_,⟨rfl,rfl,rfl,Nat.le_refl _,fun _ _ _ => rfl⟩⟩
   rw [HFIN.out,HN.out]
   exact HO.out
end Go.Proofs.YtmmecapgnmlaiaaGreatDoor
