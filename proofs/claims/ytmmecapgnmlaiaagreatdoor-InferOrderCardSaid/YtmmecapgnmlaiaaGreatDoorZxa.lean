/- Small lemmas for the walks -/
import Derived.WalkKit
import Derived.Lib.Hide
import Derived.Test.YtmmecapgnmlaiaaGreatDoorProg
import Derived.WalkLawsBesides
import Derived.WalkSpells
import Derived.Lib.Bytealg
import Derived.Lib.IndexLaws
import Derived.Deep.LoopGhost
import Derived.Maps.RangeWalk
import Derived.Maps.StringElems
import Derived.DeepKeys4
import Derived.Sort.MapsRangeIn
import Derived.KernelRfl
namespace Go.Proofs.YtmmecapgnmlaiaaGreatDoor
open Go.RowKit
theorem bcell {W w1 : World} {B : Nat} (hb : Below B W w1) : (∀ b o,b < B → w1.cell? ⟨b,o,none⟩ = W.cell? ⟨b,o,none⟩) ∧ (∀ b o,b < B → w1.frozen? ⟨b,o,none⟩ = W.frozen? ⟨b,o,none⟩):=
 ⟨fun b o h => hb.cell (p:=⟨b,o,none⟩) h,fun b o h => hb.frozen (p:=⟨b,o,none⟩) h⟩
theorem wrap64_small {n : Int} (h0 : -9223372036854775808 ≤ n) (h1 : n < 9223372036854775808) : wrap64 n = n:=by unfold wrap64;omega
theorem wrap64_add (a b : Int) : wrap64 (wrap64 a + wrap64 b) = wrap64 (a + b):=by unfold wrap64;omega
theorem ret_int {k : IntKind} {a b : Int} (h : a = b) : Ending.returned (.int k a) = .returned (.int k b):=by rw [h]
theorem val_int {k : IntKind} {a b : Int} (h : a = b) : Value.int k a = .int k b:=by rw [h]
end Go.Proofs.YtmmecapgnmlaiaaGreatDoor
/- Ghost data: expressions as forests, and how they lie in memory. -/
namespace Go.Proofs.YtmmecapgnmlaiaaGreatDoor
open Go.RowKit
inductive Fo where
 | nil
 | cons (k : Int) (n m : ByteArray) (i d : Int) (A : Option Addr) (c : Nat) (s r : Fo)
namespace Fo
def len : Fo → Nat
 | .nil => 0
 | .cons _ _ _ _ _ _ _ _ r => r.len + 1
def count : Fo → Nat
 | .nil => 0
 | .cons _ _ _ _ _ _ _ s r => s.count + 1 + r.count
def At (w : World) (B : Nat) : Fo → Nat → Nat → Prop
 | .nil,_,_ => True
 | .cons k n m i d A c s r,b,o =>
  w.cell? ⟨b,o,none⟩ = some (.int .i64 k) ∧ w.cell? ⟨b,o + 1,none⟩ = some (.string n) ∧ w.cell? ⟨b,o + 2,none⟩ = some (.string m) ∧
  w.cell? ⟨b,o + 3,none⟩ = some (.int .i64 i) ∧ w.cell? ⟨b,o + 4,none⟩ = some (.int .i64 d) ∧
  (w.cell? ⟨b,o + 5,none⟩ = some (.slice A s.len c) ∧ s.len ≤ c ∧ c ≤ maxLen ∧ (s ≠ .nil → ∃ b' o',A = some ⟨b',o',none⟩ ∧ b' < B ∧ s.At w B b' o')) ∧
  r.At w B b (o + 6)
def Sl (w : World) (B : Nat) (A : Option Addr) (c : Nat) (s : Fo) : Prop:=
 s.len ≤ c ∧ c ≤ maxLen ∧ (s ≠ .nil → ∃ b' o',A = some ⟨b',o',none⟩ ∧ b' < B ∧ s.At w B b' o')
theorem At.keep {w w' : World} {B B' : Nat} (hB : B ≤ B') (hk : ∀ p : Addr,p.block < B → w'.cell? p = w.cell? p) : ∀ {s : Fo} {b o : Nat},b < B → s.At w B b o → s.At w' B' b o
 | .nil,_,_,_,_ => trivial
 | .cons _ _ _ _ _ _ _ s r,b,o,hb,h => by
  obtain ⟨h0,h1,h2,h3,h4,⟨h5,hc,hm,hs⟩,hr⟩:=h
  refine ⟨(hk _ hb).trans h0,(hk _ hb).trans h1,(hk _ hb).trans h2,(hk _ hb).trans h3,(hk _ hb).trans h4,⟨(hk _ hb).trans h5,hc,hm,fun hne => ?_⟩,At.keep hB hk hb hr⟩
  obtain ⟨b',o',e,hb',hs'⟩:=hs hne
  exact ⟨b',o',e,Nat.lt_of_lt_of_le hb' hB,At.keep hB hk hb' hs'⟩
theorem Sl.keep {w w' : World} {B B' : Nat} {A : Option Addr} {c : Nat} {s : Fo} (h : Sl w B A c s) (hB : B ≤ B') (hk : ∀ p : Addr,p.block < B → w'.cell? p = w.cell? p) : Sl w' B' A c s:=
 ⟨h.1,h.2.1,fun hne => by
  obtain ⟨b',o',e,hb',hs'⟩:=h.2.2 hne
  exact ⟨b',o',e,Nat.lt_of_lt_of_le hb' hB,hs'.keep hB hk hb'⟩⟩
theorem Sl.below {w w' : World} {A : Option Addr} {c : Nat} {s : Fo} {B : Nat} (h : Sl w B A c s) (hb : Below B w w') : Sl w' B A c s:=h.keep (Nat.le_refl _) fun _ hp => hb.cell hp
def All (p : Fo → Prop) : Fo → Prop
 | .nil => True
 | .cons _ _ _ _ _ _ _ s r => p s ∧ r.All p
theorem by_parts {p : Fo → Prop} (step : ∀ s,s.All p → p s) (s : Fo) : p s:=by
 have h : ∀ s : Fo,s.All p ∧ p s:=by
  intro s
  induction s with
  | nil => exact ⟨trivial,step _ trivial⟩
  | cons k n m i d A c s r hs hr =>
   have ha : (Fo.cons k n m i d A c s r).All p:=⟨hs.2,hr.1⟩
   exact ⟨ha,step _ ha⟩
 exact (h s).2
end Fo
def SlS (w : World) (B : Nat) (A : Option Addr) (c : Nat) (l : List ByteArray) : Prop:=
 l.length ≤ c ∧ c ≤ maxLen ∧ (l ≠ [] → ∃ b o,A = some ⟨b,o,none⟩ ∧ b < B ∧ ∀ j s,l[j]? = some s → w.cell? ⟨b,o + j,none⟩ = some (.string s))
theorem SlS.keep {w w' : World} {B B' : Nat} {A : Option Addr} {c : Nat} {l : List ByteArray} (h : SlS w B A c l) (hB : B ≤ B') (hk : ∀ p : Addr,p.block < B → w'.cell? p = w.cell? p) : SlS w' B' A c l:=
 ⟨h.1,h.2.1,fun hne => by
  obtain ⟨b,o,e,hb,hs⟩:=h.2.2 hne
  exact ⟨b,o,e,Nat.lt_of_lt_of_le hb hB,fun j s hj => (hk _ hb).trans (hs j s hj)⟩⟩
theorem SlS.below {w w' : World} {A : Option Addr} {c : Nat} {l : List ByteArray} {B : Nat} (h : SlS w B A c l) (hb : Below B w w') : SlS w' B A c l:=h.keep (Nat.le_refl _) fun _ hp => hb.cell hp
theorem SlS.at_ {w : World} {B : Nat} {A : Option Addr} {c : Nat} {l : List ByteArray} (h : SlS w B A c l) {j : Nat} (hj : j < l.length) : ∃ b o,A = some ⟨b,o,none⟩ ∧ b < B ∧ w.cell? ⟨b,o + j,none⟩ = some (.string l[j]):=by
 obtain ⟨b,o,e,hb,hs⟩:=h.2.2 (by intro e;subst e;simp at hj)
 exact ⟨b,o,e,hb,hs j _ (List.getElem?_eq_getElem hj)⟩
theorem SlS.nil (w : World) (B : Nat) (A : Option Addr) (c : Nat) (hc : c ≤ maxLen) : SlS w B A c []:=⟨by simp,hc,fun h => absurd rfl h⟩
theorem Fo.Sl.nil (w : World) (B : Nat) (A : Option Addr) (c : Nat) (hc : c ≤ maxLen) : Fo.Sl w B A c .nil:=⟨by simp [Fo.len],hc,fun h => absurd rfl h⟩
end Go.Proofs.YtmmecapgnmlaiaaGreatDoor
/- strings.Index at one byte, strings.Contains at one byte -/
namespace Go.Proofs.YtmmecapgnmlaiaaGreatDoor
open Go.RowKit Go.Proofs
set_option maxRecDepth 100000 in
theorem slIndexByte_any (s : ByteArray) (c : Int) (w : World) : Calls Tryz.prog 279 #[.string s,.int .u8 c] w fun e w' => e = .returned (.int .i64 (Lib.indexByte s.data.toList c.toNat.toUInt8)) ∧ w = w':=by
 go_enter Tryz.func279,Tryz.ntmps279
 go_wp2
 rw [run_callFunc_extern Tryz.func286 (by kernel_rfl) (by kernel_rfl) (by kernel_rfl) (e:=Extern.BytealgIndexByte.indexByte) (by kernel_rfl),Lib.run_indexByteString]
 simp only [Result.andThen]
 rw [Oper.upon_value]
 go_wp2
 go_ret
 exact ⟨rfl,rfl⟩
set_option maxRecDepth 100000 in
set_option maxHeartbeats 1000000 in
theorem slIndex_one (s : ByteArray) (c : UInt8) (w : World) : Calls Tryz.prog 259 #[.string s,.string ⟨#[c]⟩] w fun e w' => e = .returned (.int .i64 (Lib.indexByte s.data.toList c)) ∧ w = w':=by
 by_cases hs : ([c] == s.toList) = true
 ·have HS:=Lib.hid hs
  go_enter Tryz.func259,Tryz.ntmps259
  go_wp2_with fail
  go_ret
  have:=HS.out
  rw [ByteArray.toList_eq,beq_iff_eq] at this
  exact ⟨by rw [← this];simp [Lib.indexByte],rfl⟩
 ·have hs' : ([c] == s.toList) = false:=by simpa using hs
  clear hs
  go_enter Tryz.func259,Tryz.ntmps259
  go_wp2_with (go_at_call 279;refine (slIndexByte_any _ _ _).mono ?_;rintro e w' ⟨rfl,rfl⟩)
  go_ret
  exact ⟨rfl,rfl⟩
theorem index_one (s : ByteArray) (c : UInt8) (w : World) : Calls Tryz.prog 230 #[.string s,.string ⟨#[c]⟩] w fun e w' => e = .returned (.int .i64 (Lib.indexByte s.data.toList c)) ∧ w = w':=by
 go_enter Tryz.func230,Tryz.ntmps230
 go_wp2_with (go_at_call 259;refine (slIndex_one _ _ _).mono ?_;rintro e w' ⟨rfl,rfl⟩)
 go_ret
 exact ⟨rfl,rfl⟩
theorem contains_one (s : ByteArray) (c : UInt8) (w : World) : Calls Tryz.prog 260 #[.string s,.string ⟨#[c]⟩] w fun e w' => e = .returned (.bool (decide (0 ≤ Lib.indexByte s.data.toList c))) ∧ w = w':=by
 go_enter Tryz.func260,Tryz.ntmps260
 go_wp2_with (go_at_call 230;refine (index_one _ _ _).mono ?_;rintro e w' ⟨rfl,rfl⟩)
 go_ret
 exact ⟨rfl,rfl⟩
theorem size_one {s : ByteArray} (h : s.size = 1) : ∃ c,s = ⟨#[c]⟩:=by
 obtain ⟨⟨l⟩⟩:=s
 match l,(show l.length = 1 from h) with
 | [c],_ => exact ⟨c,rfl⟩
end Go.Proofs.YtmmecapgnmlaiaaGreatDoor
/- syntax.shapeOf -/
namespace Go.Proofs.YtmmecapgnmlaiaaGreatDoor
open Go.RowKit Go.Proofs
def shapeZ (k : Int) : Int × Int × Int × Bool:=
 if k = 1 then (0,1,0,true) else if k = 2 then (0,1,0,true) else if k = 3 then (1,0,0,true) else if k = 4 then (2,0,0,true) else if k = 5 then (1,1,0,true) else if k = 6 then (1,0,1,true) else if k = 7 then (0,0,2,true) else if k = 12 then (0,0,2,true) else if k = 8 then (1,0,2,true) else if k = 10 then (1,0,2,true) else if k = 9 then (0,0,3,true) else if k = 15 then (0,0,3,true) else if k = 11 then (0,0,0,true) else if k = 13 then (2,0,3,true) else if k = 14 then (0,2,0,true) else (0,0,0,false)
def knownZ (k : Int) : Prop:=k = 1 ∨ k = 2 ∨ k = 3 ∨ k = 4 ∨ k = 5 ∨ k = 6 ∨ k = 7 ∨ k = 12 ∨ k = 8 ∨ k = 10 ∨ k = 9 ∨ k = 15 ∨ k = 11 ∨ k = 13 ∨ k = 14
theorem shapeZ_no {k : Int} (h : ¬ knownZ k) : shapeZ k = (0,0,0,false):=by
 unfold knownZ at h
 unfold shapeZ
 repeat rw [if_neg (by omega)]
set_option maxHeartbeats 1000000 in
theorem shapeOf_any (k a b c : Int) (ok : Bool) (w : World) (h : shapeZ k = (a,b,c,ok)) : Calls Tryz.prog 233 #[.int .i64 k] w fun e w' =>
  e = .returned (.tuple #[.agg #[.int .i64 a,.int .i64 b,.int .i64 c],.bool ok]) ∧ Below w.heap.size w w':=by
 have HB:=Lib.hid (fun o => (Below.refl w.heap.size w).alloc (Nat.le_refl _) o)
 by_cases hk : knownZ k
 ·unfold knownZ at hk
  rcases hk with rfl | rfl | rfl | rfl | rfl | rfl | rfl | rfl | rfl | rfl | rfl | rfl | rfl | rfl | rfl
  all_goals
   simp only [shapeZ,Int.reduceEq,if_true,if_false,Prod.mk.injEq] at h
   obtain ⟨rfl,rfl,rfl,rfl⟩:=h
   go_enter Tryz.func233,Tryz.ntmps233
   go_wp2
   exact bodyPost_ret (by simp [results,Tryz.results233,go_sem]) rfl ⟨rfl,HB.out _⟩
 ·rw [shapeZ_no hk] at h
  simp only [Prod.mk.injEq] at h
  obtain ⟨rfl,rfl,rfl,rfl⟩:=h
  unfold knownZ at hk
  have HK:=Lib.hid hk
  clear hk
  have n1 : (k == 1) = false:=by have:=HK.out;simp;omega
  have n2 : (k == 2) = false:=by have:=HK.out;simp;omega
  have n3 : (k == 3) = false:=by have:=HK.out;simp;omega
  have n4 : (k == 4) = false:=by have:=HK.out;simp;omega
  have n5 : (k == 5) = false:=by have:=HK.out;simp;omega
  have n6 : (k == 6) = false:=by have:=HK.out;simp;omega
  have n7 : (k == 7) = false:=by have:=HK.out;simp;omega
  have n12 : (k == 12) = false:=by have:=HK.out;simp;omega
  have n8 : (k == 8) = false:=by have:=HK.out;simp;omega
  have n10 : (k == 10) = false:=by have:=HK.out;simp;omega
  have n9 : (k == 9) = false:=by have:=HK.out;simp;omega
  have n15 : (k == 15) = false:=by have:=HK.out;simp;omega
  have n11 : (k == 11) = false:=by have:=HK.out;simp;omega
  have n13 : (k == 13) = false:=by have:=HK.out;simp;omega
  have n14 : (k == 14) = false:=by have:=HK.out;simp;omega
  go_enter Tryz.func233,Tryz.ntmps233
  go_wp2
  exact bodyPost_ret (by simp [results,Tryz.results233,go_sem]) rfl ⟨rfl,HB.out _⟩
end Go.Proofs.YtmmecapgnmlaiaaGreatDoor
/- syntax.checkNumbers -/
namespace Go.Proofs.YtmmecapgnmlaiaaGreatDoor
open Go.RowKit Go.Proofs
def numB (k i d : Int) : Bool:=
 if k = 1 then decide (-999999999 ≤ i) && decide (i ≤ 999999999) else if k = 2 then i == 0 || i == 1 else if k = 5 then decide (1 ≤ i) && decide (i ≤ 999999) else
 if k = 14 then decide (1 ≤ d) && decide (d ≤ 999999) && decide (0 ≤ i) && decide (i ≤ d) else true
def numE (k i d : Int) : Int:=if numB k i d then 0 else 2
set_option maxHeartbeats 1000000 in
theorem checkNumbers_any (k : Int) (n m : ByteArray) (i d : Int) (v : Value) (w : World) : Calls Tryz.prog 235 #[.agg #[.int .i64 k,.string n,.string m,.int .i64 i,.int .i64 d,v]] w fun e w' =>
  e = .returned (.int .i64 (numE k i d)) ∧ Below w.heap.size w w':=by
 have HB:=Lib.hid (fun o => (Below.refl w.heap.size w).alloc (Nat.le_refl _) o)
 by_cases hk : k = 1 ∨ k = 2 ∨ k = 5 ∨ k = 14
 ·rcases hk with rfl | rfl | rfl | rfl
  all_goals
   go_enter Tryz.func235,Tryz.ntmps235
   go_wp2
  all_goals go_ret
  all_goals refine ⟨ret_int ?_,HB.out _⟩
  all_goals simp [numE,numB]
  all_goals (try simp_all)
  all_goals (try omega)
 ·have HK:=Lib.hid hk
  have n1 : (k == 1) = false:=by simp;omega
  have n2 : (k == 2) = false:=by simp;omega
  have n5 : (k == 5) = false:=by simp;omega
  have n14 : (k == 14) = false:=by simp;omega
  clear hk
  go_enter Tryz.func235,Tryz.ntmps235
  go_wp2
  go_ret
  refine ⟨ret_int ?_,HB.out _⟩
  have:=HK.out
  have e : numB k i d = true:=by
   unfold numB
   rw [if_neg (by omega),if_neg (by omega),if_neg (by omega),if_neg (by omega)]
  simp [numE,e]
end Go.Proofs.YtmmecapgnmlaiaaGreatDoor
/- ref21.Nodes -/
namespace Go.Proofs.YtmmecapgnmlaiaaGreatDoor
open Go.RowKit Go.Proofs
def NodesOK (s : Fo) : Prop:=∀ (k : Int) (n m : ByteArray) (i d : Int) (A : Option Addr) (c : Nat) (w : World),s.Sl w w.heap.size A c →
  Calls Tryz.prog 33 #[.agg #[.int .i64 k,.string n,.string m,.int .i64 i,.int .i64 d,.slice A s.len c]] w fun e w' => e = .returned (.int .i64 (wrap64 (1 + s.count))) ∧ Below w.heap.size w w'
theorem nodes_step (s : Fo) (ih : s.All NodesOK) : NodesOK s:=by
 intro k n m i d A c w hs
 have HS:=Lib.hid hs
 clear hs
 have IH:=Lib.hid ih
 clear ih
 have hcap : s.len ≤ 9223372036854775807:=by have:=HS.out.1;have:=HS.out.2.1;unfold maxLen at this;omega
 go_enter Tryz.func33,Tryz.ntmps33
 go_wp2
 go_loopg [3,4] s.len (fun g t ct wr => ∃ (j : Nat) (r : Fo),g = r.len ∧ j + r.len = s.len ∧ ct = .int .i64 j ∧ t = .int .i64 (wrap64 (1 + s.count - r.count)) ∧ r.All NodesOK ∧
  (r ≠ .nil → ∃ b o,A = some ⟨b,o,none⟩ ∧ b < w.heap.size ∧ r.At wr w.heap.size b (o + j * 6)) ∧
  Below (w.heap.size + 1) (w.alloc (.cells #[.int .i64 k,.string n,.string m,.int .i64 i,.int .i64 d,.slice A s.len c] 44)) wr)
 case atStart =>
  refine ⟨0,s,rfl,by omega,rfl,?_,IH.out,?_,Below.refl _ _⟩
  ·rw [show (1 + (s.count : Int) - s.count) = 1 by omega,wrap64_small (by omega) (by omega)]
  ·intro hne
   obtain ⟨b,o,e,hb,h⟩:=HS.out.2.2 hne
   exact ⟨b,o,e,hb,by rw [Nat.zero_mul,Nat.add_zero];exact h.keep (Nat.le_refl _) (fun p hp => World.cell?_alloc_lt w _ p hp) hb⟩
 case round =>
  obtain ⟨j,r,HG,hjr,rfl,rfl,HA,HAt,HB⟩:=hrel
  have hbox : wr.cell? ⟨w.heap.size,5,none⟩ = some (.slice A s.len c):=(HB.cell (p:=⟨w.heap.size,5,none⟩) (by simp)).trans (by go_simp)
  cases r with
  | nil =>
   have hjr2 : s.len ≤ j:=by simp only [Fo.len] at hjr;omega
   have hjr1 : j ≤ s.len:=by simp only [Fo.len] at hjr;omega
   clear hjr HG
   go_wp2
   go_ret
   refine ⟨ret_int (congrArg _ ?_),?_⟩
   ·simp [Fo.count]
   ·exact ((Below.refl _ _).alloc (Nat.le_refl _) _).trans (HB.mono (by omega))
  | cons rk rn rm ri rd A' c' rs rr =>
   have hjr2 : j < s.len:=by simp only [Fo.len] at hjr;omega
   obtain ⟨b,o,rfl,hb,h0,h1,h2,h3,h4,⟨h5,hc',hm',hs'⟩,hr'⟩:=HAt (by simp)
   obtain ⟨cnt,HC⟩ : ∃ cnt,Hid ((Fo.cons rk rn rm ri rd A' c' rs rr).count = cnt):=⟨_,rfl⟩
   rw [HC.out]
   have HS':=Lib.hid hs'
   clear hs'
   go_wp2_with fail
   refine (HA.1 _ _ _ _ _ _ _ _ ?_).mono ?_
   ·exact ⟨hc',hm',fun hne => by
     obtain ⟨b',o',e,hb',h'⟩:=HS'.out hne
     have:=HB.size
     simp at this
     exact ⟨b',o',e,by omega,h'.keep (by omega) (fun _ _ => rfl) hb'⟩⟩
   rintro e w1 ⟨rfl,hb1⟩
   go_wp2
   go_roundg rr.len
   case measure => rw [HG];simp [Fo.len]
   case rel =>
    have hsz:=HB.size
    simp at hsz
    refine ⟨j + 1,rr,rfl,by simp only [Fo.len] at hjr;omega,by go_num,?_,HA.2,?_,HB.trans (hb1.mono (by omega))⟩
    ·refine val_int ?_
     rw [wrap64_add]
     refine congrArg _ ?_
     have:=HC.out
     simp only [Fo.count] at this
     omega
    ·intro hne
     refine ⟨b,o,rfl,hb,?_⟩
     rw [show o + (j + 1) * 6 = o + j * 6 + 6 by omega]
     exact hr'.keep (Nat.le_refl _) (fun p hp => hb1.cell (by omega)) hb
theorem nodes_any (s : Fo) : NodesOK s:=Fo.by_parts nodes_step s
end Go.Proofs.YtmmecapgnmlaiaaGreatDoor
/- Maps of the call's own, keyed by names or by strings, whose elements are kept as they are -/
namespace Go.Proofs.YtmmecapgnmlaiaaGreatDoor
open Go.RowKit Go.Proofs
open Go.Maps (Keyed IsMap)
def raw (v : Value) : Option (DataW Value × List MemPlace):=some (.held v,[])
def encO : Option Value → DataW Value
 | none => .nil
 | some v => .held v
theorem encO_inj {a b : Option Value} (h : encO a = encO b) : a = b:=by
 cases a <;> cases b <;> simp [encO] at h <;> simp [h]
structure KeyT (α : Type) where
 ty : TypeId
 val : α → Value
 ok : α → Prop
 law : Keyed Tryz.prog ty
 key : α → Lit
 tot : ∀ a,ok a → keyOf Tryz.prog ty (val a) = some (key a)
 inv : ∀ v kl,keyOf Tryz.prog ty v = some kl → ∃ a,ok a ∧ v = val a
 inj : ∀ a b,val a = val b → a = b
theorem KeyT.key_inj {α : Type} (K : KeyT α) {a b : α} (ha : K.ok a) (hb : K.ok b) (h : K.key a = K.key b) : a = b:=
 K.inj a b (K.law.inj (K.tot a ha) (by rw [h];exact K.tot b hb))
section
variable {α : Type}
def MapA (K : KeyT α) (w : World) (b N : Nat) (g : α → Option Value) : Prop:=
 ∃ n D,w.ownsMap (H:=Value) Tryz.prog K.ty raw b n D ∧ n ≤ N ∧ IsMap D ∧ ∀ a,K.ok a → D.atKey (K.key a) .nil = encO (g a)
theorem MapA.made (K : KeyT α) (w : World) : MapA K (w.alloc (.map #[] 0)) w.heap.size 0 (fun _ => none):=
 ⟨0,_,World.ownsMap_made _ _ _ _,Nat.le_refl _,⟨_,rfl⟩,fun _ _ => Maps.atKey_of_not_has rfl _⟩
theorem MapA.lt {K : KeyT α} {w : World} {b N : Nat} {g : α → Option Value} (h : MapA K w b N g) : b < w.heap.size:=by
 obtain ⟨n,D,ho,_⟩:=h
 exact ho.lt
theorem MapA.keep {K : KeyT α} {w w' : World} {b N : Nat} {g : α → Option Value} (h : MapA K w b N g) (e : w'.heap[b]? = w.heap[b]?) : MapA K w' b N g:=by
 obtain ⟨n,D,⟨es,cl,h,r⟩,h2⟩:=h
 exact ⟨n,D,⟨es,cl,e.trans h,r⟩,h2⟩
theorem MapA.cong {K : KeyT α} {w : World} {b N : Nat} {g g' : α → Option Value} (h : MapA K w b N g) (e : ∀ a,K.ok a → g a = g' a) : MapA K w b N g':=by
 obtain ⟨n,D,h1,h2,h3,h4⟩:=h
 exact ⟨n,D,h1,h2,h3,fun a ha => by rw [← e a ha];exact h4 a ha⟩
theorem MapA.look {K : KeyT α} {w : World} {b N : Nat} {g : α → Option Value} (h : MapA K w b N g) (c : Bool) {t e : TypeId} (ht : Tryz.prog.underlying t = some (.map K.ty e)) {z : Value} (hz : (zeroValue e).run Tryz.prog w = .ok z w) {a : α} (ha : K.ok a) :
  (Instr.lookup t (.map (some b)) (K.val a) c).run Tryz.prog w = .ok (if c then .tuple #[(g a).getD z,.bool (g a).isSome] else (g a).getD z) w:=by
 obtain ⟨n,D,⟨es,clock,hb,F,_,rfl⟩,_,_,hat⟩:=h
 have hg:=hat a ha
 rcases Maps.fit_look c K.law ht hz hb F (K.tot a ha) with ⟨hrun,_,h2⟩ | ⟨e0,y,_,_,hrun,hR,h2,_⟩
 ·rw [h2] at hg
  have : g a = none:=encO_inj (b:=none) (by rw [← hg];rfl)
  rw [hrun,this];rfl
 ·rw [h2] at hg
  simp only [raw,Option.some.injEq] at hR
  have : g a = some e0.val:=encO_inj (b:=some e0.val) (by rw [← hg,← hR];rfl)
  rw [hrun,this];rfl
theorem MapA.put [DecidableEq α] {K : KeyT α} {w : World} {b N : Nat} {g : α → Option Value} (h : MapA K w b N g) {t e : TypeId} (ht : Tryz.prog.underlying t = some (.map K.ty e)) (hN : N < maxLen) {a : α} (ha : K.ok a) (v : Value) :
  ∃ w',(Instr.mapUpdate t (.map (some b)) (K.val a) v).run Tryz.prog w = .ok () w' ∧ MapA K w' b (N + 1) (fun x => if x = a then some v else g x) ∧ w.grownBy w' (some b):=by
 obtain ⟨n,D,ho,hn,hm,hat⟩:=h
 obtain ⟨w',hrun,ho',hg⟩:=ho.update (d:=.held v) (ps:=[]) K.law ht (by omega) (K.tot a ha) rfl
 refine ⟨w',hrun,⟨n + 1,_,ho',by omega,hm.put _ _,fun x hx => ?_⟩,hg⟩
 have hk:=K.law.key (K.tot x hx)
 by_cases e : x = a
 ·subst e
  rw [Maps.atKey_put_same hm hk];simp [encO]
 ·rw [Maps.atKey_put_other (fun h => e (K.key_inj hx ha h)),hat x hx];simp [e]
section
variable {F : Fence} {n : Nat}
end
end
/-! ### names and strings as keys -/
set_option maxRecDepth 100000 in
theorem Tryz.laidOutK : laidOutB Tryz.prog = true:=by kernel_rfl
set_option maxRecDepth 100000 in
theorem Tryz.rowName : 102 < Tryz.prog.types.size:=of_decide_eq_true (by kernel_rfl)
set_option maxRecDepth 100000 in
theorem Tryz.wideName : (match Tryz.prog.underlying 102 with | some (.array _ _) | some (.struct _) => true | _ => false) = true:=by kernel_rfl
set_option maxRecDepth 100000 in
theorem lawName : Keyed Tryz.prog 102:=Keyed.of_law (deep_law_laid Tryz.laidOutK (m:=2) (by omega) Tryz.rowName (by kernel_rfl) Tryz.wideName)
def nameV (n : ByteArray × Int) : Value:=.agg #[.string n.1,.int .i64 n.2]
def NOk (n : ByteArray × Int) : Prop:=n.1.size ≤ maxLen ∧ (Lit.int .i64 n.2).wf = true
def keyN (n : ByteArray × Int) : Lit:=.string (keyBytes [.string n.1.data.toList,.int .i64 n.2])
theorem Tryz.keyTypeName : Tryz.prog.keyType 102 = true:=by kernel_rfl
theorem Tryz.cellsName : Tryz.prog.cellsOf 102 = 2:=by kernel_rfl
theorem Tryz.cellsStringK : Tryz.prog.cellsOf 9 = 1:=by kernel_rfl
theorem Tryz.cellsIntK : Tryz.prog.cellsOf 3 = 1:=by kernel_rfl
set_option maxRecDepth 100000 in
theorem Tryz.fuelK : ∃ k,Tryz.prog.types.size + 1 = k + 2:=⟨Tryz.prog.types.size - 1,by kernel_rfl⟩
theorem keyLits_str (k : Nat) (x : Value) : Tryz.prog.keyLits (k + 1) 9 [x] = (match x with | .string s => if s.size ≤ maxLen then some [.string s.data.toList] else none | _ => none):=by
 unfold Program.keyLits
 simp only [Tryz.underlying9]
 cases x <;> rfl
theorem keyLits_int (k : Nat) (x : Value) : Tryz.prog.keyLits (k + 1) 3 [x] = (match x with | .int q n => if q = .i64 ∧ (Lit.int .i64 n).wf = true then some [.int .i64 n] else none | _ => none):=by
 unfold Program.keyLits
 simp only [Tryz.underlying3]
 cases x
 case int q n =>
  by_cases h : q = .i64
  ·subst h;rfl
  ·simp [h]
 all_goals rfl
theorem keyLits_name (k : Nat) (x y : Value) : Tryz.prog.keyLits (k + 2) 102 [x,y] = (match x,y with | .string s,.int q n => if s.size ≤ maxLen ∧ q = .i64 ∧ (Lit.int .i64 n).wf = true then some [.string s.data.toList,.int .i64 n] else none | _,_ => none):=by
 unfold Program.keyLits
 simp only [Tryz.underlying102,Tryz.cellsName]
 simp [keyLits_str,keyLits_int,Tryz.cellsStringK,Tryz.cellsIntK]
 cases x <;> cases y <;> simp
 rename_i s q n
 by_cases h1 : s.size ≤ maxLen <;> by_cases h2 : q = .i64 ∧ (Lit.int .i64 n).wf = true <;> simp [h1,h2]
theorem keyOf_name (v : Value) : ∃ k,keyOf Tryz.prog 102 v = if v.formed Tryz.prog 102 = true then (Tryz.prog.keyLits (k + 2) 102 v.cells.toList).map (fun ls => .string (keyBytes ls)) else none:=by
 obtain ⟨k,hk⟩:=Tryz.fuelK
 refine ⟨k,?_⟩
 unfold keyOf
 rw [hk]
 simp only [Tryz.underlying102,Tryz.keyTypeName,Bool.true_and]
theorem formedName (x y : Value) : (Value.agg #[x,y]).formed Tryz.prog 102 = true:=by
 simp [Value.formed,Tryz.underlying102,Tryz.cellsName]
set_option maxRecDepth 100000 in
theorem keyN_some {n : ByteArray × Int} (h : NOk n) : keyOf Tryz.prog 102 (nameV n) = some (keyN n):=by
 obtain ⟨k,hk⟩:=keyOf_name (nameV n)
 rw [hk]
 unfold nameV keyN
 rw [if_pos (formedName _ _)]
 simp [Value.cells,keyLits_name,h.1,h.2]
set_option maxRecDepth 100000 in
theorem keyN_inv {v : Value} {kl : Lit} (h : keyOf Tryz.prog 102 v = some kl) : ∃ n,NOk n ∧ v = nameV n:=by
 obtain ⟨k,hk⟩:=keyOf_name v
 rw [hk] at h
 split at h
 ·rename_i hf
  unfold Value.formed at hf
  rw [Tryz.underlying102] at hf
  cases v with
  | agg cs =>
   rw [Tryz.cellsName] at hf
   simp only [beq_iff_eq] at hf
   match cs,hf with
   | ⟨[x,y]⟩,_ =>
    simp only [Value.cells,keyLits_name] at h
    cases x with
    | string s =>
     cases y with
     | int q n =>
      simp at h
      obtain ⟨⟨h1,rfl,h2⟩,_⟩:=h
      exact ⟨(s,n),⟨h1,h2⟩,rfl⟩
     | _ => simp at h
    | _ => simp at h
  | _ => simp at hf
 ·cases h
def nameK : KeyT (ByteArray × Int) where
 ty:=102
 val:=nameV
 ok:=NOk
 law:=lawName
 key:=keyN
 tot _ h:=keyN_some h
 inv _ _ h:=keyN_inv h
 inj a b h:=by
  simp only [nameV,Value.agg.injEq,Array.mk.injEq,List.cons.injEq,Value.string.injEq,Value.int.injEq,true_and,and_true] at h
  exact Prod.ext h.1 h.2
def strK : KeyT ByteArray where
 ty:=9
 val:=.string
 ok s:=s.size ≤ maxLen
 law:=Maps.string_keyed Tryz.underlying9
 key s:=.string s.data.toList
 tot s h:=by simp [keyOf,Tryz.underlying9,mapKey,h]
 inv v kl h:=by
  cases v <;> simp [keyOf,Tryz.underlying9,mapKey] at h
  exact ⟨_,h.1,rfl⟩
 inj a b h:=by simpa using h
end Go.Proofs.YtmmecapgnmlaiaaGreatDoor
/- Maps keyed by ints -/
namespace Go.Proofs.YtmmecapgnmlaiaaGreatDoor
open Go.RowKit Go.Proofs
def intK : KeyT Int where
 ty:=3
 val:=.int .i64
 ok i:=(Lit.int .i64 i).wf = true
 law:=Maps.int_keyed Tryz.underlying3
 key i:=.int .i64 i
 tot i h:=by simp [keyOf,Tryz.underlying3,mapKey,h]
 inv v kl h:=by
  cases v <;> simp [keyOf,Tryz.underlying3,mapKey] at h
  obtain ⟨⟨rfl,h1⟩,_⟩:=h
  exact ⟨_,h1,rfl⟩
 inj a b h:=by simpa using h
end Go.Proofs.YtmmecapgnmlaiaaGreatDoor
