/- Small lemmas for the walks -/
import Derived.WalkKit
import Derived.Lib.Hide
import Derived.Test.YtnfndgmlnoeelaaGreatDoorProg
import Derived.Deep.LoopGhost
import Derived.WalkLawsBesides
import Derived.WalkSpells
namespace Go.Proofs.YtnfndgmlnoeelaaGreatDoor
open Go.RowKit
theorem bcell {W w1 : World} {B : Nat} (hb : Below B W w1) : (∀ b o,b < B → w1.cell? ⟨b,o,none⟩ = W.cell? ⟨b,o,none⟩) ∧ (∀ b o,b < B → w1.frozen? ⟨b,o,none⟩ = W.frozen? ⟨b,o,none⟩):=
 ⟨fun b o h => hb.cell (p:=⟨b,o,none⟩) h,fun b o h => hb.frozen (p:=⟨b,o,none⟩) h⟩
theorem wrap64_small {n : Int} (h0 : -9223372036854775808 ≤ n) (h1 : n < 9223372036854775808) : wrap64 n = n:=by unfold wrap64;omega
theorem wrap64_add (a b : Int) : wrap64 (wrap64 a + wrap64 b) = wrap64 (a + b):=by unfold wrap64;omega
theorem ret_int {k : IntKind} {a b : Int} (h : a = b) : Ending.returned (.int k a) = .returned (.int k b):=by rw [h]
theorem val_int {k : IntKind} {a b : Int} (h : a = b) : Value.int k a = .int k b:=by rw [h]
end Go.Proofs.YtnfndgmlnoeelaaGreatDoor
/- Ghost data: expressions as forests, and how they lie in memory. -/
namespace Go.Proofs.YtnfndgmlnoeelaaGreatDoor
open Go.RowKit
inductive Fo where
 | nil
 | cons (k : Int) (n m : ByteArray) (i d : Int) (A : Option Addr) (c : Nat) (s r : Fo)
namespace Fo
def len : Fo → Nat
 | .nil => 0
 | .cons _ _ _ _ _ _ _ _ r => r.len + 1
def count : Fo → Nat
 | .nil => 0
 | .cons _ _ _ _ _ _ _ s r => s.count + 1 + r.count
def At (w : World) (B : Nat) : Fo → Nat → Nat → Prop
 | .nil,_,_ => True
 | .cons k n m i d A c s r,b,o =>
  w.cell? ⟨b,o,none⟩ = some (.int .i64 k) ∧ w.cell? ⟨b,o + 1,none⟩ = some (.string n) ∧ w.cell? ⟨b,o + 2,none⟩ = some (.string m) ∧
  w.cell? ⟨b,o + 3,none⟩ = some (.int .i64 i) ∧ w.cell? ⟨b,o + 4,none⟩ = some (.int .i64 d) ∧
  (w.cell? ⟨b,o + 5,none⟩ = some (.slice A s.len c) ∧ s.len ≤ c ∧ c ≤ maxLen ∧ (s ≠ .nil → ∃ b' o',A = some ⟨b',o',none⟩ ∧ b' < B ∧ s.At w B b' o')) ∧
  r.At w B b (o + 6)
def Sl (w : World) (B : Nat) (A : Option Addr) (c : Nat) (s : Fo) : Prop:=
 s.len ≤ c ∧ c ≤ maxLen ∧ (s ≠ .nil → ∃ b' o',A = some ⟨b',o',none⟩ ∧ b' < B ∧ s.At w B b' o')
theorem At.keep {w w' : World} {B B' : Nat} (hB : B ≤ B') (hk : ∀ p : Addr,p.block < B → w'.cell? p = w.cell? p) : ∀ {s : Fo} {b o : Nat},b < B → s.At w B b o → s.At w' B' b o
 | .nil,_,_,_,_ => trivial
 | .cons _ _ _ _ _ _ _ s r,b,o,hb,h => by
  obtain ⟨h0,h1,h2,h3,h4,⟨h5,hc,hm,hs⟩,hr⟩:=h
  refine ⟨(hk _ hb).trans h0,(hk _ hb).trans h1,(hk _ hb).trans h2,(hk _ hb).trans h3,(hk _ hb).trans h4,⟨(hk _ hb).trans h5,hc,hm,fun hne => ?_⟩,At.keep hB hk hb hr⟩
  obtain ⟨b',o',e,hb',hs'⟩:=hs hne
  exact ⟨b',o',e,Nat.lt_of_lt_of_le hb' hB,At.keep hB hk hb' hs'⟩
theorem Sl.keep {w w' : World} {B B' : Nat} {A : Option Addr} {c : Nat} {s : Fo} (h : Sl w B A c s) (hB : B ≤ B') (hk : ∀ p : Addr,p.block < B → w'.cell? p = w.cell? p) : Sl w' B' A c s:=
 ⟨h.1,h.2.1,fun hne => by
  obtain ⟨b',o',e,hb',hs'⟩:=h.2.2 hne
  exact ⟨b',o',e,Nat.lt_of_lt_of_le hb' hB,hs'.keep hB hk hb'⟩⟩
theorem Sl.below {w w' : World} {A : Option Addr} {c : Nat} {s : Fo} {B : Nat} (h : Sl w B A c s) (hb : Below B w w') : Sl w' B A c s:=h.keep (Nat.le_refl _) fun _ hp => hb.cell hp
def All (p : Fo → Prop) : Fo → Prop
 | .nil => True
 | .cons _ _ _ _ _ _ _ s r => p s ∧ r.All p
theorem by_parts {p : Fo → Prop} (step : ∀ s,s.All p → p s) (s : Fo) : p s:=by
 have h : ∀ s : Fo,s.All p ∧ p s:=by
  intro s
  induction s with
  | nil => exact ⟨trivial,step _ trivial⟩
  | cons k n m i d A c s r hs hr =>
   have ha : (Fo.cons k n m i d A c s r).All p:=⟨hs.2,hr.1⟩
   exact ⟨ha,step _ ha⟩
 exact (h s).2
end Fo
def SlS (w : World) (B : Nat) (A : Option Addr) (c : Nat) (l : List ByteArray) : Prop:=
 l.length ≤ c ∧ c ≤ maxLen ∧ (l ≠ [] → ∃ b o,A = some ⟨b,o,none⟩ ∧ b < B ∧ ∀ j s,l[j]? = some s → w.cell? ⟨b,o + j,none⟩ = some (.string s))
theorem SlS.keep {w w' : World} {B B' : Nat} {A : Option Addr} {c : Nat} {l : List ByteArray} (h : SlS w B A c l) (hB : B ≤ B') (hk : ∀ p : Addr,p.block < B → w'.cell? p = w.cell? p) : SlS w' B' A c l:=
 ⟨h.1,h.2.1,fun hne => by
  obtain ⟨b,o,e,hb,hs⟩:=h.2.2 hne
  exact ⟨b,o,e,Nat.lt_of_lt_of_le hb hB,fun j s hj => (hk _ hb).trans (hs j s hj)⟩⟩
theorem SlS.below {w w' : World} {A : Option Addr} {c : Nat} {l : List ByteArray} {B : Nat} (h : SlS w B A c l) (hb : Below B w w') : SlS w' B A c l:=h.keep (Nat.le_refl _) fun _ hp => hb.cell hp
theorem SlS.at_ {w : World} {B : Nat} {A : Option Addr} {c : Nat} {l : List ByteArray} (h : SlS w B A c l) {j : Nat} (hj : j < l.length) : ∃ b o,A = some ⟨b,o,none⟩ ∧ b < B ∧ w.cell? ⟨b,o + j,none⟩ = some (.string l[j]):=by
 obtain ⟨b,o,e,hb,hs⟩:=h.2.2 (by intro e;subst e;simp at hj)
 exact ⟨b,o,e,hb,hs j _ (List.getElem?_eq_getElem hj)⟩
theorem SlS.nil (w : World) (B : Nat) (A : Option Addr) (c : Nat) (hc : c ≤ maxLen) : SlS w B A c []:=⟨by simp,hc,fun h => absurd rfl h⟩
theorem Fo.Sl.nil (w : World) (B : Nat) (A : Option Addr) (c : Nat) (hc : c ≤ maxLen) : Fo.Sl w B A c .nil:=⟨by simp [Fo.len],hc,fun h => absurd rfl h⟩
end Go.Proofs.YtnfndgmlnoeelaaGreatDoor
/- ref21.Nodes -/
namespace Go.Proofs.YtnfndgmlnoeelaaGreatDoor
open Go.RowKit Go.Proofs

def NodesOK (s : Fo) : Prop:=∀ (k : Int) (n m : ByteArray) (i d : Int) (A : Option Addr) (c : Nat) (w : World),s.Sl w w.heap.size A c →
  Calls Tryz.prog 105 #[.agg #[.int .i64 k,.string n,.string m,.int .i64 i,.int .i64 d,.slice A s.len c]] w fun e w' => e = .returned (.int .i64 (wrap64 (1 + s.count))) ∧ Below w.heap.size w w'

theorem nodes_step (s : Fo) (ih : s.All NodesOK) : NodesOK s:=by
 intro k n m i d A c w hs
 have HS:=Lib.hid hs
 clear hs
 have IH:=Lib.hid ih
 clear ih
 have hcap : s.len ≤ 9223372036854775807:=by have:=HS.out.1;have:=HS.out.2.1;unfold maxLen at this;omega
 go_enter Tryz.func105,Tryz.ntmps105
 go_wp2
 go_loopg [3,4] s.len (fun g t ct wr => ∃ (j : Nat) (r : Fo),g = r.len ∧ j + r.len = s.len ∧ ct = .int .i64 j ∧ t = .int .i64 (wrap64 (1 + s.count - r.count)) ∧ r.All NodesOK ∧
  (r ≠ .nil → ∃ b o,A = some ⟨b,o,none⟩ ∧ b < w.heap.size ∧ r.At wr w.heap.size b (o + j * 6)) ∧
  Below (w.heap.size + 1) (w.alloc (.cells #[.int .i64 k,.string n,.string m,.int .i64 i,.int .i64 d,.slice A s.len c] 60)) wr)
 case atStart =>
  refine ⟨0,s,rfl,by omega,rfl,?_,IH.out,?_,Below.refl _ _⟩
  ·rw [show (1 + (s.count : Int) - s.count) = 1 by omega,wrap64_small (by omega) (by omega)]
  ·intro hne
   obtain ⟨b,o,e,hb,h⟩:=HS.out.2.2 hne
   exact ⟨b,o,e,hb,by rw [Nat.zero_mul,Nat.add_zero];exact h.keep (Nat.le_refl _) (fun p hp => World.cell?_alloc_lt w _ p hp) hb⟩
 case round =>
  obtain ⟨j,r,HG,hjr,rfl,rfl,HA,HAt,HB⟩:=hrel
  have hbox : wr.cell? ⟨w.heap.size,5,none⟩ = some (.slice A s.len c):=(HB.cell (p:=⟨w.heap.size,5,none⟩) (by simp)).trans (by go_simp)
  cases r with
  | nil =>
   have hjr2 : s.len ≤ j:=by simp only [Fo.len] at hjr;omega
   have hjr1 : j ≤ s.len:=by simp only [Fo.len] at hjr;omega
   clear hjr HG
   go_wp2
   go_ret
   refine ⟨ret_int (congrArg _ ?_),?_⟩
   ·simp [Fo.count]
   ·exact ((Below.refl _ _).alloc (Nat.le_refl _) _).trans (HB.mono (by omega))
  | cons rk rn rm ri rd A' c' rs rr =>
   have hjr2 : j < s.len:=by simp only [Fo.len] at hjr;omega
   obtain ⟨b,o,rfl,hb,h0,h1,h2,h3,h4,⟨h5,hc',hm',hs'⟩,hr'⟩:=HAt (by simp)
   obtain ⟨cnt,HC⟩ : ∃ cnt,Hid ((Fo.cons rk rn rm ri rd A' c' rs rr).count = cnt):=⟨_,rfl⟩
   rw [HC.out]
   have HS':=Lib.hid hs'
   clear hs'
   go_wp2_with fail
   refine (HA.1 _ _ _ _ _ _ _ _ ?_).mono ?_
   ·exact ⟨hc',hm',fun hne => by
     obtain ⟨b',o',e,hb',h'⟩:=HS'.out hne
     have:=HB.size
     simp at this
     exact ⟨b',o',e,by omega,h'.keep (by omega) (fun _ _ => rfl) hb'⟩⟩
   rintro e w1 ⟨rfl,hb1⟩
   go_wp2
   go_roundg rr.len
   case measure => rw [HG];simp [Fo.len]
   case rel =>
    have hsz:=HB.size
    simp at hsz
    refine ⟨j + 1,rr,rfl,by simp only [Fo.len] at hjr;omega,by go_num,?_,HA.2,?_,HB.trans (hb1.mono (by omega))⟩
    ·refine val_int ?_
     rw [wrap64_add]
     refine congrArg _ ?_
     have:=HC.out
     simp only [Fo.count] at this
     omega
    ·intro hne
     refine ⟨b,o,rfl,hb,?_⟩
     rw [show o + (j + 1) * 6 = o + j * 6 + 6 by omega]
     exact hr'.keep (Nat.le_refl _) (fun p hp => hb1.cell (by omega)) hb

theorem nodes_any (s : Fo) : NodesOK s:=Fo.by_parts nodes_step s
end Go.Proofs.YtnfndgmlnoeelaaGreatDoor
