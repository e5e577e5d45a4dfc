/- bind.Check: words -/
import Derived.Test.YtmmecapgnmlaiaaGreatDoorZxi
import Derived.Test.YtmmecapgnmlaiaaGreatDoorZxa
import Derived.Test.YtmmecapgnmlaiaaGreatDoorZxb
import Derived.Test.YtmmecapgnmlaiaaGreatDoorZxc
import Derived.Maps.OwnOps
import Derived.Test.YtmmecapgnmlaiaaGreatDoorZxm
import Derived.Deep.Onto
import Derived.Deep.QuietTactic
import Derived.BigQuiet
import Derived.IntWalk
namespace Go.Proofs.YtmmecapgnmlaiaaGreatDoor
open Go.RowKit Go.Proofs Go.Shelf
def SlD (w : World) (B : Nat) (A : Option Addr) (c : Nat) (l : List Dc) : Prop:=
 l.length ≤ c ∧ c ≤ maxLen ∧ (l ≠ [] → ∃ b o,A = some ⟨b,o,none⟩ ∧ b < B ∧ ∀ j x,l[j]? = some x → (∀ q v,x.cells[q]? = some v → w.cell? ⟨b,o + j * 11 + q,none⟩ = some v) ∧ x.Ok w B)
theorem SlD.keep {w w' : World} {B B' : Nat} {A : Option Addr} {c : Nat} {l : List Dc} (h : SlD w B A c l) (hB : B ≤ B') (hk : ∀ p : Addr,p.block < B → w'.cell? p = w.cell? p) : SlD w' B' A c l:=
 ⟨h.1,h.2.1,fun hne => by
  obtain ⟨b,o,e,hb,hs⟩:=h.2.2 hne
  exact ⟨b,o,e,Nat.lt_of_lt_of_le hb hB,fun j x hj => ⟨fun q v hq => (hk _ hb).trans ((hs j x hj).1 q v hq),(hs j x hj).2.1.keep hB hk,(hs j x hj).2.2.keep hB hk⟩⟩⟩
def useAll (label : ByteArray) (l : List ByteArray) : Nat → Nat → Int
 | 0,_ => 0
 | f + 1,j => if useE label l j = 0 then useAll label l f (j + 1) else useE label l j
def declsE (label : ByteArray) : Option Int → List Dc → Int
 | _,[] => 0
 | none,x :: r => if declE label x = 0 then declsE label (some x.id) r else declE label x
 | some p,x :: r => if declE label x = 0 then (if x.id ≤ p then 10 else declsE label (some x.id) r) else declE label x
def checkE (label : ByteArray) (uses : List ByteArray) (decls : List Dc) : Int:=
 if labelB label = false then 6 else
 if srcE uses ≠ 0 then srcE uses else
 if useAll label uses uses.length 0 ≠ 0 then useAll label uses uses.length 0 else
 if 100 < decls.length then 4 else declsE label none decls
def prevI (l : List Dc) : Nat → Option Int
 | 0 => none
 | j + 1 => (l[j]?).map Dc.id
end Go.Proofs.YtmmecapgnmlaiaaGreatDoor
/- compile.hasSum -/
namespace Go.Proofs.YtmmecapgnmlaiaaGreatDoor
open Go.RowKit Go.Proofs Go.Shelf
def Fo.sum : Fo → Bool
 | .nil => false
 | .cons k _ _ _ _ _ _ s r => (k == 15 || s.sum) || r.sum
end Go.Proofs.YtmmecapgnmlaiaaGreatDoor
/- sets of the call's own: map[K]bool in which all that is stored is true -/
namespace Go.Proofs.YtmmecapgnmlaiaaGreatDoor
open Go.RowKit Go.Proofs Go.Shelf
open Go.Maps (Keyed IsMap)
end Go.Proofs.YtmmecapgnmlaiaaGreatDoor
/- compile.checkConflicts -/
namespace Go.Proofs.YtmmecapgnmlaiaaGreatDoor
open Go.RowKit Go.Proofs Go.Shelf
def hasN (met : List ByteArray) (s : ByteArray) : Bool:=met.any fun t => t.data.toList == s.data.toList
def nameOf (x : Dc) : ByteArray:=x.names.headD ⟨#[]⟩
def StrD (l : List Dc) : Prop:=∀ x ∈ l,∀ s ∈ x.names,s.size ≤ maxLen
end Go.Proofs.YtmmecapgnmlaiaaGreatDoor
/- bind.Refs -/
namespace Go.Proofs.YtmmecapgnmlaiaaGreatDoor
open Go.RowKit Go.Proofs Go.Shelf
def refL (l : List Nd) : List (ByteArray × Int):=l.filterMap fun x => if x.k = 5 then some (x.n,x.i) else none
theorem refL_C : ∀ l : List Nd,refC l = namesC (refL l) ∧ refN l = (refL l).length
 | [] => ⟨rfl,rfl⟩
 | x :: l => by
  obtain ⟨h1,h2⟩:=refL_C l
  by_cases h : x.k = 5
  ·refine ⟨?_,?_⟩
   ·simp only [refC,refL,List.flatMap_cons,List.filterMap_cons,if_pos h,namesC,encN] at h1 ⊢
    rw [h1]
   ·simp only [refN,refL,List.filter_cons,List.filterMap_cons,if_pos h] at h2 ⊢
    simp [h,h2]
  ·refine ⟨?_,?_⟩
   ·simp only [refC,refL,List.flatMap_cons,List.filterMap_cons,if_neg h] at h1 ⊢
    rw [h1]
    rfl
   ·simp only [refN,refL,List.filter_cons,List.filterMap_cons,if_neg h] at h2 ⊢
    simp [h,h2]
def refsOf (l : List Nd) : List (ByteArray × Int):=compactL (sortNames (refL l))
theorem compact_small (A : Option Addr) (n cap : Nat) (w : World) (hn : n < 2) : Calls Tryz.prog 118 #[.slice A n cap] w fun e w' => e = .returned (.slice A n cap) ∧ w = w':=by
 have h : decide ((n : Int) < 2) = true:=by simp;omega
 go_enter Tryz.func118,Tryz.ntmps118
 go_wp2
 go_ret
 exact ⟨rfl,rfl⟩
def RefsP (R : List (ByteArray × Int)) (w : World) (e : Ending) (w' : World) : Prop:=∃ v,e = .returned v ∧ w'.ownsRow w.heap.size 102 2 v R.length (namesC R) ∧ Below w.heap.size w w'
theorem compactL_small {l : List (ByteArray × Int)} (h : l.length < 2) : compactL l = l:=by
 match l,h with
 | [],_ => rfl
 | [x],_ => rfl
theorem refs_tail (l : List (ByteArray × Int)) (base : Nat) (v : Value) (w : World) (h : w.ownsRow base 102 2 v l.length (namesC l)) :
  (∃ A c,v = .slice A l.length c) ∧ (v = .slice none 0 0 ∧ l = [] ∨ ∃ g cap,v = .slice (some ⟨g,0,none⟩) l.length cap):=by
 rcases h.2 with ⟨h1,h2⟩ | ⟨g,cap,cur,h1,_⟩
 ·exact ⟨⟨none,0,by rw [h1,h2]⟩,.inl ⟨h1,List.length_eq_zero_iff.1 h2⟩⟩
 ·exact ⟨⟨_,_,h1⟩,.inr ⟨g,cap,h1⟩⟩
set_option maxRecDepth 100000 in
set_option maxHeartbeats 1000000 in
theorem refs_any (k : Int) (n m : ByteArray) (i d : Int) (A : Option Addr) (c : Nat) (s : Fo) (w : World) (hs : s.Sl w w.heap.size A c) (hcnt : s.count ≤ 100000) :
  Calls Tryz.prog 54 #[.agg #[.int .i64 k,.string n,.string m,.int .i64 i,.int .i64 d,.slice A s.len c]] w (RefsP (refsOf (Fo.cons k n m i d A c s .nil).vis) w):=by
 obtain ⟨W0,hW0⟩ : ∃ W0,(w.alloc (.cells #[.int .i64 k,.string n,.string m,.int .i64 i,.int .i64 d,.slice A s.len c] 44)).alloc (.cells #[.slice none 0 0] 99) = W0:=⟨_,rfl⟩
 have hzw : w.heap.size + 1 < W0.heap.size:=by subst hW0;simp
 have hB0 : Below w.heap.size w W0:=by subst hW0;exact ((Below.refl _ _).alloc (Nat.le_refl _) _).alloc (by simp) _
 have e0 : W0.cell? ⟨w.heap.size,0,none⟩ = some (.int .i64 k):=by subst hW0;go_simp
 have e1 : W0.cell? ⟨w.heap.size,1,none⟩ = some (.string n):=by subst hW0;go_simp
 have e2 : W0.cell? ⟨w.heap.size,2,none⟩ = some (.string m):=by subst hW0;go_simp
 have e3 : W0.cell? ⟨w.heap.size,3,none⟩ = some (.int .i64 i):=by subst hW0;go_simp
 have e4 : W0.cell? ⟨w.heap.size,4,none⟩ = some (.int .i64 d):=by subst hW0;go_simp
 have e5 : W0.cell? ⟨w.heap.size,5,none⟩ = some (.slice A s.len c):=by subst hW0;go_simp
 have hl0 : W0.heap[w.heap.size + 1]? = some (.cells #[.slice none 0 0] 99 (0,0)):=by
  have h:=World.alloc_heap_new (w.alloc (.cells #[.int .i64 k,.string n,.string m,.int .i64 i,.int .i64 d,.slice A s.len c] 44)) (.cells #[.slice none 0 0] 99)
  rw [hW0] at h
  simpa using h
 have HC:=Lib.hid (refs_visit k n m i d A c s W0 w.heap.size (w.heap.size + 1) (hs.below hB0) (by omega) hcnt hl0)
 have HB0:=Lib.hid hB0
 obtain ⟨vs,Hvs⟩ : ∃ Q,Hid ((Fo.cons k n m i d A c s .nil).vis = Q):=⟨_,Lib.hid rfl⟩
 have hvl : vs.length ≤ 100001:=by rw [← Hvs.out,Fo.vis_length];simp [Fo.count];omega
 rw [Hvs.out] at HC ⊢
 clear hs hB0 hl0
 go_enter Tryz.func54,Tryz.ntmps54
 go_wp2_with fail
 refine HC.out.mono ?_
 rintro e w1 ⟨⟨v1,rfl⟩,hb1,hz1,v,hv1,hown1⟩
 obtain ⟨hrc,hrn⟩:=refL_C vs
 rw [hrc,hrn] at hown1
 obtain ⟨rl,Hrl⟩ : ∃ Q,Hid (refL vs = Q):=⟨_,Lib.hid rfl⟩
 have HRO : Hid (refsOf vs = compactL (sortNames rl)):=by show _ = _;rw [← Hrl.out];rfl
 rw [Hrl.out] at hown1
 have hrl : rl.length ≤ 1000000:=by rw [← Hrl.out,← hrn];have:=refN_le vs;omega
 have hc1:=cell_of_one hv1
 have HB1:=Lib.hid (And.intro (HB0.out.trans (hb1.mono (Nat.le_refl _))) (And.intro hown1 hv1))
 clear hrc hrn hb1 e0 e1 e2 e3 e4 e5 hv1
 rcases (refs_tail rl _ v w1 hown1).2 with ⟨rfl,rfl⟩ | ⟨g,cap,rfl⟩
 ·clear hown1
  go_wp2_with fail
  refine (sortN_none none 0 _ _).mono ?_
  rintro e w2 ⟨⟨v2,rfl⟩,rfl⟩
  go_wp2_with fail
  refine (compact_small none 0 0 _ (by omega)).mono ?_
  rintro e w3 ⟨rfl,rfl⟩
  go_wp2
  go_ret
  refine ⟨.slice none 0 0,rfl,?_,HB1.out.1⟩
  rw [HRO.out,show compactL (sortNames []) = [] by simp [sortNames,compactL]]
  exact World.ownsRow_nil _ _ _ _
 ·have hsl : (sortNames rl).length = rl.length:=by simp [sortNames]
  obtain ⟨sl,Hsl⟩ : ∃ Q,Hid (sortNames rl = Q):=⟨_,Lib.hid rfl⟩
  have HSN:=Lib.hid (sortN_any rl W0.heap.size g cap w1 hown1 hrl)
  unfold SortP at HSN
  rw [Hsl.out] at hsl HSN HRO
  obtain ⟨N,HN⟩ : ∃ Q,Hid (rl.length = Q):=⟨_,Lib.hid rfl⟩
  rw [HN.out] at HSN hc1 hsl hrl
  have Hsll:=Lib.hid hsl
  have hgl:=hown1.lt g rfl
  have hgn : g ≠ w.heap.size + 1:=by omega
  clear hown1 hsl
  go_wp2_with fail
  refine HSN.out.mono ?_
  rintro e w2 ⟨⟨v2,rfl⟩,hown2,hg2⟩
  rw [Hsll.out] at hown2
  have hc2 : w2.cell? ⟨w.heap.size + 1,0,none⟩ = some (.slice (some ⟨g,0,none⟩) N cap):=(World.cell?_of_block (hg2.block _ (by simp;omega) (by simp;omega))).trans hc1
  have HB2:=Lib.hid (And.intro (HB1.out.1.grown hg2 (by have:=HB1.out.1.size;omega) (fun q hq => by cases hq;have:=HB0.out.size;omega)) hown2)
  clear hown2 hg2
  by_cases hN : N < 2
  ·go_wp2_with fail
   refine (compact_small _ N cap _ hN).mono ?_
   rintro e w3 ⟨rfl,rfl⟩
   go_wp2
   go_ret
   refine ⟨.slice (some ⟨g,0,none⟩) N cap,rfl,?_,HB2.out.1⟩
   rw [HRO.out,compactL_small (by rw [Hsll.out];exact hN),Hsll.out]
   exact World.ownsRow.mono HB2.out.2 (by have:=HB0.out.size;omega)
  ·have hcm:=compact_any sl W0.heap.size g cap w2 (by rw [Hsll.out];exact HB2.out.2) (by rw [Hsll.out];exact hrl) (by rw [Hsll.out];omega)
   rw [Hsll.out] at hcm
   have HCM:=Lib.hid hcm
   clear hcm
   go_wp2_with fail
   refine HCM.out.mono ?_
   rintro e w3 ⟨v3,rfl,hown3,hg3⟩
   go_wp2
   go_ret
   refine ⟨v3,rfl,by rw [HRO.out];exact World.ownsRow.mono hown3 (by have:=HB0.out.size;omega),HB2.out.1.grown hg3 HB2.out.1.size (fun q hq => by cases hq;have:=HB0.out.size;omega)⟩
end Go.Proofs.YtmmecapgnmlaiaaGreatDoor
/- compile.checkRefs -/
namespace Go.Proofs.YtmmecapgnmlaiaaGreatDoor
open Go.RowKit Go.Proofs Go.Shelf
def Dc.refs (x : Dc) : List (ByteArray × Int):=refsOf x.body.vis
end Go.Proofs.YtmmecapgnmlaiaaGreatDoor
/- bind.Check -/
namespace Go.Proofs.YtmmecapgnmlaiaaGreatDoor
open Go.RowKit Go.Proofs Go.Shelf
theorem below_drewN {B : Nat} {w w' : World} (h : Below B w w') (n : Nat) : Below B w (w'.drewN n):=⟨h.os,h.tape,h.output,h.size,h.block⟩
set_option maxRecDepth 100000 in
set_option maxHeartbeats 2000000 in
theorem bCheck_any (label : ByteArray) (uses : List ByteArray) (uA : Option Addr) (uc : Nat) (decls : List Dc) (dA : Option Addr) (dc : Nat) (w : World) (hu : SlS w w.heap.size uA uc uses) (hd : SlD w w.heap.size dA dc decls) :
  Calls Tryz.prog 24 #[.agg #[.string label,.slice uA uses.length uc,.slice dA decls.length dc]] w fun e w' => e = .returned (.int .i64 (checkE label uses decls)) ∧ Below w.heap.size w w':=by
 obtain ⟨E,HE⟩ : ∃ E,Hid (E = checkE label uses decls):=⟨_,rfl⟩
 rw [← HE.out]
 obtain ⟨W0,hW0⟩ : ∃ W0,w.alloc (.cells #[.string label,.slice uA uses.length uc,.slice dA decls.length dc] 25) = W0:=⟨_,rfl⟩
 have hzw : w.heap.size < W0.heap.size:=by subst hW0;simp
 have hB0 : Below w.heap.size w W0:=by subst hW0;exact (Below.refl _ _).alloc (Nat.le_refl _) _
 have h0 : W0.cell? ⟨w.heap.size,0,none⟩ = some (.string label):=by subst hW0;go_simp
 have h1 : W0.cell? ⟨w.heap.size,1,none⟩ = some (.slice uA uses.length uc):=by subst hW0;go_simp
 have h2 : W0.cell? ⟨w.heap.size,2,none⟩ = some (.slice dA decls.length dc):=by subst hW0;go_simp
 have hu0:=hu.keep (w':=W0) (B':=w.heap.size) (Nat.le_refl _) fun p hp => hB0.cell hp
 have hd0:=hd.keep (w':=W0) (B':=w.heap.size) (Nat.le_refl _) fun p hp => hB0.cell hp
 have HC : Hid (∀ X,Below W0.heap.size W0 X → Below w.heap.size w X ∧ w.heap.size < X.heap.size ∧ SlS X X.heap.size uA uc uses ∧ SlD X w.heap.size dA dc decls ∧ X.cell? ⟨w.heap.size,0,none⟩ = some (.string label) ∧ X.cell? ⟨w.heap.size,1,none⟩ = some (.slice uA uses.length uc) ∧ X.cell? ⟨w.heap.size,2,none⟩ = some (.slice dA decls.length dc)):=fun X hX =>
  ⟨hB0.trans (hX.mono (by omega)),Nat.lt_of_lt_of_le hzw hX.size,hu0.keep (Nat.le_trans (Nat.le_of_lt hzw) hX.size) (fun p hp => hX.cell (by omega)),hd0.keep (Nat.le_refl _) (fun p hp => hX.cell (by omega)),(hX.cell (p:=⟨w.heap.size,0,none⟩) hzw).trans h0,(hX.cell (p:=⟨w.heap.size,1,none⟩) hzw).trans h1,(hX.cell (p:=⟨w.heap.size,2,none⟩) hzw).trans h2⟩
 have hul:=hu.1
 have hul2:=hu.2.1
 have hdl:=hd.1
 have hdl2:=hd.2.1
 unfold maxLen at hul2 hdl2
 clear h1 h2 hu hd hu0 hd0 hB0
 have HL:=Lib.hid (label_any label W0)
 obtain ⟨E1,HE1⟩ : ∃ E1,Hid (srcE uses = E1):=⟨_,rfl⟩
 obtain ⟨E2,HE2⟩ : ∃ E2,Hid (useAll label uses uses.length 0 = E2):=⟨_,rfl⟩
 obtain ⟨bl,Hbl⟩ : ∃ bl,Hid (labelB label = bl):=⟨_,rfl⟩
 have HD : Hid (E = if bl = false then 6 else if E1 ≠ 0 then E1 else if E2 ≠ 0 then E2 else if 100 < decls.length then 4 else declsE label none decls):=by
  show E = _
  rw [HE.out,checkE,Hbl.out,HE1.out,HE2.out]
 clear HE
 go_enter Tryz.func24,Tryz.ntmps24
 go_wp2_with fail
 refine HL.out.mono ?_
 rintro e w1 ⟨rfl,hb1⟩
 rw [Hbl.out]
 obtain ⟨hB1,hz1,hs1,hd1,y0,y1,y2⟩:=HC.out w1 hb1
 have HB1:=Lib.hid (And.intro hb1 (And.intro hB1 hd1))
 clear hb1 hB1 hd1 hW0 h0 HL
 cases bl
 ·have HR:=Lib.hid (HD.out.trans (if_pos rfl))
  go_wp2
  go_ret
  exact ⟨by rw [HR.out];rfl,HB1.out.2.1⟩
 have HD2:=Lib.hid (HD.out.trans (if_neg (by simp)))
 have HC1:=Lib.hid (checkSource_any uses uA uc w1 hs1)
 clear hs1 HD
 go_wp2_with fail
 refine HC1.out.mono ?_
 rintro e w2 ⟨rfl,hb2⟩
 rw [HE1.out]
 have hb2':=HB1.out.1.trans (hb2.mono HB1.out.1.size)
 obtain ⟨hB2,hz2,hs2,hd2,x0,x1,x2⟩:=HC.out w2 hb2'
 have HB2:=Lib.hid (And.intro hb2' (And.intro hB2 (And.intro hs2 hd2)))
 clear hb2 hb2' hB2 y0 y1 y2 HC1 hs2 hd2
 by_cases e1 : E1 = 0
 rotate_left
 ·have HR:=Lib.hid (HD2.out.trans (if_pos e1))
  have e1' : (E1 != 0) = true:=by simpa using e1
  go_wp2
  go_ret
  exact ⟨by rw [HR.out];rfl,HB2.out.2.1⟩
 subst e1
 have HD3:=Lib.hid (HD2.out.trans (if_neg (by simp)))
 go_wp2
 go_loopg [4,5,23] uses.length (fun g _ _ ct wr => ∃ j : Nat,g = uses.length - j ∧ j ≤ uses.length ∧ ct = .int .i64 j ∧ E2 = useAll label uses (uses.length - j) j ∧ Below W0.heap.size W0 wr)
 case atStart => exact ⟨0,rfl,by omega,rfl,by rw [← HE2.out];rfl,HB2.out.1⟩
 case round =>
  obtain ⟨j,HG,hj,rfl,HA,HB⟩:=hrel
  have HG':=Lib.hid (And.intro HG (And.intro HA HB))
  obtain ⟨hBr,hzr,hsr,hdr,y0,y1,y2⟩:=HC.out wr HB
  have HBr:=Lib.hid (And.intro HB (And.intro hBr hdr))
  clear HG HA HB hBr hdr x0 x1 x2
  by_cases hlt : j < uses.length
  ·have HCU:=Lib.hid (checkUse_any label uses j uA uc wr hlt hsr)
   have HU:=Lib.hid (show useAll label uses (uses.length - j) j = if useE label uses j = 0 then useAll label uses (uses.length - (j + 1)) (j + 1) else useE label uses j by
    rw [show uses.length - j = (uses.length - (j + 1)) + 1 by omega];rfl)
   obtain ⟨Eu,HEu⟩ : ∃ Eu,Hid (useE label uses j = Eu):=⟨_,rfl⟩
   rw [HEu.out] at HU HCU
   clear hsr
   go_wp2_with fail
   refine HCU.out.mono ?_
   rintro e w3 ⟨rfl,hb3⟩
   have HB3:=Lib.hid (HBr.out.1.trans (hb3.mono HBr.out.1.size))
   clear hb3
   by_cases eu : Eu = 0
   ·subst eu
    go_wp2
    go_roundg (uses.length - (j + 1))
    case measure => rw [HG'.out.1];omega
    case rel => exact ⟨j + 1,rfl,by omega,by go_num,by rw [HG'.out.2.1,HU.out];simp,HB3.out⟩
   ·have eu' : (Eu != 0) = true:=by simpa using eu
    have HR:=Lib.hid (show E = Eu by
     have h : E2 = Eu:=by rw [HG'.out.2.1,HU.out,if_neg eu]
     rw [HD3.out,if_pos (by rw [h];exact eu),h])
    go_wp2
    go_ret
    exact ⟨by rw [HR.out];rfl,(HC.out _ HB3.out).1⟩
  ·obtain rfl : j = uses.length:=by omega
   have HD4:=Lib.hid (HD3.out.trans (if_neg (by rw [HG'.out.2.1,Nat.sub_self];simp [useAll])))
   clear hsr
   by_cases hlong : 100 < decls.length
   ·have HR:=Lib.hid (HD4.out.trans (if_pos hlong))
    go_wp2
    go_ret
    exact ⟨by rw [HR.out];rfl,HBr.out.2.1⟩
   ·have HD5:=Lib.hid (HD4.out.trans (if_neg hlong))
    go_wp2
    go_loopg [6,7,8,43] decls.length (fun g _ _ _ ct wr2 => ∃ j : Nat,g = decls.length - j ∧ j ≤ decls.length ∧ ct = .int .i64 j ∧ E = declsE label (prevI decls j) (decls.drop j) ∧ Below W0.heap.size W0 wr2)
    case atStart => exact ⟨0,rfl,by omega,rfl,HD5.out,HBr.out.1⟩
    case round =>
     obtain ⟨j,HG,hj2,rfl,HA,HB⟩:=hrel
     have HG2:=Lib.hid (And.intro HG HA)
     obtain ⟨hBr2,hzr2,_,hdr2,z0,z1,z2⟩:=HC.out wr HB
     have HBr2:=Lib.hid (And.intro HB hBr2)
     clear HG HA HB hBr2 y0 y1 y2 z1
     by_cases hlt2 : j < decls.length
     ·have hj3 : decls[j]? = some decls[j]:=List.getElem?_eq_getElem hlt2
      obtain ⟨b,o,rfl,hb,hall⟩:=hdr2.2.2 (by intro e;subst e;simp at hlt2)
      obtain ⟨hcs,hok⟩:=hall j _ hj3
      have HDR:=Lib.hid (show decls.drop j = decls[j] :: decls.drop (j + 1) from List.drop_eq_getElem_cons hlt2)
      have HPV:=Lib.hid (show prevI decls (j + 1) = some decls[j].id by simp [prevI,hj3])
      have HALL:=Lib.hid hall
      clear hall hj3 hdr2
      generalize decls[j] = x at hcs hok HDR HPV
      obtain ⟨Ed,HEd⟩ : ∃ Ed,Hid (declE label x = Ed):=⟨_,rfl⟩
      have HX:=Lib.hid (And.intro hok HEd.out)
      obtain ⟨xid,xkind,xpub,xnA,xnc,xnames,xdoubt,xk,xn,xm,xi,xd,xA,xc,xs⟩:=x
      have d0 : wr.cell? ⟨b,o + j * 11,none⟩ = some (.int .i64 xid):=hcs 0 _ rfl
      have d1 : wr.cell? ⟨b,o + j * 11 + 1,none⟩ = some (.int .i64 xkind):=hcs 1 _ rfl
      have d2 : wr.cell? ⟨b,o + j * 11 + 2,none⟩ = some (.bool xpub):=hcs 2 _ rfl
      have d3 : wr.cell? ⟨b,o + j * 11 + 3,none⟩ = some (.slice xnA xnames.length xnc):=hcs 3 _ rfl
      have d4 : wr.cell? ⟨b,o + j * 11 + 4,none⟩ = some (.bool xdoubt):=hcs 4 _ rfl
      have d5 : wr.cell? ⟨b,o + j * 11 + 5,none⟩ = some (.int .i64 xk):=hcs 5 _ rfl
      have d6 : wr.cell? ⟨b,o + j * 11 + 6,none⟩ = some (.string xn):=hcs 6 _ rfl
      have d7 : wr.cell? ⟨b,o + j * 11 + 7,none⟩ = some (.string xm):=hcs 7 _ rfl
      have d8 : wr.cell? ⟨b,o + j * 11 + 8,none⟩ = some (.int .i64 xi):=hcs 8 _ rfl
      have d9 : wr.cell? ⟨b,o + j * 11 + 9,none⟩ = some (.int .i64 xd):=hcs 9 _ rfl
      have d10 : wr.cell? ⟨b,o + j * 11 + 10,none⟩ = some (.slice xA xs.len xc):=hcs 10 _ rfl
      clear hcs hok
      obtain ⟨W3,hW3⟩ : ∃ W3,wr.alloc (.cells #[.int .i64 xid,.int .i64 xkind,.bool xpub,.slice xnA xnames.length xnc,.bool xdoubt,.int .i64 xk,.string xn,.string xm,.int .i64 xi,.int .i64 xd,.slice xA xs.len xc] 46) = W3:=⟨_,rfl⟩
      have hb3 : Below wr.heap.size wr W3:=by subst hW3;exact (Below.refl _ _).alloc (Nat.le_refl _) _
      have hz3 : wr.heap.size < W3.heap.size:=by subst hW3;simp
      have f0 : W3.cell? ⟨wr.heap.size,0,none⟩ = some (.int .i64 xid):=by subst hW3;go_simp
      have f1 : W3.cell? ⟨wr.heap.size,1,none⟩ = some (.int .i64 xkind):=by subst hW3;go_simp
      have f2 : W3.cell? ⟨wr.heap.size,2,none⟩ = some (.bool xpub):=by subst hW3;go_simp
      have f3 : W3.cell? ⟨wr.heap.size,3,none⟩ = some (.slice xnA xnames.length xnc):=by subst hW3;go_simp
      have f4 : W3.cell? ⟨wr.heap.size,4,none⟩ = some (.bool xdoubt):=by subst hW3;go_simp
      have f5 : W3.cell? ⟨wr.heap.size,5,none⟩ = some (.int .i64 xk):=by subst hW3;go_simp
      have f6 : W3.cell? ⟨wr.heap.size,6,none⟩ = some (.string xn):=by subst hW3;go_simp
      have f7 : W3.cell? ⟨wr.heap.size,7,none⟩ = some (.string xm):=by subst hW3;go_simp
      have f8 : W3.cell? ⟨wr.heap.size,8,none⟩ = some (.int .i64 xi):=by subst hW3;go_simp
      have f9 : W3.cell? ⟨wr.heap.size,9,none⟩ = some (.int .i64 xd):=by subst hW3;go_simp
      have f10 : W3.cell? ⟨wr.heap.size,10,none⟩ = some (.slice xA xs.len xc):=by subst hW3;go_simp
      have g0:=(hb3.cell (p:=⟨w.heap.size,0,none⟩) hzr2).trans z0
      have g2:=(hb3.cell (p:=⟨w.heap.size,2,none⟩) hzr2).trans z2
      have hcd:=(bCheckDecl_any label ⟨xid,xkind,xpub,xnA,xnc,xnames,xdoubt,xk,xn,xm,xi,xd,xA,xc,xs⟩ W3 ⟨HX.out.1.1.keep (by omega) (fun p hp => hb3.cell (by omega)),HX.out.1.2.keep (by omega) (fun p hp => hb3.cell (by omega))⟩)
      rw [HEd.out] at hcd
      simp only [Dc.cells] at hcd
      have HCD:=Lib.hid hcd
      clear hcd
      have HB3:=Lib.hid (HBr2.out.1.trans (hb3.mono HBr2.out.1.size))
      have hcl3 : ∀ p : Addr,p.block < wr.heap.size → W3.cell? p = wr.cell? p:=fun p hp => hb3.cell hp
      clear hb3
      go_wp2_with fail
      refine HCD.out.mono ?_
      rintro e w4 ⟨rfl,hb4⟩
      have HB4:=Lib.hid (HB3.out.trans (hb4.mono HB3.out.size))
      have i0:=(hb4.cell (p:=⟨wr.heap.size,0,none⟩) hz3).trans f0
      have i2:=(hb4.cell (p:=⟨w.heap.size,2,none⟩) (by simp;omega)).trans g2
      clear hW3 d0 d1 d2 d3 d4 d5 d6 d7 d8 d9 d10 f0 f1 f2 f3 f4 f5 f6 f7 f8 f9 f10 g0 g2 z0 z2
      by_cases ed : Ed = 0
      rotate_left
      ·have ed' : (Ed != 0) = true:=by simpa using ed
       have HR:=Lib.hid (show E = Ed by
        rw [HG2.out.2,HDR.out]
        cases prevI decls j <;> simp [declsE,HEd.out,ed])
       clear hb4 hcl3
       go_wp2
       go_ret
       exact ⟨by rw [HR.out];rfl,(HC.out _ HB4.out).1⟩
      subst ed
      cases j with
      | zero =>
       have HR:=Lib.hid (show E = declsE label (prevI decls (0 + 1)) (decls.drop (0 + 1)) by
        rw [HG2.out.2,HDR.out,HPV.out]
        simp [prevI,declsE,HEd.out])
       clear hb4 hcl3
       go_wp2_with fail
       go_quiet (fail)
       go_wp2
       go_roundg (decls.length - (0 + 1))
       case measure => rw [HG2.out.1];omega
       case rel => exact ⟨0 + 1,rfl,by omega,by go_num,HR.out,below_drewN HB4.out _⟩
      | succ j =>
       have hk3 : decls[j]? = some decls[j]:=List.getElem?_eq_getElem (by omega)
       have hk0 : wr.cell? ⟨b,o + j * 11,none⟩ = some (.int .i64 decls[j].id):=(HALL.out j _ hk3).1 0 _ rfl
       have HQ:=Lib.hid (show prevI decls (j + 1) = some decls[j].id by simp [prevI,hk3])
       clear hk3
       generalize decls[j].id = pid at hk0 HQ
       have hp1 : (0 : Int) < (j : Int) + 1:=by omega
       have hw1 : IntKind.i64.wrap ((j : Int) + 1 - 1) = j:=by rw [show ((j : Int) + 1 - 1) = j by omega];exact IntWalk.i64_in _ (by omega)
       have hj0 : (0 : Int) ≤ (j : Int):=by omega
       have hj1 : (j : Int) < (decls.length : Int):=by omega
       have hk4:=(hb4.cell (p:=⟨b,o + j * 11,none⟩) (by simp;omega)).trans ((hcl3 ⟨b,o + j * 11,none⟩ (by simp;omega)).trans hk0)
       by_cases hle : xid ≤ pid
       ·have HR:=Lib.hid (show E = 10 by
         rw [HG2.out.2,HDR.out,HQ.out]
         simp [declsE,HEd.out,hle])
        clear hb4 hcl3 hk0
        go_wp2_with fail
        go_quiet (fail)
        go_wp2
        go_ret
        exact ⟨by rw [HR.out];rfl,below_drewN (HC.out _ HB4.out).1 _⟩
       ·have HR:=Lib.hid (show E = declsE label (prevI decls (j + 1 + 1)) (decls.drop (j + 1 + 1)) by
         rw [HG2.out.2,HDR.out,HQ.out,HPV.out]
         simp [declsE,HEd.out,hle])
        have hle' : decide (xid ≤ pid) = false:=by simpa using hle
        clear hb4 hcl3 hk0
        go_wp2_with fail
        go_quiet (fail)
        go_wp2
        go_roundg (decls.length - (j + 1 + 1))
        case measure => rw [HG2.out.1];omega
        case rel => exact ⟨j + 1 + 1,rfl,by omega,by go_num,HR.out,below_drewN HB4.out _⟩
     ·obtain rfl : j = decls.length:=by omega
      have HR:=Lib.hid (show E = 0 by
       rw [HG2.out.2,List.drop_of_length_le (Nat.le_refl _)]
       cases prevI decls decls.length <;> rfl)
      clear hdr2
      go_wp2
      go_ret
      exact ⟨by rw [HR.out];rfl,HBr2.out.2⟩
end Go.Proofs.YtmmecapgnmlaiaaGreatDoor
/- infer.hasSum -/
namespace Go.Proofs.YtmmecapgnmlaiaaGreatDoor
open Go.RowKit Go.Proofs Go.Shelf
def iSumOK (s : Fo) : Prop:=∀ (k : Int) (n m : ByteArray) (i d : Int) (A : Option Addr) (c : Nat) (w : World),s.Sl w w.heap.size A c →
  Calls Tryz.prog 93 #[.agg #[.int .i64 k,.string n,.string m,.int .i64 i,.int .i64 d,.slice A s.len c]] w fun e w' => e = .returned (.bool (k == 15 || s.sum)) ∧ Below w.heap.size w w'
def iIdxP (b : Bool) (w : World) (e : Ending) (w' : World) : Prop:=∃ j : Int,e = .returned (.int .i64 j) ∧ decide (0 ≤ j) = b ∧ Below w.heap.size w w'
set_option maxHeartbeats 1000000 in
theorem iIndexFnE_any (s : Fo) (ih : s.All iSumOK) (A : Option Addr) (c : Nat) (w : World) (hs : s.Sl w w.heap.size A c) :
  Calls Tryz.prog 211 #[.slice A s.len c,.func (.func 93) #[] #[]] w (iIdxP s.sum w):=by
 have HS:=Lib.hid hs
 clear hs
 have IH:=Lib.hid ih
 clear ih
 have hcap : s.len ≤ 9223372036854775807:=by have:=HS.out.1;have:=HS.out.2.1;unfold maxLen at this;omega
 obtain ⟨E,HE⟩ : ∃ E,Hid (s.sum = E):=⟨_,rfl⟩
 rw [HE.out]
 go_enter Tryz.func211,Tryz.ntmps211
 go_wp2
 go_loopg [5,8] s.len (fun g _ ct wr => ∃ (j : Nat) (r : Fo),g = r.len ∧ j + r.len = s.len ∧ ct = .int .i64 j ∧ E = r.sum ∧ r.All iSumOK ∧
  (r ≠ .nil → ∃ b o,A = some ⟨b,o,none⟩ ∧ b < w.heap.size ∧ r.At wr w.heap.size b (o + j * 6)) ∧ Below w.heap.size w wr)
 case atStart =>
  refine ⟨0,s,rfl,by omega,rfl,HE.out.symm,IH.out,?_,Below.refl _ _⟩
  intro hne
  obtain ⟨b,o,e,hb,h⟩:=HS.out.2.2 hne
  exact ⟨b,o,e,hb,by rw [Nat.zero_mul,Nat.add_zero];exact h⟩
 case round =>
  obtain ⟨j,r,HG,hjr,rfl,hE,HA,HAt,HB⟩:=hrel
  cases r with
  | nil =>
   have hjr2 : s.len ≤ j:=by simp only [Fo.len] at hjr;omega
   have hjr1 : j ≤ s.len:=by simp only [Fo.len] at hjr;omega
   have HR:=Lib.hid hE
   clear hjr HG hE
   go_wp2
   go_ret
   exact ⟨-1,rfl,by rw [HR.out];rfl,HB⟩
  | cons rk rn rm ri rd A' c' rs rr =>
   have hjr2 : j < s.len:=by simp only [Fo.len] at hjr;omega
   obtain ⟨b,o,rfl,hb,h0,h1,h2,h3,h4,⟨h5,hc',hm',hs'⟩,hr'⟩:=HAt (by simp)
   have HS':=Lib.hid (And.intro hs' (And.intro hr' (And.intro HB (And.intro HG hjr))))
   have hbz:=HB.size
   have hok:=(HA.1 rk rn rm ri rd A' c' wr ⟨hc',hm',fun hne => by
    obtain ⟨b',o',e,hb',h'⟩:=HS'.out.1 hne
    exact ⟨b',o',e,by omega,h'.keep (by omega) (fun _ _ => rfl) hb'⟩⟩)
   obtain ⟨q,Hq⟩ : ∃ q,Hid ((rk == 15 || rs.sum) = q):=⟨_,rfl⟩
   rw [Hq.out] at hok
   have HE2 : Hid (E = (q || rr.sum)):=by show E = _;rw [hE,← Hq.out];rfl
   have HO:=Lib.hid (And.intro hok HA.2)
   clear hs' hr' HB HG hjr hok HA HAt hE
   go_wp2_with fail
   refine HO.out.1.mono ?_
   rintro e w1 ⟨rfl,hb1⟩
   have HB1:=Lib.hid (And.intro (HS'.out.2.2.1.trans (hb1.mono (by omega))) hb1)
   clear hb1
   cases q
   ·go_wp2
    go_roundg rr.len
    case measure => rw [HS'.out.2.2.2.1];simp [Fo.len]
    case rel =>
     refine ⟨j + 1,rr,rfl,by have:=HS'.out.2.2.2.2;simp only [Fo.len] at this;omega,by go_num,by rw [HE2.out];rfl,HO.out.2,?_,HB1.out.1⟩
     intro hne
     refine ⟨b,o,rfl,hb,?_⟩
     rw [show o + (j + 1) * 6 = o + j * 6 + 6 by omega]
     exact HS'.out.2.1.keep (Nat.le_refl _) (fun p hp => HB1.out.2.cell (by omega)) hb
   ·have HR:=Lib.hid (show E = true by rw [HE2.out];rfl)
    go_wp2
    go_ret
    exact ⟨j,rfl,by rw [HR.out];simp,HB1.out.1⟩
set_option maxHeartbeats 1000000 in
theorem iContainsFnE_any (s : Fo) (ih : s.All iSumOK) (A : Option Addr) (c : Nat) (w : World) (hs : s.Sl w w.heap.size A c) :
  Calls Tryz.prog 151 #[.slice A s.len c,.func (.func 93) #[] #[]] w fun e w' => e = .returned (.bool s.sum) ∧ Below w.heap.size w w':=by
 have HC:=Lib.hid (iIndexFnE_any s ih A c w hs)
 clear ih hs
 obtain ⟨E,HE⟩ : ∃ E,Hid (s.sum = E):=⟨_,rfl⟩
 rw [HE.out] at HC ⊢
 go_enter Tryz.func151,Tryz.ntmps151
 go_wp2_with fail
 refine HC.out.mono ?_
 rintro e w1 ⟨j,rfl,hj,hb⟩
 go_wp2
 go_ret
 exact ⟨by simp,hb⟩
set_option maxHeartbeats 1000000 in
theorem iSum_step (s : Fo) (ih : s.All iSumOK) : iSumOK s:=by
 intro k n m i d A c w hs
 obtain ⟨E,HE⟩ : ∃ E,Hid (s.sum = E):=⟨_,rfl⟩
 rw [HE.out]
 obtain ⟨W0,hW0⟩ : ∃ W0,w.alloc (.cells #[.int .i64 k,.string n,.string m,.int .i64 i,.int .i64 d,.slice A s.len c] 44) = W0:=⟨_,rfl⟩
 have hzw : w.heap.size < W0.heap.size:=by subst hW0;simp
 have hB0 : Below w.heap.size w W0:=by subst hW0;exact (Below.refl _ _).alloc (Nat.le_refl _) _
 have h0 : W0.cell? ⟨w.heap.size,0,none⟩ = some (.int .i64 k):=by subst hW0;go_simp
 have h5 : W0.cell? ⟨w.heap.size,5,none⟩ = some (.slice A s.len c):=by subst hW0;go_simp
 have hs0:=hs.keep (w':=W0) (B':=W0.heap.size) (Nat.le_of_lt hzw) fun p hp => hB0.cell hp
 have hc:=iContainsFnE_any s ih A c W0 hs0
 rw [HE.out] at hc
 have HC:=Lib.hid (And.intro hc hB0)
 clear hc hB0 hs0 hs ih
 by_cases hk : k = 15
 ·have hk' : (k == 15) = true:=by simpa using hk
  rw [hk',Bool.true_or]
  clear hk
  go_enter Tryz.func93,Tryz.ntmps93
  go_wp2
  go_ret
  exact ⟨rfl,HC.out.2⟩
 ·have hk' : (k == 15) = false:=by simpa using hk
  rw [hk',Bool.false_or]
  clear hk
  go_enter Tryz.func93,Tryz.ntmps93
  go_wp2_with fail
  refine HC.out.1.mono ?_
  rintro e w1 ⟨rfl,hb1⟩
  have HB1:=Lib.hid (HC.out.2.trans (hb1.mono (by omega)))
  clear hb1
  go_wp2
  go_ret
  exact ⟨rfl,HB1.out⟩
theorem iHasSum_any (s : Fo) : iSumOK s:=Fo.by_parts iSum_step s
end Go.Proofs.YtmmecapgnmlaiaaGreatDoor
