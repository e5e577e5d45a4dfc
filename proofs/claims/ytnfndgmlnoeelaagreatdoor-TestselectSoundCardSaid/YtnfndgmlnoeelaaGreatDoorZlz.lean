/- depend.Closure, depend.Uses -/
import Derived.Test.YtnfndgmlnoeelaaGreatDoorDcs
import Derived.Deep.RegionHeld3
import Derived.Test.YtnfndgmlnoeelaaGreatDoorZll
import Derived.Deep.QuietTactic
import Derived.BigQuiet
namespace Go.Proofs.YtnfndgmlnoeelaaGreatDoor
open Go.RowKit Go.Proofs Go.Shelf
def CloRes (l : List Mo) (n : ByteArray × Int) (w : World) (e : Ending) (w' : World) : Prop:=
 Below w.heap.size w w' ∧ ((loadE l n ≠ 0 ∧ e = .returned (.tuple #[.slice none 0 0,.int .i64 (loadE l n)])) ∨
  (loadE l n = 0 ∧ Clo (grf l) n none ∧ e = .returned (.tuple #[.slice none 0 0,.int .i64 21])) ∨
  (loadE l n = 0 ∧ ∃ L v,Clo (grf l) n (some L) ∧ e = .returned (.tuple #[v,.int .i64 0]) ∧ w'.ownsRow w.heap.size 24 2 v L.length (namesC L) ∧ L.length ≤ 400000))
set_option maxRecDepth 100000 in
set_option maxHeartbeats 1000000 in
theorem dClosureF_any (l : List Mo) (n : ByteArray × Int) (A : Option Addr) (c : Nat) (w : World) (hl : SlM w w.heap.size A c l) (hn : NOk n) (hw : MoW l) (ht : totD l ≤ 1000000) (hll : l.length ≤ 1000) (hU : chkL l = 0 → ∃ U,UOk l n U) :
  Calls Tryz.prog 18 #[.slice A l.length c,.agg #[.string n.1,.int .i64 n.2]] w (CloRes l n w):=by
 obtain ⟨W0,hW0⟩ : ∃ W0,w.alloc (.cells #[.string n.1,.int .i64 n.2] 24) = W0:=⟨_,rfl⟩
 have hz0 : W0.heap.size = w.heap.size + 1:=by subst hW0;simp
 have hB0 : Below w.heap.size w W0:=by subst hW0;exact (Below.refl _ _).alloc (Nat.le_refl _) _
 have n0 : W0.cell? ⟨w.heap.size,0,none⟩ = some (.string n.1):=by subst hW0;go_simp
 have n1 : W0.cell? ⟨w.heap.size,1,none⟩ = some (.int .i64 n.2):=by subst hW0;go_simp
 have HC:=Lib.hid (dClosure_any l n A c W0 ((hl.below hB0).keep (B':=W0.heap.size) (by omega) (fun _ _ => rfl)) hn hw ht hll hU)
 obtain ⟨N,HN⟩ : ∃ Q,Hid (l.length = Q):=⟨_,Lib.hid rfl⟩
 rw [HN.out] at HC ⊢
 have HB:=Lib.hid (And.intro hB0 (show w.heap.size ≤ W0.heap.size by omega))
 clear hl hn hw ht hll hU hB0 hz0
 go_enter Tryz.func18,Tryz.ntmps18
 go_wp2_with fail
 refine HC.out.mono ?_
 rintro e w1 ⟨hb1,⟨hE,rfl⟩ | ⟨hE,hcl,rfl⟩ | ⟨hE,L,b,v,hcl,rfl,hb,hbo,hown,hlen⟩⟩
 ·have HX:=Lib.hid (And.intro hb1 hE)
  obtain ⟨E,HE⟩ : ∃ Q,Hid (loadE l n = Q):=⟨_,Lib.hid rfl⟩
  rw [HE.out]
  clear hb1 hE
  go_wp2
  go_ret2
  exact ⟨HB.out.1.trans (HX.out.1.mono HB.out.2),.inl ⟨HX.out.2,by rw [HE.out];rfl⟩⟩
 ·have HX:=Lib.hid (And.intro hb1 (And.intro hE hcl))
  clear hb1 hE hcl
  go_wp2
  go_ret2
  exact ⟨HB.out.1.trans (HX.out.1.mono HB.out.2),.inr (.inl ⟨HX.out.2.1,HX.out.2.2,rfl⟩)⟩
 ·obtain ⟨vA,vc,rfl⟩:=own_formN hown
  have HX:=Lib.hid (And.intro hb1 (And.intro hE (And.intro hcl (And.intro hown hlen))))
  obtain ⟨M,HM⟩ : ∃ Q,Hid (L.length = Q):=⟨_,Lib.hid rfl⟩
  rw [HM.out]
  clear hb1 hE hcl hown hlen hb hbo
  go_wp2
  go_ret2
  exact ⟨HB.out.1.trans (HX.out.1.mono HB.out.2),.inr (.inr ⟨HX.out.2.1,L,.slice vA M vc,HX.out.2.2.1,rfl,by rw [← HM.out];exact World.ownsRow.mono HX.out.2.2.2.1 HB.out.2,HX.out.2.2.2.2⟩)⟩
end Go.Proofs.YtnfndgmlnoeelaaGreatDoor
/- ref40.Great; slices.Index, Contains, Equal at names -/
namespace Go.Proofs.YtnfndgmlnoeelaaGreatDoor
open Go.RowKit Go.Proofs Go.Shelf

def Mo.great (m : Mo) : Bool:=greatM m.label m.uses m.ds
def greatL (l : List Mo) : Bool:=decide (4 < l.length) || l.any Mo.great
set_option maxRecDepth 100000 in
set_option maxHeartbeats 1000000 in
theorem great40_any (l : List Mo) (A : Option Addr) (c : Nat) (w : World) (hl : SlM w w.heap.size A c l) :
  Calls Tryz.prog 6 #[.slice A l.length c] w fun e w' => e = .returned (.bool (greatL l)) ∧ Below w.heap.size w w':=by
 obtain ⟨E,HE⟩ : ∃ E,Hid (greatL l = E):=⟨_,Lib.hid rfl⟩
 rw [HE.out]
 have h1:=hl.1
 have h2:=hl.2.1
 unfold maxLen at h2
 obtain ⟨N,HN⟩ : ∃ Q,Hid (l.length = Q):=⟨_,Lib.hid rfl⟩
 have hE:=HE.out
 unfold greatL at hE
 rw [HN.out] at h1 hE ⊢
 have HL:=Lib.hid hl
 clear hl
 by_cases h4 : 4 < N
 ·have h4' : (4 : Int) < (N : Int):=by omega
  have HR:=Lib.hid (show E = true by rw [← hE];simp [h4])
  clear hE
  go_enter Tryz.func6,Tryz.ntmps6
  go_wp2
  go_ret
  exact ⟨by rw [HR.out];rfl,Below.refl _ _⟩
 ·have h4' : decide ((4 : Int) < (N : Int)) = false:=by simp;omega
  have HR:=Lib.hid (show l.any Mo.great = E by rw [← hE];simp [h4])
  clear hE
  go_enter Tryz.func6,Tryz.ntmps6
  go_wp2
  go_loopg [3] N (fun g ct wr => ∃ j : Nat,g = N - j ∧ j ≤ N ∧ ct = .int .i64 j ∧ (l.drop j).any Mo.great = E ∧ Below w.heap.size w wr)
  case atStart => exact ⟨0,rfl,by omega,rfl,HR.out,Below.refl _ _⟩
  case round =>
   obtain ⟨j,HG,hj,rfl,hE,hB⟩:=hrel
   have hz:=hB.size
   by_cases hlt : j < N
   ·have hlt' : j < l.length:=by rw [HN.out];exact hlt
    have hj3 : l[j]? = some l[j]:=List.getElem?_eq_getElem hlt'
    have hdr : l.drop j = l[j] :: l.drop (j + 1):=List.drop_eq_getElem_cons hlt'
    rw [hdr,List.any_cons] at hE
    obtain ⟨b,o,rfl,hb,d0,d1,d2,hok⟩:=(HL.out.keep hz (fun p hp => hB.cell hp)).at_ hj3
    obtain ⟨q,Hq⟩ : ∃ Q,Hid (Mo.great l[j] = Q):=⟨_,Lib.hid rfl⟩
    rw [Hq.out] at hE
    have HT:=Lib.hid (And.intro HG (And.intro hE (And.intro hB hok)))
    clear HG hE hB hok hj3 hdr
    generalize l[j] = m at d0 d1 d2 HT Hq
    obtain ⟨label,uA,uc,uses,dA,dc,ds⟩:=m
    simp only [Mo.Ok] at HT d0 d1 d2
    have HC:=Lib.hid (great24_any label uses uA uc ds dA dc wr HT.out.2.2.2.1 HT.out.2.2.2.2)
    have HQ : Hid (greatM label uses ds = q):=Hq.out
    rw [HQ.out] at HC
    cases q with
    | true =>
     have HR2:=Lib.hid (show E = true by rw [← HT.out.2.1];rfl)
     go_wp2_with fail
     refine HC.out.mono ?_
     rintro e w1 ⟨rfl,hb1⟩
     have HB1:=Lib.hid hb1
     clear hb1
     go_wp2
     go_ret
     exact ⟨by rw [HR2.out];rfl,HT.out.2.2.1.trans (HB1.out.mono hz)⟩
    | false =>
     have HR2:=Lib.hid (show (l.drop (j + 1)).any Mo.great = E by rw [← HT.out.2.1];rfl)
     go_wp2_with fail
     refine HC.out.mono ?_
     rintro e w1 ⟨rfl,hb1⟩
     have HB1:=Lib.hid hb1
     clear hb1
     go_wp2
     go_roundg (N - (j + 1))
     case measure => rw [HT.out.1];omega
     case rel => exact ⟨j + 1,rfl,by omega,by go_num,HR2.out,HT.out.2.2.1.trans (HB1.out.mono hz)⟩
   ·obtain rfl : j = N:=by omega
    have HE2:=Lib.hid (show E = false by rw [← hE,List.drop_of_length_le (by rw [HN.out];exact Nat.le_refl _)];rfl)
    have HB2:=Lib.hid hB
    clear hE hB
    go_wp2
    go_ret
    exact ⟨by rw [HE2.out];rfl,HB2.out⟩
end Go.Proofs.YtnfndgmlnoeelaaGreatDoor
/- Modules that are not great: what they use is little -/
namespace Go.Proofs.YtnfndgmlnoeelaaGreatDoor
open Go.RowKit Go.Proofs Go.Shelf
theorem greatL_le {l : List Mo} (h : greatL l = false) : l.length ≤ 4 ∧ ∀ m ∈ l,m.ds.length ≤ 8:=by
 unfold greatL at h
 rw [Bool.or_eq_false_iff] at h
 refine ⟨by simpa using h.1,fun m hm => ?_⟩
 have h2:=List.any_eq_false.1 h.2 m hm
 unfold Mo.great greatM greatD at h2
 simp only [Bool.or_eq_true,decide_eq_true_eq,not_or] at h2
 omega
theorem sum_le8 {α : Type} (f : α → Nat) (k : Nat) : ∀ l : List α,(∀ x ∈ l,f x ≤ k) → (l.map f).sum ≤ l.length * k
 | [],_ => by simp
 | x :: l,h => by
  have h1:=h x (List.mem_cons_self ..)
  have h2:=sum_le8 f k l fun y hy => h y (List.mem_cons_of_mem _ hy)
  simp only [List.map_cons,List.sum_cons,List.length_cons,Nat.add_mul,Nat.one_mul]
  omega
theorem greatL_tot {l : List Mo} (h : greatL l = false) : totD l ≤ 32:=by
 obtain ⟨h1,h2⟩:=greatL_le h
 have:=sum_le8 (fun m : Mo => m.ds.length) 8 l h2
 unfold totD
 omega
theorem chkL_zero : ∀ {l : List Mo},chkL l = 0 → ∀ m ∈ l,m.err = 0
 | [],_,m,hm => by simp at hm
 | x :: l,h,m,hm => by
  unfold chkL at h
  by_cases hx : x.err = 0
  ·rw [if_pos hx] at h
   rcases List.mem_cons.1 hm with rfl | hm
   ·exact hx
   ·exact chkL_zero h m hm
  ·rw [if_neg hx] at h;exact absurd h hx
theorem labelB_size {s : ByteArray} (h : labelB s = true) : s.size ≤ 90:=by
 unfold labelB at h
 simp only [Bool.and_eq_true,decide_eq_true_eq] at h
 exact h.1
theorem usesOf_len (pack : ByteArray) (f : Fo) : (usesOf pack f).length ≤ f.count:=by
 unfold usesOf
 refine Nat.le_trans (ordN_len _) ?_
 rw [List.length_map]
 have h : refsOf f.vis = ordN (refL f.vis):=rfl
 rw [h]
 refine Nat.le_trans (ordN_len _) ?_
 unfold refL
 refine Nat.le_trans (List.length_filterMap_le _ _) ?_
 rw [Fo.vis_length]
 exact Nat.le_refl _
def usL (l : List Mo) : List (ByteArray × Int):=l.flatMap fun m => m.ds.flatMap fun d => usesOf m.label d.body
theorem grf_in {l : List Mo} {x : ByteArray × Int} {us : List (ByteArray × Int)} (h : grf l x = some us) : ∃ m ∈ l,∃ d ∈ m.ds,m.label = x.1 ∧ d.id = x.2 ∧ us = usesOf m.label d.body:=by
 unfold grf at h
 obtain ⟨d,hd,rfl⟩:=Option.map_eq_some_iff.1 h
 obtain ⟨m,hm,hdm,hl,hi⟩:=bodyOf_mem hd
 exact ⟨m,hm,d,hdm,hl,hi,by rw [hl]⟩
theorem usesOf_ok {label : ByteArray} {d : Dc} (hl : label.size ≤ 90) (h : DcV label d) {u : ByteArray × Int} (hu : u ∈ usesOf label d.body) : u.1.size ≤ 90 ∧ 1 ≤ u.2 ∧ u.2 ≤ 999999:=by
 unfold usesOf at hu
 rw [mem_ordN] at hu
 obtain ⟨r,hr,rfl⟩:=List.mem_map.1 hu
 have h2:=h.refs r hr
 unfold fullN
 split
 ·exact ⟨hl,h2.2⟩
 ·exact h2
theorem nok_of {u : ByteArray × Int} (h : u.1.size ≤ 90 ∧ 1 ≤ u.2 ∧ u.2 ≤ 999999) : NOk u:=⟨by unfold maxLen;omega,wf64 h.2⟩
theorem usL_ok {l : List Mo} (h : chkL l = 0) {x : ByteArray × Int} {us : List (ByteArray × Int)} (hx : grf l x = some us) : ∀ u ∈ us,u ∈ usL l ∧ NOk u:=fun u hu => by
 obtain ⟨m,hm,d,hd,hl,hi,rfl⟩:=grf_in hx
 obtain ⟨v1,v2,v3⟩:=checkE_zero (chkL_zero h m hm)
 exact ⟨List.mem_flatMap.2 ⟨m,hm,List.mem_flatMap.2 ⟨d,hd,hu⟩⟩,nok_of (usesOf_ok (labelB_size v1) (v3 d hd) hu)⟩
theorem body_cnt {l : List Mo} (h : chkL l = 0) : ∀ x y,bodyOf l x = some y → y.s.count ≤ 399:=fun x y hy => by
 obtain ⟨m,hm,hdm,_,_⟩:=bodyOf_mem hy
 exact ((checkE_zero (chkL_zero h m hm)).2.2 y hdm).cnt
theorem usL_len {l : List Mo} (h : chkL l = 0) (hg : greatL l = false) : (usL l).length ≤ 12800:=by
 obtain ⟨g1,g2⟩:=greatL_le hg
 unfold usL
 rw [List.length_flatMap]
 have h1:=sum_le8 (fun m : Mo => (m.ds.flatMap fun d => usesOf m.label d.body).length) 3200 l (fun m hm => by
  rw [List.length_flatMap]
  have h2:=sum_le8 (fun d : Dc => (usesOf m.label d.body).length) 400 m.ds (fun d hd => by
   refine Nat.le_trans (usesOf_len _ _) ?_
   have:=((checkE_zero (chkL_zero h m hm)).2.2 d hd).cnt
   simp only [Dc.body,Fo.count]
   omega)
  have:=g2 m hm
  omega)
 omega
theorem uok_of {l : List Mo} {n : ByteArray × Int} (hg : greatL l = false) (h : chkL l = 0) : UOk l n (n :: usL l):=
 ⟨List.mem_cons_self ..,by have:=usL_len h hg;simp only [List.length_cons];omega,fun x us hx u hu => ⟨List.mem_cons_of_mem _ (usL_ok h hx u hu).1,(usL_ok h hx u hu).2⟩,fun x y hy => Nat.le_trans (body_cnt h x y hy) (by omega)⟩
/-! ### DependClosed in plain words -/
def RchI (l : List Mo) (n : ByteArray × Int) (R : List (ByteArray × Int)) (i : Nat) : Prop:=
 R.Nodup ∧ n ∈ R ∧ (∀ x ∈ R,Reach (grf l) n x) ∧ ∀ x ∈ R.take i,∀ us,grf l x = some us → ∀ u ∈ us,u ∈ R
def RchJ (l : List Mo) (n : ByteArray × Int) (R : List (ByteArray × Int)) (i : Nat) (us : List (ByteArray × Int)) (q : Nat) : Prop:=
 RchI l n R i ∧ (∃ x,R[i]? = some x ∧ grf l x = some us) ∧ ∀ u ∈ us.take q,u ∈ R
theorem RchI.start {l : List Mo} {n : ByteArray × Int} : RchI l n [n] 0:=
 ⟨by simp,by simp,fun x hx => by rw [List.mem_singleton.1 hx];exact .refl,by simp⟩
theorem RchI.enter {l : List Mo} {n : ByteArray × Int} {R : List (ByteArray × Int)} {i : Nat} (h : RchI l n R i) {x : ByteArray × Int} {us : List (ByteArray × Int)} (hx : R[i]? = some x) (hu : grf l x = some us) : RchJ l n R i us 0:=⟨h,⟨x,hx,hu⟩,by simp⟩
theorem RchJ.skip {l : List Mo} {n : ByteArray × Int} {R : List (ByteArray × Int)} {i : Nat} {us : List (ByteArray × Int)} {q : Nat} (h : RchJ l n R i us q) {u : ByteArray × Int} (hq : us[q]? = some u) (hu : u ∈ R) : RchJ l n R i us (q + 1):=by
 refine ⟨h.1,h.2.1,fun z hz => ?_⟩
 obtain ⟨hlt,rfl⟩:=List.getElem?_eq_some_iff.1 hq
 rw [List.take_succ_eq_append_getElem hlt] at hz
 rcases List.mem_append.1 hz with hz | hz
 ·exact h.2.2 z hz
 ·rw [List.mem_singleton.1 hz];exact hu
theorem RchJ.push {l : List Mo} {n : ByteArray × Int} {R : List (ByteArray × Int)} {i : Nat} {us : List (ByteArray × Int)} {q : Nat} (h : RchJ l n R i us q) {u : ByteArray × Int} (hq : us[q]? = some u) (hu : u ∉ R) : RchJ l n (R ++ [u]) i us (q + 1):=by
 obtain ⟨⟨h1,h2,h3,h4⟩,⟨x,hx,hg⟩,h5⟩:=h
 have hmem:=List.mem_of_getElem? hq
 have hi:=(List.getElem?_eq_some_iff.1 hx).1
 refine ⟨⟨List.nodup_append.2 ⟨h1,by simp,fun a ha b hb e => hu (by rw [List.mem_singleton.1 hb] at e;rw [← e];exact ha)⟩,List.mem_append_left _ h2,fun z hz => ?_,fun z hz vs hv v hvv => ?_⟩,⟨x,?_,hg⟩,fun z hz => ?_⟩
 ·rcases List.mem_append.1 hz with hz | hz
  ·exact h3 z hz
  ·rw [List.mem_singleton.1 hz];exact (h3 x (List.mem_of_getElem? hx)).step hg hmem
 ·rw [List.take_append_of_le_length (by omega)] at hz
  exact List.mem_append_left _ (h4 z hz vs hv v hvv)
 ·rw [List.getElem?_append_left hi];exact hx
 ·obtain ⟨hlt,rfl⟩:=List.getElem?_eq_some_iff.1 hq
  rw [List.take_succ_eq_append_getElem hlt] at hz
  rcases List.mem_append.1 hz with hz | hz
  ·exact List.mem_append_left _ (h5 z hz)
  ·exact List.mem_append_right _ hz
theorem RchJ.leave {l : List Mo} {n : ByteArray × Int} {R : List (ByteArray × Int)} {i : Nat} {us : List (ByteArray × Int)} {q : Nat} (h : RchJ l n R i us q) (hq : us.length ≤ q) : RchI l n R (i + 1):=by
 obtain ⟨⟨h1,h2,h3,h4⟩,⟨x,hx,hg⟩,h5⟩:=h
 rw [List.take_of_length_le hq] at h5
 refine ⟨h1,h2,h3,fun z hz vs hv => ?_⟩
 obtain ⟨hlt,rfl⟩:=List.getElem?_eq_some_iff.1 hx
 rw [List.take_succ_eq_append_getElem hlt] at hz
 rcases List.mem_append.1 hz with hz | hz
 ·exact h4 z hz vs hv
 ·rw [List.mem_singleton.1 hz,hg] at hv
  cases hv
  exact h5
theorem RchI.done {l : List Mo} {n : ByteArray × Int} {R L : List (ByteArray × Int)} {i : Nat} (h : RchI l n R i) (hi : R.length ≤ i) (hL : Clo (grf l) n (some L)) : (∀ x,x ∈ L ↔ x ∈ R) ∧ L.length = R.length:=by
 obtain ⟨h1,h2,h3,h4⟩:=h
 rw [List.take_of_length_le hi] at h4
 have hm : ∀ x,x ∈ L ↔ x ∈ R:=fun x => (hL.2.1 x).trans ⟨fun hx => Reach.inside (p:=fun x => x ∈ R) h2 (fun z us hz hus u hu => h4 z hz us hus u hu) hx,h3 x⟩
 exact ⟨hm,((List.perm_ext_iff_of_nodup (ltN_nodup hL.1) h1).2 hm).length_eq⟩
theorem RchI.len {l : List Mo} {n : ByteArray × Int} {R L : List (ByteArray × Int)} {i : Nat} (h : RchI l n R i) (hL : Clo (grf l) n (some L)) (hg : greatL l = false) : R.length ≤ 32:=by
 have h2:=greatL_tot hg
 have h3:=allN_len l
 have:=nodup_len R (allN l) h.1 fun x hx => mem_allN (by
  have:=hL.2.2 x (h.2.2.1 x hx)
  unfold grf at this
  cases hb : bodyOf l x with
  | none => rw [hb] at this;exact absurd rfl this
  | some y => rfl)
 omega
theorem reach_ok {l : List Mo} (h : chkL l = 0) {n : ByteArray × Int} (hn : NOk n) {x : ByteArray × Int} (hx : Reach (grf l) n x) : NOk x:=by
 cases hx with
 | refl => exact hn
 | step h1 h2 h3 => exact (usL_ok h h2 _ h3).2
end Go.Proofs.YtnfndgmlnoeelaaGreatDoor
/- slices.Index, Contains, Equal at names -/
namespace Go.Proofs.YtnfndgmlnoeelaaGreatDoor
open Go.RowKit Go.Proofs Go.Shelf
theorem own_of_blocks' {X Y : World} {base : Nat} {e : TypeId} {size : Nat} {v : Value} {n : Nat} {xs : List Value} (h : X.ownsRow base e size v n xs) (hk : ∀ k,k < X.heap.size → Y.heap[k]? = X.heap[k]?) : Y.ownsRow base e size v n xs:=by
 refine ⟨h.1,?_⟩
 rcases h.2 with hn | ⟨g,cap,cur,rfl,hb,hg,rest⟩
 ·exact .inl hn
 ·exact .inr ⟨g,cap,cur,rfl,hb,(hk g (Array.getElem?_eq_some_iff.1 hg).1).trans hg,rest⟩
set_option maxRecDepth 100000 in
set_option maxHeartbeats 2000000 in
theorem slcEqualN_same (l : List (ByteArray × Int)) (A : Option Addr) (c base : Nat) (A' : Option Addr) (c' base' : Nat) (w : World) (hs : w.ownsRow base 24 2 (.slice A l.length c) l.length (namesC l)) (hs' : w.ownsRow base' 24 2 (.slice A' l.length c') l.length (namesC l)) (hl : l.length ≤ 1000000) :
  Calls Tryz.prog 19 #[.slice A l.length c,.slice A' l.length c'] w fun e w' => e = .returned (.bool true) ∧ ∃ q,w' = w.drewN q:=by
 obtain ⟨N,HN⟩ : ∃ Q,Hid (l.length = Q):=⟨_,Lib.hid rfl⟩
 have HO:=Lib.hid (And.intro hs hs')
 rw [HN.out] at hl ⊢
 clear hs hs'
 go_enter Tryz.func19,Tryz.ntmps19
 go_wp2
 go_loopg [5,13] N (fun gg _ ct wr => ∃ j : Nat,gg = N - j ∧ j ≤ N ∧ ct = .int .i64 j ∧ ∃ q,wr = w.drewN q)
 case atStart => exact ⟨0,rfl,by omega,rfl,0,rfl⟩
 case round =>
  obtain ⟨j,HG,hj,rfl,q,rfl⟩:=hrel
  by_cases hlt : j < N
  ·have hlt' : j < l.length:=by rw [HN.out];exact hlt
   obtain ⟨y,hy⟩ : ∃ y,l[j]? = some y:=⟨_,List.getElem?_eq_getElem hlt'⟩
   obtain ⟨hrow,hrow'⟩:=HO.out
   rw [HN.out] at hrow hrow'
   obtain ⟨g,cap,hform,hc1,hc2⟩:=own_pos2 hrow (by omega)
   simp only [Value.slice.injEq,true_and] at hform
   obtain ⟨rfl,rfl⟩:=hform
   obtain ⟨g',cap',hform',hc1',hc2'⟩:=own_pos2 hrow' (by omega)
   simp only [Value.slice.injEq,true_and] at hform'
   obtain ⟨rfl,rfl⟩:=hform'
   obtain ⟨y0,y1⟩:=namesC_at y l j hy
   have cy0 : w.cell? ⟨g,j * 2,none⟩ = some (.string y.1):=(hrow.cellAt (j * 2) (by omega)).trans y0
   have cy1 : w.cell? ⟨g,j * 2 + 1,none⟩ = some (.int .i64 y.2):=(hrow.cellAt (j * 2 + 1) (by omega)).trans y1
   have cz0 : w.cell? ⟨g',j * 2,none⟩ = some (.string y.1):=(hrow'.cellAt (j * 2) (by omega)).trans y0
   have cz1 : w.cell? ⟨g',j * 2 + 1,none⟩ = some (.int .i64 y.2):=(hrow'.cellAt (j * 2 + 1) (by omega)).trans y1
   have hE:=run_neqN y.1 y.1 y.2 y.2
   have he2 : (!((y.1.toList == y.1.toList) && (y.2 == y.2))) = false:=by simp
   rw [he2] at hE
   have hj0 : (0 : Int) ≤ (j : Int):=by omega
   have hj1 : (j : Int) < (N : Int):=by omega
   have HM:=Lib.hid HG
   clear HG hy y0 y1 hrow hrow' he2
   go_wp2_with fail
   go_quiet (fail)
   clear cy0 cy1 cz0 cz1 hE
   go_wp2
   go_roundg (N - (j + 1))
   case measure => rw [HM.out];omega
   case rel => exact ⟨j + 1,rfl,by omega,by go_num,q + nq,by simp [World.drewN]⟩
  ·obtain rfl : j = N:=by omega
   go_wp2
   go_ret
   exact ⟨rfl,q,rfl⟩
end Go.Proofs.YtnfndgmlnoeelaaGreatDoor
/- Small laws about blocks and rows of names -/
namespace Go.Proofs.YtnfndgmlnoeelaaGreatDoor
open Go.RowKit Go.Proofs Go.Shelf

theorem heap_push (w : World) (o : Obj) (k : Nat) : (w.alloc o).heap[k]? = if k = w.heap.size then some o else w.heap[k]?:=by
 by_cases h : k = w.heap.size
 ·subst h
  rw [if_pos rfl]
  exact heap_alloc_new w o
 ·rw [if_neg h]
  by_cases h2 : k < w.heap.size
  ·exact Below.heap_alloc _ _ _ h2
  ·rw [Array.getElem?_eq_none (by simp;omega),Array.getElem?_eq_none (by omega)]
theorem alloc_size (w : World) (o : Obj) : (w.alloc o).heap.size = w.heap.size + 1:=by simp
theorem bel_row {w w' : World} (h : Below w.heap.size w w') {k : Nat} {o : Obj} (hk : w.heap[k]? = some o) : w'.heap[k]? = some o:=
 (h.block k (Array.getElem?_eq_some_iff.1 hk).1).trans hk
theorem bel_own {w w' : World} (h : Below w.heap.size w w') {base : Nat} {e : TypeId} {size : Nat} {v : Value} {n : Nat} {xs : List Value} (ho : w.ownsRow base e size v n xs) : w'.ownsRow base e size v n xs:=
 own_of_blocks' ho fun k hk => h.block k hk
theorem own_litN {W : World} {g n : Nat} {cur : Array Value} {xs : List Value} (h : W.heap[g]? = some (.cells cur 24 (0,0))) (hn : n ≤ maxLen) (hs : cur.size = n * 2) (hx : cur.toList = xs) : W.ownsRow 0 24 2 (.slice (some ⟨g,0,none⟩) n n) n xs:=by
 subst hx
 exact ⟨by simpa using hs,.inr ⟨g,n,cur,rfl,Nat.zero_le _,h,Nat.le_refl _,hn,hs,List.take_of_length_le (by simp [hs])⟩⟩
theorem heap_alloc_drew (w : World) (o : Obj) : (w.alloc o).drew.heap[w.heap.size]? = some o:=heap_alloc_new w o
end Go.Proofs.YtnfndgmlnoeelaaGreatDoor
