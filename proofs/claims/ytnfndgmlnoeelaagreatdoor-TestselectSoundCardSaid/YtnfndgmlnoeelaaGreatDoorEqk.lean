/- eval.Test, at tests of valid modules -/
import Derived.Test.YtnfndgmlnoeelaaGreatDoorZew
namespace Go.Proofs.YtnfndgmlnoeelaaGreatDoor
open Go Go.RowKit Go.Proofs Go.Shelf
theorem LkD.find {W0 : World} {B0 vb rb base mb : Nat} {l : List Mo} (h : LkD W0 B0 vb rb base mb l) {p : ByteArray} (hp : strK.ok p) {i : Int} (hi : intK.ok i) {x : Dc} (hx : bodyOf l (p,i) = some x) :
  ∃ u db o,(Instr.lookup 79 (.map (some mb)) (.string p) false).run Tryz.prog W0 = .ok (.map u) W0 ∧ (Instr.lookup 78 (.map u) (.int .i64 i) false).run Tryz.prog W0 = .ok (.pointer (some ⟨db,o,none⟩)) W0 ∧ W0.cell? ⟨db,o + 1,none⟩ = some (.int .i64 x.kind):=by
 obtain ⟨N,g,hm,_,hn,hs⟩:=h.ex
 have hml:=hm.look false Tryz.undD2 (zeroDm W0) hp
 cases hg : g p with
 | none => rw [hn p hp hg i] at hx;cases hx
 | some u =>
  obtain ⟨ib,N',gi,rfl,hmi,_,hni,hsi⟩:=hs p u hp hg
  have hil:=hmi.look false Tryz.undD1 (zeroDp W0) hi
  cases hgi : gi i with
  | none => rw [hni i hi hgi] at hx;cases hx
  | some v =>
   obtain ⟨db,o,y,rfl,hy,_,hk⟩:=hsi i v hi hgi
   obtain rfl : y = x:=Option.some.inj (hy.symm.trans hx)
   refine ⟨some ib,db,o,?_,?_,hk⟩
   ·rw [hg] at hml
    exact hml
   ·rw [hgi] at hil
    exact hil
theorem row5 {W : World} {b : Nat} {t : TypeId} {c0 c1 c2 c3 c4 : Value} (h : W.heap[b]? = some (.cells #[c0,c1,c2,c3,c4] t (0,0))) :
  W.cell? ⟨b,0,none⟩ = some c0 ∧ W.cell? ⟨b,1,none⟩ = some c1 ∧ W.cell? ⟨b,2,none⟩ = some c2 ∧ W.cell? ⟨b,3,none⟩ = some c3 ∧ W.cell? ⟨b,4,none⟩ = some c4 ∧ W.frozen? ⟨b,0,none⟩ = false ∧ W.frozen? ⟨b,1,none⟩ = false ∧ W.frozen? ⟨b,2,none⟩ = false ∧ W.frozen? ⟨b,3,none⟩ = false ∧ W.frozen? ⟨b,4,none⟩ = false:=
 ⟨cell_of_row W b 0 _ _ (0,0) h,cell_of_row W b 1 _ _ (0,0) h,cell_of_row W b 2 _ _ (0,0) h,cell_of_row W b 3 _ _ (0,0) h,cell_of_row W b 4 _ _ (0,0) h,frozen_of_row W b 0 _ _ h,frozen_of_row W b 1 _ _ h,frozen_of_row W b 2 _ _ h,frozen_of_row W b 3 _ _ h,frozen_of_row W b 4 _ _ h⟩
theorem set5 {W : World} {b : Nat} {t : TypeId} {c0 c1 c2 c3 c4 : Value} (u0 u1 u2 u3 u4 : Value) (h : W.heap[b]? = some (.cells #[c0,c1,c2,c3,c4] t (0,0))) :
  (((((W.setCell ⟨b,0,none⟩ u0).setCell ⟨b,1,none⟩ u1).setCell ⟨b,2,none⟩ u2).setCell ⟨b,3,none⟩ u3).setCell ⟨b,4,none⟩ u4).heap[b]? = some (.cells #[u0,u1,u2,u3,u4] t (0,0)):=by
 simp [World.setCell,Array.getElem?_modify,h]
theorem test_end {W w W1 : World} {t : TypeId} {c0 c1 c2 c3 c4 : Value} {b : Nat} (h : W.heap[b + 1]? = some (.cells #[c0,c1,c2,c3,c4] t (0,0))) (hB : Below W1.heap.size W1 W) (h1 : Below b w W1 ∧ W1.heap.size = b + 2) (n : ByteArray × Int) (B : Bool) (ee k : Int) :
  ((∀ W9,W9 = (((((W.setCell ⟨b + 1,0,none⟩ (.string n.1)).setCell ⟨b + 1,1,none⟩ (.int .i64 n.2)).setCell ⟨b + 1,2,none⟩ (.bool B)).setCell ⟨b + 1,3,none⟩ (.int .i64 ee)).setCell ⟨b + 1,4,none⟩ (.int .i64 k)) → W9.cell? ⟨b + 1,0,none⟩ = some (.string n.1) ∧ W9.cell? ⟨b + 1,1,none⟩ = some (.int .i64 n.2) ∧ W9.cell? ⟨b + 1,2,none⟩ = some (.bool B) ∧ W9.cell? ⟨b + 1,3,none⟩ = some (.int .i64 ee) ∧ W9.cell? ⟨b + 1,4,none⟩ = some (.int .i64 k)) ∧
  Below b w (((((W.setCell ⟨b + 1,0,none⟩ (.string n.1)).setCell ⟨b + 1,1,none⟩ (.int .i64 n.2)).setCell ⟨b + 1,2,none⟩ (.bool B)).setCell ⟨b + 1,3,none⟩ (.int .i64 ee)).setCell ⟨b + 1,4,none⟩ (.int .i64 k))):=by
 refine ⟨fun W9 e => ?_,?_⟩
 ·subst e
  obtain ⟨q0,q1,q2,q3,q4,_⟩:=row5 (set5 (.string n.1) (.int .i64 n.2) (.bool B) (.int .i64 ee) (.int .i64 k) h)
  exact ⟨q0,q1,q2,q3,q4⟩
 ·have hb : Below b w W:=h1.1.trans (hB.mono (by omega))
  exact ((((hb.setCell (by simp) _).setCell (by simp) _).setCell (by simp) _).setCell (by simp) _).setCell (by simp) _
theorem new_facts {l : List Mo} {L z : Int} {W1 w2 w3 : World} {e : Ending} {n : ByteArray × Int} {x : Dc} (hb : Below W1.heap.size W1 w2) (hn : NOk n) (hx : bodyOf l n = some x) (h : NewR l L z w2.heap.size w2 e w3) :
  ∃ (vb mb : Nat) (u : Option Nat) (db o : Nat),e = .returned (.pointer (some ⟨vb,0,none⟩)) ∧ Below W1.heap.size W1 w3 ∧ w3.cell? ⟨vb,0,none⟩ = some (.map (some mb)) ∧ (Instr.lookup 79 (.map (some mb)) (.string n.1) false).run Tryz.prog w3 = .ok (.map u) w3 ∧ (Instr.lookup 78 (.map u) (.int .i64 n.2) false).run Tryz.prog w3 = .ok (.pointer (some ⟨db,o,none⟩)) w3 ∧ w3.cell? ⟨db,o + 1,none⟩ = some (.int .i64 x.kind):=by
 obtain ⟨vb,rb,mb,rfl,h0,hlk,_,_,hb3⟩:=h
 obtain ⟨u,db,o,l1,l2,kk⟩:=hlk.find hn.1 hn.2 hx
 have v0:=cell_of_row w3 vb 0 _ _ (0,0) h0.blk
 simp [evC] at v0
 exact ⟨vb,mb,u,db,o,rfl,hb.trans (hb3.mono hb.size),v0,l1,l2,kk⟩
def verE (v : Va) (err : Int) : Int:=if err = 0 ∧ v.k ≠ 2 then 26 else err
def verB (v : Va) (err : Int) : Bool:=decide (verE v err = 0) && decide (v.i = 1)
def verV (n : ByteArray × Int) (v : Va) (k err : Int) : Value:=.agg #[.string n.1,.int .i64 n.2,.bool (verB v err),.int .i64 (verE v err),.int .i64 k]
def TestR (l : List Mo) (n : ByteArray × Int) (L z : Int) (x : Xp) (w : World) (e : Ending) (w' : World) : Prop:=
 Below w.heap.size w w' ∧ ∃ (v : Va) (k err : Int) (t : Nat),Ev (lookOf l) L ⟨0,z,[⟨x,0,n.1,.nil⟩],[]⟩ (v,k,err) t ∧ e = .returned (verV n v k err)
def NameS (n0 : Nat) (n : ByteArray × Int) (Y : World) : Prop:=Y.cell? ⟨n0,0,none⟩ = some (.string n.1) ∧ Y.cell? ⟨n0,1,none⟩ = some (.int .i64 n.2)
set_option maxRecDepth 100000 in
set_option maxHeartbeats 8000000 in
theorem evTest_any (l : List Mo) (n : ByteArray × Int) (x : Dc) (A : Option Addr) (c : Nat) (L z : Int) (w : World) (hl : SlM w w.heap.size A c l) (hw : MoW l) (hll : l.length ≤ 1000) (hn : NOk n) (hL0 : 0 ≤ L) (hL : L ≤ 100000) (hchk : chkL l = 0) (hx : bodyOf l n = some x) (hk : x.kind ≠ 1) :
  Calls Tryz.prog 15 #[.slice A l.length c,.agg #[.string n.1,.int .i64 n.2],.int .i64 L,.int .u64 z] w (TestR l n L z (xpOf x) w):=by
 obtain ⟨W1,hW1⟩ : ∃ Q9,(w.alloc (.cells #[.string n.1,.int .i64 n.2] 24)).alloc (.cells #[.string ⟨#[]⟩,.int .i64 0,.bool false,.int .i64 0,.int .i64 0] 51) = Q9:=⟨_,rfl⟩
 have hz1 : W1.heap.size = w.heap.size + 2:=by rw [← hW1];simp
 have hB1 : Below w.heap.size w W1:=by rw [← hW1];exact ((Below.refl _ _).alloc (Nat.le_refl _) _).alloc (by simp) _
 have a0 : W1.heap[w.heap.size]? = some (.cells #[.string n.1,.int .i64 n.2] 24 (0,0)):=by
  rw [← hW1,Below.heap_alloc _ _ _ (by simp)]
  exact heap_alloc_new w _
 have a1 : W1.heap[w.heap.size + 1]? = some (.cells #[.string ⟨#[]⟩,.int .i64 0,.bool false,.int .i64 0,.int .i64 0] 51 (0,0)):=by
  rw [← hW1]
  have:=heap_alloc_new (w.alloc (.cells #[.string n.1,.int .i64 n.2] 24)) (.cells #[.string ⟨#[]⟩,.int .i64 0,.bool false,.int .i64 0,.int .i64 0] 51)
  simpa using this
 have HM:=Lib.hid (show ∀ X : World,Below W1.heap.size W1 X → SlM X X.heap.size A c l from fun X hX => ((hl.below hB1).below (hX.mono hB1.size)).keep (Nat.le_trans hB1.size hX.size) fun _ _ => rfl)
 have HNS:=Lib.hid (show ∀ X : World,Below W1.heap.size W1 X → NameS w.heap.size n X ∧ X.heap[w.heap.size + 1]? = some (.cells #[.string ⟨#[]⟩,.int .i64 0,.bool false,.int .i64 0,.int .i64 0] 51 (0,0)) from fun X hX => by
  have h:=(hX.block w.heap.size (by omega)).trans a0
  exact ⟨⟨cell_of_row X _ 0 _ _ (0,0) h,cell_of_row X _ 1 _ _ (0,0) h⟩,(hX.block _ (by omega)).trans a1⟩)
 have HC:=Lib.hid (evChk_any l A c W1 (HM.out W1 (Below.refl _ _)))
 have hnd:=chkL_nodup hchk
 have HNW:=Lib.hid (fun (X : World) (hX : Below W1.heap.size W1 X) => evNew_any l A c L z X.heap.size X (Nat.le_refl _) (HM.out X hX) hw hll (fun m hm => by have:=(hnd m hm).2;omega) (fun m hm => (hnd m hm).1))
 have HD:=Lib.hid (fun (X : World) (hX : Below W1.heap.size W1 X) => evDecl_any l n A c L z X (HM.out X hX) hw hll hn hL0 hL hchk)
 have HP:=Lib.hid (And.intro hn (And.intro hx (And.intro hk (And.intro hB1 hz1))))
 have HLk:=Lib.hid (show lookOf l n.1 n.2 = some (xpOf x) by unfold lookOf;rw [show bodyOf l (n.1,n.2) = some x from hx];rfl)
 have HW1:=Lib.hid hW1
 have c0 : decide (L ≥ 0) = true:=by simpa using hL0
 have c1 : decide (0 ≤ L) = true:=by simpa using hL0
 have c2 : decide (L ≤ 100000) = true:=by simpa using hL
 have c3 : (x.kind == 1) = false:=by simpa using hk
 obtain ⟨N,HN⟩ : ∃ Q,Hid (l.length = Q):=⟨_,Lib.hid rfl⟩
 obtain ⟨E,HE⟩ : ∃ Q,Hid (chkL l = Q):=⟨_,Lib.hid rfl⟩
 have HE0:=Lib.hid (show E = 0 by rw [← HE.out];exact hchk)
 rw [HN.out,HE.out,HE0.out] at HC
 rw [HN.out] at HNW HD ⊢
 clear hl hw hll hn hL0 hL hchk hx hk hz1 hB1 a0 a1 hW1 hnd
 go_enter Tryz.func15,Tryz.ntmps15
 go_wp2_with fail
 rw [HW1.out]
 refine HC.out.mono ?_
 rintro e w2 ⟨rfl,hb2⟩
 have HB2:=Lib.hid hb2
 clear hb2
 have HBd:=Lib.hid (show Below W1.heap.size W1 w2.drew from below_drewS HB2.out)
 have NF:=Lib.hid (fun e w3 (h : NewR l L z w2.drew.heap.size w2.drew e w3) => new_facts HBd.out HP.out.1 HP.out.2.1 h)
 have HS0:=Lib.hid (show NameS w.heap.size n w2.drew from (HNS.out w2 HB2.out).1)
 go_wp2_with fail
 obtain ⟨n0,n1⟩:=HS0.out
 clear HS0
 go_region_with (first | (go_at_call 26;(with_reducible refine Calls.mono (HNW.out _ HBd.out) ?_);rintro e w3 h;obtain ⟨vb,mb,u,db,o,rfl,hb3,v0,l1,l2,kk⟩:=NF.out _ _ h;obtain ⟨m0,m1⟩:=(HNS.out w3 hb3).1;have HB3:=Lib.hid hb3;clear hb3 h) | fail)
 all_goals (
  go_wp2_with fail
  refine (HD.out w3 HB3.out).mono ?_
  rintro e w4 ⟨hb4,hc⟩
  obtain ⟨v,k,err,t,lA,lc,bA,bc,eA,ec,D,hev,rfl⟩ : ∃ (v : Va) (k err : Int) (t : Nat) (lA : Option Addr) (lc : Nat) (bA : Option Addr) (bc : Nat) (eA : Option Addr) (ec : Nat) (D : Dead),Ev (lookOf l) L ⟨0,z,[⟨xpOf x,0,n.1,.nil⟩],[]⟩ (v,k,err) t ∧
    e = .returned (.tuple #[.agg #[.int .i64 v.k,.int .i64 v.i,.slice lA v.l.len lc,.int .i64 0,.string v.p,.string v.q,.slice bA v.b.len bc,.slice eA v.e.len ec],.int .i64 k,.int .i64 err]):=by
   rcases hc with ⟨h1,_⟩ | ⟨y,hy,v,k,err,t,lA,lc,bA,bc,eA,ec,D,hev,he,_⟩
   ·rw [HLk.out] at h1
    cases h1
   ·rw [HLk.out] at hy
    obtain rfl:=Option.some.inj hy
    exact ⟨v,k,err,t,lA,lc,bA,bc,eA,ec,D,hev,he⟩
  have HB4:=Lib.hid (HB3.out.trans (hb4.mono HB3.out.size))
  have HEV:=Lib.hid hev
  have HB5:=Lib.hid (show Below W1.heap.size W1 (w4.alloc (.cells #[.int .i64 v.k,.int .i64 v.i,.slice lA v.l.len lc,.int .i64 0,.string v.p,.string v.q,.slice bA v.b.len bc,.slice eA v.e.len ec] 36)) from HB4.out.alloc HB4.out.size _)
  obtain ⟨⟨n0,n1⟩,b1⟩:=HNS.out _ HB5.out
  obtain ⟨s0,s1,s2,s3,s4,t0,t1,t2,t3,t4⟩:=row5 b1
  have g1:=heap_alloc_new w4 (.cells #[.int .i64 v.k,.int .i64 v.i,.slice lA v.l.len lc,.int .i64 0,.string v.p,.string v.q,.slice bA v.b.len bc,.slice eA v.e.len ec] 36)
  have g0:=cell_of_row _ w4.heap.size 0 _ _ (0,0) g1
  have g2:=cell_of_row _ w4.heap.size 1 _ _ (0,0) g1
  have HB1:=Lib.hid b1
  clear hb4 hc hev v0 l1 l2 kk g1 b1
  have HF:=Lib.hid (fun (B : Bool) (ee : Int) => test_end HB1.out HB5.out HP.out.2.2.2 n B ee k)
  go_wp2_with fail
  ·rename_i h1 h2
   obtain ⟨hq,hb9⟩:=HF.out false 26
   obtain ⟨q0,q1,q2,q3,q4⟩:=hq _ rfl
   have hV : verV n v k err = .agg #[.string n.1,.int .i64 n.2,.bool false,.int .i64 26,.int .i64 k]:=by
    have : v.k ≠ 2:=by simpa using h2
    simp [verV,verB,verE,h1,this]
   refine bodyPost_ret (v:=verV n v k err) (by rw [hV];simp [results,Tryz.results15,go_sem,q0,q1,q2,q3,q4]) rfl ?_
   exact ⟨hb9,v,k,err,t,HEV.out,rfl⟩
  ·rename_i h1 h2
   obtain ⟨hq,hb9⟩:=HF.out (v.i == 1) 0
   obtain ⟨q0,q1,q2,q3,q4⟩:=hq _ rfl
   have hV : verV n v k err = .agg #[.string n.1,.int .i64 n.2,.bool (v.i == 1),.int .i64 0,.int .i64 k]:=by
    have : v.k = 2:=by simpa using h2
    simp [verV,verB,verE,h1,this]
    by_cases hi : v.i = 1 <;> simp [hi]
   refine bodyPost_ret (v:=verV n v k err) (by rw [hV];simp [results,Tryz.results15,go_sem,q0,q1,q2,q3,q4]) rfl ?_
   exact ⟨hb9,v,k,err,t,HEV.out,rfl⟩
  ·rename_i h1
   obtain ⟨hq,hb9⟩:=HF.out false err
   obtain ⟨q0,q1,q2,q3,q4⟩:=hq _ rfl
   have hV : verV n v k err = .agg #[.string n.1,.int .i64 n.2,.bool false,.int .i64 err,.int .i64 k]:=by
    simp [verV,verB,verE,h1]
   refine bodyPost_ret (v:=verV n v k err) (by rw [hV];simp [results,Tryz.results15,go_sem,q0,q1,q2,q3,q4]) rfl ?_
   exact ⟨hb9,v,k,err,t,HEV.out,rfl⟩)
end Go.Proofs.YtnfndgmlnoeelaaGreatDoor
