/- eval.Decl, in valid modules -/
import Derived.Test.YtnfndgmlnoeelaaGreatDoorZeo
import Derived.Test.YtnfndgmlnoeelaaGreatDoorZle
import Derived.Test.YtnfndgmlnoeelaaGreatDoorZlj
import Derived.Test.YtnfndgmlnoeelaaGreatDoorZla
import Derived.BigQuiet
import Derived.Deep.QuietTactic
import Derived.Deep.RegionHeld3
import Derived.Deep.DeepCutAuto
namespace Go.Proofs.YtnfndgmlnoeelaaGreatDoor
open Go Go.RowKit Go.Proofs Go.Shelf
theorem set8_oth (W : World) (b : Nat) (u0 u1 u2 u3 u4 u5 u6 u7 : Value) : Oth (fun k => k = b) W ((((((((W.setCell ⟨b,0,none⟩ u0).setCell ⟨b,1,none⟩ u1).setCell ⟨b,2,none⟩ u2).setCell ⟨b,3,none⟩ u3).setCell ⟨b,4,none⟩ u4).setCell ⟨b,5,none⟩ u5).setCell ⟨b,6,none⟩ u6).setCell ⟨b,7,none⟩ u7):=by
 have h : ∀ (X : World) (o : Nat) (u : Value),Oth (fun k => k = b) W X → Oth (fun k => k = b) W (X.setCell ⟨b,o,none⟩ u):=fun X o u hX => hX.setCell (x:=⟨b,o,none⟩) (fun _ => by rfl) u
 exact h _ _ _ (h _ _ _ (h _ _ _ (h _ _ _ (h _ _ _ (h _ _ _ (h _ _ _ (h _ _ _ (Oth.refl _ _))))))))
theorem away_one {w w' : World} {b6 : Nat} {c1 c2 c3 c4 c5 c6 c7 : Value} (h6 : w.heap[b6]? = some (.cells #[.int .i64 0,c1,c2,c3,c4,c5,c6,c7] 36 (0,0))) (ho : Oth (fun k => k = b6) w w') : Away w w':=by
 have cc : ∀ (b : Nat) (cs : Array Value) (t : TypeId) (o : Nat) (u : Value),w.heap[b]? = some (.cells cs t (0,0)) → w.cell? ⟨b,o,none⟩ = some u → cs[o]? = some u:=fun b cs t o u hb hc => by
  simp [World.cell?,hb] at hc
  exact hc
 refine ⟨ho.size,fun g o hg hx => ho.block g hg fun hg' => ?_⟩
 subst hg'
 rcases hx with ⟨u,hu⟩ | ⟨k,u,hk,h0,hu⟩
 ·have:=cc _ _ _ _ _ h6 hu
  simp at this
 ·have h1:=cc _ _ _ _ _ h6 hu
  have h2:=cc _ _ _ _ _ h6 h0
  have ho : o = 0:=by
   rw [Array.getElem?_eq_some_iff] at h1
   obtain ⟨hl,_⟩:=h1
   simp at hl
   omega
  subst ho
  simp at h2
  exact hk h2.symm
def DecS (n0 : Nat) (p : ByteArray) (Y : World) : Prop:=Y.cell? ⟨n0,0,none⟩ = some (.string p)
theorem DecS.set {n0 b o : Nat} {p : ByteArray} {Y : World} {v : Value} (h : DecS n0 p Y) (h1 : n0 ≠ b) : DecS n0 p (Y.setCell ⟨b,o,none⟩ v):=
 (World.cell?_setCell_other _ ⟨b,o,none⟩ ⟨n0,0,none⟩ _ (fun e => h1 (congrArg Addr.block e).symm)).trans h
theorem Vl.At.code {Cd Cd' : Code} (hc : ∀ A c s,Cd A c s → Cd' A c s) {D : Dead} {w : World} : ∀ {nm : Bool} {l : Vl} {g o : Nat},l.At Cd w D nm g o → l.At Cd' w D nm g o
 | _,.nil,_,_,_ => trivial
 | nm,.cons x k i l p q b e r,g,o,h => by
  obtain ⟨h1,h2,⟨A,c,h7,hl1,hm,hl⟩,⟨bA,bc,h8,hb⟩,⟨eA,ec,h9,hec,hem,he⟩,hr⟩:=h
  refine ⟨h1,h2,⟨A,c,h7,hl1,hm,fun hne => ?_⟩,⟨bA,bc,h8,hc _ _ _ hb⟩,⟨eA,ec,h9,hec,hem,fun hne => ?_⟩,Vl.At.code hc hr⟩
  ·obtain ⟨g',o',e1,e2,e3,e4⟩:=hl hne
   exact ⟨g',o',e1,e2,Vl.At.code hc e3,e4⟩
  ·obtain ⟨g',o',e1,e2,e3,e4⟩:=he hne
   exact ⟨g',o',e1,e2,Vl.At.code hc e3,e4⟩
theorem Vl.Sl.code {Cd Cd' : Code} (hc : ∀ A c s,Cd A c s → Cd' A c s) {D : Dead} {w : World} {nm : Bool} {A : Option Addr} {c : Nat} {l : Vl} (h : l.Sl Cd w D nm A c) : l.Sl Cd' w D nm A c:=
 ⟨h.1,h.2.1,fun hne => by
  obtain ⟨g,o,e1,e2,e3,e4⟩:=h.2.2 hne
  exact ⟨g,o,e1,e2,e3.code hc,e4⟩⟩
theorem VaR.code {Cd Cd' : Code} (hc : ∀ A c s,Cd A c s → Cd' A c s) {D : Dead} {w : World} {v : Va} {lA : Option Addr} {lc : Nat} {bA : Option Addr} {bc : Nat} {eA : Option Addr} {ec : Nat} (h : VaR Cd w D v lA lc bA bc eA ec) : VaR Cd' w D v lA lc bA bc eA ec:=
 ⟨h.l.code hc,hc _ _ _ h.b,h.e.code hc⟩
theorem CdW.later {W0 w : World} {B0 : Nat} (hB : ∀ k,k < B0 → w.heap[k]? = W0.heap[k]?) (hz : B0 ≤ w.heap.size) (A : Option Addr) (c : Nat) (s : Sk) (h : CdW W0 B0 A c s) : CdW w w.heap.size A c s:=by
 obtain ⟨f,e,h⟩:=h
 exact ⟨f,e,h.keep hz fun p hp => World.cell?_of_block (hB p.block hp)⟩
def DeclR (l : List Mo) (n : ByteArray × Int) (L z : Int) (w : World) (e : Ending) (w' : World) : Prop:=
 Below w.heap.size w w' ∧ ((lookOf l n.1 n.2 = none ∧ e = .returned (.tuple #[.agg #[.int .i64 0,.int .i64 0,.slice none 0 0,.int .i64 0,.string ⟨#[]⟩,.string ⟨#[]⟩,.slice none 0 0,.slice none 0 0],.int .i64 0,.int .i64 8])) ∨
  ∃ x,lookOf l n.1 n.2 = some x ∧ ∃ (v : Va) (k err : Int) (t : Nat) (lA : Option Addr) (lc : Nat) (bA : Option Addr) (bc : Nat) (eA : Option Addr) (ec : Nat) (D : Dead),Ev (lookOf l) L ⟨0,z,[⟨x,0,n.1,.nil⟩],[]⟩ (v,k,err) t ∧
   e = .returned (.tuple #[.agg #[.int .i64 v.k,.int .i64 v.i,.slice lA v.l.len lc,.int .i64 0,.string v.p,.string v.q,.slice bA v.b.len bc,.slice eA v.e.len ec],.int .i64 k,.int .i64 err]) ∧
   VaR (CdW w' w'.heap.size) w' D v lA lc bA bc eA ec)
set_option maxRecDepth 100000 in
set_option maxHeartbeats 8000000 in
theorem evDecl_any (l : List Mo) (n : ByteArray × Int) (A : Option Addr) (c : Nat) (L z : Int) (w : World) (hl : SlM w w.heap.size A c l) (hw : MoW l) (hll : l.length ≤ 1000) (hn : NOk n) (hL0 : 0 ≤ L) (hL : L ≤ 100000) (hchk : chkL l = 0) :
  Calls Tryz.prog 9 #[.slice A l.length c,.agg #[.string n.1,.int .i64 n.2],.int .i64 L,.int .u64 z] w (DeclR l n L z w):=by
 obtain ⟨W1,hW1⟩ : ∃ Q9,(w.alloc (.cells #[.string n.1,.int .i64 n.2] 24)).alloc (.cells #[.int .i64 0,.int .i64 0,.slice none 0 0,.int .i64 0,.string ⟨#[]⟩,.string ⟨#[]⟩,.slice none 0 0,.slice none 0 0] 36) = Q9:=⟨_,rfl⟩
 have hz1 : W1.heap.size = w.heap.size + 2:=by rw [← hW1];simp
 have hB1 : Below w.heap.size w W1:=by rw [← hW1];exact ((Below.refl _ _).alloc (Nat.le_refl _) _).alloc (by simp) _
 have a0 : W1.heap[w.heap.size]? = some (.cells #[.string n.1,.int .i64 n.2] 24 (0,0)):=by
  rw [← hW1,Below.heap_alloc _ _ _ (by simp)]
  exact heap_alloc_new w _
 have a1 : W1.heap[w.heap.size + 1]? = some (.cells #[.int .i64 0,.int .i64 0,.slice none 0 0,.int .i64 0,.string ⟨#[]⟩,.string ⟨#[]⟩,.slice none 0 0,.slice none 0 0] 36 (0,0)):=by
  rw [← hW1]
  have:=heap_alloc_new (w.alloc (.cells #[.string n.1,.int .i64 n.2] 24)) (.cells #[.int .i64 0,.int .i64 0,.slice none 0 0,.int .i64 0,.string ⟨#[]⟩,.string ⟨#[]⟩,.slice none 0 0,.slice none 0 0] 36)
  simpa using this
 have hl1 : SlM W1 W1.heap.size A c l:=(hl.below hB1).keep (by omega) fun _ _ => rfl
 have HC:=Lib.hid (evChk_any l A c W1 hl1)
 have hnd:=chkL_nodup hchk
 have HA:=Lib.hid (And.intro hl1 (And.intro hB1 (And.intro a0 (And.intro a1 hz1))))
 have HW1:=Lib.hid hW1
 have HL:=Lib.hid (And.intro hL0 hL)
 obtain ⟨N,HN⟩ : ∃ Q,Hid (l.length = Q):=⟨_,Lib.hid rfl⟩
 obtain ⟨E,HE⟩ : ∃ Q,Hid (chkL l = Q):=⟨_,Lib.hid rfl⟩
 have HE0:=Lib.hid (show E = 0 by rw [← HE.out];exact hchk)
 rw [HN.out,HE.out,HE0.out] at HC
 rw [HN.out]
 clear hl1 hB1 a0 a1 hz1 hW1
 have c1 : decide (L < 0) = false:=by simpa using hL0
 have c2 : decide (L > 100000) = false:=by simpa using hL
 have c3 : decide (100000 < L) = false:=by simpa using hL
 clear hL0 hL
 go_enter Tryz.func9,Tryz.ntmps9
 go_wp2_with fail
 rw [HW1.out]
 refine HC.out.mono ?_
 rintro e w2 ⟨rfl,hb2⟩
 have HV:=Lib.hid (evNew_any l A c L z w.heap.size w2 (Nat.le_trans HA.out.2.1.size hb2.size) (hl.below (HA.out.2.1.trans (hb2.mono HA.out.2.1.size))) hw hll (fun m hm => by have:=(hnd m hm).2;omega) (fun m hm => (hnd m hm).1))
 rw [HN.out] at HV
 have HB2:=Lib.hid hb2
 clear hb2
 go_wp2_with fail
 refine HV.out.mono ?_
 rintro e w3 ⟨vb,rb,mb,rfl,h0,hlkd,hvb,hrb,hb3⟩
 have hlk:=hlkd.lk
 clear hlkd
 have hz2:=HB2.out.size
 have hz1:=HA.out.2.2.2.2
 have hB13 : Below W1.heap.size W1 w3:=HB2.out.trans (hb3.mono hz2)
 have hBw3 : Below w.heap.size w w3:=HA.out.2.1.trans (hB13.mono (by omega))
 have a0:=(hB13.block _ (by omega)).trans HA.out.2.2.1
 have n0:=cell_of_row w3 w.heap.size 0 _ _ (0,0) a0
 have n1:=cell_of_row w3 w.heap.size 1 _ _ (0,0) a0
 have v0:=cell_of_row w3 vb 0 _ _ (0,0) h0.blk
 simp [evC] at n0 n1 v0
 obtain ⟨u,v,hl1,hl2,hdp⟩:=hlk.find (w:=w3) (fun _ _ _ _ => rfl) (p:=n.1) hn.1 (i:=n.2) hn.2
 have hz3 : w2.heap.size ≤ w3.heap.size:=hb3.size
 have H3:=Lib.hid (And.intro h0 (And.intro hlk (And.intro hvb (And.intro hrb (And.intro hb3 (And.intro hB13 (And.intro hBw3 hdp)))))))
 clear h0 hlk hvb hrb hb3 hB13 hBw3 a0 hdp
 go_wp2_with fail
 go_quiet (fail)
 have hq0 : (w3.drewN nq).heap = w3.heap:=rfl
 have hq1 : Oth (fun _ => False) w3 (w3.drewN nq):=(Oth.refl _ _).drewN nq
 generalize w3.drewN nq = wq at hq0 hq1 ⊢
 have hzq : wq.heap.size = w3.heap.size:=by rw [hq0]
 have b1 : wq.heap[w.heap.size + 1]? = some (.cells #[.int .i64 0,.int .i64 0,.slice none 0 0,.int .i64 0,.string ⟨#[]⟩,.string ⟨#[]⟩,.slice none 0 0,.slice none 0 0] 36 (0,0)):=by
  rw [hq0]
  exact (H3.out.2.2.2.2.2.1.block _ (by omega)).trans HA.out.2.2.2.1
 obtain ⟨s0,s1,s2,s3,s4,s5,s6,s7,t0,t1,t2,t3,t4,t5,t6,t7⟩:=row8 b1
 have HQ:=Lib.hid (And.intro hq0 (And.intro hq1 (And.intro b1 hzq)))
 clear hl1 hl2 hq0 hq1 b1 hzq n0 n1 v0
 cases hlo : lookOf l n.1 n.2 with
 | none =>
  have hv : v = none:=by
   have:=H3.out.2.2.2.2.2.2.2
   rw [hlo] at this
   exact this
  subst hv
  have HLo:=Lib.hid hlo
  clear hlo
  go_wp2_with fail
  generalize hW9 : (((((((wq.setCell ⟨w.heap.size + 1,0,none⟩ (.int .i64 0)).setCell ⟨w.heap.size + 1,1,none⟩ (.int .i64 0)).setCell ⟨w.heap.size + 1,2,none⟩ (.slice none 0 0)).setCell ⟨w.heap.size + 1,3,none⟩ (.int .i64 0)).setCell ⟨w.heap.size + 1,4,none⟩ (.string ⟨#[]⟩)).setCell ⟨w.heap.size + 1,5,none⟩ (.string ⟨#[]⟩)).setCell ⟨w.heap.size + 1,6,none⟩ (.slice none 0 0)).setCell ⟨w.heap.size + 1,7,none⟩ (.slice none 0 0) = W9
  have g6 : W9.heap[w.heap.size + 1]? = some (.cells #[.int .i64 0,.int .i64 0,.slice none 0 0,.int .i64 0,.string ⟨#[]⟩,.string ⟨#[]⟩,.slice none 0 0,.slice none 0 0] 36 (0,0)):=by
   rw [← hW9]
   exact set8 _ _ _ _ _ _ _ _ HQ.out.2.2.1
  have hb9 : Below w.heap.size w W9:=by
   have hbq : Below w.heap.size w wq:=H3.out.2.2.2.2.2.2.1.trans (HQ.out.2.1.below (by omega) fun _ _ e => e)
   rw [← hW9]
   exact (((((((hbq.setCell (by simp) _).setCell (by simp) _).setCell (by simp) _).setCell (by simp) _).setCell (by simp) _).setCell (by simp) _).setCell (by simp) _).setCell (by simp) _
  clear hW9 s0 s1 s2 s3 s4 s5 s6 s7 t0 t1 t2 t3 t4 t5 t6 t7
  obtain ⟨s0,s1,s2,s3,s4,s5,s6,s7,_,_,_,_,_,_,_,_⟩:=row8 g6
  refine bodyPost_ret (v:=.tuple #[.agg #[.int .i64 0,.int .i64 0,.slice none 0 0,.int .i64 0,.string ⟨#[]⟩,.string ⟨#[]⟩,.slice none 0 0,.slice none 0 0],.int .i64 0,.int .i64 8]) (by simp [results,Tryz.results9,go_sem,s0,s1,s2,s3,s4,s5,s6,s7]) rfl ?_
  exact ⟨hb9,.inl ⟨HLo.out,rfl⟩⟩
 | some x =>
  obtain ⟨db,o,rfl,hxp⟩ : ∃ db o,v = some ⟨db,o,none⟩ ∧ XpA w3 w.heap.size db (o + 5) x:=by
   have:=H3.out.2.2.2.2.2.2.2
   rw [hlo] at this
   exact this
  have HLo:=Lib.hid (And.intro hlo hxp)
  clear hlo hxp
  have hzd : wq.drew.heap.size = w3.heap.size:=HQ.out.2.2.2
  have hwh:=look_whole hchk HLo.out.1
  have hvb:=H3.out.2.2.1
  have hrb:=H3.out.2.2.2.1
  have HR:=Lib.hid (evRun_any (w:=wq.drew) (B0:=w.heap.size) (vb:=vb) (rb:=rb) (mb:=mb) (m:=.map (some mb)) (L:=L) (z:=z) (look:=lookOf l) (x:=x) (eb:=db) (eo:=o + 5) (p:=n.1)
   ⟨by show wq.heap[vb]? = _;rw [HQ.out.1];exact H3.out.1.blk,by obtain ⟨c,hc⟩:=H3.out.1.rm;exact ⟨c,by show wq.heap[rb]? = _;rw [HQ.out.1];exact hc⟩⟩ (by have:=H3.out.2.2.1;omega) (by have:=H3.out.2.2.2.1;omega) rfl
   (H3.out.2.1.keep (by rw [hzd];exact Nat.le_refl _) (by omega) fun k _ => by show wq.heap[k]? = _;rw [HQ.out.1]) (HLo.out.2.keep fun k _ => by show wq.heap[k]? = _;rw [HQ.out.1]) hwh.1 hwh.2.1 hn.1 HL.out.1 HL.out.2
   (fun p i y hy => (look_whole hchk hy).1) (fun p i y hy => (look_whole hchk hy).2.1))
  have n0 : wq.cell? ⟨w.heap.size,0,none⟩ = some (.string n.1):=cell_of_row wq w.heap.size 0 _ _ (0,0) ((show wq.heap[w.heap.size]? = w3.heap[w.heap.size]? by rw [HQ.out.1]).trans ((H3.out.2.2.2.2.2.1.block _ (by omega)).trans HA.out.2.2.1))
  have HBB:=Lib.hid (show wq.drew.heap[w.heap.size]? = some (.cells #[.string n.1,.int .i64 n.2] 24 (0,0)) ∧ wq.drew.heap[w.heap.size + 1]? = some (.cells #[.int .i64 0,.int .i64 0,.slice none 0 0,.int .i64 0,.string ⟨#[]⟩,.string ⟨#[]⟩,.slice none 0 0,.slice none 0 0] 36 (0,0)) from
   ⟨(show wq.heap[w.heap.size]? = w3.heap[w.heap.size]? by rw [HQ.out.1]).trans ((H3.out.2.2.2.2.2.1.block _ (by omega)).trans HA.out.2.2.1),HQ.out.2.2.1⟩)
  have HS0:=Lib.hid (show DecS w.heap.size n.1 wq.drew from n0)
  clear n0 s0 s1 s2 s3 s4 s5 s6 s7 t0 t1 t2 t3 t4 t5 t6 t7
  have hz30 : w.heap.size + 2 ≤ w3.heap.size:=by omega
  go_wp2_with fail
  go_region_held3 (fun Y => Y.cell? ⟨w.heap.size,0,none⟩ = some (.string n.1))
   (focus (change DecS w.heap.size n.1 _;first | with_reducible exact HS6.out | with_reducible exact HS0.out | ((repeat (refine DecS.set ?_ (by omega)));with_reducible exact HS6.out) | fail))
   (first | (go_at_call 27;(with_reducible refine Calls.mono HR.out ?_);rintro e w6 ⟨va,k,err,t,lA,lc,bA,bc,eA,ec,D,hev,rfl,hvr,ho6,hsz⟩;have b0:=(ho6.block w.heap.size (lt_of_block HBB.out.1) (fun e => by rcases e with e | e <;> omega)).trans HBB.out.1;have b1:=(ho6.block (w.heap.size + 1) (lt_of_block HBB.out.2) (fun e => by rcases e with e | e <;> omega)).trans HBB.out.2;have HS6:=Lib.hid (show DecS w.heap.size n.1 w6 from cell_of_row w6 w.heap.size 0 _ _ (0,0) b0);obtain ⟨s0,s1,s2,s3,s4,s5,s6,s7,t0,t1,t2,t3,t4,t5,t6,t7⟩:=row8 b1;have H6:=Lib.hid (And.intro hev (And.intro hvr (And.intro ho6 (And.intro b1 hsz))));clear hev hvr ho6 b0 b1 hsz) | fail)
  all_goals (
   generalize hW9 : (((((((w6.setCell ⟨w.heap.size + 1,0,none⟩ (.int .i64 va.k)).setCell ⟨w.heap.size + 1,1,none⟩ (.int .i64 va.i)).setCell ⟨w.heap.size + 1,2,none⟩ (.slice lA va.l.len lc)).setCell ⟨w.heap.size + 1,3,none⟩ (.int .i64 0)).setCell ⟨w.heap.size + 1,4,none⟩ (.string va.p)).setCell ⟨w.heap.size + 1,5,none⟩ (.string va.q)).setCell ⟨w.heap.size + 1,6,none⟩ (.slice bA va.b.len bc)).setCell ⟨w.heap.size + 1,7,none⟩ (.slice eA va.e.len ec) = W9
   have g6 : W9.heap[w.heap.size + 1]? = some (.cells #[.int .i64 va.k,.int .i64 va.i,.slice lA va.l.len lc,.int .i64 0,.string va.p,.string va.q,.slice bA va.b.len bc,.slice eA va.e.len ec] 36 (0,0)):=by
    rw [← hW9]
    exact set8 _ _ _ _ _ _ _ _ H6.out.2.2.2.1
   have ho9 : Oth (fun k => k = w.heap.size + 1) w6 W9:=by
    rw [← hW9]
    exact set8_oth _ _ _ _ _ _ _ _ _ _
   have hD : DeclR l n L z w (.returned (.tuple #[.agg #[.int .i64 va.k,.int .i64 va.i,.slice lA va.l.len lc,.int .i64 0,.string va.p,.string va.q,.slice bA va.b.len bc,.slice eA va.e.len ec],.int .i64 k,.int .i64 err])) W9:=by
    obtain ⟨hev,hvr,ho6,b1,B,hsz⟩:=H6.out
    have hoq : Oth (fun k => k = vb ∨ k = rb) w3 w6:=((HQ.out.2.1.drew).mono (fun _ _ e => e.elim)).trans ho6
    have hall : Oth (fun k => w.heap.size ≤ k) w3 W9:=(hoq.mono fun k _ e => by rcases e with e | e <;> omega).trans (ho9.mono fun k _ e => by omega)
    have hz9:=hall.size
    refine ⟨H3.out.2.2.2.2.2.2.1.trans (hall.below (by omega) fun k hk e => by omega),.inr ⟨x,HLo.out.1,va,k,err,t,lA,lc,bA,bc,eA,ec,fun _ _ => False,hev,rfl,?_⟩⟩
    refine (hvr.away (away_one b1 ho9) hsz).code fun A c s => CdW.later (fun j hj => ?_) (by omega) A c s
    refine (ho9.block j (by have:=ho6.size;rw [hzd] at this;omega) (by omega)).trans (ho6.block j (by rw [hzd];omega) ?_)
    rintro (e | e) <;> omega
   clear hW9 ho9 s0 s1 s2 s3 s4 s5 s6 s7 t0 t1 t2 t3 t4 t5 t6 t7
   obtain ⟨s0,s1,s2,s3,s4,s5,s6,s7,_,_,_,_,_,_,_,_⟩:=row8 g6
   have HD:=Lib.hid hD
   clear hD g6
   go_wp2
   refine bodyPost_ret (v:=.tuple #[.agg #[.int .i64 va.k,.int .i64 va.i,.slice lA va.l.len lc,.int .i64 0,.string va.p,.string va.q,.slice bA va.b.len bc,.slice eA va.e.len ec],.int .i64 k,.int .i64 err]) (by simp [results,Tryz.results9,go_sem,s0,s1,s2,s3,s4,s5,s6,s7]) rfl ?_
   exact HD.out)
end Go.Proofs.YtnfndgmlnoeelaaGreatDoor
/- ref27.Size (printed by gen_ezs.py) -/
namespace Go.Proofs.YtnfndgmlnoeelaaGreatDoor
open Go Go.RowKit Go.Proofs Go.Shelf
def Vl.drop : Vl → Nat → Vl
 | .nil,_ => .nil
 | .cons x k i l p q b e r,0 => .cons x k i l p q b e r
 | .cons _ _ _ _ _ _ _ _ r,j + 1 => r.drop j
def Vl.sz : Vl → Int → Int → Int
 | .nil,_,n => n
 | .cons _ _ _ l _ _ _ e r,m,n => if n ≤ m then r.sz m (n + e.sz (m - n) (l.sz (m - n) 1)) else n
def Va.sz (v : Va) (m : Int) : Int:=v.e.sz m (v.l.sz m 1)
def Vl.tot : Vl → Nat
 | .nil => 0
 | .cons _ _ _ l _ _ _ e r => l.tot + e.tot + r.tot + 1
theorem Vl.drop_zero (l : Vl) : l.drop 0 = l:=by cases l <;> rfl
theorem Vl.Sl.elem {Cd : Code} {w : World} {D : Dead} {l : Vl} {A : Option Addr} {c j : Nat} {x : ByteArray} {u : Va} (h : l.Sl Cd w D false A c) (e : l.at j = some (x,u)) :
  ∃ g o lA lc bA bc eA ec,A = some ⟨g,o,none⟩ ∧ g < w.heap.size ∧ VaR Cd w D u lA lc bA bc eA ec ∧ w.cell? ⟨g,o + j * 8,none⟩ = some (.int .i64 u.k) ∧ w.cell? ⟨g,o + j * 8 + 1,none⟩ = some (.int .i64 u.i) ∧ w.cell? ⟨g,o + j * 8 + 2,none⟩ = some (.slice lA u.l.len lc) ∧ w.cell? ⟨g,o + j * 8 + 3,none⟩ = some (.int .i64 0) ∧
   w.cell? ⟨g,o + j * 8 + 4,none⟩ = some (.string u.p) ∧ w.cell? ⟨g,o + j * 8 + 5,none⟩ = some (.string u.q) ∧ w.cell? ⟨g,o + j * 8 + 6,none⟩ = some (.slice bA u.b.len bc) ∧ w.cell? ⟨g,o + j * 8 + 7,none⟩ = some (.slice eA u.e.len ec):=by
 obtain ⟨g,o,e1,e2,e3,_⟩:=h.2.2 (by intro e';subst e';simp [Vl.at] at e)
 obtain ⟨_,_,lA,lc,bA,bc,eA,ec,hv,hc⟩:=e3.get e
 simp only [off,Bool.false_eq_true,if_false,Nat.zero_add,Nat.add_zero] at hc
 exact ⟨g,o,lA,lc,bA,bc,eA,ec,e1,e2,hv,hc 0 _ rfl,hc 1 _ rfl,hc 2 _ rfl,hc 3 _ rfl,hc 4 _ rfl,hc 5 _ rfl,hc 6 _ rfl,hc 7 _ rfl⟩
theorem Vl.Sl.bound {Cd : Code} {w : World} {D : Dead} {l : Vl} {A : Option Addr} {c j : Nat} {x : ByteArray} {u : Va} (h : l.Sl Cd w D true A c) (e : l.at j = some (x,u)) :
  ∃ g o lA lc bA bc eA ec,A = some ⟨g,o,none⟩ ∧ g < w.heap.size ∧ VaR Cd w D u lA lc bA bc eA ec ∧ w.cell? ⟨g,o + j * 9,none⟩ = some (.string x) ∧ w.cell? ⟨g,o + j * 9 + 1,none⟩ = some (.int .i64 u.k) ∧ w.cell? ⟨g,o + j * 9 + 1 + 1,none⟩ = some (.int .i64 u.i) ∧ w.cell? ⟨g,o + j * 9 + 1 + 2,none⟩ = some (.slice lA u.l.len lc) ∧ w.cell? ⟨g,o + j * 9 + 1 + 3,none⟩ = some (.int .i64 0) ∧
   w.cell? ⟨g,o + j * 9 + 1 + 4,none⟩ = some (.string u.p) ∧ w.cell? ⟨g,o + j * 9 + 1 + 5,none⟩ = some (.string u.q) ∧ w.cell? ⟨g,o + j * 9 + 1 + 6,none⟩ = some (.slice bA u.b.len bc) ∧ w.cell? ⟨g,o + j * 9 + 1 + 7,none⟩ = some (.slice eA u.e.len ec):=by
 obtain ⟨g,o,e1,e2,e3,_⟩:=h.2.2 (by intro e';subst e';simp [Vl.at] at e)
 obtain ⟨hx,_,lA,lc,bA,bc,eA,ec,hv,hc⟩:=e3.get e
 have hx:=hx rfl
 simp only [off,if_true,show (1 : Nat) + 8 = 9 from rfl] at hc hx
 exact ⟨g,o,lA,lc,bA,bc,eA,ec,e1,e2,hv,hx,hc 0 _ rfl,hc 1 _ rfl,hc 2 _ rfl,hc 3 _ rfl,hc 4 _ rfl,hc 5 _ rfl,hc 6 _ rfl,hc 7 _ rfl⟩
end Go.Proofs.YtnfndgmlnoeelaaGreatDoor
/- bind.bound -/
namespace Go.Proofs.YtnfndgmlnoeelaaGreatDoor
open Go.RowKit Go.Proofs Go.Shelf
end Go.Proofs.YtnfndgmlnoeelaaGreatDoor
/- bind.rebuild in plain words -/
namespace Go.Proofs.YtnfndgmlnoeelaaGreatDoor
open Go
inductive Pt where
 | nil
 | cons (k : Int) (n m : ByteArray) (i d : Int) (s r : Pt)
namespace Pt
def len : Pt → Nat
 | .nil => 0
 | .cons _ _ _ _ _ _ r => r.len + 1
def app : Pt → Pt → Pt
 | .nil,t => t
 | .cons k n m i d s r,t => .cons k n m i d s (r.app t)
end Pt
end Go.Proofs.YtnfndgmlnoeelaaGreatDoor
/- ref21.Same and its like (printed by gen_smt.py) -/
namespace Go.Proofs.YtnfndgmlnoeelaaGreatDoor
open Go.RowKit Go.Proofs Go.Shelf
theorem below_drewS {B : Nat} {w w' : World} (h : Below B w w') : Below B w w'.drew:=⟨h.os,h.tape,h.output,h.size,h.block⟩
def RestS (w : World) (B : Nat) (A : Option Addr) (j : Nat) (r : Fo) : Prop:=r ≠ .nil → ∃ b o,A = some ⟨b,o,none⟩ ∧ b < B ∧ r.At w B b (o + j * 6)
theorem RestS.start {w : World} {B c : Nat} {A : Option Addr} {s : Fo} (h : s.Sl w B A c) : RestS w B A 0 s:=fun hne => by
 obtain ⟨b,o,e,hb,h⟩:=h.2.2 hne
 exact ⟨b,o,e,hb,by rw [Nat.zero_mul,Nat.add_zero];exact h⟩
theorem RestS.next {w w' : World} {B j : Nat} {A : Option Addr} {k : Int} {n m : ByteArray} {i d : Int} {A' : Option Addr} {c' : Nat} {s r : Fo} (h : RestS w B A j (.cons k n m i d A' c' s r)) (hk : ∀ p : Addr,p.block < B → w'.cell? p = w.cell? p) : RestS w' B A (j + 1) r:=fun _ => by
 obtain ⟨b,o,e,hb,_,_,_,_,_,_,hr⟩:=h (by simp)
 exact ⟨b,o,e,hb,by rw [show o + (j + 1) * 6 = o + j * 6 + 6 by omega];exact hr.keep (Nat.le_refl _) hk hb⟩
theorem RestS.keep {w w' : World} {B j : Nat} {A : Option Addr} {r : Fo} (h : RestS w B A j r) (hk : ∀ p : Addr,p.block < B → w'.cell? p = w.cell? p) : RestS w' B A j r:=fun hne => by
 obtain ⟨b,o,e,hb,hr⟩:=h hne
 exact ⟨b,o,e,hb,hr.keep (Nat.le_refl _) hk hb⟩
end Go.Proofs.YtnfndgmlnoeelaaGreatDoor
