/- ref27.Equal, at equal values -/
import Derived.Test.YtnfndgmlnoeelaaGreatDoorZeq
namespace Go.Proofs.YtnfndgmlnoeelaaGreatDoor
open Go Go.RowKit Go.Proofs Go.Shelf
theorem Fo.sk_pt : ∀ {s t : Fo},s.sk = t.sk → s.pt = t.pt
 | .nil,.nil,_ => rfl
 | .nil,.cons _ _ _ _ _ _ _ _ _,h => by simp [Fo.sk] at h
 | .cons _ _ _ _ _ _ _ _ _,.nil,h => by simp [Fo.sk] at h
 | .cons k n m i d _ _ s r,.cons k' n' m' i' d' _ _ s' r',h => by
  simp only [Fo.sk,Sk.cons.injEq] at h
  obtain ⟨rfl,rfl,rfl,rfl,rfl,h1,h2⟩:=h
  simp only [Fo.pt,Fo.sk_pt h1,Fo.sk_pt h2]
def CdIn (Cd : Code) (w : World) : Prop:=∀ A c s,Cd A c s → CdW w w.heap.size A c s
theorem CdIn.below {Cd : Code} {w w' : World} (h : CdIn Cd w) (hb : Below w.heap.size w w') : CdIn Cd w':=fun A c s hc => CdW.later (fun k hk => hb.block k hk) hb.size A c s (h A c s hc)
theorem CdIn.xp {Cd : Code} {w : World} {A : Option Addr} {c j : Nat} {s : Sk} {x : Xp} (h : CdIn Cd w) (hc : Cd A c s) (e : s.at j = some x) : ∃ b o sA sc,A = some ⟨b,o,none⟩ ∧ w.cell? ⟨b,o + j * 6,none⟩ = some (.int .i64 x.k) ∧ w.cell? ⟨b,o + j * 6 + 1,none⟩ = some (.string x.n) ∧ w.cell? ⟨b,o + j * 6 + 2,none⟩ = some (.string x.m) ∧ w.cell? ⟨b,o + j * 6 + 3,none⟩ = some (.int .i64 x.i) ∧ w.cell? ⟨b,o + j * 6 + 4,none⟩ = some (.int .i64 x.d) ∧ w.cell? ⟨b,o + j * 6 + 5,none⟩ = some (.slice sA x.s.len sc) ∧ CdW w w.heap.size sA sc x.s:=by
 obtain ⟨b,o,e1,hx⟩:=(h A c s hc).at e
 obtain ⟨sA,sc,h5,h6⟩:=hx.c5
 exact ⟨b,o,sA,sc,e1,hx.c0,hx.c1,hx.c2,hx.c3,hx.c4,h5,h6⟩
theorem same_two {w : World} {x : Xp} {A A' : Option Addr} {c c' : Nat} (h : CdW w w.heap.size A c x.s) (h' : CdW w w.heap.size A' c' x.s) :
  Calls Tryz.prog 63 #[.agg #[.int .i64 x.k,.string x.n,.string x.m,.int .i64 x.i,.int .i64 x.d,.slice A x.s.len c],.agg #[.int .i64 x.k,.string x.n,.string x.m,.int .i64 x.i,.int .i64 x.d,.slice A' x.s.len c']] w fun e w' => e = .returned (.bool true) ∧ Below w.heap.size w w':=by
 obtain ⟨f,hf,hs⟩:=h
 obtain ⟨f',hf',hs'⟩:=h'
 have h1 : x.s.len = f.len:=by rw [← hf,Fo.sk_len]
 have h2 : x.s.len = f'.len:=by rw [← hf',Fo.sk_len]
 have hC:=same21_any f x.k x.n x.m x.i x.d A c x.k x.n x.m x.i x.d A' c' f' w hs hs'
 rw [← h1,← h2] at hC
 refine hC.mono ?_
 rintro e w' ⟨b,rfl,hb,hB⟩
 have : b = true:=hb.2 ⟨rfl,rfl,rfl,rfl,rfl,Fo.sk_pt (by rw [hf,hf'])⟩
 exact ⟨by rw [this],hB⟩
def EqlOK (v : Va) : Prop:=∀ (lA : Option Addr) (lc : Nat) (bA : Option Addr) (bc : Nat) (eA : Option Addr) (ec : Nat) (lA' : Option Addr) (lc' : Nat) (bA' : Option Addr) (bc' : Nat) (eA' : Option Addr) (ec' : Nat) (Cd Cd' : Code) (D D' : Dead) (w : World),VaR Cd w D v lA lc bA bc eA ec → VaR Cd' w D' v lA' lc' bA' bc' eA' ec' → CdIn Cd w → CdIn Cd' w →
 Calls Tryz.prog 29 #[.agg #[.int .i64 v.k,.int .i64 v.i,.slice lA v.l.len lc,.int .i64 0,.string v.p,.string v.q,.slice bA v.b.len bc,.slice eA v.e.len ec],.agg #[.int .i64 v.k,.int .i64 v.i,.slice lA' v.l.len lc',.int .i64 0,.string v.p,.string v.q,.slice bA' v.b.len bc',.slice eA' v.e.len ec']] w fun e w' => e = .returned (.bool true) ∧ Below w.heap.size w w'
set_option maxRecDepth 100000 in
set_option maxHeartbeats 8000000 in
theorem eql_step (v : Va) (ih : ∀ u : Va,u.l.tot + u.e.tot < v.l.tot + v.e.tot → EqlOK u) : EqlOK v:=by
 intro lA lc bA bc eA ec lA' lc' bA' bc' eA' ec' Cd Cd' D D' w hv hv' hC hC'
 obtain ⟨k,i,l,p,q,b,ev⟩:=v
 simp only at ih ⊢
 obtain ⟨M,HM⟩ : ∃ Q,Hid (l.len = Q):=⟨_,Lib.hid rfl⟩
 obtain ⟨M2,HM2⟩ : ∃ Q,Hid (ev.len = Q):=⟨_,Lib.hid rfl⟩
 obtain ⟨Mb,HMb⟩ : ∃ Q,Hid (b.len = Q):=⟨_,Lib.hid rfl⟩
 have l1 : l.len ≤ lc:=hv.l.1
 have l2:=hv.l.2.1
 have e1 : ev.len ≤ ec:=hv.e.1
 have e2:=hv.e.2.1
 have b1 : b.len ≤ bc:=(hC _ _ _ hv.b).len.1
 have b2:=(hC _ _ _ hv.b).len.2
 have l1' : l.len ≤ lc':=hv'.l.1
 have l2':=hv'.l.2.1
 have e1' : ev.len ≤ ec':=hv'.e.1
 have e2':=hv'.e.2.1
 have b1' : b.len ≤ bc':=(hC' _ _ _ hv'.b).len.1
 have b2':=(hC' _ _ _ hv'.b).len.2
 unfold maxLen at l2 e2 b2 l2' e2' b2'
 rw [HM.out] at l1 l1' ⊢
 rw [HM2.out] at e1 e1' ⊢
 rw [HMb.out] at b1 b1' ⊢
 obtain ⟨W0,hW0⟩ : ∃ Q9,(w.alloc (.cells #[.int .i64 k,.int .i64 i,.slice lA M lc,.int .i64 0,.string p,.string q,.slice bA Mb bc,.slice eA M2 ec] 36)).alloc (.cells #[.int .i64 k,.int .i64 i,.slice lA' M lc',.int .i64 0,.string p,.string q,.slice bA' Mb bc',.slice eA' M2 ec'] 36) = Q9:=⟨_,rfl⟩
 have hb0 : Below w.heap.size w W0:=by rw [← hW0];exact ((Below.refl _ _).alloc (Nat.le_refl _) _).alloc (by simp) _
 have hz0 : W0.heap.size = w.heap.size + 2:=by rw [← hW0];simp
 have hbx : W0.heap[w.heap.size]? = some (.cells #[.int .i64 k,.int .i64 i,.slice lA M lc,.int .i64 0,.string p,.string q,.slice bA Mb bc,.slice eA M2 ec] 36 (0,0)):=by rw [← hW0,Below.heap_alloc _ _ _ (by simp)];exact heap_alloc_new _ _
 have hby : W0.heap[w.heap.size + 1]? = some (.cells #[.int .i64 k,.int .i64 i,.slice lA' M lc',.int .i64 0,.string p,.string q,.slice bA' Mb bc',.slice eA' M2 ec'] 36 (0,0)):=by
  have:=heap_alloc_new (w.alloc (.cells #[.int .i64 k,.int .i64 i,.slice lA M lc,.int .i64 0,.string p,.string q,.slice bA Mb bc,.slice eA M2 ec] 36)) (.cells #[.int .i64 k,.int .i64 i,.slice lA' M lc',.int .i64 0,.string p,.string q,.slice bA' Mb bc',.slice eA' M2 ec'] 36)
  rw [← hW0]
  simpa using this
 have HX:=Lib.hid (And.intro hv (And.intro hv' (And.intro hC (And.intro hC' (And.intro hb0 (And.intro hbx hby))))))
 have HI:=Lib.hid ih
 have HROW:=Lib.hid (show ∀ wr : World,Below W0.heap.size W0 wr → wr.cell? ⟨w.heap.size,2,none⟩ = some (.slice lA M lc) ∧ wr.cell? ⟨w.heap.size,6,none⟩ = some (.slice bA Mb bc) ∧ wr.cell? ⟨w.heap.size,7,none⟩ = some (.slice eA M2 ec) ∧ wr.cell? ⟨w.heap.size + 1,2,none⟩ = some (.slice lA' M lc') ∧ wr.cell? ⟨w.heap.size + 1,6,none⟩ = some (.slice bA' Mb bc') ∧ wr.cell? ⟨w.heap.size + 1,7,none⟩ = some (.slice eA' M2 ec') from fun wr hB => by
  have h1:=(hB.block w.heap.size (by omega)).trans hbx
  have h2:=(hB.block (w.heap.size + 1) (by omega)).trans hby
  exact ⟨cell_of_row wr _ 2 _ _ (0,0) h1,cell_of_row wr _ 6 _ _ (0,0) h1,cell_of_row wr _ 7 _ _ (0,0) h1,cell_of_row wr _ 2 _ _ (0,0) h2,cell_of_row wr _ 6 _ _ (0,0) h2,cell_of_row wr _ 7 _ _ (0,0) h2⟩)
 obtain ⟨x0,x1,x2,x3,x4,x5,x6,x7,_,_,_,_,_,_,_,_⟩:=row8 hbx
 obtain ⟨y0,y1,y2,y3,y4,y5,y6,y7,_,_,_,_,_,_,_,_⟩:=row8 hby
 clear hv hv' hC hC' hb0 hbx hby ih
 go_enter Tryz.func29,Tryz.ntmps29
 go_wp2
 clear x0 x1 x2 x3 x4 x5 x6 x7 y0 y1 y2 y3 y4 y5 y6 y7 hW0
 go_loopg [5] M (fun g s5 wr => ∃ j : Nat,g = M - j ∧ j ≤ M ∧ s5 = .int .i64 j ∧ Below W0.heap.size W0 wr)
 case atStart => exact ⟨0,rfl,by omega,rfl,Below.refl _ _⟩
 case round =>
  obtain ⟨j,HG,hj,rfl,hB⟩:=hrel
  obtain ⟨x2,x6,x7,y2,y6,y7⟩:=HROW.out wr hB
  have hBw : Below w.heap.size w wr:=HX.out.2.2.2.2.1.trans (hB.mono (by omega))
  have hjm : (j : Int) ≤ 9223372036854775807:=by omega
  have HB:=Lib.hid (And.intro hB hBw)
  have HGG:=Lib.hid HG
  clear hB hBw HG
  by_cases hlt : j < M
  ·obtain ⟨⟨x,u⟩,hx⟩:=Vl.at_lt (l:=l) (j:=j) (by rw [HM.out];exact hlt)
   obtain ⟨g,o,ulA,ulc,ubA,ubc,ueA,uec,rfl,hg,hu,c0,c1,c2,c3,c4,c5,c6,c7⟩:=(HX.out.1.l.keep (kp_below HB.out.2)).elem hx
   obtain ⟨g',o',ulA',ulc',ubA',ubc',ueA',uec',rfl,hg',hu',d0,d1,d2,d3,d4,d5,d6,d7⟩:=(HX.out.2.1.l.keep (kp_below HB.out.2)).elem hx
   have HU:=Lib.hid (fun (X : World) (hX : Below wr.heap.size wr X) => (HI.out u (by have:=Vl.at_tot hx;omega)) ulA ulc ubA ubc ueA uec ulA' ulc' ubA' ubc' ueA' uec' Cd Cd' D D' X (hu.keep (kp_below hX)) (hu'.keep (kp_below hX)) ((HX.out.2.2.1.below HB.out.2).below hX) ((HX.out.2.2.2.1.below HB.out.2).below hX))
   clear hu hu' hx
   go_wp2_with fail
   go_still_tail 10,(by kernel_rfl)
   change wpList _ _ _ _ _ wr.drew
   have HU2:=Lib.hid (HU.out wr.drew (below_drewS (Below.refl _ _)))
   clear c0 c1 c2 c3 c4 c5 c6 c7 d0 d1 d2 d3 d4 d5 d6 d7 x2 x6 x7 y2 y6 y7
   go_wp2_with fail
   refine HU2.out.mono ?_
   rintro e w1 ⟨rfl,hb1⟩
   have HB1:=Lib.hid ((below_drewS HB.out.1).trans (hb1.mono HB.out.1.size))
   clear hb1
   go_wp2
   go_roundg (M - (j + 1))
   case measure => rw [HGG.out];omega
   case rel => exact ⟨j + 1,rfl,by omega,by go_num,HB1.out⟩
  ·clear x2 x6 x7 y2 y6 y7
   obtain ⟨x2,x6,x7,y2,y6,y7⟩:=HROW.out wr HB.out.1
   go_wp2
   go_loopg [6] Mb (fun g s6 wr => ∃ j : Nat,g = Mb - j ∧ j ≤ Mb ∧ s6 = .int .i64 j ∧ Below W0.heap.size W0 wr)
   case atStart => exact ⟨0,rfl,by omega,rfl,HB.out.1⟩
   case round =>
    obtain ⟨j,HG,hj,rfl,hB⟩:=hrel
    clear x2 x6 x7 y2 y6 y7
    obtain ⟨x2,x6,x7,y2,y6,y7⟩:=HROW.out wr hB
    have hBw : Below w.heap.size w wr:=HX.out.2.2.2.2.1.trans (hB.mono (by omega))
    have hjm : (j : Int) ≤ 9223372036854775807:=by omega
    have HB:=Lib.hid (And.intro hB hBw)
    have HGG:=Lib.hid HG
    clear hB hBw HG
    by_cases hlt : j < Mb
    ·obtain ⟨x,hx⟩:=Sk.at_lt (s:=b) (j:=j) (by rw [HMb.out];exact hlt)
     obtain ⟨g,o,sA,sc,rfl,c0,c1,c2,c3,c4,c5,hcd⟩:=(HX.out.2.2.1.below HB.out.2).xp HX.out.1.b hx
     obtain ⟨g',o',sA',sc',rfl,d0,d1,d2,d3,d4,d5,hcd'⟩:=(HX.out.2.2.2.1.below HB.out.2).xp HX.out.2.1.b hx
     have HU:=Lib.hid (same_two (w:=wr.drew) (x:=x) (CdW.later (W0:=wr) (B0:=wr.heap.size) (w:=wr.drew) (fun k hk => rfl) (Nat.le_refl _) _ _ _ hcd) (CdW.later (W0:=wr) (B0:=wr.heap.size) (w:=wr.drew) (fun k hk => rfl) (Nat.le_refl _) _ _ _ hcd'))
     clear hcd hcd' hx
     go_wp2_with fail
     go_still_tail 10,(by kernel_rfl)
     change wpList _ _ _ _ _ wr.drew
     clear c0 c1 c2 c3 c4 c5 d0 d1 d2 d3 d4 d5 x2 x6 x7 y2 y6 y7
     go_wp2_with fail
     refine HU.out.mono ?_
     rintro e w1 ⟨rfl,hb1⟩
     have HB1:=Lib.hid ((below_drewS HB.out.1).trans (hb1.mono HB.out.1.size))
     clear hb1
     go_wp2
     go_roundg (Mb - (j + 1))
     case measure => rw [HGG.out];omega
     case rel => exact ⟨j + 1,rfl,by omega,by go_num,HB1.out⟩
    ·clear x2 x6 x7 y2 y6 y7
     obtain ⟨x2,x6,x7,y2,y6,y7⟩:=HROW.out wr HB.out.1
     go_wp2
     go_loopg [7] M2 (fun g s7 wr => ∃ j : Nat,g = M2 - j ∧ j ≤ M2 ∧ s7 = .int .i64 j ∧ Below W0.heap.size W0 wr)
     case atStart => exact ⟨0,rfl,by omega,rfl,HB.out.1⟩
     case round =>
      obtain ⟨j,HG,hj,rfl,hB⟩:=hrel
      clear x2 x6 x7 y2 y6 y7
      obtain ⟨x2,x6,x7,y2,y6,y7⟩:=HROW.out wr hB
      have hBw : Below w.heap.size w wr:=HX.out.2.2.2.2.1.trans (hB.mono (by omega))
      have hjm : (j : Int) ≤ 9223372036854775807:=by omega
      have HB:=Lib.hid (And.intro hB hBw)
      have HGG:=Lib.hid HG
      clear hB hBw HG
      by_cases hlt : j < M2
      ·obtain ⟨⟨x,u⟩,hx⟩:=Vl.at_lt (l:=ev) (j:=j) (by rw [HM2.out];exact hlt)
       obtain ⟨g,o,ulA,ulc,ubA,ubc,ueA,uec,rfl,hg,hu,c8,c0,c1,c2,c3,c4,c5,c6,c7⟩:=(HX.out.1.e.keep (kp_below HB.out.2)).bound hx
       obtain ⟨g',o',ulA',ulc',ubA',ubc',ueA',uec',rfl,hg',hu',d8,d0,d1,d2,d3,d4,d5,d6,d7⟩:=(HX.out.2.1.e.keep (kp_below HB.out.2)).bound hx
       have HU:=Lib.hid (fun (X : World) (hX : Below wr.heap.size wr X) => (HI.out u (by have:=Vl.at_tot hx;omega)) ulA ulc ubA ubc ueA uec ulA' ulc' ubA' ubc' ueA' uec' Cd Cd' D D' X (hu.keep (kp_below hX)) (hu'.keep (kp_below hX)) ((HX.out.2.2.1.below HB.out.2).below hX) ((HX.out.2.2.2.1.below HB.out.2).below hX))
       clear hu hu' hx
       go_wp2_with fail
       go_still_tail 26,(by kernel_rfl)
       change wpList _ _ _ _ _ wr.drew
       have HU2:=Lib.hid (HU.out wr.drew (below_drewS (Below.refl _ _)))
       clear c0 c1 c2 c3 c4 c5 c6 c7 c8 d0 d1 d2 d3 d4 d5 d6 d7 d8 x2 x6 x7 y2 y6 y7
       go_wp2_with fail
       refine HU2.out.mono ?_
       rintro e w1 ⟨rfl,hb1⟩
       have HB1:=Lib.hid ((below_drewS HB.out.1).trans (hb1.mono HB.out.1.size))
       clear hb1
       go_wp2
       go_roundg (M2 - (j + 1))
       case measure => rw [HGG.out];omega
       case rel => exact ⟨j + 1,rfl,by omega,by go_num,HB1.out⟩
      ·go_wp2
       go_ret
       exact ⟨rfl,HB.out.2⟩
theorem equal27_any : ∀ (N : Nat) (v : Va),v.l.tot + v.e.tot ≤ N → EqlOK v
 | 0,v,h => eql_step v (fun u hu => by omega)
 | N + 1,v,h => eql_step v (fun u hu => equal27_any N u (by omega))
end Go.Proofs.YtnfndgmlnoeelaaGreatDoor
/- law40.equal, at equal values -/
namespace Go.Proofs.YtnfndgmlnoeelaaGreatDoor
open Go Go.RowKit Go.Proofs Go.Shelf

set_option maxRecDepth 100000 in
set_option maxHeartbeats 8000000 in
theorem lEqual_any (v : Va) : EqlOK v → ∀ (lA : Option Addr) (lc : Nat) (bA : Option Addr) (bc : Nat) (eA : Option Addr) (ec : Nat) (lA' : Option Addr) (lc' : Nat) (bA' : Option Addr) (bc' : Nat) (eA' : Option Addr) (ec' : Nat) (Cd Cd' : Code) (D D' : Dead) (w : World),VaR Cd w D v lA lc bA bc eA ec → VaR Cd' w D' v lA' lc' bA' bc' eA' ec' → CdIn Cd w → CdIn Cd' w →
 Calls Tryz.prog 10 #[.agg #[.int .i64 v.k,.int .i64 v.i,.slice lA v.l.len lc,.int .i64 0,.string v.p,.string v.q,.slice bA v.b.len bc,.slice eA v.e.len ec],.agg #[.int .i64 v.k,.int .i64 v.i,.slice lA' v.l.len lc',.int .i64 0,.string v.p,.string v.q,.slice bA' v.b.len bc',.slice eA' v.e.len ec']] w fun e w' => e = .returned (.bool true) ∧ Below w.heap.size w w':=by
 intro hE lA lc bA bc eA ec lA' lc' bA' bc' eA' ec' Cd Cd' D D' w hv hv' hC hC'
 obtain ⟨M,HM⟩ : ∃ Q,Hid (v.l.len = Q):=⟨_,Lib.hid rfl⟩
 obtain ⟨M2,HM2⟩ : ∃ Q,Hid (v.e.len = Q):=⟨_,Lib.hid rfl⟩
 obtain ⟨Mb,HMb⟩ : ∃ Q,Hid (v.b.len = Q):=⟨_,Lib.hid rfl⟩
 have HQ:=Lib.hid (fun (X : World) (hX : Below w.heap.size w X) => hE lA lc bA bc eA ec lA' lc' bA' bc' eA' ec' Cd Cd' D D' X (hv.keep (kp_below hX)) (hv'.keep (kp_below hX)) (hC.below hX) (hC'.below hX))
 have HS:=Lib.hid (fun (X : World) (hX : Below w.heap.size w X) => size27_any _ v (Nat.le_refl _) lA lc bA bc eA ec Cd D 300 X (hv.keep (kp_below hX)) (fun A c s h => (hC A c s h).len) (by omega) (by omega))
 have HS':=Lib.hid (fun (X : World) (hX : Below w.heap.size w X) => size27_any _ v (Nat.le_refl _) lA' lc' bA' bc' eA' ec' Cd' D' 300 X (hv'.keep (kp_below hX)) (fun A c s h => (hC' A c s h).len) (by omega) (by omega))
 rw [HM.out,HM2.out,HMb.out] at HQ HS HS'
 rw [HM.out,HM2.out,HMb.out]
 obtain ⟨E,HE⟩ : ∃ Q,Hid (v.sz 300 = Q):=⟨_,Lib.hid rfl⟩
 rw [HE.out] at HS HS'
 clear hv hv' hC hC' hE
 obtain ⟨k,i,l,p,q,b,ev⟩:=v
 simp only at HQ HS HS' ⊢
 obtain ⟨W0,hW0⟩ : ∃ Q9,(w.alloc (.cells #[.int .i64 k,.int .i64 i,.slice lA M lc,.int .i64 0,.string p,.string q,.slice bA Mb bc,.slice eA M2 ec] 36)).alloc (.cells #[.int .i64 k,.int .i64 i,.slice lA' M lc',.int .i64 0,.string p,.string q,.slice bA' Mb bc',.slice eA' M2 ec'] 36) = Q9:=⟨_,rfl⟩
 have hb0 : Below w.heap.size w W0:=by rw [← hW0];exact ((Below.refl _ _).alloc (Nat.le_refl _) _).alloc (by simp) _
 have hz0 : W0.heap.size = w.heap.size + 2:=by rw [← hW0];simp
 have hbx : W0.heap[w.heap.size]? = some (.cells #[.int .i64 k,.int .i64 i,.slice lA M lc,.int .i64 0,.string p,.string q,.slice bA Mb bc,.slice eA M2 ec] 36 (0,0)):=by rw [← hW0,Below.heap_alloc _ _ _ (by simp)];exact heap_alloc_new _ _
 have hby : W0.heap[w.heap.size + 1]? = some (.cells #[.int .i64 k,.int .i64 i,.slice lA' M lc',.int .i64 0,.string p,.string q,.slice bA' Mb bc',.slice eA' M2 ec'] 36 (0,0)):=by
  have:=heap_alloc_new (w.alloc (.cells #[.int .i64 k,.int .i64 i,.slice lA M lc,.int .i64 0,.string p,.string q,.slice bA Mb bc,.slice eA M2 ec] 36)) (.cells #[.int .i64 k,.int .i64 i,.slice lA' M lc',.int .i64 0,.string p,.string q,.slice bA' Mb bc',.slice eA' M2 ec'] 36)
  rw [← hW0]
  simpa using this
 obtain ⟨x0,x1,x2,x3,x4,x5,x6,x7,_,_,_,_,_,_,_,_⟩:=row8 hbx
 obtain ⟨y0,y1,y2,y3,y4,y5,y6,y7,_,_,_,_,_,_,_,_⟩:=row8 hby
 have HR:=Lib.hid (And.intro hb0 (And.intro hbx hby))
 clear hb0 hbx hby
 go_enter Tryz.func10,Tryz.ntmps10
 go_wp2_with fail
 clear hW0
 refine (HS'.out _ HR.out.1).mono ?_
 rintro e w1 ⟨rfl,hb1⟩
 clear x0 x1 x2 x3 x4 x5 x6 x7 y0 y1 y2 y3 y4 y5 y6 y7
 have hB1 : Below w.heap.size w w1:=HR.out.1.trans (hb1.mono (by omega))
 obtain ⟨x0,x1,x2,x3,x4,x5,x6,x7,_,_,_,_,_,_,_,_⟩:=row8 ((hb1.block w.heap.size (by omega)).trans HR.out.2.1)
 obtain ⟨y0,y1,y2,y3,y4,y5,y6,y7,_,_,_,_,_,_,_,_⟩:=row8 ((hb1.block (w.heap.size + 1) (by omega)).trans HR.out.2.2)
 have HB1:=Lib.hid (And.intro hb1 hB1)
 clear hb1 hB1
 by_cases hs : E > 300
 ·have s1 : decide (E > 300) = true:=by simpa using hs
  have s2 : decide (300 < E) = true:=by simpa using hs
  go_wp2_with fail
  go_ret
  exact ⟨by simp,HB1.out.2⟩
 ·have s1 : decide (E > 300) = false:=by simpa using hs
  have s2 : decide (300 < E) = false:=by simpa using hs
  have s3 : decide (E ≤ 300) = true:=by simpa using hs
  go_wp2_with fail
  refine (HS.out _ HB1.out.2).mono ?_
  rintro e w2 ⟨rfl,hb2⟩
  clear x0 x1 x2 x3 x4 x5 x6 x7 y0 y1 y2 y3 y4 y5 y6 y7
  have hz1:=HB1.out.1.size
  have hb02 : Below W0.heap.size W0 w2:=HB1.out.1.trans (hb2.mono hz1)
  have hB2 : Below w.heap.size w w2:=HR.out.1.trans (hb02.mono (by omega))
  obtain ⟨x0,x1,x2,x3,x4,x5,x6,x7,_,_,_,_,_,_,_,_⟩:=row8 ((hb02.block w.heap.size (by omega)).trans HR.out.2.1)
  obtain ⟨y0,y1,y2,y3,y4,y5,y6,y7,_,_,_,_,_,_,_,_⟩:=row8 ((hb02.block (w.heap.size + 1) (by omega)).trans HR.out.2.2)
  have HB2:=Lib.hid hB2
  clear hb2 hb02 hB2
  go_wp2_with fail
  refine (HQ.out _ HB2.out).mono ?_
  rintro e w3 ⟨rfl,hb3⟩
  have HB3:=Lib.hid (HB2.out.trans (hb3.mono HB2.out.size))
  clear hb3
  go_wp2
  go_ret
  exact ⟨rfl,HB3.out⟩
end Go.Proofs.YtnfndgmlnoeelaaGreatDoor
