/- law25.InferOrder -/
import Derived.Test.YtmmecapgnmlaiaaGreatDoorZyg
import Derived.Test.YtmmecapgnmlaiaaGreatDoorZyh
namespace Go.Proofs.YtmmecapgnmlaiaaGreatDoor
open Go Go.RowKit Go.Proofs Go.Proofs.Scc
theorem addr_addL (b o j : Nat) : (⟨b,o,none⟩ : Addr).add j = ⟨b,o + j,none⟩:=by unfold Addr.add;split <;> simp_all
set_option maxRecDepth 100000 in
set_option maxHeartbeats 16000000 in
theorem lawOrder_any (label : ByteArray) (uses : List ByteArray) (uA : Option Addr) (uc : Nat) (ds : List Dc) (dA : Option Addr) (dc : Nat) (w : World) (hu : SlS w w.heap.size uA uc uses) (hd : SlD w w.heap.size dA dc ds) :
  Calls Tryz.prog 5 #[.agg #[.string label,.slice uA uses.length uc,.slice dA ds.length dc]] w fun e w' => e = .returned (.bool true) ∧ RowKit.Below w.heap.size w w':=by
 obtain ⟨W0,hW0⟩ : ∃ W0,w.alloc (.cells #[.string label,.slice uA uses.length uc,.slice dA ds.length dc] 25) = W0:=⟨_,rfl⟩
 have hb0 : RowKit.Below w.heap.size w W0:=by subst hW0;exact (RowKit.Below.refl _ _).alloc (Nat.le_refl _) _
 have hr0 : W0.heap[w.heap.size]? = some (.cells #[.string label,.slice uA uses.length uc,.slice dA ds.length dc] 25 (0,0)):=by subst hW0;exact heap_alloc_new w _
 have e0:=cell_of_row W0 w.heap.size 0 _ _ (0,0) hr0
 have e1:=cell_of_row W0 w.heap.size 1 _ _ (0,0) hr0
 have e2:=cell_of_row W0 w.heap.size 2 _ _ (0,0) hr0
 simp at e0 e1 e2
 have HS:=Lib.hid (show ∀ Y,RowKit.Below w.heap.size w Y → SlS Y Y.heap.size uA uc uses ∧ SlD Y Y.heap.size dA dc ds from fun Y hY => ⟨hu.keep hY.size fun p hp => hY.cell hp,hd.keep hY.size fun p hp => hY.cell hp⟩)
 have HG:=Lib.hid (l25great_any label uses uA uc ds dA dc W0 (HS.out _ hb0).1 (HS.out _ hb0).2)
 obtain ⟨G,hG⟩ : ∃ G,Hid (greatM label uses ds = G):=⟨_,Lib.hid rfl⟩
 rw [hG.out] at HG
 have HB0:=Lib.hid (And.intro hb0 (And.intro hr0 (lt_of_block hr0)))
 have hdc:=hd.2.1
 have hdl:=hd.1
 unfold maxLen at hdc
 clear hu hd hb0 hr0
 cases G with
 | true =>
  go_enter Tryz.func5,Tryz.ntmps5
  go_upto_region 1 with fail
  try rw [hW0]
  go_wp2_with (first | (go_at_call 12;(with_reducible refine Calls.mono HG.out ?_);rintro e w1 ⟨rfl,hb1⟩;have HB1:=Lib.hid hb1;clear hb1) | (go_at_call 13;(with_reducible refine Calls.mono (awake25_any _) ?_);rintro e w2 ⟨rfl,hb2⟩;have HB2:=Lib.hid hb2;clear hb2) | fail)
  go_ret
  have h1:=HB0.out.1.trans (HB1.out.mono HB0.out.1.size)
  exact ⟨rfl,h1.trans (HB2.out.mono h1.size)⟩
 | false =>
 have HGR:=Lib.hid (show ∀ Y,RowKit.Below w.heap.size w Y → _ from fun Y hY => groups_any label uses uA uc ds dA dc Y (HS.out _ hY).1 (HS.out _ hY).2)
 have HOK:=Lib.hid (show grpE label uses ds = 0 → OrdOK ds (grpsOf ds) ∧ ds.length ≤ 100 ∧ ∀ x ∈ ds,x.s.count ≤ 100000 from fun h => by
  unfold grpE at h
  split at h
  ·rename_i h1;exact absurd h h1
  ·rename_i h1
   split at h
   ·cases h
   ·rename_i h2
    have hV:=MdV.of (show checkE label uses ds = 0 by simpa using h1)
    exact ⟨order_ok hV (by simpa using h2),hV.len,fun x hx => by have:=(hV.v x hx).cnt;omega⟩)
 obtain ⟨E,HE⟩ : ∃ E,Hid (grpE label uses ds = E):=⟨_,Lib.hid rfl⟩
 obtain ⟨R,HR⟩ : ∃ R,Hid (grpsOf ds = R):=⟨_,Lib.hid rfl⟩
 rw [HE.out] at HOK
 rw [HR.out] at HOK
 simp only [HE.out,HR.out] at HGR
 obtain ⟨N,HN⟩ : ∃ N,Hid (ds.length = N):=⟨_,Lib.hid rfl⟩
 obtain ⟨NU,HNU⟩ : ∃ N,Hid (uses.length = N):=⟨_,Lib.hid rfl⟩
 simp only [HN.out,HNU.out] at HG HGR e1 e2 hW0 HB0 hdl ⊢
 by_cases hE : E = 0
 rotate_left
 ·have hE' : (E != 0) = true:=by simpa using hE
  go_enter Tryz.func5,Tryz.ntmps5
  go_upto_region 1 with fail
  try rw [hW0]
  go_wp2_with fail
  with_reducible refine Calls.mono HG.out ?_
  rintro e w1 ⟨rfl,hb1⟩
  have HB1:=Lib.hid (HB0.out.1.trans (hb1.mono HB0.out.1.size))
  have HX1:=Lib.hid ((hb1.block _ HB0.out.2.2).trans HB0.out.2.1)
  clear hb1 e0 e1 e2
  have e0:=cell_of_row w1 w.heap.size 0 _ _ (0,0) HX1.out
  have e1:=cell_of_row w1 w.heap.size 1 _ _ (0,0) HX1.out
  have e2:=cell_of_row w1 w.heap.size 2 _ _ (0,0) HX1.out
  simp at e0 e1 e2
  go_wp2_with fail
  with_reducible refine Calls.mono (HGR.out w1 HB1.out) ?_
  rintro e w2 ⟨v,gl,rfl,hb2,hcase⟩
  obtain rfl : v = .slice none 0 0:=by
   rcases hcase with ⟨h,_⟩ | ⟨_,h⟩
   ·exact absurd h hE
   ·exact h
  have HB2:=Lib.hid (HB1.out.trans (hb2.mono HB1.out.size))
  clear hb2 hcase
  go_wp2_with (first | (go_at_call 13;(with_reducible refine Calls.mono (awake25_any _) ?_);rintro e w3 ⟨rfl,hb3⟩;have HB3:=Lib.hid hb3;clear hb3) | fail)
  go_ret
  exact ⟨rfl,HB2.out.trans (HB3.out.mono HB2.out.size)⟩
 subst hE
 have HO:=Lib.hid (HOK.out rfl).1
 have HCN:=Lib.hid (HOK.out rfl).2.2
 have hN100:=(HOK.out rfl).2.1
 rw [HN.out] at hN100
 clear HOK
 have HU:=Lib.hid (show ∀ Y id u,RowKit.Below w.heap.size w Y → Calls Tryz.prog 22 #[.agg #[.string label,.slice uA uses.length uc,.slice dA ds.length dc],.int .i64 id,.int .i64 u] Y fun e Z => e = .returned (.bool (usB ds id u)) ∧ RowKit.Below Y.heap.size Y Z from fun Y id u hY =>
  l25uses_any label uses uA uc ds dA dc id u Y (HS.out Y hY).2 HCN.out)
 have HRE:=Lib.hid (show ∀ Y A c g fr tz,RowKit.Below w.heap.size w Y → IntsA Y Y.heap.size A c g → g.length ≤ 1000000 → fr ∈ g → (∀ S : List Int,fr ∈ S → (∀ x ∈ S,∀ y ∈ g,usB ds x y = true → y ∈ S) → ∃ x ∈ S,usB ds x tz = true) → Calls Tryz.prog 21 #[.agg #[.string label,.slice uA uses.length uc,.slice dA ds.length dc],.slice A g.length c,.int .i64 fr,.int .i64 tz] Y fun e Z => e = .returned (.bool true) ∧ RowKit.Below Y.heap.size Y Z from fun Y A c g fr tz hY hg hgl hf H =>
  l25reaches_any label uses uA uc ds dA dc A c g fr tz Y (HS.out Y hY).2 HCN.out hg hgl hf H)
 simp only [HN.out,HNU.out] at HU HRE
 go_enter Tryz.func5,Tryz.ntmps5
 go_upto_region 1 with fail
 try rw [hW0]
 go_wp2_with fail
 with_reducible refine Calls.mono HG.out ?_
 rintro e w1 ⟨rfl,hb1⟩
 have HB1:=Lib.hid (HB0.out.1.trans (hb1.mono HB0.out.1.size))
 have HX1:=Lib.hid ((hb1.block _ HB0.out.2.2).trans HB0.out.2.1)
 clear hb1 e0 e1 e2
 have e0:=cell_of_row w1 w.heap.size 0 _ _ (0,0) HX1.out
 have e1:=cell_of_row w1 w.heap.size 1 _ _ (0,0) HX1.out
 have e2:=cell_of_row w1 w.heap.size 2 _ _ (0,0) HX1.out
 simp at e0 e1 e2
 go_wp2_with fail
 with_reducible refine Calls.mono (HGR.out w1 HB1.out) ?_
 rintro e w2 ⟨v,gl,rfl,hb2,hcase⟩
 have hrg : RG w2 w1.heap.size w1.heap.size v gl R:=by
  rcases hcase with ⟨_,h⟩ | ⟨h,_⟩
  ·exact h
  ·exact absurd rfl h
 obtain ⟨lA,lc,rfl,hgs⟩:=hrg.gsA
 have HB2:=Lib.hid (HB1.out.trans (hb2.mono HB1.out.size))
 have HX2:=Lib.hid ((hb2.block _ (lt_of_block HX1.out)).trans HX1.out)
 have HL:=Lib.hid (show ∀ Y,RowKit.Below w2.heap.size w2 Y → GsA Y lA lc R from fun Y hY => hgs.keep hY)
 obtain ⟨K,HK⟩ : ∃ K,Hid (R.length = K):=⟨_,Lib.hid rfl⟩
 have hKl : K ≤ 1000000:=by
  have h1:=HO.out.cnt
  rw [HK.out,HN.out] at h1
  omega
 have hlc1:=hgs.1
 have hlc2:=hgs.2.1
 rw [HK.out] at hlc1 ⊢
 unfold maxLen at hlc2
 clear hb2 hcase hrg hgs e0 e1 e2
 go_wp2
 have HW2:=Lib.hid (show ∀ Y,RowKit.Below w2.heap.size w2 Y → RowKit.Below w.heap.size w Y from fun Y hY => HB2.out.trans (hY.mono HB2.out.size))
 have HBX:=Lib.hid (show ∀ Y,RowKit.Below w2.heap.size w2 Y → Y.cell? ⟨w.heap.size,0,none⟩ = some (.string label) ∧ Y.cell? ⟨w.heap.size,1,none⟩ = some (.slice uA NU uc) ∧ Y.cell? ⟨w.heap.size,2,none⟩ = some (.slice dA N dc) from fun Y hY => by
  have h:=(hY.block _ (lt_of_block HX2.out)).trans HX2.out
  exact ⟨cell_of_row Y _ 0 _ _ (0,0) h,cell_of_row Y _ 1 _ _ (0,0) h,cell_of_row Y _ 2 _ _ (0,0) h⟩)
 have HFL:=Lib.hid (show ∀ p,(R.take p).flatten.length ≤ 100 from fun p => by
  have h1 : (R.take p).flatten.length ≤ R.flatten.length:=by
   have h2:=congrArg (fun l : List (List Int) => l.flatten.length) (List.take_append_drop p R)
   simp only [List.flatten_append,List.length_append] at h2
   omega
  have h3:=HO.out.len
  rw [HN.out] at h3
  omega)
 go_loopg [5,37] K (fun gh cv ct wr => ∃ p : Nat,gh = K - p ∧ p ≤ K ∧ ct = .int .i64 p ∧ wr.ownsRow w2.heap.size 3 1 cv (R.take p).flatten.length ((R.take p).flatten.map (.int .i64)) ∧ RowKit.Below w2.heap.size w2 wr)
 case atStart => exact ⟨0,rfl,Nat.zero_le _,rfl,⟨rfl,.inr ⟨w2.heap.size,0,#[],rfl,Nat.le_refl _,heap_alloc_new _ _,Nat.le_refl _,by decide,rfl,rfl⟩⟩,(RowKit.Below.refl _ _).alloc (Nat.le_refl _) _⟩
 case round =>
  obtain ⟨p,hg,hp,rfl,hrow,hB⟩:=hrel
  obtain ⟨cA,cc,rfl⟩:=row_slice hrow
  obtain ⟨w7,rfl⟩ : ∃ w7 : World,w7 = wr:=⟨_,rfl⟩
  by_cases hlt : p < K
  ·obtain ⟨g,hgp⟩ : ∃ g,R[p]? = some g:=⟨_,List.getElem?_eq_getElem (by rw [HK.out];exact hlt)⟩
   have hgm:=List.mem_of_getElem? hgp
   have hgs:=HL.out w2 (RowKit.Below.refl _ _)
   obtain ⟨lb,lo,rfl,hrc⟩:=hgs.2.2 (by intro e;rw [e] at hgm;cases hgm)
   obtain ⟨gA,gc,hgcell2,hgi⟩:=hrc p g hgp
   have hgcell : w7.cell? ⟨lb,lo + p,none⟩ = some (.slice gA g.length gc):=(hB.cell (p:=⟨lb,lo + p,none⟩) (World.block_lt_of_cell? w2 ⟨lb,lo + p,none⟩ hgcell2)).trans hgcell2
   obtain ⟨gne,gsrt,gok⟩:=HO.out.ne g hgm
   have hgl : g.length ≤ 100:=by have:=HO.out.sz g hgm;rw [HN.out] at this;omega
   have hgpos : 0 < g.length:=List.length_pos_iff.2 gne
   obtain ⟨gb,go,rfl,hgcells⟩ : ∃ gb go,gA = some ⟨gb,go,none⟩ ∧ ∀ Y,RowKit.Below w2.heap.size w2 Y → ∀ j i,g[j]? = some i → Y.cell? ⟨gb,go + j,none⟩ = some (.int .i64 i):=by
    obtain ⟨gb,go,e,hgb,hc⟩:=hgi.2.2 gne
    exact ⟨gb,go,e,fun Y hY j i hj => (hY.cell (p:=⟨gb,go + j,none⟩) hgb).trans (hc j i hj)⟩
   have HGI:=Lib.hid (show ∀ Y,RowKit.Below w2.heap.size w2 Y → IntsA Y Y.heap.size (some ⟨gb,go,none⟩) gc g from fun Y hY => (hgi.below hY).mono hY.size)
   have HGC:=Lib.hid hgcells
   have hgc1:=hgi.1
   have hgc2:=hgi.2.1
   unfold maxLen at hgc2
   have hri:=fun Y (hY : RowKit.Below w7.heap.size w7 Y) => row_ints (row_keep hrow (w':=Y) fun k hk => hY.block k (hrow.lt k hk).2)
   have HHas:=Lib.hid (show ∀ Y y,RowKit.Below w7.heap.size w7 Y → Calls Tryz.prog 20 #[.slice cA (R.take p).flatten.length cc,.int .i64 y] Y fun e Z => e = .returned (.bool (decide (y ∈ (R.take p).flatten))) ∧ Y = Z from fun Y y hY => by
    obtain ⟨A,c,e,h⟩:=hri Y hY
    cases e
    exact has23_any _ y _ _ Y h)
   obtain ⟨L,HLg⟩ : ∃ L,Hid (g.length = L):=⟨_,Lib.hid rfl⟩
   obtain ⟨CL,HCL⟩ : ∃ L,Hid ((R.take p).flatten.length = L):=⟨_,Lib.hid rfl⟩
   have hCL:=HFL.out p
   rw [HCL.out] at HHas hCL
   rw [HLg.out] at hgcell hgl hgpos hgc1
   have HWr:=Lib.hid (show ∀ Y,RowKit.Below w7.heap.size w7 Y → RowKit.Below w2.heap.size w2 Y from fun Y hY => hB.trans (hY.mono hB.size))
   have HJ:=Lib.hid (And.intro hg (And.intro hrow (And.intro hB (And.intro hgp (And.intro gsrt hgm)))))
   have hL0 : ((L : Int) == 0) = false:=by simp;omega
   clear hg hrow hB hgp hgm hgs hrc gne gsrt hgi hgcells hri hgcell2
   rw [HCL.out]
   go_wp2
   go_loopg [46] L (fun gh ct wq => ∃ i : Nat,gh = L - i ∧ i ≤ L ∧ ct = .int .i64 i ∧ RowKit.Below w7.heap.size w7 wq)
   case atStart => exact ⟨0,rfl,Nat.zero_le _,rfl,RowKit.Below.refl _ _⟩
   case round =>
    obtain ⟨i,hg2,hi,rfl,hB2⟩:=hrel
    by_cases hli : i < L
    ·obtain ⟨id,hid⟩ : ∃ a,g[i]? = some a:=⟨_,List.getElem?_eq_getElem (by rw [HLg.out];exact hli)⟩
     have hidm:=List.mem_of_getElem? hid
     have ci:=HGC.out _ (HWr.out _ hB2) i id hid
     have hc15:=HHas.out _ id hB2
     rw [decide_eq_false (HO.out.new p g HJ.out.2.2.2.1 id hidm)] at hc15
     have HC15:=Lib.hid hc15
     have HQ:=Lib.hid (And.intro hg2 (And.intro hB2 (And.intro hid hidm)))
     clear hg2 hc15 hid hidm
     by_cases hi0 : 0 < i
     rotate_left
     ·have hi0' : decide ((i : Int) > 0) = false:=decide_eq_false (by omega)
      have hi0'' : decide ((0 : Int) < (i : Int)) = false:=decide_eq_false (by omega)
      clear hB2
      go_wp2_with fail
      with_reducible refine Calls.mono HC15.out ?_
      rintro e _ ⟨rfl,rfl⟩
      go_wp2
      go_loopg [69] L (fun gh ct wq => ∃ q : Nat,gh = L - q ∧ q ≤ L ∧ ct = .int .i64 q ∧ RowKit.Below w7.heap.size w7 wq)
      case atStart => exact ⟨0,rfl,Nat.zero_le _,rfl,HQ.out.2.1⟩
      case round =>
       obtain ⟨q,hg3,hq,rfl,hB3⟩:=hrel
       by_cases hlq : q < L
       ·obtain ⟨u,hu⟩ : ∃ a,g[q]? = some a:=⟨_,List.getElem?_eq_getElem (by rw [HLg.out];exact hlq)⟩
        have hum:=List.mem_of_getElem? hu
        have hB3w:=HWr.out _ hB3
        have cu:=HGC.out _ hB3w q u hu
        have HB3:=Lib.hid (And.intro hg3 hB3)
        by_cases heq : id = u
        ·subst heq
         have hne : (id != id) = false:=by simp
         clear hg3 hB3 hu hum hB3w
         go_wp2
         go_roundg (L - (q + 1))
         case measure => have:=HB3.out.1;omega
         case rel => exact ⟨q + 1,rfl,by omega,by go_num,HB3.out.2⟩
        ·have hne : (id != u) = true:=by simpa using heq
         obtain ⟨k0,k1,k2⟩:=HBX.out _ hB3w
         have hc:=HRE.out _ (some ⟨gb,go,none⟩) gc g id u (HW2.out _ hB3w) (HGI.out _ hB3w) (by rw [HLg.out];omega) HQ.out.2.2.2 (HO.out.rea g HJ.out.2.2.2.2.2 id HQ.out.2.2.2 u hum heq)
         rw [HLg.out] at hc
         have HC:=Lib.hid hc
         clear hg3 hB3 hu hum hB3w hc heq
         go_wp2_with fail
         with_reducible refine Calls.mono HC.out ?_
         rintro e w9 ⟨rfl,hb9⟩
         have HB9:=Lib.hid (HB3.out.2.trans (hb9.mono HB3.out.2.size))
         clear hb9
         go_wp2
         go_roundg (L - (q + 1))
         case measure => have:=HB3.out.1;omega
         case rel => exact ⟨q + 1,rfl,by omega,by go_num,HB9.out⟩
       ·have hqL : q = L:=by omega
        subst hqL
        have HB3:=Lib.hid hB3
        clear hg3 hB3
        go_wp2
        go_roundg (q - (i + 1))
        case measure => have:=HQ.out.1;omega
        case rel => exact ⟨i + 1,rfl,by omega,by go_num,HB3.out⟩
     ·obtain ⟨pv,hpv,hlt2⟩ : ∃ pv,g[i - 1]? = some pv ∧ pv < id:=by
       obtain ⟨h1,h2⟩:=List.getElem?_eq_some_iff.1 HQ.out.2.2.1
       refine ⟨g[i - 1]'(by omega),List.getElem?_eq_getElem (by omega),?_⟩
       rw [← h2]
       exact List.pairwise_iff_getElem.1 HJ.out.2.2.2.2.1 (i - 1) i _ _ (by omega)
      have cp:=HGC.out _ (HWr.out _ hB2) (i - 1) pv hpv
      have hwi : IntKind.i64.wrap ((i : Int) - 1) = ((i - 1 : Nat) : Int):=by
       simp only [IntKind.wrap_i64];omega
      have hi1 : i - 1 < L:=by omega
      have hge : decide (pv ≥ id) = false:=decide_eq_false (by omega)
      have hge' : decide (id ≤ pv) = false:=decide_eq_false (by omega)
      clear hpv hlt2
      clear hB2
      go_wp2_with fail
      with_reducible refine Calls.mono HC15.out ?_
      rintro e _ ⟨rfl,rfl⟩
      go_wp2
      go_loopg [69] L (fun gh ct wq => ∃ q : Nat,gh = L - q ∧ q ≤ L ∧ ct = .int .i64 q ∧ RowKit.Below w7.heap.size w7 wq)
      case atStart => exact ⟨0,rfl,Nat.zero_le _,rfl,HQ.out.2.1⟩
      case round =>
       obtain ⟨q,hg3,hq,rfl,hB3⟩:=hrel
       by_cases hlq : q < L
       ·obtain ⟨u,hu⟩ : ∃ a,g[q]? = some a:=⟨_,List.getElem?_eq_getElem (by rw [HLg.out];exact hlq)⟩
        have hum:=List.mem_of_getElem? hu
        have hB3w:=HWr.out _ hB3
        have cu:=HGC.out _ hB3w q u hu
        have HB3:=Lib.hid (And.intro hg3 hB3)
        by_cases heq : id = u
        ·subst heq
         have hne : (id != id) = false:=by simp
         clear hg3 hB3 hu hum hB3w
         go_wp2
         go_roundg (L - (q + 1))
         case measure => have:=HB3.out.1;omega
         case rel => exact ⟨q + 1,rfl,by omega,by go_num,HB3.out.2⟩
        ·have hne : (id != u) = true:=by simpa using heq
         obtain ⟨k0,k1,k2⟩:=HBX.out _ hB3w
         have hc:=HRE.out _ (some ⟨gb,go,none⟩) gc g id u (HW2.out _ hB3w) (HGI.out _ hB3w) (by rw [HLg.out];omega) HQ.out.2.2.2 (HO.out.rea g HJ.out.2.2.2.2.2 id HQ.out.2.2.2 u hum heq)
         rw [HLg.out] at hc
         have HC:=Lib.hid hc
         clear hg3 hB3 hu hum hB3w hc heq
         go_wp2_with fail
         with_reducible refine Calls.mono HC.out ?_
         rintro e w9 ⟨rfl,hb9⟩
         have HB9:=Lib.hid (HB3.out.2.trans (hb9.mono HB3.out.2.size))
         clear hb9
         go_wp2
         go_roundg (L - (q + 1))
         case measure => have:=HB3.out.1;omega
         case rel => exact ⟨q + 1,rfl,by omega,by go_num,HB9.out⟩
       ·have hqL : q = L:=by omega
        subst hqL
        have HB3:=Lib.hid hB3
        clear hg3 hB3
        go_wp2
        go_roundg (q - (i + 1))
        case measure => have:=HQ.out.1;omega
        case rel => exact ⟨i + 1,rfl,by omega,by go_num,HB3.out⟩
    ·have hiL : i = L:=by omega
     subst hiL
     obtain ⟨i1',hi',hz0',hz1',hz2'⟩:=info_parts Tryz.infoInt
     have hrl:=row_keep HJ.out.2.1 (w':=wr) fun k hk => hB2.block k (HJ.out.2.1.lt k hk).2
     rw [HCL.out] at hrl
     have hB2w:=HWr.out _ hB2
     have HRL:=Lib.hid (And.intro hrl (And.intro hB2w.size hB2w))
     have hnews : ∀ j u,(g.map (Value.int .i64))[j]? = some u → wr.cell? ((⟨gb,go,none⟩ : Addr).add j) = some u:=fun j u hj => by
      rw [List.getElem?_map] at hj
      obtain ⟨y,hy,rfl⟩:=Option.map_eq_some_iff.1 hj
      rw [addr_addL]
      exact HGC.out _ hB2w j y hy
     have HNW:=Lib.hid hnews
     clear hB2 hrl hB2w hnews hg2
     go_wp2_with (at_builtin;refine wpList_append_own_at _ rfl _ _ 39 rfl w2.heap.size 3 i1' _ 1 8 Tryz.undInts hi' hz0' hz1' hz2' rfl (by decide) (.slice cA CL cc) CL _ rfl HRL.out.1 ⟨gb,go,none⟩ i gc (g.map (.int .i64)) rfl (by rw [List.length_map,HLg.out,Nat.mul_one]) HNW.out (fun u hu => by obtain ⟨y,_,rfl⟩:=List.mem_map.1 hu;rfl) (by unfold maxLen;omega) (by omega) HRL.out.2.1 ?_;intro lv6 Z6 hown6 hgrow6 _ _;obtain ⟨lA6,lc6,rfl⟩:=row_slice hown6;have HZ6:=Lib.hid (And.intro hown6 hgrow6);clear hown6 hgrow6)
     have hZB : RowKit.Below w2.heap.size w2 Z6:=HRL.out.2.2.trans (grown_bel HZ6.out.2 HRL.out.2.1 fun k e => (HRL.out.1.lt k e).1)
     have HZB:=Lib.hid (show ∀ Y,RowKit.Below Z6.heap.size Z6 Y → RowKit.Below w2.heap.size w2 Y from fun Y hY => hZB.trans (hY.mono hZB.size))
     have hown7 : Z6.ownsRow w2.heap.size 3 1 (.slice lA6 (CL + i) lc6) (R.take (p + 1)).flatten.length ((R.take (p + 1)).flatten.map (.int .i64)):=by
      rw [take_flat HJ.out.2.2.2.1,List.map_append,List.length_append,HCL.out,HLg.out]
      exact HZ6.out.1
     obtain ⟨C7,HC7⟩ : ∃ C,Hid ((R.take (p + 1)).flatten = C):=⟨_,Lib.hid rfl⟩
     obtain ⟨M,HM⟩ : ∃ M,Hid (CL + i = M):=⟨_,Lib.hid rfl⟩
     rw [HC7.out,HM.out] at hown7
     rw [HM.out]
     have HH6:=Lib.hid (show ∀ Y y,RowKit.Below Z6.heap.size Z6 Y → y ∈ C7 → Calls Tryz.prog 20 #[.slice lA6 M lc6,.int .i64 y] Y fun e Z => e = .returned (.bool true) ∧ Y = Z from fun Y y hY hy => by
      obtain ⟨A,c,e,h⟩:=row_ints (row_keep hown7 (w':=Y) fun k hk => hY.block k (hown7.lt k hk).2)
      simp only [Value.slice.injEq] at e
      obtain ⟨rfl,e2,rfl⟩:=e
      rw [e2]
      have:=has23_any C7 y _ _ Y h
      rw [decide_eq_true hy] at this
      exact this)
     have HO7:=Lib.hid hown7
     clear hZB hown7
     go_loopg [91] i (fun gh ct wq => ∃ a : Nat,gh = i - a ∧ a ≤ i ∧ ct = .int .i64 a ∧ RowKit.Below Z6.heap.size Z6 wq)
     case atStart => exact ⟨0,rfl,Nat.zero_le _,rfl,RowKit.Below.refl _ _⟩
     case round =>
      obtain ⟨a,hg4,ha,rfl,hB4⟩:=hrel
      by_cases hla : a < i
      ·obtain ⟨id,hid⟩ : ∃ z,g[a]? = some z:=⟨_,List.getElem?_eq_getElem (by rw [HLg.out];exact hla)⟩
       have hidm:=List.mem_of_getElem? hid
       have ci:=HGC.out _ (HZB.out _ hB4) a id hid
       obtain ⟨k0,k1,k2⟩:=HBX.out _ (HZB.out _ hB4)
       have HQ:=Lib.hid (And.intro hg4 (And.intro hB4 hidm))
       clear hg4 hB4 hid hidm
       go_wp2
       go_loopg [98] N (fun gh ct wq => ∃ j : Nat,gh = N - j ∧ j ≤ N ∧ ct = .int .i64 j ∧ RowKit.Below Z6.heap.size Z6 wq)
       case atStart => exact ⟨0,rfl,Nat.zero_le _,rfl,HQ.out.2.1⟩
       case round =>
        obtain ⟨j,hg5,hj,rfl,hB5⟩:=hrel
        by_cases hlj : j < N
        ·have hlt' : j < ds.length:=by rw [HN.out];exact hlj
         obtain ⟨x,hx⟩ : ∃ x,ds[j]? = some x:=⟨_,List.getElem?_eq_getElem hlt'⟩
         have hxP : usB ds id x.id = true → x.id ∈ C7:=fun h => by
          rw [← HC7.out]
          exact HO.out.use p g HJ.out.2.2.2.1 id HQ.out.2.2 x.id h
         have hd:=(HS.out _ (HW2.out _ (HZB.out _ hB5))).2
         obtain ⟨b,o,rfl,hb,hall⟩:=hd.2.2 (by intro e;rw [e] at hlt';simp at hlt')
         obtain ⟨hcs,hxok⟩:=hall j x hx
         obtain ⟨xid,xkind,xpub,xnA,xnc,xnames,xdoubt,xk,xn,xm,xi,xd,xA,xc,xs⟩:=x
         have d0 : wr.cell? ⟨b,o + j * 11,none⟩ = some (.int .i64 xid):=hcs 0 _ rfl
         have d1 : wr.cell? ⟨b,o + j * 11 + 1,none⟩ = some (.int .i64 xkind):=hcs 1 _ rfl
         have d2 : wr.cell? ⟨b,o + j * 11 + 2,none⟩ = some (.bool xpub):=hcs 2 _ rfl
         have d3 : wr.cell? ⟨b,o + j * 11 + 3,none⟩ = some (.slice xnA xnames.length xnc):=hcs 3 _ rfl
         have d4 : wr.cell? ⟨b,o + j * 11 + 4,none⟩ = some (.bool xdoubt):=hcs 4 _ rfl
         have d5 : wr.cell? ⟨b,o + j * 11 + 5,none⟩ = some (.int .i64 xk):=hcs 5 _ rfl
         have d6 : wr.cell? ⟨b,o + j * 11 + 6,none⟩ = some (.string xn):=hcs 6 _ rfl
         have d7 : wr.cell? ⟨b,o + j * 11 + 7,none⟩ = some (.string xm):=hcs 7 _ rfl
         have d8 : wr.cell? ⟨b,o + j * 11 + 8,none⟩ = some (.int .i64 xi):=hcs 8 _ rfl
         have d9 : wr.cell? ⟨b,o + j * 11 + 9,none⟩ = some (.int .i64 xd):=hcs 9 _ rfl
         have d10 : wr.cell? ⟨b,o + j * 11 + 10,none⟩ = some (.slice xA xs.len xc):=hcs 10 _ rfl
         simp only at hxP
         obtain ⟨W3,hW3⟩ : ∃ W3,wr.alloc (.cells #[.int .i64 xid,.int .i64 xkind,.bool xpub,.slice xnA xnames.length xnc,.bool xdoubt,.int .i64 xk,.string xn,.string xm,.int .i64 xi,.int .i64 xd,.slice xA xs.len xc] 46) = W3:=⟨_,rfl⟩
         have hb3 : RowKit.Below wr.heap.size wr W3:=by subst hW3;exact (RowKit.Below.refl _ _).alloc (Nat.le_refl _) _
         have hr3 : W3.heap[wr.heap.size]? = some (.cells #[.int .i64 xid,.int .i64 xkind,.bool xpub,.slice xnA xnames.length xnc,.bool xdoubt,.int .i64 xk,.string xn,.string xm,.int .i64 xi,.int .i64 xd,.slice xA xs.len xc] 46 (0,0)):=by subst hW3;exact heap_alloc_new wr _
         have f0:=cell_of_row W3 wr.heap.size 0 _ _ (0,0) hr3
         simp at f0
         have hB53 : RowKit.Below Z6.heap.size Z6 W3:=hB5.trans (hb3.mono hB5.size)
         obtain ⟨k0',k1',k2'⟩:=HBX.out _ (HZB.out _ hB53)
         have hcu:=HU.out W3 id xid (HW2.out _ (HZB.out _ hB53))
         obtain ⟨U,HU5⟩ : ∃ q,Hid (usB ds id xid = q):=⟨_,Lib.hid rfl⟩
         rw [HU5.out] at hcu hxP
         have HCU:=Lib.hid hcu
         have HX:=Lib.hid (And.intro hg5 (And.intro hB53 (And.intro hr3 hxP)))
         clear hg5 hB5 hd hall hcs hxok hx hxP hb3 hr3 hB53 hcu hlt' hb
         cases U with
         | false =>
          go_upto_region 31 with fail
          try rw [hW3]
          go_wp2_with fail
          with_reducible refine Calls.mono HCU.out ?_
          rintro e w11 ⟨rfl,hb11⟩
          have HB11:=Lib.hid (HX.out.2.1.trans (hb11.mono HX.out.2.1.size))
          clear hb11
          go_wp2
          go_roundg (N - (j + 1))
          case measure => have:=HX.out.1;omega
          case rel => exact ⟨j + 1,rfl,by omega,by go_num,HB11.out⟩
         | true =>
          go_upto_region 31 with fail
          try rw [hW3]
          go_wp2_with fail
          with_reducible refine Calls.mono HCU.out ?_
          rintro e w11 ⟨rfl,hb11⟩
          have HB11:=Lib.hid (HX.out.2.1.trans (hb11.mono HX.out.2.1.size))
          have f0':=cell_of_row w11 _ 0 _ _ (0,0) ((hb11.block _ (lt_of_block HX.out.2.2.1)).trans HX.out.2.2.1)
          simp at f0'
          have HC:=Lib.hid (HH6.out w11 xid HB11.out (HX.out.2.2.2 (by first | rfl | trivial)))
          clear hb11
          go_wp2_with fail
          with_reducible refine Calls.mono HC.out ?_
          rintro e _ ⟨rfl,rfl⟩
          go_wp2
          go_roundg (N - (j + 1))
          case measure => have:=HX.out.1;omega
          case rel => exact ⟨j + 1,rfl,by omega,by go_num,HB11.out⟩
        ·have hjN : j = N:=by omega
         have HB5:=Lib.hid hB5
         clear hg5 hB5
         subst hjN
         go_wp2
         go_roundg (i - (a + 1))
         case measure => have:=HQ.out.1;omega
         case rel => exact ⟨a + 1,rfl,by omega,by go_num,HB5.out⟩
      ·have hai : a = i:=by omega
       have HB4:=Lib.hid hB4
       clear hg4 hB4
       subst hai
       go_wp2
       go_roundg (K - (p + 1))
       case measure => have:=HJ.out.1;omega
       case rel => exact ⟨p + 1,rfl,by omega,by go_num,by rw [HC7.out];exact row_keep HO7.out fun k hk => HB4.out.block k (HO7.out.lt k hk).2,HZB.out _ HB4.out⟩
  ·have hpK : p = K:=by omega
   have hfl : (R.take p).flatten = R.flatten:=by rw [List.take_of_length_le (by rw [HK.out,hpK];exact Nat.le_refl _)]
   have hln : R.flatten.length = N:=by rw [HO.out.len,HN.out]
   rw [hfl] at hrow ⊢
   have HH6:=Lib.hid (show ∀ Y y,RowKit.Below w7.heap.size w7 Y → y ∈ R.flatten → Calls Tryz.prog 20 #[.slice cA N cc,.int .i64 y] Y fun e Z => e = .returned (.bool true) ∧ Y = Z from fun Y y hY hy => by
    obtain ⟨A,c,e,h⟩:=row_ints (row_keep hrow (w':=Y) fun k hk => hY.block k (hrow.lt k hk).2)
    cases e
    have:=has23_any R.flatten y _ _ Y h
    rw [decide_eq_true hy,hln] at this
    exact this)
   rw [hln]
   obtain ⟨k0,k1,k2⟩:=HBX.out _ hB
   have hNN : ((N : Int) != (N : Int)) = false:=by simp
   have HB7:=Lib.hid hB
   subst hpK
   clear hg hB hrow hfl hln
   go_wp2
   go_loopg [126] N (fun gh ct wq => ∃ j : Nat,gh = N - j ∧ j ≤ N ∧ ct = .int .i64 j ∧ RowKit.Below w7.heap.size w7 wq)
   case atStart => exact ⟨0,rfl,Nat.zero_le _,rfl,RowKit.Below.refl _ _⟩
   case round =>
    obtain ⟨j,hg5,hj,rfl,hB5⟩:=hrel
    have hB5w : RowKit.Below w2.heap.size w2 wr:=HB7.out.trans (hB5.mono HB7.out.size)
    by_cases hlj : j < N
    ·have hlt' : j < ds.length:=by rw [HN.out];exact hlj
     obtain ⟨x,hx⟩ : ∃ x,ds[j]? = some x:=⟨_,List.getElem?_eq_getElem hlt'⟩
     have hxP : x.id ∈ R.flatten:=HO.out.mem x (List.mem_of_getElem? hx)
     have hd:=(HS.out _ (HW2.out _ hB5w)).2
     obtain ⟨b,o,rfl,hb,hall⟩:=hd.2.2 (by intro e;rw [e] at hlt';simp at hlt')
     obtain ⟨hcs,hxok⟩:=hall j x hx
     obtain ⟨xid,xkind,xpub,xnA,xnc,xnames,xdoubt,xk,xn,xm,xi,xd,xA,xc,xs⟩:=x
     have d0 : wr.cell? ⟨b,o + j * 11,none⟩ = some (.int .i64 xid):=hcs 0 _ rfl
     have d1 : wr.cell? ⟨b,o + j * 11 + 1,none⟩ = some (.int .i64 xkind):=hcs 1 _ rfl
     have d2 : wr.cell? ⟨b,o + j * 11 + 2,none⟩ = some (.bool xpub):=hcs 2 _ rfl
     have d3 : wr.cell? ⟨b,o + j * 11 + 3,none⟩ = some (.slice xnA xnames.length xnc):=hcs 3 _ rfl
     have d4 : wr.cell? ⟨b,o + j * 11 + 4,none⟩ = some (.bool xdoubt):=hcs 4 _ rfl
     have d5 : wr.cell? ⟨b,o + j * 11 + 5,none⟩ = some (.int .i64 xk):=hcs 5 _ rfl
     have d6 : wr.cell? ⟨b,o + j * 11 + 6,none⟩ = some (.string xn):=hcs 6 _ rfl
     have d7 : wr.cell? ⟨b,o + j * 11 + 7,none⟩ = some (.string xm):=hcs 7 _ rfl
     have d8 : wr.cell? ⟨b,o + j * 11 + 8,none⟩ = some (.int .i64 xi):=hcs 8 _ rfl
     have d9 : wr.cell? ⟨b,o + j * 11 + 9,none⟩ = some (.int .i64 xd):=hcs 9 _ rfl
     have d10 : wr.cell? ⟨b,o + j * 11 + 10,none⟩ = some (.slice xA xs.len xc):=hcs 10 _ rfl
     simp only at hxP
     obtain ⟨W3,hW3⟩ : ∃ W3,wr.alloc (.cells #[.int .i64 xid,.int .i64 xkind,.bool xpub,.slice xnA xnames.length xnc,.bool xdoubt,.int .i64 xk,.string xn,.string xm,.int .i64 xi,.int .i64 xd,.slice xA xs.len xc] 46) = W3:=⟨_,rfl⟩
     have hb3 : RowKit.Below wr.heap.size wr W3:=by subst hW3;exact (RowKit.Below.refl _ _).alloc (Nat.le_refl _) _
     have hr3 : W3.heap[wr.heap.size]? = some (.cells #[.int .i64 xid,.int .i64 xkind,.bool xpub,.slice xnA xnames.length xnc,.bool xdoubt,.int .i64 xk,.string xn,.string xm,.int .i64 xi,.int .i64 xd,.slice xA xs.len xc] 46 (0,0)):=by subst hW3;exact heap_alloc_new wr _
     have f0:=cell_of_row W3 wr.heap.size 0 _ _ (0,0) hr3
     simp at f0
     have hB53 : RowKit.Below w7.heap.size w7 W3:=hB5.trans (hb3.mono hB5.size)
     have HC:=Lib.hid (HH6.out W3 xid hB53 hxP)
     have HX:=Lib.hid (And.intro hg5 hB53)
     clear hg5 hB5 hd hall hcs hxok hx hxP hb3 hr3 hB53 hlt' hb hB5w
     go_upto_region 41 with fail
     try rw [hW3]
     go_wp2_with fail
     with_reducible refine Calls.mono HC.out ?_
     rintro e _ ⟨rfl,rfl⟩
     go_wp2
     go_roundg (N - (j + 1))
     case measure => have:=HX.out.1;omega
     case rel => exact ⟨j + 1,rfl,by omega,by go_num,HX.out.2⟩
    ·have hjN : j = N:=by omega
     have HB5:=Lib.hid hB5w
     clear hg5 hB5 hB5w
     subst hjN
     go_wp2_with fail
     with_reducible refine Calls.mono (awake25_any _) ?_
     rintro e w12 ⟨rfl,hb12⟩
     have h1:=HW2.out _ HB5.out
     have HB12:=Lib.hid (h1.trans (hb12.mono h1.size))
     clear hb12 h1
     go_wp2
     go_ret
     exact ⟨rfl,HB12.out⟩
end Go.Proofs.YtmmecapgnmlaiaaGreatDoor
