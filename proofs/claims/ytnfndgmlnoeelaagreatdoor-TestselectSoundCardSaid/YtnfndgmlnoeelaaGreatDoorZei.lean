/- eval: operators -/
import Derived.Test.YtnfndgmlnoeelaaGreatDoorZef
import Derived.Test.YtnfndgmlnoeelaaGreatDoorZej
namespace Go.Proofs.YtnfndgmlnoeelaaGreatDoor
open Go Go.RowKit Go.Proofs

theorem opV_num {o : ByteArray} {a b r : Int} (h1 : ¬ o.data = #[61]) (h2 : ¬ o.data = #[60]) (hr : (if o.data = #[43] then wrap64 (a + b) else if o.data = #[45] then wrap64 (a - b) else wrap64 (a * b)) = r) : opV o a b = if r < -999999999 ∨ r > 999999999 then none else some (vaI 1 r):=by
 unfold opV
 rw [if_neg h1,if_neg h2]
 simp only [hr]
theorem toL_lit {o : ByteArray} {c : UInt8} : (o.toList == [c]) = decide (o.data = #[c]):=by
 rw [Lib.toList_data]
 by_cases h : o.data = #[c]
 ·rw [decide_eq_true h,beq_iff_eq,h]
 ·rw [decide_eq_false h,beq_eq_false_iff_ne]
  intro e
  exact h (Array.toList_inj.1 e)
section
variable {W0 : World} {B0 vb rb base : Nat} {m : Value} {L : Int} {w : World} {fv : Value} {fc : List Value} {gv : Value} {gc : List Value} {rs : List Rm}
set_option maxRecDepth 100000 in
set_option maxHeartbeats 8000000 in
theorem evOp_any {n z : Int} {f : Fe} {fs : List Fe} {vs : List Va} {g cap : Nat} (h : EvI W0 B0 vb rb base m L w ⟨n,z,f :: fs,vs⟩ (.slice (some ⟨g,0,none⟩) (fs.length + 1) cap) fc gv gc rs) (hs : Sm L ⟨n,z,f :: fs,vs⟩) (ha : f.at_ ≤ 2) (hlen : f.e.s.len = 2) (hvs : f.at_ = 2 → ∃ y x vs1,vs = y :: x :: vs1) :
  Calls Tryz.prog 94 #[.pointer (some ⟨vb,0,none⟩),.pointer (some ⟨g,fs.length * 3,none⟩)] w (MethR W0 B0 vb rb base m L (.slice (some ⟨g,0,none⟩) (fs.length + 1) cap) gv rs w (sOp L n z f fs vs)):=by
 obtain ⟨R,HR⟩ : ∃ R,Hid (sOp L n z f fs vs = R):=⟨_,Lib.hid rfl⟩
 rw [HR.out]
 rcases (show f.at_ = 0 ∨ f.at_ = 1 ∨ f.at_ = 2 by omega) with ha0 | ha0 | ha0
 ·obtain ⟨x0,hx0⟩:=Sk.at_lt (s:=f.e.s) (j:=0) (by omega)
  have HN:=Lib.hid (show R = .go ⟨n,z,⟨x0,0,f.p,f.v⟩ :: f.put 1 :: fs,vs⟩ by rw [← HR.out];unfold sOp;rw [if_pos (by omega)];unfold partR;simp only [ha0];rw [hx0])
  obtain ⟨eb,eo,pb,sA,sc,vA,vc,hT⟩:=h.facts
  have hD:=h.same (w':=w.drew) (Oth.refl _ _).drew
  have HP:=Lib.hid (partI hD.1 hs (j:=0) (a:=1) hx0 (by omega) (hT.pl.keep hD.2.1))
  have HD:=Lib.hid hD.2
  have p1:=hT.p1
  have p2:=hT.p2
  rw [ha0] at p1
  clear h hs hT hx0 hD
  go_enter Tryz.func94,Tryz.ntmps94
  go_wp2
  go_still_tail 15,(by kernel_rfl)
  change wpList _ _ _ _ _ w.drew
  generalize w.drew = wd at HP HD ⊢
  clear p1 p2
  go_wp2_with fail
  refine HP.out.mono ?_
  rintro e w1 ⟨rfl,hE⟩
  have HE:=Lib.hid hE
  clear hE
  go_wp2
  go_end0
  rw [HN.out]
  exact ⟨rfl,HE.out.next HD.out.1 HD.out.2⟩
 ·obtain ⟨x0,hx0⟩:=Sk.at_lt (s:=f.e.s) (j:=1) (by omega)
  have HN:=Lib.hid (show R = .go ⟨n,z,⟨x0,0,f.p,f.v⟩ :: f.put 2 :: fs,vs⟩ by rw [← HR.out];unfold sOp;rw [if_pos (by omega)];unfold partR;simp only [ha0];rw [hx0])
  obtain ⟨eb,eo,pb,sA,sc,vA,vc,hT⟩:=h.facts
  have hD:=h.same (w':=w.drew) (Oth.refl _ _).drew
  have HP:=Lib.hid (partI hD.1 hs (j:=1) (a:=2) hx0 (by omega) (hT.pl.keep hD.2.1))
  have HD:=Lib.hid hD.2
  have p1:=hT.p1
  have p2:=hT.p2
  rw [ha0] at p1
  clear h hs hT hx0 hD
  go_enter Tryz.func94,Tryz.ntmps94
  go_wp2
  go_still_tail 15,(by kernel_rfl)
  change wpList _ _ _ _ _ w.drew
  generalize w.drew = wd at HP HD ⊢
  clear p1 p2
  go_wp2_with fail
  refine HP.out.mono ?_
  rintro e w1 ⟨rfl,hE⟩
  have HE:=Lib.hid hE
  clear hE
  go_wp2
  go_end0
  rw [HN.out]
  exact ⟨rfl,HE.out.next HD.out.1 HD.out.2⟩
 ·obtain ⟨y,x,vs1,rfl⟩:=hvs ha0
  by_cases hl : L ≤ n
  ·have HN:=Lib.hid (show R = .bad 27 n by rw [← HR.out];unfold sOp;rw [if_neg (by omega)];exact if_pos hl)
   have HS:=Lib.hid (stepI_no h hl)
   obtain ⟨eb,eo,pb,sA,sc,vA,vc,hT⟩:=h.facts
   have p1:=hT.p1
   rw [ha0] at p1
   clear h hl hs hT
   go_enter Tryz.func94,Tryz.ntmps94
   go_wp2_with fail
   refine HS.out.mono ?_
   rintro e w1 ⟨he,hE,hst⟩
   have HE:=Lib.hid (And.intro hE hst)
   clear hE hst
   unfold failed at he
   subst he
   go_wp2
   rw [HN.out]
   exact ⟨rfl,rfl,_,_,_,_,_,_,HE.out.1,rfl,HE.out.2⟩
  ·have HS:=Lib.hid (stepI_ok h hs (by show n < L;omega))
   have HM:=Lib.hid (show Sm L ⟨n + 1,z,f :: fs,y :: x :: vs1⟩ from ⟨by have:=hs.n0;show 0 ≤ n + 1;simp only at this;omega,hs.l,hs.f,hs.v⟩)
   have HL:=Lib.hid (show n < L by omega)
   obtain ⟨eb,eo,pb,sA,sc,vA,vc,hT⟩:=h.facts
   have p1:=hT.p1
   rw [ha0] at p1
   clear h hl hs hT
   go_enter Tryz.func94,Tryz.ntmps94
   go_wp2_with fail
   refine HS.out.mono ?_
   rintro e w1 ⟨rfl,hE,hkp,hst⟩
   clear p1 HS
   obtain ⟨eb,eo,pb,sA,sc,vA,vc,hT⟩:=hE.facts
   have HF:=Lib.hid (show R = if x.k ≠ 1 ∨ y.k ≠ 1 then Rs.bad 26 (n + 1) else (match opV f.e.n x.i y.i with | some v => .go ⟨n + 1,z,fs,v :: vs1⟩ | none => .bad 5 (n + 1)) by rw [← HR.out];unfold sOp;rw [if_neg (by omega)];exact if_neg (Int.not_le.2 HL.out))
   have hvw : vb < w1.heap.size:=lt_of_block hE.ev.blk
   have HG:=Lib.hid (hE.ev.fr.lt g rfl).2
   have HPop1:=Lib.hid (popO hE)
   have HE:=Lib.hid (And.intro hkp hst)
   clear hE hkp hst hT
   go_wp2_with fail
   refine HPop1.out.mono ?_
   rintro e w2 ⟨lA1,lc1,bA1,bc1,eA1,ec1,rfl,gv1,gc1,hE,hk,hst,hx,hov⟩
   obtain ⟨w3,hw1⟩ : ∃ Q9,w2.alloc (.cells #[.int .i64 y.k,.int .i64 y.i,.slice lA1 y.l.len lc1,.int .i64 0,.string y.p,.string y.q,.slice bA1 y.b.len bc1,.slice eA1 y.e.len ec1] 36) = Q9:=⟨_,rfl⟩
   have ho : Oth (fun _ => False) w2 w3:=by rw [← hw1];exact (Oth.refl _ _).alloc _
   have hr : w3.heap[w2.heap.size]? = some (.cells #[.int .i64 y.k,.int .i64 y.i,.slice lA1 y.l.len lc1,.int .i64 0,.string y.p,.string y.q,.slice bA1 y.b.len bc1,.slice eA1 y.e.len ec1] 36 (0,0)):=by rw [← hw1];exact heap_alloc_new _ _
   have hsm:=hE.same ho
   have hz2:=hov.size
   have hB : EvI W0 B0 vb rb base m L w3 ⟨n + 1,z,f :: fs,x :: vs1⟩ (.slice (some ⟨g,0,none⟩) (fs.length + 1) cap) fc gv1 gc1 rs ∧ Kp (Dd vb rb (.slice (some ⟨g,0,none⟩) (fs.length + 1) cap) gv rs) w1 (Dd vb rb (.slice (some ⟨g,0,none⟩) (fs.length + 1) cap) gv1 rs) w3 ∧ St w1 w3:=⟨hsm.1,hk.trans hsm.2.1,hst.trans hsm.2.2⟩
   have HB:=Lib.hid hB
   have HY:=Lib.hid (And.intro (hx.keep hsm.2.1) (And.intro hr (show w2.heap.size ≠ vb by omega)))
   have HPop2:=Lib.hid (popO hsm.1)
   clear hE hk hst hx ho hr hsm hB hov
   go_wp2_with fail
   clear hw1
   refine HPop2.out.mono ?_
   rintro e w4 ⟨lA2,lc2,bA2,bc2,eA2,ec2,rfl,gv2,gc2,hE,hk,hst,hx,hov⟩
   obtain ⟨w5,hw2⟩ : ∃ Q9,w4.alloc (.cells #[.int .i64 x.k,.int .i64 x.i,.slice lA2 x.l.len lc2,.int .i64 0,.string x.p,.string x.q,.slice bA2 x.b.len bc2,.slice eA2 x.e.len ec2] 36) = Q9:=⟨_,rfl⟩
   have ho : Oth (fun _ => False) w4 w5:=by rw [← hw2];exact (Oth.refl _ _).alloc _
   have hr : w5.heap[w4.heap.size]? = some (.cells #[.int .i64 x.k,.int .i64 x.i,.slice lA2 x.l.len lc2,.int .i64 0,.string x.p,.string x.q,.slice bA2 x.b.len bc2,.slice eA2 x.e.len ec2] 36 (0,0)):=by rw [← hw2];exact heap_alloc_new _ _
   have hsm:=hE.same ho
   have hB : EvI W0 B0 vb rb base m L w5 ⟨n + 1,z,f :: fs,vs1⟩ (.slice (some ⟨g,0,none⟩) (fs.length + 1) cap) fc gv2 gc2 rs ∧ Kp (Dd vb rb (.slice (some ⟨g,0,none⟩) (fs.length + 1) cap) gv1 rs) w3 (Dd vb rb (.slice (some ⟨g,0,none⟩) (fs.length + 1) cap) gv2 rs) w5 ∧ St w3 w5:=⟨hsm.1,hk.trans hsm.2.1,hst.trans hsm.2.2⟩
   have hry : w5.heap[w2.heap.size]? = _:=(ho.block _ (Nat.lt_of_lt_of_le (lt_of_block HY.out.2.1) hov.size) (fun e => e)).trans ((hov.block _ (lt_of_block HY.out.2.1) HY.out.2.2).trans HY.out.2.1)
   obtain ⟨c0,c1,c2,c3,c4,c5,c6,c7,_,_,_,_,_,_,_,_⟩:=row8 hry
   obtain ⟨d0,d1,d2,d3,d4,d5,d6,d7,_,_,_,_,_,_,_,_⟩:=row8 hr
   have HB2:=Lib.hid hB
   have HX:=Lib.hid (And.intro (hx.keep hsm.2.1) ((HY.out.1.keep hk).keep hsm.2.1))
   have HV:=Lib.hid (fun (k i : Int) (X : World) (hoX : Oth (fun _ => False) w5 X) => resultI (hsm.1.same hoX).1 ⟨HM.out.n0,HM.out.l,HM.out.f,by have:=HM.out.v;simp only [List.length_cons] at this;show vs1.length ≤ _;omega⟩ (VaR.plain _ X _ (CdW.nil _ _ _) k i))
   have HSm:=Lib.hid (fun (X : World) (hoX : Oth (fun _ => False) w5 X) => (hsm.1.same hoX).2)
   obtain ⟨eb',eo',pb',sA',sc',vA',vc',hT'⟩:=hsm.1.facts
   have p0:=hT'.p0
   have k1:=hT'.k1
   clear hE hk hst hx ho hr hsm hB hov hry hT' hlen hvs hvw hz2
   by_cases hxk : x.k = 1
   rotate_left
   ·have hxb : (x.k != 1) = true:=by simp [hxk]
    have HR2:=Lib.hid (show R = .bad 26 (n + 1) by rw [HF.out,if_pos (.inl hxk)])
    have HFl:=Lib.hid (fun X => evFail_any (.pointer (some ⟨vb,0,none⟩)) 26 X)
    clear hxk
    go_wp2_with fail
    refine (HFl.out _).mono ?_
    rintro e w6 ⟨he,rfl⟩
    clear hw2 c0 c1 c2 c3 c4 c5 c6 c7 d0 d1 d2 d3 d4 d5 d6 d7 p0 k1
    unfold failed at he
    subst he
    go_wp2
    rw [HR2.out]
    exact ⟨rfl,rfl,_,_,_,_,_,_,HB2.out.1,rfl,HE.out.2.trans (HB.out.2.2.trans HB2.out.2.2)⟩
   have hxb : (x.k != 1) = false:=by simp [hxk]
   by_cases hyk : y.k = 1
   rotate_left
   ·have hyb : (y.k != 1) = true:=by simp [hyk]
    have HR2:=Lib.hid (show R = .bad 26 (n + 1) by rw [HF.out,if_pos (.inr hyk)])
    have HFl:=Lib.hid (fun X => evFail_any (.pointer (some ⟨vb,0,none⟩)) 26 X)
    clear hxk hyk
    go_wp2_with fail
    refine (HFl.out _).mono ?_
    rintro e w6 ⟨he,rfl⟩
    clear hw2 c0 c1 c2 c3 c4 c5 c6 c7 d0 d1 d2 d3 d4 d5 d6 d7 p0 k1
    unfold failed at he
    subst he
    go_wp2
    rw [HR2.out]
    exact ⟨rfl,rfl,_,_,_,_,_,_,HB2.out.1,rfl,HE.out.2.trans (HB.out.2.2.trans HB2.out.2.2)⟩
   have hyb : (y.k != 1) = false:=by simp [hyk]
   have HO:=Lib.hid (show R = (match opV f.e.n x.i y.i with | some v => Rs.go ⟨n + 1,z,fs,v :: vs1⟩ | none => .bad 5 (n + 1)) by rw [HF.out,if_neg (by simp [hxk,hyk])])
   clear hxk hyk
   by_cases h61 : f.e.n.data = #[61]
   ·have q61 : (f.e.n.toList == [61]) = true:=toL_lit.trans (decide_eq_true h61)
    obtain ⟨T,HTt⟩ : ∃ T : Int,Hid ((if (x.i == y.i) = true then 1 else 0) = T):=⟨_,Lib.hid rfl⟩
    have HTr:=Lib.hid (show ∀ X,Calls Tryz.prog 131 #[.bool (x.i == y.i)] X fun e w' => e = .returned (.agg #[.int .i64 2,.int .i64 T,.slice none 0 0,.int .i64 0,.string ⟨#[]⟩,.string ⟨#[]⟩,.slice none 0 0,.slice none 0 0]) ∧ Oth (fun _ => False) X w' from fun X => by
     rw [← HTt.out]
     exact evTruth_any _ X)
    have HR2:=Lib.hid (show R = .go ⟨n + 1,z,fs,vaI 2 T :: vs1⟩ by
     rw [HO.out,show opV f.e.n x.i y.i = some (vaT (decide (x.i = y.i))) from if_pos h61]
     show Rs.go ⟨n + 1,z,fs,vaI 2 (if decide (x.i = y.i) = true then 1 else 0) :: vs1⟩ = _
     rw [← HTt.out]
     try simp)
    have HVT:=Lib.hid (HV.out 2 T)
    clear HV
    go_wp2_with fail
    refine (HTr.out _).mono ?_
    rintro e w6 ⟨rfl,ho6⟩
    have HO6:=Lib.hid ho6
    clear ho6 hw2 c0 c1 c2 c3 c4 c5 c6 c7 d0 d1 d2 d3 d4 d5 d6 d7 p0 k1
    go_wp2_with fail
    refine (HVT.out _ HO6.out).mono ?_
    rintro e w7 ⟨rfl,hE7⟩
    have HE7:=Lib.hid hE7
    clear hE7
    go_wp2
    go_end0
    rw [HR2.out]
    exact ⟨rfl,(((HE7.out.next (HSm.out _ HO6.out).1 (HSm.out _ HO6.out).2).next HB2.out.2.1 HB2.out.2.2).next HB.out.2.1 HB.out.2.2).next HE.out.1 HE.out.2⟩
   have q61 : (f.e.n.toList == [61]) = false:=toL_lit.trans (decide_eq_false h61)
   by_cases h60 : f.e.n.data = #[60]
   ·have q60 : (f.e.n.toList == [60]) = true:=toL_lit.trans (decide_eq_true h60)
    obtain ⟨T,HTt⟩ : ∃ T : Int,Hid ((if (decide (x.i < y.i)) = true then 1 else 0) = T):=⟨_,Lib.hid rfl⟩
    have HTr:=Lib.hid (show ∀ X,Calls Tryz.prog 131 #[.bool (decide (x.i < y.i))] X fun e w' => e = .returned (.agg #[.int .i64 2,.int .i64 T,.slice none 0 0,.int .i64 0,.string ⟨#[]⟩,.string ⟨#[]⟩,.slice none 0 0,.slice none 0 0]) ∧ Oth (fun _ => False) X w' from fun X => by
     rw [← HTt.out]
     exact evTruth_any _ X)
    have HR2:=Lib.hid (show R = .go ⟨n + 1,z,fs,vaI 2 T :: vs1⟩ by
     rw [HO.out,show opV f.e.n x.i y.i = some (vaT (decide (x.i < y.i))) from (if_neg h61).trans (if_pos h60)]
     show Rs.go ⟨n + 1,z,fs,vaI 2 (if decide (x.i < y.i) = true then 1 else 0) :: vs1⟩ = _
     rw [← HTt.out]
     try simp)
    have HVT:=Lib.hid (HV.out 2 T)
    clear HV
    go_wp2_with fail
    refine (HTr.out _).mono ?_
    rintro e w6 ⟨rfl,ho6⟩
    have HO6:=Lib.hid ho6
    clear ho6 hw2 c0 c1 c2 c3 c4 c5 c6 c7 d0 d1 d2 d3 d4 d5 d6 d7 p0 k1
    go_wp2_with fail
    refine (HVT.out _ HO6.out).mono ?_
    rintro e w7 ⟨rfl,hE7⟩
    have HE7:=Lib.hid hE7
    clear hE7
    go_wp2
    go_end0
    rw [HR2.out]
    exact ⟨rfl,(((HE7.out.next (HSm.out _ HO6.out).1 (HSm.out _ HO6.out).2).next HB2.out.2.1 HB2.out.2.2).next HB.out.2.1 HB.out.2.2).next HE.out.1 HE.out.2⟩
   have q60 : (f.e.n.toList == [60]) = false:=toL_lit.trans (decide_eq_false h60)
   by_cases h43 : f.e.n.data = #[43]
   ·have q43 : (f.e.n.toList == [43]) = true:=toL_lit.trans (decide_eq_true h43)
    obtain ⟨V,HVV⟩ : ∃ V,Hid (wrap64 (x.i + y.i) = V):=⟨_,Lib.hid rfl⟩
    by_cases hlo : wrap64 (x.i + y.i) < -999999999 ∨ 999999999 < wrap64 (x.i + y.i)
    ·have HR2:=Lib.hid (show R = .bad 5 (n + 1) by rw [HO.out,show opV f.e.n x.i y.i = none from (opV_num h61 h60 (if_pos h43)).trans (if_pos (by omega))])
     have HFl:=Lib.hid (fun X => evFail_any (.pointer (some ⟨vb,0,none⟩)) 5 X)
     rcases hlo with hlo | hlo
     ·go_wp2_with fail
      refine (HFl.out _).mono ?_
      rintro e w6 ⟨he,rfl⟩
      clear hw2 c0 c1 c2 c3 c4 c5 c6 c7 d0 d1 d2 d3 d4 d5 d6 d7 p0 k1 hlo
      unfold failed at he
      subst he
      go_wp2
      rw [HR2.out]
      exact ⟨rfl,rfl,_,_,_,_,_,_,HB2.out.1,rfl,HE.out.2.trans (HB.out.2.2.trans HB2.out.2.2)⟩
     ·have hlo' : ¬ wrap64 (x.i + y.i) < -999999999:=by omega
      go_wp2_with fail
      refine (HFl.out _).mono ?_
      rintro e w6 ⟨he,rfl⟩
      clear hw2 c0 c1 c2 c3 c4 c5 c6 c7 d0 d1 d2 d3 d4 d5 d6 d7 p0 k1 hlo hlo'
      unfold failed at he
      subst he
      go_wp2
      rw [HR2.out]
      exact ⟨rfl,rfl,_,_,_,_,_,_,HB2.out.1,rfl,HE.out.2.trans (HB.out.2.2.trans HB2.out.2.2)⟩
    ·have HR2:=Lib.hid (show R = .go ⟨n + 1,z,fs,vaI 1 (wrap64 (x.i + y.i)) :: vs1⟩ by rw [HO.out,show opV f.e.n x.i y.i = some (vaI 1 (wrap64 (x.i + y.i))) from (opV_num h61 h60 (if_pos h43)).trans (if_neg (by omega))])
     have hlo1 : ¬ wrap64 (x.i + y.i) < -999999999:=fun e => hlo (.inl e)
     have hlo2 : ¬ 999999999 < wrap64 (x.i + y.i):=fun e => hlo (.inr e)
     have HVT:=Lib.hid (HV.out 1 (wrap64 (x.i + y.i)) w5 (Oth.refl _ _))
     clear hlo HV
     go_wp2_with fail
     refine HVT.out.mono ?_
     rintro e w7 ⟨rfl,hE7⟩
     have HE7:=Lib.hid hE7
     clear hE7 hw2 c0 c1 c2 c3 c4 c5 c6 c7 d0 d1 d2 d3 d4 d5 d6 d7 p0 k1
     go_wp2
     go_end0
     rw [HR2.out]
     exact ⟨rfl,((HE7.out.next HB2.out.2.1 HB2.out.2.2).next HB.out.2.1 HB.out.2.2).next HE.out.1 HE.out.2⟩
   have q43 : (f.e.n.toList == [43]) = false:=toL_lit.trans (decide_eq_false h43)
   by_cases h45 : f.e.n.data = #[45]
   ·have q45 : (f.e.n.toList == [45]) = true:=toL_lit.trans (decide_eq_true h45)
    obtain ⟨V,HVV⟩ : ∃ V,Hid (wrap64 (x.i - y.i) = V):=⟨_,Lib.hid rfl⟩
    by_cases hlo : wrap64 (x.i - y.i) < -999999999 ∨ 999999999 < wrap64 (x.i - y.i)
    ·have HR2:=Lib.hid (show R = .bad 5 (n + 1) by rw [HO.out,show opV f.e.n x.i y.i = none from (opV_num h61 h60 ((if_neg h43).trans (if_pos h45))).trans (if_pos (by omega))])
     have HFl:=Lib.hid (fun X => evFail_any (.pointer (some ⟨vb,0,none⟩)) 5 X)
     rcases hlo with hlo | hlo
     ·go_wp2_with fail
      refine (HFl.out _).mono ?_
      rintro e w6 ⟨he,rfl⟩
      clear hw2 c0 c1 c2 c3 c4 c5 c6 c7 d0 d1 d2 d3 d4 d5 d6 d7 p0 k1 hlo
      unfold failed at he
      subst he
      go_wp2
      rw [HR2.out]
      exact ⟨rfl,rfl,_,_,_,_,_,_,HB2.out.1,rfl,HE.out.2.trans (HB.out.2.2.trans HB2.out.2.2)⟩
     ·have hlo' : ¬ wrap64 (x.i - y.i) < -999999999:=by omega
      go_wp2_with fail
      refine (HFl.out _).mono ?_
      rintro e w6 ⟨he,rfl⟩
      clear hw2 c0 c1 c2 c3 c4 c5 c6 c7 d0 d1 d2 d3 d4 d5 d6 d7 p0 k1 hlo hlo'
      unfold failed at he
      subst he
      go_wp2
      rw [HR2.out]
      exact ⟨rfl,rfl,_,_,_,_,_,_,HB2.out.1,rfl,HE.out.2.trans (HB.out.2.2.trans HB2.out.2.2)⟩
    ·have HR2:=Lib.hid (show R = .go ⟨n + 1,z,fs,vaI 1 (wrap64 (x.i - y.i)) :: vs1⟩ by rw [HO.out,show opV f.e.n x.i y.i = some (vaI 1 (wrap64 (x.i - y.i))) from (opV_num h61 h60 ((if_neg h43).trans (if_pos h45))).trans (if_neg (by omega))])
     have hlo1 : ¬ wrap64 (x.i - y.i) < -999999999:=fun e => hlo (.inl e)
     have hlo2 : ¬ 999999999 < wrap64 (x.i - y.i):=fun e => hlo (.inr e)
     have HVT:=Lib.hid (HV.out 1 (wrap64 (x.i - y.i)) w5 (Oth.refl _ _))
     clear hlo HV
     go_wp2_with fail
     refine HVT.out.mono ?_
     rintro e w7 ⟨rfl,hE7⟩
     have HE7:=Lib.hid hE7
     clear hE7 hw2 c0 c1 c2 c3 c4 c5 c6 c7 d0 d1 d2 d3 d4 d5 d6 d7 p0 k1
     go_wp2
     go_end0
     rw [HR2.out]
     exact ⟨rfl,((HE7.out.next HB2.out.2.1 HB2.out.2.2).next HB.out.2.1 HB.out.2.2).next HE.out.1 HE.out.2⟩
   have q45 : (f.e.n.toList == [45]) = false:=toL_lit.trans (decide_eq_false h45)
   obtain ⟨V,HVV⟩ : ∃ V,Hid (wrap64 (x.i * y.i) = V):=⟨_,Lib.hid rfl⟩
   by_cases hlo : wrap64 (x.i * y.i) < -999999999 ∨ 999999999 < wrap64 (x.i * y.i)
   ·have HR2:=Lib.hid (show R = .bad 5 (n + 1) by rw [HO.out,show opV f.e.n x.i y.i = none from (opV_num h61 h60 ((if_neg h43).trans (if_neg h45))).trans (if_pos (by omega))])
    have HFl:=Lib.hid (fun X => evFail_any (.pointer (some ⟨vb,0,none⟩)) 5 X)
    rcases hlo with hlo | hlo
    ·go_wp2_with fail
     refine (HFl.out _).mono ?_
     rintro e w6 ⟨he,rfl⟩
     clear hw2 c0 c1 c2 c3 c4 c5 c6 c7 d0 d1 d2 d3 d4 d5 d6 d7 p0 k1 hlo
     unfold failed at he
     subst he
     go_wp2
     rw [HR2.out]
     exact ⟨rfl,rfl,_,_,_,_,_,_,HB2.out.1,rfl,HE.out.2.trans (HB.out.2.2.trans HB2.out.2.2)⟩
    ·have hlo' : ¬ wrap64 (x.i * y.i) < -999999999:=by omega
     go_wp2_with fail
     refine (HFl.out _).mono ?_
     rintro e w6 ⟨he,rfl⟩
     clear hw2 c0 c1 c2 c3 c4 c5 c6 c7 d0 d1 d2 d3 d4 d5 d6 d7 p0 k1 hlo hlo'
     unfold failed at he
     subst he
     go_wp2
     rw [HR2.out]
     exact ⟨rfl,rfl,_,_,_,_,_,_,HB2.out.1,rfl,HE.out.2.trans (HB.out.2.2.trans HB2.out.2.2)⟩
   ·have HR2:=Lib.hid (show R = .go ⟨n + 1,z,fs,vaI 1 (wrap64 (x.i * y.i)) :: vs1⟩ by rw [HO.out,show opV f.e.n x.i y.i = some (vaI 1 (wrap64 (x.i * y.i))) from (opV_num h61 h60 ((if_neg h43).trans (if_neg h45))).trans (if_neg (by omega))])
    have hlo1 : ¬ wrap64 (x.i * y.i) < -999999999:=fun e => hlo (.inl e)
    have hlo2 : ¬ 999999999 < wrap64 (x.i * y.i):=fun e => hlo (.inr e)
    have HVT:=Lib.hid (HV.out 1 (wrap64 (x.i * y.i)) w5 (Oth.refl _ _))
    clear hlo HV
    go_wp2_with fail
    refine HVT.out.mono ?_
    rintro e w7 ⟨rfl,hE7⟩
    have HE7:=Lib.hid hE7
    clear hE7 hw2 c0 c1 c2 c3 c4 c5 c6 c7 d0 d1 d2 d3 d4 d5 d6 d7 p0 k1
    go_wp2
    go_end0
    rw [HR2.out]
    exact ⟨rfl,((HE7.out.next HB2.out.2.1 HB2.out.2.2).next HB.out.2.1 HB.out.2.2).next HE.out.1 HE.out.2⟩
end
end Go.Proofs.YtnfndgmlnoeelaaGreatDoor
/- eval: a list from its first value and the rest -/
namespace Go.Proofs.YtnfndgmlnoeelaaGreatDoor
open Go Go.RowKit Go.Proofs

section
variable {W0 : World} {B0 vb rb base : Nat} {m : Value} {L : Int} {w : World} {fv : Value} {fc : List Value} {gv : Value} {gc : List Value} {rs : List Rm}
set_option maxRecDepth 100000 in
set_option maxHeartbeats 8000000 in
theorem evLst_any {n z : Int} {f : Fe} {fs : List Fe} {vs : List Va} {g cap : Nat} (h : EvI W0 B0 vb rb base m L w ⟨n,z,f :: fs,vs⟩ (.slice (some ⟨g,0,none⟩) (fs.length + 1) cap) fc gv gc rs) (hs : Sm L ⟨n,z,f :: fs,vs⟩) (ha : f.at_ ≤ 2) (hlen : f.e.s.len = 2) (hvs : f.at_ = 2 → ∃ y x vs1,vs = y :: x :: vs1 ∧ y.l.len ≤ 400000) :
  Calls Tryz.prog 95 #[.pointer (some ⟨vb,0,none⟩),.pointer (some ⟨g,fs.length * 3,none⟩)] w (MethR W0 B0 vb rb base m L (.slice (some ⟨g,0,none⟩) (fs.length + 1) cap) gv rs w (sLst L n z f fs vs)):=by
 obtain ⟨R,HR⟩ : ∃ R,Hid (sLst L n z f fs vs = R):=⟨_,Lib.hid rfl⟩
 rw [HR.out]
 rcases (show f.at_ = 0 ∨ f.at_ = 1 ∨ f.at_ = 2 by omega) with ha0 | ha0 | ha0
 ·obtain ⟨x0,hx0⟩:=Sk.at_lt (s:=f.e.s) (j:=0) (by omega)
  have HN:=Lib.hid (show R = .go ⟨n,z,⟨x0,0,f.p,f.v⟩ :: f.put 1 :: fs,vs⟩ by rw [← HR.out];unfold sLst;rw [if_pos (by omega)];unfold partR;simp only [ha0];rw [hx0])
  obtain ⟨eb,eo,pb,sA,sc,vA,vc,hT⟩:=h.facts
  have hD:=h.same (w':=w.drew) (Oth.refl _ _).drew
  have HP:=Lib.hid (partI hD.1 hs (j:=0) (a:=1) hx0 (by omega) (hT.pl.keep hD.2.1))
  have HD:=Lib.hid hD.2
  have p1:=hT.p1
  have p2:=hT.p2
  rw [ha0] at p1
  clear h hs hT hx0 hD
  go_enter Tryz.func95,Tryz.ntmps95
  go_wp2
  go_still_tail 15,(by kernel_rfl)
  change wpList _ _ _ _ _ w.drew
  generalize w.drew = wd at HP HD ⊢
  clear p1 p2
  go_wp2_with fail
  refine HP.out.mono ?_
  rintro e w1 ⟨rfl,hE⟩
  have HE:=Lib.hid hE
  clear hE
  go_wp2
  go_end0
  rw [HN.out]
  exact ⟨rfl,HE.out.next HD.out.1 HD.out.2⟩
 ·obtain ⟨x0,hx0⟩:=Sk.at_lt (s:=f.e.s) (j:=1) (by omega)
  have HN:=Lib.hid (show R = .go ⟨n,z,⟨x0,0,f.p,f.v⟩ :: f.put 2 :: fs,vs⟩ by rw [← HR.out];unfold sLst;rw [if_pos (by omega)];unfold partR;simp only [ha0];rw [hx0])
  obtain ⟨eb,eo,pb,sA,sc,vA,vc,hT⟩:=h.facts
  have hD:=h.same (w':=w.drew) (Oth.refl _ _).drew
  have HP:=Lib.hid (partI hD.1 hs (j:=1) (a:=2) hx0 (by omega) (hT.pl.keep hD.2.1))
  have HD:=Lib.hid hD.2
  have p1:=hT.p1
  have p2:=hT.p2
  rw [ha0] at p1
  clear h hs hT hx0 hD
  go_enter Tryz.func95,Tryz.ntmps95
  go_wp2
  go_still_tail 15,(by kernel_rfl)
  change wpList _ _ _ _ _ w.drew
  generalize w.drew = wd at HP HD ⊢
  clear p1 p2
  go_wp2_with fail
  refine HP.out.mono ?_
  rintro e w1 ⟨rfl,hE⟩
  have HE:=Lib.hid hE
  clear hE
  go_wp2
  go_end0
  rw [HN.out]
  exact ⟨rfl,HE.out.next HD.out.1 HD.out.2⟩
 ·obtain ⟨y,x,vs1,rfl,hyl⟩:=hvs ha0
  by_cases hl : L ≤ n
  ·have HN:=Lib.hid (show R = .bad 27 n by rw [← HR.out];unfold sLst;rw [if_neg (by omega)];exact if_pos hl)
   have HS:=Lib.hid (stepI_no h hl)
   obtain ⟨eb,eo,pb,sA,sc,vA,vc,hT⟩:=h.facts
   have p1:=hT.p1
   rw [ha0] at p1
   clear h hl hs hT
   go_enter Tryz.func95,Tryz.ntmps95
   go_wp2_with fail
   refine HS.out.mono ?_
   rintro e w1 ⟨he,hE,hst⟩
   have HE:=Lib.hid (And.intro hE hst)
   clear hE hst
   unfold failed at he
   subst he
   go_wp2
   rw [HN.out]
   exact ⟨rfl,rfl,_,_,_,_,_,_,HE.out.1,rfl,HE.out.2⟩
  ·have HS:=Lib.hid (stepI_ok h hs (by show n < L;omega))
   have HM:=Lib.hid (show Sm L ⟨n + 1,z,f :: fs,y :: x :: vs1⟩ from ⟨by have:=hs.n0;show 0 ≤ n + 1;simp only at this;omega,hs.l,hs.f,hs.v⟩)
   have HL:=Lib.hid (show n < L by omega)
   obtain ⟨eb,eo,pb,sA,sc,vA,vc,hT⟩:=h.facts
   have p1:=hT.p1
   rw [ha0] at p1
   clear h hl hs hT
   go_enter Tryz.func95,Tryz.ntmps95
   go_wp2_with fail
   refine HS.out.mono ?_
   rintro e w1 ⟨rfl,hE,hkp,hst⟩
   clear p1 HS
   obtain ⟨eb,eo,pb,sA,sc,vA,vc,hT⟩:=hE.facts
   have HF:=Lib.hid (show R = if y.k ≠ 3 then Rs.bad 26 (n + 1) else .go ⟨n + 1,z,fs,⟨3,0,.push noB x y.l,noB,noB,.nil,.nil⟩ :: vs1⟩ by rw [← HR.out];unfold sLst;rw [if_neg (by omega)];exact if_neg (Int.not_le.2 HL.out))
   have hvw : vb < w1.heap.size:=lt_of_block hE.ev.blk
   have HG:=Lib.hid (hE.ev.fr.lt g rfl).2
   have HPop1:=Lib.hid (popO hE)
   have HE:=Lib.hid (And.intro hkp hst)
   clear hE hkp hst hT
   go_wp2_with fail
   refine HPop1.out.mono ?_
   rintro e w2 ⟨lA1,lc1,bA1,bc1,eA1,ec1,rfl,gv1,gc1,hE,hk,hst,hx,hov⟩
   obtain ⟨w3,hw1⟩ : ∃ Q9,w2.alloc (.cells #[.int .i64 y.k,.int .i64 y.i,.slice lA1 y.l.len lc1,.int .i64 0,.string y.p,.string y.q,.slice bA1 y.b.len bc1,.slice eA1 y.e.len ec1] 36) = Q9:=⟨_,rfl⟩
   have ho : Oth (fun _ => False) w2 w3:=by rw [← hw1];exact (Oth.refl _ _).alloc _
   have hr : w3.heap[w2.heap.size]? = some (.cells #[.int .i64 y.k,.int .i64 y.i,.slice lA1 y.l.len lc1,.int .i64 0,.string y.p,.string y.q,.slice bA1 y.b.len bc1,.slice eA1 y.e.len ec1] 36 (0,0)):=by rw [← hw1];exact heap_alloc_new _ _
   have hsm:=hE.same ho
   have hz2:=hov.size
   have hB : EvI W0 B0 vb rb base m L w3 ⟨n + 1,z,f :: fs,x :: vs1⟩ (.slice (some ⟨g,0,none⟩) (fs.length + 1) cap) fc gv1 gc1 rs ∧ Kp (Dd vb rb (.slice (some ⟨g,0,none⟩) (fs.length + 1) cap) gv rs) w1 (Dd vb rb (.slice (some ⟨g,0,none⟩) (fs.length + 1) cap) gv1 rs) w3 ∧ St w1 w3:=⟨hsm.1,hk.trans hsm.2.1,hst.trans hsm.2.2⟩
   have HB:=Lib.hid hB
   have HY:=Lib.hid (And.intro (hx.keep hsm.2.1) (And.intro hr (show w2.heap.size ≠ vb by omega)))
   have HPop2:=Lib.hid (popO hsm.1)
   clear hE hk hst hx ho hr hsm hB hov
   go_wp2_with fail
   clear hw1
   refine HPop2.out.mono ?_
   rintro e w4 ⟨lA2,lc2,bA2,bc2,eA2,ec2,rfl,gv2,gc2,hE,hk,hst,hx,hov⟩
   obtain ⟨w5,hw2⟩ : ∃ Q9,w4.alloc (.cells #[.int .i64 x.k,.int .i64 x.i,.slice lA2 x.l.len lc2,.int .i64 0,.string x.p,.string x.q,.slice bA2 x.b.len bc2,.slice eA2 x.e.len ec2] 36) = Q9:=⟨_,rfl⟩
   have ho : Oth (fun _ => False) w4 w5:=by rw [← hw2];exact (Oth.refl _ _).alloc _
   have hr : w5.heap[w4.heap.size]? = some (.cells #[.int .i64 x.k,.int .i64 x.i,.slice lA2 x.l.len lc2,.int .i64 0,.string x.p,.string x.q,.slice bA2 x.b.len bc2,.slice eA2 x.e.len ec2] 36 (0,0)):=by rw [← hw2];exact heap_alloc_new _ _
   have hsm:=hE.same ho
   have hB : EvI W0 B0 vb rb base m L w5 ⟨n + 1,z,f :: fs,vs1⟩ (.slice (some ⟨g,0,none⟩) (fs.length + 1) cap) fc gv2 gc2 rs ∧ Kp (Dd vb rb (.slice (some ⟨g,0,none⟩) (fs.length + 1) cap) gv1 rs) w3 (Dd vb rb (.slice (some ⟨g,0,none⟩) (fs.length + 1) cap) gv2 rs) w5 ∧ St w3 w5:=⟨hsm.1,hk.trans hsm.2.1,hst.trans hsm.2.2⟩
   have hry : w5.heap[w2.heap.size]? = _:=(ho.block _ (Nat.lt_of_lt_of_le (lt_of_block HY.out.2.1) hov.size) (fun e => e)).trans ((hov.block _ (lt_of_block HY.out.2.1) HY.out.2.2).trans HY.out.2.1)
   obtain ⟨c0,c1,c2,c3,c4,c5,c6,c7,_,_,_,_,_,_,_,_⟩:=row8 hry
   obtain ⟨d0,d1,d2,d3,d4,d5,d6,d7,_,_,_,_,_,_,_,_⟩:=row8 hr
   have HB2:=Lib.hid hB
   have HX:=Lib.hid (And.intro (hx.keep hsm.2.1) ((HY.out.1.keep hk).keep hsm.2.1))
   have HAh:=Lib.hid (ahead_any hsm.1 HX.out.1 HX.out.2.l hyl)
   clear hE hk hst hx ho hr hsm hB hov hry hlen hvs hvw hz2
   by_cases hyk : y.k = 3
   rotate_left
   ·have hyb : (y.k != 3) = true:=by simp [hyk]
    have HR2:=Lib.hid (show R = .bad 26 (n + 1) by rw [HF.out,if_pos hyk])
    have HFl:=Lib.hid (fun X => evFail_any (.pointer (some ⟨vb,0,none⟩)) 26 X)
    clear hyk
    go_wp2_with fail
    refine (HFl.out _).mono ?_
    rintro e w6 ⟨he,rfl⟩
    clear hw2 c0 c1 c2 c3 c4 c5 c6 c7 d0 d1 d2 d3 d4 d5 d6 d7
    unfold failed at he
    subst he
    go_wp2
    rw [HR2.out]
    exact ⟨rfl,rfl,_,_,_,_,_,_,HB2.out.1,rfl,HE.out.2.trans (HB.out.2.2.trans HB2.out.2.2)⟩
   have hyb : (y.k != 3) = false:=by simp [hyk]
   have HO:=Lib.hid (show R = .go ⟨n + 1,z,fs,⟨3,0,.push noB x y.l,noB,noB,.nil,.nil⟩ :: vs1⟩ by rw [HF.out,if_neg (by simp [hyk])])
   clear hyk
   go_wp2_with fail
   refine HAh.out.mono ?_
   rintro e w6 ⟨A6,c6',rfl,rs',hE6,hk6,hst6,hS6⟩
   have HVT:=Lib.hid (show Calls Tryz.prog 125 #[.pointer (some ⟨vb,0,none⟩),.agg #[.int .i64 3,.int .i64 0,.slice A6 (y.l.len + 1) c6',.int .i64 0,.string ⟨#[]⟩,.string ⟨#[]⟩,.slice none 0 0,.slice none 0 0]] w6 _ from resultI hE6 ⟨HM.out.n0,HM.out.l,HM.out.f,by have:=HM.out.v;simp only [List.length_cons] at this;show vs1.length ≤ _;omega⟩ (v:=⟨3,0,.push noB x y.l,noB,noB,.nil,.nil⟩) ⟨hS6,CdW.nil _ _ none,Vl.Sl.nil _ _ _ _ none⟩)
   have HE6:=Lib.hid (And.intro hk6 hst6)
   clear hE6 hk6 hst6 hS6 hw2 c0 c1 c2 c3 c4 c5 c6 c7 d0 d1 d2 d3 d4 d5 d6 d7
   go_wp2_with fail
   refine HVT.out.mono ?_
   rintro e w7 ⟨rfl,hE7⟩
   have HE7:=Lib.hid hE7
   clear hE7
   go_wp2
   go_end0
   rw [HO.out]
   exact ⟨rfl,(((HE7.out.next HE6.out.1 HE6.out.2).next HB2.out.2.1 HB2.out.2.2).next HB.out.2.1 HB.out.2.2).next HE.out.1 HE.out.2⟩
end
end Go.Proofs.YtnfndgmlnoeelaaGreatDoor
/- eval: case -/
namespace Go.Proofs.YtnfndgmlnoeelaaGreatDoor
open Go Go.RowKit Go.Proofs

def caseR (n z : Int) (f : Fe) (fs : List Fe) (vs : List Va) : Vl → Rs
 | .nil => insteadR n z f 1 fs vs
 | .cons _ k i l p q b e r => partR n z f 2 2 ((f.v.snoc f.e.n ⟨k,i,l,p,q,b,e⟩).snoc f.e.m ⟨3,0,r,noB,noB,.nil,.nil⟩) fs vs
section
variable {W0 : World} {B0 vb rb base : Nat} {m : Value} {L : Int} {w : World} {fv : Value} {fc : List Value} {gv : Value} {gc : List Value} {rs : List Rm}
set_option maxRecDepth 100000 in
set_option maxHeartbeats 8000000 in
theorem evCase_any {n z : Int} {f : Fe} {fs : List Fe} {vs : List Va} {g cap : Nat} (h : EvI W0 B0 vb rb base m L w ⟨n,z,f :: fs,vs⟩ (.slice (some ⟨g,0,none⟩) (fs.length + 1) cap) fc gv gc rs) (hs : Sm L ⟨n,z,f :: fs,vs⟩) (ha : f.at_ ≤ 2) (hlen : f.e.s.len = 3) (hvs : f.at_ = 1 → ∃ x vs1,vs = x :: vs1) (hvl : f.v.len ≤ 1000000000) :
  Calls Tryz.prog 96 #[.pointer (some ⟨vb,0,none⟩),.pointer (some ⟨g,fs.length * 3,none⟩)] w (MethR W0 B0 vb rb base m L (.slice (some ⟨g,0,none⟩) (fs.length + 1) cap) gv rs w (sCase L n z f fs vs)):=by
 obtain ⟨R,HR⟩ : ∃ R,Hid (sCase L n z f fs vs = R):=⟨_,Lib.hid rfl⟩
 rw [HR.out]
 rcases (show f.at_ = 0 ∨ f.at_ = 1 ∨ f.at_ = 2 by omega) with ha0 | ha0 | ha0
 ·obtain ⟨x0,hx0⟩:=Sk.at_lt (s:=f.e.s) (j:=0) (by omega)
  have HN:=Lib.hid (show R = .go ⟨n,z,⟨x0,0,f.p,f.v⟩ :: f.put 1 :: fs,vs⟩ by rw [← HR.out];unfold sCase;rw [if_pos ha0];unfold partR;rw [hx0])
  obtain ⟨eb,eo,pb,sA,sc,vA,vc,hT⟩:=h.facts
  have HP:=Lib.hid (partI h hs (j:=0) (a:=1) hx0 (by omega) hT.pl)
  have p1:=hT.p1
  have p2:=hT.p2
  rw [ha0] at p1
  clear h hs hT hx0
  go_enter Tryz.func96,Tryz.ntmps96
  go_wp2_with fail
  refine HP.out.mono ?_
  rintro e w1 ⟨rfl,hE⟩
  have HE:=Lib.hid hE
  clear hE
  go_wp2
  go_end0
  rw [HN.out]
  exact ⟨rfl,HE.out⟩
 ·obtain ⟨x,vs1,rfl⟩:=hvs ha0
  obtain ⟨xk,xi,xl,xp,xq,xb,xe⟩:=x
  obtain ⟨x1,hx1⟩:=Sk.at_lt (s:=f.e.s) (j:=1) (by omega)
  obtain ⟨x2,hx2⟩:=Sk.at_lt (s:=f.e.s) (j:=2) (by omega)
  by_cases hl : L ≤ n
  ·have HN:=Lib.hid (show R = .bad 27 n by rw [← HR.out];unfold sCase;rw [if_neg (by omega),if_pos ha0];exact if_pos hl)
   have HS:=Lib.hid (stepI_no h hl)
   obtain ⟨eb,eo,pb,sA,sc,vA,vc,hT⟩:=h.facts
   have p1:=hT.p1
   rw [ha0] at p1
   clear h hl hs hT
   go_enter Tryz.func96,Tryz.ntmps96
   go_wp2_with fail
   refine HS.out.mono ?_
   rintro e w1 ⟨he,hE,hst⟩
   have HE:=Lib.hid (And.intro hE hst)
   clear hE hst
   unfold failed at he
   subst he
   go_wp2
   rw [HN.out]
   exact ⟨rfl,rfl,_,_,_,_,_,_,HE.out.1,rfl,HE.out.2⟩
  ·have HS:=Lib.hid (stepI_ok h hs (by show n < L;omega))
   have HM:=Lib.hid (show Sm L ⟨n + 1,z,f :: fs,⟨xk,xi,xl,xp,xq,xb,xe⟩ :: vs1⟩ from ⟨by have:=hs.n0;show 0 ≤ n + 1;simp only at this;omega,hs.l,hs.f,hs.v⟩)
   have HL:=Lib.hid (show n < L by omega)
   obtain ⟨eb,eo,pb,sA,sc,vA,vc,hT⟩:=h.facts
   have p1:=hT.p1
   rw [ha0] at p1
   clear h hl hs hT
   go_enter Tryz.func96,Tryz.ntmps96
   go_wp2_with fail
   refine HS.out.mono ?_
   rintro e w1 ⟨rfl,hE,hkp,hst⟩
   clear p1 HS
   obtain ⟨eb,eo,pb,sA,sc,vA,vc,hT⟩:=hE.facts
   have HF:=Lib.hid (show R = if xk ≠ 3 then Rs.bad 26 (n + 1) else caseR (n + 1) z f fs vs1 xl from by
    rw [← HR.out]
    unfold sCase
    rw [if_neg (by omega),if_pos ha0]
    refine (if_neg (Int.not_le.2 HL.out)).trans ?_
    by_cases h3 : xk = 3
    ·rw [if_neg (by simp [h3])]
     refine (if_neg (by simp [h3])).trans ?_
     cases xl <;> rfl
    ·rw [if_pos h3]
     exact if_pos h3)
   have HPop1:=Lib.hid (popO hE)
   have hvw : vb < w1.heap.size:=lt_of_block hE.ev.blk
   have hgw:=(hE.ev.fr.lt g rfl).2
   have HG:=Lib.hid (And.intro hvw hgw)
   have HE:=Lib.hid (And.intro hE (And.intro hkp hst))
   clear hE hkp hst hT hvw hgw
   simp only at HPop1
   go_wp2_with fail
   refine HPop1.out.mono ?_
   rintro e w2 ⟨lA1,lc1,bA1,bc1,eA1,ec1,rfl,gv1,gc1,hE,hk,hst,hx,hov⟩
   obtain ⟨w3,hw1⟩ : ∃ Q9,w2.alloc (.cells #[.int .i64 xk,.int .i64 xi,.slice lA1 xl.len lc1,.int .i64 0,.string xp,.string xq,.slice bA1 xb.len bc1,.slice eA1 xe.len ec1] 36) = Q9:=⟨_,rfl⟩
   have ho : Oth (fun _ => False) w2 w3:=by rw [← hw1];exact (Oth.refl _ _).alloc _
   have hr : w3.heap[w2.heap.size]? = some (.cells #[.int .i64 xk,.int .i64 xi,.slice lA1 xl.len lc1,.int .i64 0,.string xp,.string xq,.slice bA1 xb.len bc1,.slice eA1 xe.len ec1] 36 (0,0)):=by rw [← hw1];exact heap_alloc_new _ _
   have hsm:=hE.same ho
   have hz2:=hov.size
   have HB:=Lib.hid (And.intro hsm.1 (And.intro (hk.trans hsm.2.1) (hst.trans hsm.2.2)))
   have HX:=Lib.hid (hx.keep hsm.2.1)
   have HRW:=Lib.hid (And.intro hr hz2)
   obtain ⟨c0,c1,c2,c3,c4,c5,c6,c7,_,_,_,_,_,_,_,_⟩:=row8 hr
   have HI:=Lib.hid (insteadI hsm.1 (j:=1) hx1 (by omega) (by omega))
   have HX1:=Lib.hid hx1
   have HX2:=Lib.hid hx2
   have HLe:=Lib.hid hlen
   have HVL:=Lib.hid hvl
   clear hE hk hst hx ho hr hsm hx1 hx2 hlen hvs hvl hov hz2
   by_cases hxk : xk = 3
   rotate_left
   ·have hxb : (xk != 3) = true:=by simp [hxk]
    have HR2:=Lib.hid (show R = .bad 26 (n + 1) by rw [HF.out,if_pos hxk])
    clear hxk
    have HFl:=Lib.hid (fun X => evFail_any (.pointer (some ⟨vb,0,none⟩)) 26 X)
    go_wp2_with fail
    refine (HFl.out _).mono ?_
    rintro e w4 ⟨he,rfl⟩
    clear hw1 c0 c1 c2 c3 c4 c5 c6 c7
    unfold failed at he
    subst he
    go_wp2
    rw [HR2.out]
    exact ⟨rfl,rfl,_,_,_,_,_,_,HB.out.1,rfl,HE.out.2.2.trans HB.out.2.2⟩
   have hxb : (xk != 3) = false:=by simp [hxk]
   cases xl with
   | nil =>
    have HR2:=Lib.hid (show R = .go ⟨n + 1,z,⟨x1,0,f.p,f.v⟩ :: fs,vs1⟩ by rw [HF.out,if_neg (by simp [hxk])];unfold caseR insteadR;rw [HX1.out])
    clear hxk
    simp only [Vl.len] at c2 hw1
    have hln : (Vl.nil).len = 0:=rfl
    go_wp2_with fail
    refine HI.out.mono ?_
    rintro e w4 ⟨rfl,hE4⟩
    have HE4:=Lib.hid hE4
    clear hE4 hw1 c0 c1 c2 c3 c4 c5 c6 c7
    go_wp2
    go_end0
    rw [HR2.out]
    exact ⟨rfl,(HE4.out.next HB.out.2.1 HB.out.2.2).next HE.out.2.1 HE.out.2.2⟩
   | cons y1 k1 i1 l1 p1 q1 b1 e1 r1 =>
    have HR2:=Lib.hid (show R = .go ⟨n + 1,z,⟨x2,0,f.p,((f.v.snoc f.e.n (⟨k1,i1,l1,p1,q1,b1,e1⟩ : Va)).snoc f.e.m (⟨3,0,r1,noB,noB,.nil,.nil⟩ : Va))⟩ :: f.put 2 :: fs,vs1⟩ by rw [HF.out,if_neg (by simp [hxk])];unfold caseR partR;rw [HX2.out])
    clear hxk
    simp only [Vl.len] at c2 hw1
    obtain ⟨hl1,hl2,hl3⟩:=HX.out.l
    simp only [Vl.len] at hl1
    obtain ⟨lb,lo,rfl,hlb,hat,hka⟩:=hl3 (fun e => by cases e)
    obtain ⟨_,hy1,lA,lc,bA,bc,eA,ec,hel,hcl⟩:=Vl.At.get (j:=0) hat rfl
    obtain rfl:=hy1 rfl
    have hln : (Vl.cons noB k1 i1 l1 p1 q1 b1 e1 r1).len = r1.len + 1:=rfl
    obtain ⟨rA,hrA⟩ : ∃ rA,(if lc1 = 1 then some (⟨lb,lo,none⟩ : Addr) else some ⟨lb,lo + 8,none⟩) = rA:=⟨_,rfl⟩
    simp only [off,Nat.zero_mul,Nat.add_zero] at hcl
    have hrs : VaR (CdW W0 B0) w3 (Dd vb rb (.slice (some ⟨g,0,none⟩) (fs.length + 1) cap) gv1 rs) (⟨3,0,r1,noB,noB,.nil,.nil⟩ : Va) rA (lc1 - 1) none 0 none 0:=⟨⟨by show r1.len ≤ lc1 - 1;omega,by unfold maxLen at *;omega,fun hne => ⟨lb,lo + 8,by rw [← hrA,if_neg (fun e => by cases r1 with | nil => exact hne rfl | cons => simp only [Vl.len] at hl1;omega)],hlb,hat.2.2.2.2.2,fun e => (show lo + (r1.len + 1) * 8 = lo + 8 + r1.len * 8 by omega) ▸ hka e⟩⟩,CdW.nil _ _ _,Vl.Sl.nil _ _ _ _ _⟩
    have hld : lb ≠ vb ∧ lb ≠ g:=⟨fun e => hat.2.1.1 0 (by decide) (.inl e),fun e => hat.2.1.1 0 (by decide) (.inr (.inr (.inl (by rw [e];rfl))))⟩
    have hb0 : (0 : Int) < (r1.len : Int) + 1:=by omega
    have hb1 : r1.len + 1 ≤ 9223372036854775807 ∧ lc1 ≤ 9223372036854775807:=by unfold maxLen at hl2;omega
    have hb2 : r1.len + 1 ≤ lc1:=hl1
    have hb3 : (1 : Int) ≤ (r1.len : Int) + 1:=by omega
    have hb4 : (r1.len : Int) + 1 ≤ (lc1 : Int):=by omega
    have HLD:=Lib.hid (And.intro hel (And.intro hrs (And.intro hld (And.intro hlb hcl))))
    clear hl1 hl2 hl3 hlb hat hel hcl hrs hld hka
    go_upto_region 14 with fail
    clear hw1
    obtain ⟨hel,hrs,hld,hlb,hcl⟩:=HLD.out
    have ho4 : Oth (fun _ => False) w3 (w3.alloc (.cells #[.int .i64 3,.int .i64 0,.slice rA r1.len (lc1 - 1),.int .i64 0,.string ⟨#[]⟩,.string ⟨#[]⟩,.slice none 0 0,.slice none 0 0] 36)):=(Oth.refl _ _).alloc _
    have hr4 : (w3.alloc (.cells #[.int .i64 3,.int .i64 0,.slice rA r1.len (lc1 - 1),.int .i64 0,.string ⟨#[]⟩,.string ⟨#[]⟩,.slice none 0 0,.slice none 0 0] 36)).heap[w3.heap.size]? = some (.cells #[.int .i64 3,.int .i64 0,.slice rA r1.len (lc1 - 1),.int .i64 0,.string ⟨#[]⟩,.string ⟨#[]⟩,.slice none 0 0,.slice none 0 0] 36 (0,0)):=heap_alloc_new _ _
    generalize w3.alloc (.cells #[.int .i64 3,.int .i64 0,.slice rA r1.len (lc1 - 1),.int .i64 0,.string ⟨#[]⟩,.string ⟨#[]⟩,.slice none 0 0,.slice none 0 0] 36) = W4 at ho4 hr4 ⊢
    have hs4:=HB.out.1.same ho4
    have H4:=Lib.hid (And.intro hs4.1 (And.intro hs4.2.1 hs4.2.2))
    have HER:=Lib.hid (And.intro (hel.keep hs4.2.1) (hrs.keep hs4.2.1))
    obtain ⟨eb,eo,pb,sA,sc,vA,vc,hT⟩:=hs4.1.facts
    have hz:=HG.out
    have hz2:=HRW.out.2
    have hz3:=lt_of_block HRW.out.1
    have hz4:=lt_of_block hr4
    have hlb4 : lb < W4.heap.size:=Nat.lt_of_lt_of_le hlb ho4.size
    have hpbl:=World.block_lt_of_cell? W4 ⟨pb,0,none⟩ hT.v0
    have hebl:=World.block_lt_of_cell? W4 ⟨eb,eo,none⟩ hT.k0
    have hpbd : pb ≠ vb ∧ pb ≠ g:=⟨fun e => hT.pl.d0 (.inl e),fun e => hT.pl.d0 (.inr (.inr (.inl (by rw [e];rfl))))⟩
    have hebn : eb ≠ vb ∧ eb ≠ g:=by
     have h1:=hT.xp.lt
     have h2:=hs4.1.lv
     have h3:=hs4.1.lr
     have h4:=hs4.1.rlt
     have h5:=(hs4.1.ev.fr.lt g rfl).1
     omega
    have hkx : ∀ t u,w3.cell? ⟨lb,lo + t,none⟩ = some u → W4.cell? ⟨lb,lo + t,none⟩ = some u:=fun t u h => (World.cell?_of_block (ho4.block lb hlb (fun e => e))).trans h
    have hc2 : W4.cell? ⟨w2.heap.size,2,none⟩ = some (.slice (some ⟨lb,lo,none⟩) (r1.len + 1) lc1):=(World.cell?_of_block (ho4.block w2.heap.size hz3 (fun e => e))).trans c2
    obtain ⟨g0,g1,g2,g3,g4,g5,g6,g7,_⟩:=row8 hr4
    have HFX:=Lib.hid (show ∀ Y : World,KL vb g fs.length W4 Y → (Y.cell? ⟨g,fs.length * 3,none⟩ = some (.pointer (some ⟨eb,eo,none⟩)) ∧ Y.cell? ⟨g,fs.length * 3 + 2,none⟩ = some (.pointer (some ⟨pb,0,none⟩)) ∧ Y.cell? ⟨pb,0,none⟩ = some (.string f.p) ∧ Y.cell? ⟨eb,eo + 1,none⟩ = some (.string f.e.n) ∧ Y.cell? ⟨eb,eo + 2,none⟩ = some (.string f.e.m) ∧ Y.cell? ⟨w2.heap.size,2,none⟩ = some (.slice (some ⟨lb,lo,none⟩) (r1.len + 1) lc1) ∧ Y.cell? ⟨lb,lo,none⟩ = some (.int .i64 k1) ∧ Y.cell? ⟨lb,lo + 1,none⟩ = some (.int .i64 i1) ∧ Y.cell? ⟨lb,lo + 2,none⟩ = some (.slice lA l1.len lc) ∧ Y.cell? ⟨lb,lo + 3,none⟩ = some (.int .i64 0) ∧ Y.cell? ⟨lb,lo + 4,none⟩ = some (.string p1) ∧ Y.cell? ⟨lb,lo + 5,none⟩ = some (.string q1) ∧ Y.cell? ⟨lb,lo + 6,none⟩ = some (.slice bA b1.len bc) ∧ Y.cell? ⟨lb,lo + 7,none⟩ = some (.slice eA e1.len ec) ∧ Y.cell? ⟨w3.heap.size,0,none⟩ = some (.int .i64 3) ∧ Y.cell? ⟨w3.heap.size,1,none⟩ = some (.int .i64 0) ∧ Y.cell? ⟨w3.heap.size,2,none⟩ = some (.slice rA r1.len (lc1 - 1)) ∧ Y.cell? ⟨w3.heap.size,3,none⟩ = some (.int .i64 0) ∧ Y.cell? ⟨w3.heap.size,4,none⟩ = some (.string ⟨#[]⟩) ∧ Y.cell? ⟨w3.heap.size,5,none⟩ = some (.string ⟨#[]⟩) ∧ Y.cell? ⟨w3.heap.size,6,none⟩ = some (.slice none 0 0) ∧ Y.cell? ⟨w3.heap.size,7,none⟩ = some (.slice none 0 0)) from fun Y hk =>
     ⟨(hk.fr _ (by omega) (by omega)).trans hT.p0,(hk.fr _ (by omega) (by omega)).trans hT.p2,(hk.cell pb 0 hpbl hpbd.1 hpbd.2).trans hT.v0,(hk.cell eb _ hebl hebn.1 hebn.2).trans hT.k1,(hk.cell eb _ hebl hebn.1 hebn.2).trans hT.k2,(hk.cell w2.heap.size 2 (by omega) (by omega) (by omega)).trans hc2,
      (hk.cell lb _ hlb4 hld.1 hld.2).trans (hkx 0 _ (hcl 0 _ rfl)),(hk.cell lb _ hlb4 hld.1 hld.2).trans (hkx 1 _ (hcl 1 _ rfl)),(hk.cell lb _ hlb4 hld.1 hld.2).trans (hkx 2 _ (hcl 2 _ rfl)),(hk.cell lb _ hlb4 hld.1 hld.2).trans (hkx 3 _ (hcl 3 _ rfl)),(hk.cell lb _ hlb4 hld.1 hld.2).trans (hkx 4 _ (hcl 4 _ rfl)),(hk.cell lb _ hlb4 hld.1 hld.2).trans (hkx 5 _ (hcl 5 _ rfl)),(hk.cell lb _ hlb4 hld.1 hld.2).trans (hkx 6 _ (hcl 6 _ rfl)),(hk.cell lb _ hlb4 hld.1 hld.2).trans (hkx 7 _ (hcl 7 _ rfl)),
      (hk.cell w3.heap.size 0 hz4 (by omega) (by omega)).trans g0,(hk.cell w3.heap.size 1 hz4 (by omega) (by omega)).trans g1,(hk.cell w3.heap.size 2 hz4 (by omega) (by omega)).trans g2,(hk.cell w3.heap.size 3 hz4 (by omega) (by omega)).trans g3,(hk.cell w3.heap.size 4 hz4 (by omega) (by omega)).trans g4,(hk.cell w3.heap.size 5 hz4 (by omega) (by omega)).trans g5,(hk.cell w3.heap.size 6 hz4 (by omega) (by omega)).trans g6,(hk.cell w3.heap.size 7 hz4 (by omega) (by omega)).trans g7⟩)
    have HKL:=Lib.hid (show ∀ (B : World),Oth (fun _ => False) W4 B → KL vb g fs.length W4 B from fun B ho => KL.of_oth ho (fun _ e => e.elim) (by omega) (by have:=(hs4.1.ev.fr.lt g rfl).1;have:=hs4.1.ev.lt;omega))
    have hA2 : ∀ (X : World),X.heap = (W4.alloc (.cells #[.string f.e.n,.int .i64 k1,.int .i64 i1,.slice lA l1.len lc,.int .i64 0,.string p1,.string q1,.slice bA b1.len bc,.slice eA e1.len ec,.string f.e.m,.int .i64 3,.int .i64 0,.slice rA r1.len (lc1 - 1),.int .i64 0,.string ⟨#[]⟩,.string ⟨#[]⟩,.slice none 0 0,.slice none 0 0] 147)).heap → Oth (fun _ => False) W4 X → Calls Tryz.prog 129 #[.pointer (some ⟨pb,0,none⟩),.string f.p,.slice (some ⟨W4.heap.size,0,none⟩) 2 2] X fun e w5 => ∃ nb,e = .returned (.pointer (some ⟨nb,0,none⟩)) ∧ Oth (fun _ => False) W4 w5 ∧ PlA (CdW W0 B0) w5 (Dd vb rb (.slice (some ⟨g,0,none⟩) (fs.length + 1) cap) gv1 rs) nb f.p ((f.v.snoc f.e.n (⟨k1,i1,l1,p1,q1,b1,e1⟩ : Va)).snoc f.e.m (⟨3,0,r1,noB,noB,.nil,.nil⟩ : Va)):=fun X e hoX => by
     have hs:=hs4.1.same hoX
     refine (addI2 hs.1 (pack:=f.p) (name:=f.e.n) (name2:=f.e.m) (hT.pl.keep hs.2.1) HVL.out (HER.out.1.keep hs.2.1) (HER.out.2.keep hs.2.1) (mb:=W4.heap.size) (t:=147) (by rw [e];exact heap_alloc_new W4 (.cells #[.string f.e.n,.int .i64 k1,.int .i64 i1,.slice lA l1.len lc,.int .i64 0,.string p1,.string q1,.slice bA b1.len bc,.slice eA e1.len ec,.string f.e.m,.int .i64 3,.int .i64 0,.slice rA r1.len (lc1 - 1),.int .i64 0,.string ⟨#[]⟩,.string ⟨#[]⟩,.slice none 0 0,.slice none 0 0] 147))).mono ?_
     rintro e w5 ⟨nb,rfl,ho5,hp5⟩
     exact ⟨nb,rfl,hoX.trans ho5,hp5⟩
    have HA:=Lib.hid hA2
    have HPart:=Lib.hid (show ∀ (w5 : World) (nb : Nat),Oth (fun _ => False) W4 w5 → PlA (CdW W0 B0) w5 (Dd vb rb (.slice (some ⟨g,0,none⟩) (fs.length + 1) cap) gv1 rs) nb f.p ((f.v.snoc f.e.n (⟨k1,i1,l1,p1,q1,b1,e1⟩ : Va)).snoc f.e.m (⟨3,0,r1,noB,noB,.nil,.nil⟩ : Va)) → _ from fun w5 nb ho hp => partO (hs4.1.same ho).1 ⟨HM.out.n0,HM.out.l,HM.out.f,by have:=HM.out.v;simp only [List.length_cons] at this;show vs1.length ≤ _;omega⟩ (j:=2) (a:=2) HX2.out (by have:=HLe.out;omega) hp)
    clear hlb hel hcl hrs hld ho4 hr4 hs4 hT hz hz2 hz3 hz4 hlb4 hpbl hebl hpbd hebn hkx hc2 g0 g1 g2 g3 g4 g5 g6 g7 hA2 c0 c1 c2 c3 c4 c5 c6 c7
    go_region_held3 (fun Y => Y.cell? ⟨g,fs.length * 3,none⟩ = some (.pointer (some ⟨eb,eo,none⟩)) ∧ Y.cell? ⟨g,fs.length * 3 + 2,none⟩ = some (.pointer (some ⟨pb,0,none⟩)) ∧ Y.cell? ⟨pb,0,none⟩ = some (.string f.p) ∧ Y.cell? ⟨eb,eo + 1,none⟩ = some (.string f.e.n) ∧ Y.cell? ⟨eb,eo + 2,none⟩ = some (.string f.e.m) ∧ Y.cell? ⟨w2.heap.size,2,none⟩ = some (.slice (some ⟨lb,lo,none⟩) (r1.len + 1) lc1) ∧ Y.cell? ⟨lb,lo,none⟩ = some (.int .i64 k1) ∧ Y.cell? ⟨lb,lo + 1,none⟩ = some (.int .i64 i1) ∧ Y.cell? ⟨lb,lo + 2,none⟩ = some (.slice lA l1.len lc) ∧ Y.cell? ⟨lb,lo + 3,none⟩ = some (.int .i64 0) ∧ Y.cell? ⟨lb,lo + 4,none⟩ = some (.string p1) ∧ Y.cell? ⟨lb,lo + 5,none⟩ = some (.string q1) ∧ Y.cell? ⟨lb,lo + 6,none⟩ = some (.slice bA b1.len bc) ∧ Y.cell? ⟨lb,lo + 7,none⟩ = some (.slice eA e1.len ec) ∧ Y.cell? ⟨w3.heap.size,0,none⟩ = some (.int .i64 3) ∧ Y.cell? ⟨w3.heap.size,1,none⟩ = some (.int .i64 0) ∧ Y.cell? ⟨w3.heap.size,2,none⟩ = some (.slice rA r1.len (lc1 - 1)) ∧ Y.cell? ⟨w3.heap.size,3,none⟩ = some (.int .i64 0) ∧ Y.cell? ⟨w3.heap.size,4,none⟩ = some (.string ⟨#[]⟩) ∧ Y.cell? ⟨w3.heap.size,5,none⟩ = some (.string ⟨#[]⟩) ∧ Y.cell? ⟨w3.heap.size,6,none⟩ = some (.slice none 0 0) ∧ Y.cell? ⟨w3.heap.size,7,none⟩ = some (.slice none 0 0))
     (first | with_reducible exact HFX.out _ hkl6 | with_reducible exact HFX.out _ (HKL.out _ ho5) | with_reducible exact HFX.out _ (HKL.out _ (Oth.refl _ _).drew) | with_reducible exact HFX.out _ (HKL.out _ ((Oth.refl _ _).drew.alloc _)) | with_reducible exact HFX.out _ (HKL.out _ ((Oth.refl _ _).alloc _)) | with_reducible exact HFX.out _ (HKL.out _ ((Oth.refl _ _).alloc _).drew) | with_reducible exact HFX.out _ (HKL.out _ (Oth.refl _ _)))
     (first
      | (go_at_call 129;with_reducible refine Calls.mono (HA.out _ (by with_unfolding_all rfl) (by first | with_unfolding_all exact ((Oth.refl _ _).alloc _) | with_unfolding_all exact ((Oth.refl _ _).alloc _).drew)) ?_;rintro e w5 ⟨nb,rfl,ho5,hp5⟩)
      | (go_at_call 128;refine (HPart.out _ _ ho5 hp5).mono ?_;rintro e w6 ⟨rfl,hE6,ho6,hf6⟩;have hkl6 : KL vb g fs.length W4 w6:=(HKL.out _ ho5).trans (KL.of_part ho6 hf6)))
    all_goals
     have HE6:=Lib.hid (And.intro hE6 ho5)
     clear hE6 ho5 hp5 ho6 hf6 hkl6
     go_wp2
     go_end0
     rw [HR2.out]
     exact ⟨rfl,(((HE6.out.1.next (H4.out.1.same HE6.out.2).2.1 (H4.out.1.same HE6.out.2).2.2).next H4.out.2.1 H4.out.2.2).next HB.out.2.1 HB.out.2.2).next HE.out.2.1 HE.out.2.2⟩
 ·by_cases hl : L ≤ n
  ·have HN:=Lib.hid (show R = .bad 27 n by rw [← HR.out];unfold sCase;rw [if_neg (by omega),if_neg (by omega)];exact if_pos hl)
   have HS:=Lib.hid (stepI_no h hl)
   obtain ⟨eb,eo,pb,sA,sc,vA,vc,hT⟩:=h.facts
   have p1:=hT.p1
   rw [ha0] at p1
   clear h hl hs hT
   go_enter Tryz.func96,Tryz.ntmps96
   go_wp2_with fail
   refine HS.out.mono ?_
   rintro e w1 ⟨he,hE,hst⟩
   have HE:=Lib.hid (And.intro hE hst)
   clear hE hst
   unfold failed at he
   subst he
   go_wp2
   rw [HN.out]
   exact ⟨rfl,rfl,_,_,_,_,_,_,HE.out.1,rfl,HE.out.2⟩
  ·have HS:=Lib.hid (stepI_ok h hs (by show n < L;omega))
   have HM:=Lib.hid (show Sm L ⟨n + 1,z,f :: fs,vs⟩ from ⟨by have:=hs.n0;show 0 ≤ n + 1;simp only at this;omega,hs.l,hs.f,hs.v⟩)
   have HL:=Lib.hid (show n < L by omega)
   obtain ⟨eb,eo,pb,sA,sc,vA,vc,hT⟩:=h.facts
   have p1:=hT.p1
   rw [ha0] at p1
   clear h hl hs hT
   go_enter Tryz.func96,Tryz.ntmps96
   go_wp2_with fail
   refine HS.out.mono ?_
   rintro e w1 ⟨rfl,hE,hkp,hst⟩
   clear p1 HS
   obtain ⟨eb,eo,pb,sA,sc,vA,vc,hT⟩:=hE.facts
   have HF:=Lib.hid (show R = tick L (n + 1) (.go ⟨n + 2,z,fs,vs⟩) by rw [← HR.out];unfold sCase;rw [if_neg (by omega),if_neg (by omega)];exact if_neg (Int.not_le.2 HL.out))
   have HE:=Lib.hid (And.intro hkp hst)
   by_cases hl : L ≤ n + 1
   ·have HR2:=Lib.hid (show R = .bad 27 (n + 1) by rw [HF.out];exact if_pos hl)
    have HS2:=Lib.hid (stepI_no hE hl)
    clear hE hkp hst hT hl hlen hvs hvl
    go_wp2_with fail
    refine HS2.out.mono ?_
    rintro e w2 ⟨he,hE,hst⟩
    have HE2:=Lib.hid (And.intro hE hst)
    clear hE hst
    unfold failed at he
    subst he
    go_wp2
    rw [HR2.out]
    exact ⟨rfl,rfl,_,_,_,_,_,_,HE2.out.1,rfl,HE.out.2.trans HE2.out.2⟩
   ·have HR2:=Lib.hid (show R = .go ⟨n + 2,z,fs,vs⟩ by rw [HF.out];exact if_neg hl)
    have HS2:=Lib.hid (stepI_ok hE HM.out (by show n + 1 < L;omega))
    clear hE hkp hst hT hl hlen hvs hvl
    go_wp2_with fail
    refine HS2.out.mono ?_
    rintro e w2 ⟨rfl,hE,hkp,hst⟩
    have HQ:=Lib.hid (endI hE)
    have HE2:=Lib.hid (And.intro hkp hst)
    clear hE hkp hst
    go_wp2_with fail
    refine HQ.out.mono ?_
    rintro e w3 ⟨rfl,hE3⟩
    have HE3:=Lib.hid hE3
    clear hE3
    go_wp2
    go_end0
    rw [HR2.out]
    have e2 : n + 1 + 1 = n + 2:=by omega
    have:=HE3.out
    simp only [e2] at this
    exact ⟨rfl,(this.next HE2.out.1 HE2.out.2).next HE.out.1 HE.out.2⟩
end
end Go.Proofs.YtnfndgmlnoeelaaGreatDoor
