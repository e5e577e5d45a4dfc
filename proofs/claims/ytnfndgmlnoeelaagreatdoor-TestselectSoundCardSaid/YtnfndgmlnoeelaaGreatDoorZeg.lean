/- Maps keyed by ints -/
import Derived.Test.YtnfndgmlnoeelaaGreatDoorZlt
import Derived.Test.YtnfndgmlnoeelaaGreatDoorZef
import Derived.Test.YtnfndgmlnoeelaaGreatDoorZee
namespace Go.Proofs.YtnfndgmlnoeelaaGreatDoor
open Go.RowKit Go.Proofs

def intK : KeyT Int where
 ty:=3
 val:=.int .i64
 ok i:=(Lit.int .i64 i).wf = true
 law:=Maps.int_keyed Tryz.underlying3
 key i:=.int .i64 i
 tot i h:=by simp [keyOf,Tryz.underlying3,mapKey,h]
 inv v kl h:=by
  cases v <;> simp [keyOf,Tryz.underlying3,mapKey] at h
  obtain ⟨⟨rfl,h1⟩,_⟩:=h
  exact ⟨_,h1,rfl⟩
 inj a b h:=by simpa using h
end Go.Proofs.YtnfndgmlnoeelaaGreatDoor
/- eval: references -/
namespace Go.Proofs.YtnfndgmlnoeelaaGreatDoor
open Go Go.RowKit Go.Proofs
structure LkR (W0 : World) (B0 vb rb base mb : Nat) (look : ByteArray → Int → Option Xp) : Prop where
 ex : ∃ N g,MapA strK W0 mb N g ∧ (mb < base ∧ mb ≠ vb ∧ mb ≠ rb) ∧ (∀ p,strK.ok p → g p = none → ∀ i,look p i = none) ∧
  ∀ p u,strK.ok p → g p = some u → ∃ ib N' gi,u = .map (some ib) ∧ MapA intK W0 ib N' gi ∧ (ib < base ∧ ib ≠ vb ∧ ib ≠ rb) ∧ (∀ i,intK.ok i → gi i = none → look p i = none) ∧
   ∀ i u,intK.ok i → gi i = some u → ∃ db o x,u = .pointer (some ⟨db,o,none⟩) ∧ look p i = some x ∧ XpA W0 B0 db (o + 5) x
theorem zeroDp (w : World) : (zeroValue 77).run Tryz.prog w = .ok (.pointer none) w:=by kernel_rfl
theorem zeroDm (w : World) : (zeroValue 78).run Tryz.prog w = .ok (.map none) w:=by kernel_rfl
theorem Tryz.undD1 : Tryz.prog.underlying 78 = some (.map 3 77):=by kernel_rfl
theorem Tryz.undD2 : Tryz.prog.underlying 79 = some (.map 9 78):=by kernel_rfl
theorem nil_look (i : Int) (w : World) : (Instr.lookup 78 (.map none) (.int .i64 i) false).run Tryz.prog w = .ok (.pointer none) w:=by kernel_rfl
def DpR (W0 : World) (B0 : Nat) (x : Option Xp) (v : Option Addr) : Prop:=match x with
 | none => v = none
 | some e => ∃ db o,v = some ⟨db,o,none⟩ ∧ XpA W0 B0 db (o + 5) e
theorem LkR.find {W0 : World} {B0 vb rb base mb : Nat} {look : ByteArray → Int → Option Xp} (h : LkR W0 B0 vb rb base mb look) {w : World} (hw : ∀ k,k < base → k ≠ vb → k ≠ rb → w.heap[k]? = W0.heap[k]?) {p : ByteArray} (hp : strK.ok p) {i : Int} (hi : intK.ok i) :
  ∃ u v,(∀ q,(Instr.lookup 79 (.map (some mb)) (.string p) false).run Tryz.prog (w.drewN q) = .ok (.map u) (w.drewN q)) ∧ (∀ q,(Instr.lookup 78 (.map u) (.int .i64 i) false).run Tryz.prog (w.drewN q) = .ok (.pointer v) (w.drewN q)) ∧ DpR W0 B0 (look p i) v:=by
 obtain ⟨N,g,hm,⟨b1,b2,b3⟩,hn,hs⟩:=h.ex
 have hml:=fun q => (hm.keep (w':=w.drewN q) (hw mb b1 b2 b3)).look false Tryz.undD2 (zeroDm (w.drewN q)) hp
 cases hg : g p with
 | none =>
  refine ⟨none,none,fun q => ?_,fun q => nil_look i _,?_⟩
  ·have:=hml q
   rw [hg] at this
   exact this
  ·rw [hn p hp hg i]
   rfl
 | some u =>
  obtain ⟨ib,N',gi,rfl,hmi,⟨c1,c2,c3⟩,hni,hsi⟩:=hs p u hp hg
  have hil:=fun q => (hmi.keep (w':=w.drewN q) (hw ib c1 c2 c3)).look false Tryz.undD1 (zeroDp (w.drewN q)) hi
  cases hgi : gi i with
  | none =>
   refine ⟨some ib,none,fun q => ?_,fun q => ?_,?_⟩
   ·have:=hml q
    rw [hg] at this
    exact this
   ·have:=hil q
    rw [hgi] at this
    exact this
   ·rw [hni i hi hgi]
    rfl
  | some v =>
   obtain ⟨db,o,x,rfl,hx,hX⟩:=hsi i v hi hgi
   refine ⟨some ib,some ⟨db,o,none⟩,fun q => ?_,fun q => ?_,?_⟩
   ·have:=hml q
    rw [hg] at this
    exact this
   ·have:=hil q
    rw [hgi] at this
    exact this
   ·rw [hx]
    exact ⟨db,o,rfl,hX⟩
theorem toL_noB (o : ByteArray) : (o.toList == ([] : List UInt8)) = decide (o = noB):=by
 rw [Lib.toList_data]
 by_cases h : o = noB
 ·subst h
  rfl
 ·rw [decide_eq_false h,beq_eq_false_iff_ne]
  intro e
  exact h (WideShapes.bytes_inj e)
section
variable {W0 : World} {B0 vb rb base : Nat} {m : Value} {L : Int} {w : World} {fv : Value} {fc : List Value} {gv : Value} {gc : List Value} {rs : List Rm}
set_option maxRecDepth 100000 in
set_option maxHeartbeats 4000000 in
theorem evRef_any {n z : Int} {f : Fe} {fs : List Fe} {vs : List Va} {g cap : Nat} (h : EvI W0 B0 vb rb base m L w ⟨n,z,f :: fs,vs⟩ (.slice (some ⟨g,0,none⟩) (fs.length + 1) cap) fc gv gc rs) (hs : Sm L ⟨n,z,f :: fs,vs⟩) {mb : Nat} {look : ByteArray → Int → Option Xp} (hm : m = .map (some mb)) (hlk : LkR W0 B0 vb rb base mb look) (ha : f.at_ ≤ 1) (hpk : strK.ok (if f.e.n = noB then f.p else f.e.n)) (hik : intK.ok f.e.i) :
  Calls Tryz.prog 89 #[.pointer (some ⟨vb,0,none⟩),.pointer (some ⟨g,fs.length * 3,none⟩)] w (MethR W0 B0 vb rb base m L (.slice (some ⟨g,0,none⟩) (fs.length + 1) cap) gv rs w (sRef look L n z f fs vs)):=by
 obtain ⟨R,HR⟩ : ∃ R,Hid (sRef look L n z f fs vs = R):=⟨_,Lib.hid rfl⟩
 rw [HR.out]
 subst hm
 obtain ⟨pk,hpq⟩ : ∃ pk,(if f.e.n = noB then f.p else f.e.n) = pk:=⟨_,rfl⟩
 rw [hpq] at hpk
 have HPQ:=Lib.hid hpq
 clear hpq
 by_cases hl : L ≤ n
 ·have HN:=Lib.hid (show R = .bad 27 n by rw [← HR.out];exact if_pos hl)
  have HS:=Lib.hid (stepI_no h hl)
  clear h hl hs
  go_enter Tryz.func89,Tryz.ntmps89
  go_wp2_with fail
  refine HS.out.mono ?_
  rintro e w1 ⟨he,hE,hst⟩
  have HE:=Lib.hid (And.intro hE hst)
  clear hE hst
  unfold failed at he
  subst he
  go_wp2
  rw [HN.out]
  exact ⟨rfl,rfl,_,_,_,_,_,_,HE.out.1,rfl,HE.out.2⟩
 ·have HS:=Lib.hid (stepI_ok h hs (by show n < L;omega))
  have HM:=Lib.hid (show Sm L ⟨n + 1,z,f :: fs,vs⟩ from ⟨by have:=hs.n0;show 0 ≤ n + 1;simp only at this;omega,hs.l,hs.f,hs.v⟩)
  have HL:=Lib.hid (show n < L by omega)
  clear h hl hs
  go_enter Tryz.func89,Tryz.ntmps89
  go_wp2_with fail
  refine HS.out.mono ?_
  rintro e w1 ⟨rfl,hE,hkp,hst⟩
  obtain ⟨eb,eo,pb,sA,sc,vA,vc,hT⟩:=hE.facts
  have HF:=Lib.hid (show R = if f.at_ = 1 then .go ⟨n + 1,z,fs,vs⟩ else match look pk f.e.i with | some b => .go ⟨n + 1,z,⟨b,0,pk,.nil⟩ :: f.put 1 :: fs,vs⟩ | none => .bad 21 (n + 1) by rw [← HR.out,← HPQ.out];exact if_neg (Int.not_le.2 HL.out))
  rcases (show f.at_ = 0 ∨ f.at_ = 1 by omega) with ha0 | ha0
  rotate_left
  ·have HR2:=Lib.hid (show R = .go ⟨n + 1,z,fs,vs⟩ by rw [HF.out,if_pos ha0])
   have HQ:=Lib.hid (endI hE)
   have HE:=Lib.hid (And.intro hkp hst)
   have p1:=hT.p1
   rw [ha0] at p1
   clear hE hkp hst hT HS
   go_wp2_with fail
   refine HQ.out.mono ?_
   rintro e w2 ⟨rfl,hE2⟩
   have HE2:=Lib.hid hE2
   clear hE2 p1
   go_wp2
   go_end0
   rw [HR2.out]
   exact ⟨rfl,HE2.out.next HE.out.1 HE.out.2⟩
  obtain ⟨u,v,hl1,hl2,hdp⟩:=hlk.find hE.old hpk hik
  have HDP:=Lib.hid hdp
  have HF2:=Lib.hid (show R = match look pk f.e.i with | some b => .go ⟨n + 1,z,⟨b,0,pk,.nil⟩ :: f.put 1 :: fs,vs⟩ | none => .bad 21 (n + 1) by rw [HF.out,if_neg (by omega)])
  have x0:=cell_of_row w1 vb 0 _ _ (0,0) hE.ev.blk
  simp [evC] at x0
  have HE:=Lib.hid (And.intro hE (And.intro hkp hst))
  have p0:=hT.p0
  have p1:=hT.p1
  have p2:=hT.p2
  have k1:=hT.k1
  have k3:=hT.k3
  have v0:=hT.v0
  rw [ha0] at p1
  clear hE hkp hst hT HS hdp hlk hpk hik
  by_cases hn0 : f.e.n = noB
  ·have hq : (f.e.n.toList == ([] : List UInt8)) = true:=(toL_noB f.e.n).trans (decide_eq_true hn0)
   obtain rfl : pk = f.p:=by rw [← HPQ.out];exact if_pos hn0
   have HN0:=Lib.hid hn0
   clear hn0
   cases hlo : look f.p f.e.i with
   | none =>
    have hv : v = none:=by have h:=HDP.out;rw [hlo] at h;exact h
    subst hv
    have HR2:=Lib.hid (show R = .bad 21 (n + 1) by rw [HF2.out,hlo])
    have HFl:=Lib.hid (fun X => evFail_any (.pointer (some ⟨vb,0,none⟩)) 21 X)
    clear hlo
    go_upto_region 6 with fail
    go_quiet (fail)
    go_wp2_with fail
    refine (HFl.out _).mono ?_
    rintro e w2 ⟨he,rfl⟩
    clear p0 p1 p2 k1 k3 v0 x0 hl1 hl2 hq
    unfold failed at he
    subst he
    go_wp2
    rw [HR2.out]
    have hs:=HE.out.1.same (w':=w1.drewN nq) ((Oth.refl _ _).drewN _)
    exact ⟨rfl,rfl,_,_,_,_,_,_,hs.1,rfl,HE.out.2.2.trans hs.2.2⟩
   | some b =>
    obtain ⟨db,o,hv,hX⟩ : ∃ db o,v = some ⟨db,o,none⟩ ∧ XpA W0 B0 db (o + 5) b:=by have h:=HDP.out;rw [hlo] at h;exact h
    subst hv
    have HXb:=Lib.hid hX
    have HR2:=Lib.hid (show R = .go ⟨n + 1,z,⟨b,0,f.p,.nil⟩ :: f.put 1 :: fs,vs⟩ by rw [HF2.out,hlo])
    have y1:=(rowF_top HE.out.1).2
    clear hlo hX
    go_upto_region 6 with fail
    go_quiet (fail)
    have hs:=HE.out.1.same (w':=w1.drewN nq) ((Oth.refl _ _).drewN _)
    go_upto_region 10 with fail
    obtain ⟨fc2,h2,hk2,hst2,ho2⟩:=hs.1.setAt 1
    generalize (w1.drewN nq).setCell ⟨g,fs.length * 3 + 1,none⟩ (.int .i64 ((1 : Nat) : Int)) = w2 at h2 hk2 hst2 ho2 ⊢
    have H2:=Lib.hid (And.intro h2 (And.intro (hs.2.1.trans hk2) (hs.2.2.trans hst2)))
    have ho3 : Oth (fun _ => False) w2 (w2.alloc (.cells #[.string f.p,.slice none 0 0] 140)):=(Oth.refl _ _).alloc _
    have hr3:=heap_alloc_new w2 (.cells #[.string f.p,.slice none 0 0] 140)
    have hs3:=h2.same ho3
    have hdn : ∀ o,¬ Dd vb rb (.slice (some ⟨g,0,none⟩) (fs.length + 1) cap) gv rs w2.heap.size o:=fun o hd => by have:=h2.dead_lt hd;omega
    have HBg:=Lib.hid (beginI hs3.1 ⟨HM.out.n0,HM.out.l,HM.out.f,HM.out.v⟩ (pb:=w2.heap.size) (p:=f.p) (v:=.nil) HXb.out ⟨cell_of_row _ _ 0 _ _ (0,0) hr3,hdn 0,⟨none,0,cell_of_row _ _ 1 _ _ (0,0) hr3,Vl.Sl.nil _ _ _ _ _⟩,hdn 1⟩)
    have H3:=Lib.hid hs3.2
    clear hs h2 hk2 hst2 ho2 ho3 hr3 hs3 hdn p0 p1 p2 k1 k3 v0 x0 y1 hl1 hl2 hq
    go_wp2_with fail
    refine HBg.out.mono ?_
    rintro e w4 ⟨rfl,hE4⟩
    have HE4:=Lib.hid hE4
    clear hE4
    go_wp2
    go_end0
    rw [HR2.out]
    exact ⟨rfl,((HE4.out.next H3.out.1 H3.out.2).next H2.out.2.1 H2.out.2.2).next HE.out.2.1 HE.out.2.2⟩
  ·have hq : (f.e.n.toList == ([] : List UInt8)) = false:=(toL_noB f.e.n).trans (decide_eq_false hn0)
   obtain rfl : pk = f.e.n:=by rw [← HPQ.out];exact if_neg hn0
   have HN0:=Lib.hid hn0
   clear hn0
   cases hlo : look f.e.n f.e.i with
   | none =>
    have hv : v = none:=by have h:=HDP.out;rw [hlo] at h;exact h
    subst hv
    have HR2:=Lib.hid (show R = .bad 21 (n + 1) by rw [HF2.out,hlo])
    have HFl:=Lib.hid (fun X => evFail_any (.pointer (some ⟨vb,0,none⟩)) 21 X)
    clear hlo
    go_upto_region 6 with fail
    go_quiet (fail)
    go_wp2_with fail
    refine (HFl.out _).mono ?_
    rintro e w2 ⟨he,rfl⟩
    clear p0 p1 p2 k1 k3 v0 x0 hl1 hl2 hq
    unfold failed at he
    subst he
    go_wp2
    rw [HR2.out]
    have hs:=HE.out.1.same (w':=w1.drewN nq) ((Oth.refl _ _).drewN _)
    exact ⟨rfl,rfl,_,_,_,_,_,_,hs.1,rfl,HE.out.2.2.trans hs.2.2⟩
   | some b =>
    obtain ⟨db,o,hv,hX⟩ : ∃ db o,v = some ⟨db,o,none⟩ ∧ XpA W0 B0 db (o + 5) b:=by have h:=HDP.out;rw [hlo] at h;exact h
    subst hv
    have HXb:=Lib.hid hX
    have HR2:=Lib.hid (show R = .go ⟨n + 1,z,⟨b,0,f.e.n,.nil⟩ :: f.put 1 :: fs,vs⟩ by rw [HF2.out,hlo])
    have y1:=(rowF_top HE.out.1).2
    clear hlo hX
    go_upto_region 6 with fail
    go_quiet (fail)
    have hs:=HE.out.1.same (w':=w1.drewN nq) ((Oth.refl _ _).drewN _)
    go_upto_region 10 with fail
    obtain ⟨fc2,h2,hk2,hst2,ho2⟩:=hs.1.setAt 1
    generalize (w1.drewN nq).setCell ⟨g,fs.length * 3 + 1,none⟩ (.int .i64 ((1 : Nat) : Int)) = w2 at h2 hk2 hst2 ho2 ⊢
    have H2:=Lib.hid (And.intro h2 (And.intro (hs.2.1.trans hk2) (hs.2.2.trans hst2)))
    have ho3 : Oth (fun _ => False) w2 (w2.alloc (.cells #[.string f.e.n,.slice none 0 0] 140)):=(Oth.refl _ _).alloc _
    have hr3:=heap_alloc_new w2 (.cells #[.string f.e.n,.slice none 0 0] 140)
    have hs3:=h2.same ho3
    have hdn : ∀ o,¬ Dd vb rb (.slice (some ⟨g,0,none⟩) (fs.length + 1) cap) gv rs w2.heap.size o:=fun o hd => by have:=h2.dead_lt hd;omega
    have HBg:=Lib.hid (beginI hs3.1 ⟨HM.out.n0,HM.out.l,HM.out.f,HM.out.v⟩ (pb:=w2.heap.size) (p:=f.e.n) (v:=.nil) HXb.out ⟨cell_of_row _ _ 0 _ _ (0,0) hr3,hdn 0,⟨none,0,cell_of_row _ _ 1 _ _ (0,0) hr3,Vl.Sl.nil _ _ _ _ _⟩,hdn 1⟩)
    have H3:=Lib.hid hs3.2
    clear hs h2 hk2 hst2 ho2 ho3 hr3 hs3 hdn p0 p1 p2 k1 k3 v0 x0 y1 hl1 hl2 hq
    go_wp2_with fail
    refine HBg.out.mono ?_
    rintro e w4 ⟨rfl,hE4⟩
    have HE4:=Lib.hid hE4
    clear hE4
    go_wp2
    go_end0
    rw [HR2.out]
    exact ⟨rfl,((HE4.out.next H3.out.1 H3.out.2).next H2.out.2.1 H2.out.2.2).next HE.out.2.1 HE.out.2.2⟩
end
end Go.Proofs.YtnfndgmlnoeelaaGreatDoor
/- eval: the methods by kinds -/
namespace Go.Proofs.YtnfndgmlnoeelaaGreatDoor
open Go Go.RowKit Go.Proofs
set_option maxRecDepth 100000 in
theorem Tryz.undKinds : Tryz.prog.underlying 135 = some (.map 3 144):=by kernel_rfl
theorem zeroKind (w : World) : (zeroValue 144).run Tryz.prog w = .ok .nilFunc w:=by kernel_rfl
def kindG (k : Int) : Option Value:=
 if k = 15 then some (.func (.func 98) #[] #[]) else
 if k = 14 then some (.func (.func 97) #[] #[]) else
 if k = 13 then some (.func (.func 96) #[] #[]) else
 if k = 12 then some (.func (.func 95) #[] #[]) else
 if k = 11 then some (.func (.func 86) #[] #[]) else
 if k = 10 then some (.func (.func 94) #[] #[]) else
 if k = 9 then some (.func (.func 93) #[] #[]) else
 if k = 8 then some (.func (.func 92) #[] #[]) else
 if k = 7 then some (.func (.func 91) #[] #[]) else
 if k = 6 then some (.func (.func 90) #[] #[]) else
 if k = 5 then some (.func (.func 89) #[] #[]) else
 if k = 4 then some (.func (.func 88) #[] #[]) else
 if k = 3 then some (.func (.func 87) #[] #[]) else
 if k = 2 then some (.func (.func 86) #[] #[]) else
 if k = 1 then some (.func (.func 86) #[] #[]) else
 none
set_option maxRecDepth 100000 in
set_option maxHeartbeats 4000000 in
theorem evMethods_any (w : World) : Calls Tryz.prog 59 #[] w fun e w' => ∃ b,e = .returned (.map (some b)) ∧ w.heap.size ≤ b ∧ MapA intK w' b 15 kindG ∧ Oth (fun _ => False) w w':=by
 go_enter Tryz.func59,Tryz.ntmps59
 have hmm:=@run_makeMap Tryz.prog
 have h0:=MapA.made intK w
 have o0 : Oth (fun _ => False) w (w.alloc (.map #[] 0)):=(Oth.refl _ _).alloc _
 go_wp2_with (first
  | (refine wpList_mapPut _ rfl _ _ _ _ (.inr rfl) intK 144 Tryz.undKinds w.heap.size 0 _ rfl h0 (by decide) 1 (show (Lit.int .i64 1).wf = true by kernel_rfl) rfl (.func (.func 86) #[] #[]) rfl ?_;intro w1 h1 g1;have o1:=o0.grown g1 (by intro k hk hlt;cases hk;exact absurd hlt (Nat.lt_irrefl _));clear h0 o0)
  | (refine wpList_mapPut _ rfl _ _ _ _ (.inr rfl) intK 144 Tryz.undKinds w.heap.size 1 _ rfl h1 (by decide) 2 (show (Lit.int .i64 2).wf = true by kernel_rfl) rfl (.func (.func 86) #[] #[]) rfl ?_;intro w2 h2 g2;have o2:=o1.grown g2 (by intro k hk hlt;cases hk;exact absurd hlt (Nat.lt_irrefl _));clear h1 o1)
  | (refine wpList_mapPut _ rfl _ _ _ _ (.inr rfl) intK 144 Tryz.undKinds w.heap.size 2 _ rfl h2 (by decide) 3 (show (Lit.int .i64 3).wf = true by kernel_rfl) rfl (.func (.func 87) #[] #[]) rfl ?_;intro w3 h3 g3;have o3:=o2.grown g3 (by intro k hk hlt;cases hk;exact absurd hlt (Nat.lt_irrefl _));clear h2 o2)
  | (refine wpList_mapPut _ rfl _ _ _ _ (.inr rfl) intK 144 Tryz.undKinds w.heap.size 3 _ rfl h3 (by decide) 4 (show (Lit.int .i64 4).wf = true by kernel_rfl) rfl (.func (.func 88) #[] #[]) rfl ?_;intro w4 h4 g4;have o4:=o3.grown g4 (by intro k hk hlt;cases hk;exact absurd hlt (Nat.lt_irrefl _));clear h3 o3)
  | (refine wpList_mapPut _ rfl _ _ _ _ (.inr rfl) intK 144 Tryz.undKinds w.heap.size 4 _ rfl h4 (by decide) 5 (show (Lit.int .i64 5).wf = true by kernel_rfl) rfl (.func (.func 89) #[] #[]) rfl ?_;intro w5 h5 g5;have o5:=o4.grown g5 (by intro k hk hlt;cases hk;exact absurd hlt (Nat.lt_irrefl _));clear h4 o4)
  | (refine wpList_mapPut _ rfl _ _ _ _ (.inr rfl) intK 144 Tryz.undKinds w.heap.size 5 _ rfl h5 (by decide) 6 (show (Lit.int .i64 6).wf = true by kernel_rfl) rfl (.func (.func 90) #[] #[]) rfl ?_;intro w6 h6 g6;have o6:=o5.grown g6 (by intro k hk hlt;cases hk;exact absurd hlt (Nat.lt_irrefl _));clear h5 o5)
  | (refine wpList_mapPut _ rfl _ _ _ _ (.inr rfl) intK 144 Tryz.undKinds w.heap.size 6 _ rfl h6 (by decide) 7 (show (Lit.int .i64 7).wf = true by kernel_rfl) rfl (.func (.func 91) #[] #[]) rfl ?_;intro w7 h7 g7;have o7:=o6.grown g7 (by intro k hk hlt;cases hk;exact absurd hlt (Nat.lt_irrefl _));clear h6 o6)
  | (refine wpList_mapPut _ rfl _ _ _ _ (.inr rfl) intK 144 Tryz.undKinds w.heap.size 7 _ rfl h7 (by decide) 8 (show (Lit.int .i64 8).wf = true by kernel_rfl) rfl (.func (.func 92) #[] #[]) rfl ?_;intro w8 h8 g8;have o8:=o7.grown g8 (by intro k hk hlt;cases hk;exact absurd hlt (Nat.lt_irrefl _));clear h7 o7)
  | (refine wpList_mapPut _ rfl _ _ _ _ (.inr rfl) intK 144 Tryz.undKinds w.heap.size 8 _ rfl h8 (by decide) 9 (show (Lit.int .i64 9).wf = true by kernel_rfl) rfl (.func (.func 93) #[] #[]) rfl ?_;intro w9 h9 g9;have o9:=o8.grown g9 (by intro k hk hlt;cases hk;exact absurd hlt (Nat.lt_irrefl _));clear h8 o8)
  | (refine wpList_mapPut _ rfl _ _ _ _ (.inr rfl) intK 144 Tryz.undKinds w.heap.size 9 _ rfl h9 (by decide) 10 (show (Lit.int .i64 10).wf = true by kernel_rfl) rfl (.func (.func 94) #[] #[]) rfl ?_;intro w10 h10 g10;have o10:=o9.grown g10 (by intro k hk hlt;cases hk;exact absurd hlt (Nat.lt_irrefl _));clear h9 o9)
  | (refine wpList_mapPut _ rfl _ _ _ _ (.inr rfl) intK 144 Tryz.undKinds w.heap.size 10 _ rfl h10 (by decide) 11 (show (Lit.int .i64 11).wf = true by kernel_rfl) rfl (.func (.func 86) #[] #[]) rfl ?_;intro w11 h11 g11;have o11:=o10.grown g11 (by intro k hk hlt;cases hk;exact absurd hlt (Nat.lt_irrefl _));clear h10 o10)
  | (refine wpList_mapPut _ rfl _ _ _ _ (.inr rfl) intK 144 Tryz.undKinds w.heap.size 11 _ rfl h11 (by decide) 12 (show (Lit.int .i64 12).wf = true by kernel_rfl) rfl (.func (.func 95) #[] #[]) rfl ?_;intro w12 h12 g12;have o12:=o11.grown g12 (by intro k hk hlt;cases hk;exact absurd hlt (Nat.lt_irrefl _));clear h11 o11)
  | (refine wpList_mapPut _ rfl _ _ _ _ (.inr rfl) intK 144 Tryz.undKinds w.heap.size 12 _ rfl h12 (by decide) 13 (show (Lit.int .i64 13).wf = true by kernel_rfl) rfl (.func (.func 96) #[] #[]) rfl ?_;intro w13 h13 g13;have o13:=o12.grown g13 (by intro k hk hlt;cases hk;exact absurd hlt (Nat.lt_irrefl _));clear h12 o12)
  | (refine wpList_mapPut _ rfl _ _ _ _ (.inr rfl) intK 144 Tryz.undKinds w.heap.size 13 _ rfl h13 (by decide) 14 (show (Lit.int .i64 14).wf = true by kernel_rfl) rfl (.func (.func 97) #[] #[]) rfl ?_;intro w14 h14 g14;have o14:=o13.grown g14 (by intro k hk hlt;cases hk;exact absurd hlt (Nat.lt_irrefl _));clear h13 o13)
  | (refine wpList_mapPut _ rfl _ _ _ _ (.inr rfl) intK 144 Tryz.undKinds w.heap.size 14 _ rfl h14 (by decide) 15 (show (Lit.int .i64 15).wf = true by kernel_rfl) rfl (.func (.func 98) #[] #[]) rfl ?_;intro w15 h15 g15;have o15:=o14.grown g15 (by intro k hk hlt;cases hk;exact absurd hlt (Nat.lt_irrefl _));clear h14 o14)
  | fail)
 have hz : MapA intK w15 w.heap.size 15 kindG:=h15.cong fun _ _ => rfl
 clear h15 g15 g14 g13 g12 g11 g10 g9 g8 g7 g6 g5 g4 g3 g2 g1
 have HZ:=Lib.hid (And.intro hz o15)
 clear hz o15
 go_ret
 exact ⟨_,rfl,Nat.le_refl _,HZ.out.1,HZ.out.2⟩
end Go.Proofs.YtnfndgmlnoeelaaGreatDoor
/- eval: chance -/
namespace Go.Proofs.YtnfndgmlnoeelaaGreatDoor
open Go Go.RowKit Go.Proofs
section
variable {W0 : World} {B0 vb rb base : Nat} {m : Value} {L : Int} {w : World} {fv : Value} {fc : List Value} {gv : Value} {gc : List Value} {rs : List Rm}
theorem EvI.seed {s : Es} (h : EvI W0 B0 vb rb base m L w s fv fc gv gc rs) (Z : Int) : EvI W0 B0 vb rb base m L (w.setCell ⟨vb,3,none⟩ (.int .u64 Z)) { s with z:=Z } fv fc gv gc rs ∧ Kp (Dd vb rb fv gv rs) w (Dd vb rb fv gv rs) (w.setCell ⟨vb,3,none⟩ (.int .u64 Z)) ∧ St w (w.setCell ⟨vb,3,none⟩ (.int .u64 Z)):=by
 have ho : Oth (· = vb) w (w.setCell ⟨vb,3,none⟩ (.int .u64 Z)):=(Oth.refl (· = vb) w).setCell (fun _ => rfl) _
 have hp : ∀ k,k = vb → k = vb ∨ fv.ownBlock = some k ∨ gv.ownBlock = some k:=fun _ e => .inl e
 have hk:=h.kp ho hp (NewB.refl _ _) (NewB.refl _ _)
 have hlt:=h.ev.lt
 refine ⟨h.next ho hp (NewB.refl _ _) (NewB.refl _ _) ⟨?_,ho.row h.ev.fr fun k hk e => ?_,ho.row h.ev.va fun k hk e => ?_,h.ev.ne,h.ev.lt,Nat.le_trans h.ev.le ho.size⟩ (h.fr.keep hk) (h.va.keep hk),hk,ho.st⟩
 ·simpa [evC] using Joins.block_setCell h.ev.blk (i:=3) (.int .u64 Z)
 ·have:=(h.ev.fr.lt k hk).1
  omega
 ·have:=(h.ev.va.lt k hk).1
  omega
set_option maxRecDepth 100000 in
set_option maxHeartbeats 2000000 in
theorem evChance_any {n z : Int} {f : Fe} {fs : List Fe} {vs : List Va} {g cap : Nat} (h : EvI W0 B0 vb rb base m L w ⟨n,z,f :: fs,vs⟩ (.slice (some ⟨g,0,none⟩) (fs.length + 1) cap) fc gv gc rs) (hs : Sm L ⟨n,z,f :: fs,vs⟩) (hd : 1 ≤ f.e.d ∧ f.e.d ≤ 999999999) :
  Calls Tryz.prog 97 #[.pointer (some ⟨vb,0,none⟩),.pointer (some ⟨g,fs.length * 3,none⟩)] w (MethR W0 B0 vb rb base m L (.slice (some ⟨g,0,none⟩) (fs.length + 1) cap) gv rs w (sChance L n z f fs vs)):=by
 obtain ⟨R,HR⟩ : ∃ R,Hid (sChance L n z f fs vs = R):=⟨_,Lib.hid rfl⟩
 rw [HR.out]
 by_cases hl : L ≤ n
 ·have HN:=Lib.hid (show R = .bad 27 n by rw [← HR.out];exact if_pos hl)
  have HS:=Lib.hid (stepI_no h hl)
  clear h hl hs
  go_enter Tryz.func97,Tryz.ntmps97
  go_wp2_with fail
  refine HS.out.mono ?_
  rintro e w1 ⟨he,hE,hst⟩
  have HE:=Lib.hid (And.intro hE hst)
  clear hE hst
  unfold failed at he
  subst he
  go_wp2
  rw [HN.out]
  exact ⟨rfl,rfl,_,_,_,_,_,_,HE.out.1,rfl,HE.out.2⟩
 ·have HS:=Lib.hid (stepI_ok h hs (by show n < L;omega))
  have HM:=Lib.hid (show Sm L ⟨n + 1,z,f :: fs,vs⟩ from ⟨by have:=hs.n0;show 0 ≤ n + 1;simp only at this;omega,hs.l,hs.f,hs.v⟩)
  have HL:=Lib.hid (show n < L by omega)
  clear h hl hs
  go_enter Tryz.func97,Tryz.ntmps97
  go_wp2_with fail
  refine HS.out.mono ?_
  rintro e w1 ⟨rfl,hE,hkp,hst⟩
  obtain ⟨eb,eo,pb,sA,sc,vA,vc,hT⟩:=hE.facts
  have HDn:=Lib.hid (show ¬ IntKind.u64.wrap f.e.d = 0 by rw [show IntKind.u64.wrap f.e.d = f.e.d by simp [IntKind.wrap,IntKind.bits];omega];omega)
  have HF:=Lib.hid (show R = .go ⟨n + 1,nextZ z,fs,vaT (luck (nextZ z) f.e.i f.e.d) :: vs⟩ by rw [← HR.out];exact if_neg (Int.not_le.2 HL.out))
  have HE:=Lib.hid (And.intro hE (And.intro hkp hst))
  have p0:=hT.p0
  have k3:=hT.k3
  have k4:=hT.k4
  have x3:=cell_of_row w1 vb 3 _ _ (0,0) hE.ev.blk
  have y3:=frozen_of_row w1 vb 3 _ _ hE.ev.blk
  simp [evC] at x3
  clear hT HS hE hkp hst
  go_upto_region 2 with fail
  have HZ:=Lib.hid (HE.out.1.seed (nextZ z))
  unfold nextZ at HZ
  generalize hZ : IntKind.u64.wrap (IntKind.u64.wrap (z * 6364136223846793005) + 1442695040888963407) = Z at HZ ⊢
  have HzZ:=Lib.hid hZ
  clear hZ
  generalize w1.setCell ⟨vb,3,none⟩ (.int .u64 Z) = w2 at HZ ⊢
  obtain ⟨eb,eo,pb,sA,sc,vA,vc,hT⟩:=HZ.out.1.facts
  have q0:=hT.p0
  have q3:=hT.k3
  have q4:=hT.k4
  have x5:=cell_of_row w2 vb 3 _ _ (0,0) HZ.out.1.ev.blk
  simp [evC] at x5
  have hne : ¬ IntKind.u64.wrap f.e.d = 0:=HDn.out
  obtain ⟨T,HTt⟩ : ∃ T : Int,Hid ((if decide ((Z / 8589934592).tmod (IntKind.u64.wrap f.e.d) < IntKind.u64.wrap f.e.i) = true then 1 else 0) = T):=⟨_,Lib.hid rfl⟩
  have HQ:=Lib.hid (show ∀ Y,Oth (fun _ => False) w2 Y → _ from fun Y ho => resultO (HZ.out.1.same ho).1 ⟨HM.out.n0,HM.out.l,HM.out.f,HM.out.v⟩ (VaR.plain _ Y _ (CdW.nil _ _ _) 2 T))
  have HTr:=Lib.hid (show ∀ X,Calls Tryz.prog 131 #[.bool (decide ((Z / 8589934592).tmod (IntKind.u64.wrap f.e.d) < IntKind.u64.wrap f.e.i))] X fun e w' => e = .returned (.agg #[.int .i64 2,.int .i64 T,.slice none 0 0,.int .i64 0,.string ⟨#[]⟩,.string ⟨#[]⟩,.slice none 0 0,.slice none 0 0]) ∧ Oth (fun _ => False) X w' from fun X => by
   rw [← HTt.out]
   exact evTruth_any _ X)
  have HFX:=Lib.hid (show ∀ Y : World,Oth (fun _ => False) w2 Y → (Y.cell? ⟨g,fs.length * 3,none⟩ = some (.pointer (some ⟨eb,eo,none⟩)) ∧ Y.cell? ⟨eb,eo + 3,none⟩ = some (.int .i64 f.e.i) ∧ Y.cell? ⟨eb,eo + 4,none⟩ = some (.int .i64 f.e.d) ∧ Y.cell? ⟨vb,3,none⟩ = some (.int .u64 Z)) from fun Y ho => by
   have kk : ∀ (p : Addr) (u : Value),w2.cell? p = some u → Y.cell? p = some u:=fun p u hp => (World.cell?_of_block (ho.block p.block (World.block_lt_of_cell? w2 p hp) (fun e => e))).trans hp
   exact ⟨kk _ _ q0,kk _ _ q3,kk _ _ q4,kk _ _ x5⟩)
  have HFY:=Lib.hid (show ∀ Y Z' : World,Oth (fun _ => False) w2 Y → Oth (fun k => k = vb ∨ gv.ownBlock = some k) Y Z' → EvK W0 B0 vb rb base m L (.slice (some ⟨g,0,none⟩) (fs.length + 1) cap) gv rs Y Z' ⟨n + 1,Z,fs,vaI 2 T :: vs⟩ → (Z'.cell? ⟨g,fs.length * 3,none⟩ = some (.pointer (some ⟨eb,eo,none⟩)) ∧ Z'.cell? ⟨eb,eo + 3,none⟩ = some (.int .i64 f.e.i) ∧ Z'.cell? ⟨eb,eo + 4,none⟩ = some (.int .i64 f.e.d) ∧ Z'.cell? ⟨vb,3,none⟩ = some (.int .u64 Z)) from fun Y Z' ho ho' hE => by
   obtain ⟨r0,r1,r2,r3⟩:=HFX.out Y ho
   have hEv:=HZ.out.1.ev
   have h1:=(hEv.fr.lt g rfl).1
   have h2:=hEv.lt
   have h3:=hT.xp.lt
   have h4:=HZ.out.1.lv
   have h5:=HZ.out.1.lr
   have h6:=HZ.out.1.rlt
   have kk : ∀ (p : Addr) (u : Value),Y.cell? p = some u → p.block ≠ vb → gv.ownBlock ≠ some p.block → Z'.cell? p = some u:=fun p u hp e1 e2 => (World.cell?_of_block (ho'.block p.block (World.block_lt_of_cell? Y p hp) (fun e => e.elim e1 e2))).trans hp
   have hg1 : gv.ownBlock ≠ some g:=hEv.ne g rfl
   have hg2 : gv.ownBlock ≠ some eb:=fun e => by have:=(hEv.va.lt eb e).1;omega
   refine ⟨kk _ _ r0 (by show g ≠ vb;omega) hg1,kk _ _ r1 (by show eb ≠ vb;omega) hg2,kk _ _ r2 (by show eb ≠ vb;omega) hg2,?_⟩
   obtain ⟨_,_,_,_,_,hE',_⟩:=hE
   have:=cell_of_row Z' vb 3 _ _ (0,0) hE'.ev.blk
   simpa [evC] using this)
  clear hT p0 k3 k4 x3 y3
  go_region_held3 (fun Y => (Y.cell? ⟨g,fs.length * 3,none⟩ = some (.pointer (some ⟨eb,eo,none⟩)) ∧ Y.cell? ⟨eb,eo + 3,none⟩ = some (.int .i64 f.e.i) ∧ Y.cell? ⟨eb,eo + 4,none⟩ = some (.int .i64 f.e.d) ∧ Y.cell? ⟨vb,3,none⟩ = some (.int .u64 Z)))
   (first | exact HFX.out _ (Oth.refl _ _).drew | exact HFY.out _ _ ho3 ho4 hE4 | exact HFX.out _ ho3)
   (first
    | (go_at_call 131;refine (HTr.out _).mono ?_;rintro e w3 ⟨rfl,ho3'⟩;have ho3 : Oth (fun _ => False) w2 w3:=(Oth.refl _ _).drew.trans ho3')
    | (go_at_call 125;refine (HQ.out _ ho3).mono ?_;rintro e w4 ⟨rfl,hE4,ho4⟩))
  have HE4:=Lib.hid (And.intro hE4 ho3)
  clear hE4 ho3 ho3' ho4
  go_wp2
  go_end0
  rw [HF.out]
  have e : vaT (luck (nextZ z) f.e.i f.e.d) = vaI 2 T:=by
   show vaI 2 (if luck (nextZ z) f.e.i f.e.d = true then 1 else 0) = _
   rw [show nextZ z = Z from HzZ.out]
   exact congrArg (vaI 2) HTt.out
  rw [e]
  rw [show nextZ z = Z from HzZ.out]
  exact ⟨rfl,((HE4.out.1.next (HZ.out.1.same HE4.out.2).2.1 (HZ.out.1.same HE4.out.2).2.2).next HZ.out.2.1 HZ.out.2.2).next HE.out.2.1 HE.out.2.2⟩
end
end Go.Proofs.YtnfndgmlnoeelaaGreatDoor
