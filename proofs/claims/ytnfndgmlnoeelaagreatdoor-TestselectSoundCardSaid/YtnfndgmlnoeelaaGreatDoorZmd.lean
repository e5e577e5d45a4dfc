/- The closures of depend.Key: number, text, expr -/
import Derived.Test.YtnfndgmlnoeelaaGreatDoorZmc
import Derived.Test.YtnfndgmlnoeelaaGreatDoorZla
import Derived.Test.YtnfndgmlnoeelaaGreatDoorZlz
import Derived.Deep.DeepCutAuto
import Derived.Deep.RegionHeld3
namespace Go.Proofs.YtnfndgmlnoeelaaGreatDoor
open Go.RowKit Go.Proofs Go.Shelf
set_option maxRecDepth 100000 in
set_option maxHeartbeats 1000000 in
theorem dKey1_any (n : Int) (B b : Nat) (acc : List UInt8) (w : World) (hB : B ≤ w.heap.size) (h : Lib.IsBuilderF 90 5 B b (Lib.byteCells acc) w) (hl : acc.length ≤ 70368744177664) :
  Calls Tryz.prog 30 #[.int .i64 n,.pointer (some ⟨b,0,none⟩)] w fun e w' => e = .returned (.tuple #[]) ∧ Wrote B b (acc ++ numL n) w w':=by
 have HP:=Lib.hid (PutInt_any n w)
 have HH:=Lib.hid (And.intro hB (And.intro h hl))
 clear hB h hl
 go_enter Tryz.func30,Tryz.ntmps30
 go_wp2_with fail
 refine HP.out.mono ?_
 rintro e w1 ⟨⟨c,rfl⟩,h1⟩
 have hlt : b < w.heap.size:=HH.out.2.1.elim (fun h => h.lt) (fun h => h.lt)
 have hb1 : Lib.IsBuilderF 90 5 B b (Lib.byteCells acc) w1:=builder_kept HH.out.2.1 fun k c t fz hk _ => (h1.block k (Array.getElem?_eq_some_iff.1 hk).1).trans hk
 have HW:=Lib.hid (Tryz.WriteString_k B b _ ⟨(numL n).toArray⟩ w1 hb1 (by have:=numL_len n;have:=HH.out.2.2;rw [Lib.byteCells_length];show _ + (numL n).toArray.size ≤ _;rw [List.size_toArray];omega) (by have:=h1.size;have:=HH.out.1;omega))
 have H1:=Lib.hid h1
 clear h1 hb1 hlt
 go_wp2_with fail
 refine HW.out.mono ?_
 rintro e w2 ⟨rfl,h2,h3,h4⟩
 have H2:=Lib.hid (And.intro h2 (And.intro h3 h4))
 clear h2 h3 h4
 go_wp2
 go_end0
 refine ⟨rfl,?_,(H1.out.mono HH.out.1).trans H2.out.2.1,(others_below H1.out).trans H2.out.2.2⟩
 rw [Lib.byteCells_append]
 exact .inr H2.out.1
set_option maxRecDepth 100000 in
set_option maxHeartbeats 1000000 in
theorem dKey2_any (s : ByteArray) (B b : Nat) (acc : List UInt8) (w : World) (hB : B ≤ w.heap.size) (h : Lib.IsBuilderF 90 5 B b (Lib.byteCells acc) w) (hl : acc.length ≤ 70368744177664) :
  Calls Tryz.prog 33 #[.string s,.pointer (some ⟨b,0,none⟩)] w fun e w' => e = .returned (.tuple #[]) ∧ Wrote B b (acc ++ txtL s) w w':=by
 have HP:=Lib.hid (PutText_any s w)
 have HH:=Lib.hid (And.intro hB (And.intro h hl))
 clear hB h hl
 go_enter Tryz.func33,Tryz.ntmps33
 go_wp2_with fail
 refine HP.out.mono ?_
 rintro e w1 ⟨⟨c,rfl⟩,h1⟩
 have hb1 : Lib.IsBuilderF 90 5 B b (Lib.byteCells acc) w1:=builder_kept HH.out.2.1 fun k c t fz hk _ => (h1.block k (Array.getElem?_eq_some_iff.1 hk).1).trans hk
 have htl : (txtL s).length ≤ 65542:=by
  unfold txtL
  split
  ·have:=encL_40 (n:=s.size) (by omega)
   have hz : s.data.toList.length = s.size:=by simp
   rw [List.length_append]
   omega
  ·simp
 have HW:=Lib.hid (Tryz.WriteString_k B b _ ⟨(txtL s).toArray⟩ w1 hb1 (by have:=HH.out.2.2;rw [Lib.byteCells_length];show _ + (txtL s).toArray.size ≤ _;rw [List.size_toArray];omega) (by have:=h1.size;have:=HH.out.1;omega))
 have H1:=Lib.hid h1
 clear h1 hb1 htl
 go_wp2_with fail
 refine HW.out.mono ?_
 rintro e w2 ⟨rfl,h2,h3,h4⟩
 have H2:=Lib.hid (And.intro h2 (And.intro h3 h4))
 clear h2 h3 h4
 go_wp2
 go_end0
 refine ⟨rfl,?_,(H1.out.mono HH.out.1).trans H2.out.2.1,(others_below H1.out).trans H2.out.2.2⟩
 rw [Lib.byteCells_append]
 exact .inr H2.out.1
theorem Wrote.numK {b : Nat} {acc T R : List UInt8} {W X : World} (h : Wrote b b acc W X) (hbW : b ≤ X.heap.size) (v : Int) (hT : acc ++ (numL v ++ R) = T) (hl : T.length ≤ 70368744177664) :
  Calls Tryz.prog 30 #[.int .i64 v,.pointer (some ⟨b,0,none⟩)] X fun e w' => e = .returned (.tuple #[]) ∧ Wrote b b (acc ++ numL v) X w' ∧ (acc ++ numL v) ++ R = T:=
 (dKey1_any v b b acc X hbW h.1 (by rw [← hT] at hl;rw [List.length_append] at hl;omega)).mono fun e w' ⟨h1,h2⟩ => ⟨h1,h2,by rw [List.append_assoc];exact hT⟩
theorem Wrote.txtK {b : Nat} {acc T R : List UInt8} {W X : World} (h : Wrote b b acc W X) (hbW : b ≤ X.heap.size) (s : ByteArray) (hT : acc ++ (txtL s ++ R) = T) (hl : T.length ≤ 70368744177664) :
  Calls Tryz.prog 33 #[.string s,.pointer (some ⟨b,0,none⟩)] X fun e w' => e = .returned (.tuple #[]) ∧ Wrote b b (acc ++ txtL s) X w' ∧ (acc ++ txtL s) ++ R = T:=
 (dKey2_any s b b acc X hbW h.1 (by rw [← hT] at hl;rw [List.length_append] at hl;omega)).mono fun e w' ⟨h1,h2⟩ => ⟨h1,h2,by rw [List.append_assoc];exact hT⟩
theorem Wrote.rowK {b : Nat} {acc : List UInt8} {W X : World} (h : Wrote b b acc W X) {k : Nat} {c : Array Value} {t : TypeId} (hc : W.heap[k]? = some (.cells c t (0,0))) (hk : k ≠ b) (ht : t ≠ 5) : X.heap[k]? = some (.cells c t (0,0)):=
 h.2.2 _ _ hc (fun e => hk (Option.some.inj e)) (fun c' fz' e => ht (by injection e))
/-! ### an expression as text -/
def sgnK (i : Int) : Int:=if i < 0 then 2 * -i + 1 else 2 * i
def packS (pack : ByteArray) (k : Int) (n : ByteArray) : ByteArray:=if k = 5 ∧ n.size = 0 then pack else n
def nodeT (pack : ByteArray) (k : Int) (n m : ByteArray) (i d : Int) (len : Nat) (sub : List UInt8) : List UInt8:=
 numL k ++ (txtL (packS pack k n) ++ (txtL m ++ (numL (sgnK i) ++ (numL d ++ (numL len ++ sub)))))
def Fo.kt (pack : ByteArray) : Fo → List UInt8
 | .nil => []
 | .cons k n m i d _ _ s r => nodeT pack k n m i d s.len (s.kt pack) ++ r.kt pack
def Fo.Bnd : Fo → Prop
 | .nil => True
 | .cons _ _ _ i _ _ _ s r => (-999999999 ≤ i ∧ i ≤ 999999999) ∧ s.Bnd ∧ r.Bnd
def KeyC (X : World) (b p q r : Nat) : Prop:=
 X.heap[p]? = some (.cells #[.func (.func 30) #[] #[.pointer (some ⟨b,0,none⟩)]] 96 (0,0)) ∧ X.heap[q]? = some (.cells #[.func (.func 33) #[] #[.pointer (some ⟨b,0,none⟩)]] 98 (0,0)) ∧
 X.heap[r]? = some (.cells #[.func (.func 35) #[] #[.pointer (some ⟨p,0,none⟩),.pointer (some ⟨q,0,none⟩),.pointer (some ⟨r,0,none⟩)]] 99 (0,0)) ∧ b < p ∧ b < q ∧ b < r
theorem KeyC.wrote {W X : World} {b p q r : Nat} {acc : List UInt8} (h : KeyC W b p q r) (hw : Wrote b b acc W X) : KeyC X b p q r:=
 ⟨hw.rowK h.1 (by have:=h.2.2.2;omega) (by decide),hw.rowK h.2.1 (by have:=h.2.2.2;omega) (by decide),hw.rowK h.2.2.1 (by have:=h.2.2.2;omega) (by decide),h.2.2.2⟩
def KtOK (s : Fo) : Prop:=∀ (pack : ByteArray) (k : Int) (n m : ByteArray) (i d : Int) (A : Option Addr) (c : Nat) (b p q r : Nat) (acc T R : List UInt8) (w : World),s.Sl w b A c → KeyC w b p q r → Lib.IsBuilderF 90 5 b b (Lib.byteCells acc) w → b ≤ w.heap.size →
  (-999999999 ≤ i ∧ i ≤ 999999999) → s.Bnd → acc ++ (nodeT pack k n m i d s.len (s.kt pack) ++ R) = T → T.length ≤ 70368744177664 →
  Calls Tryz.prog 35 #[.string pack,.agg #[.int .i64 k,.string n,.string m,.int .i64 i,.int .i64 d,.slice A s.len c],.pointer (some ⟨p,0,none⟩),.pointer (some ⟨q,0,none⟩),.pointer (some ⟨r,0,none⟩)] w
   fun e w' => e = .returned (.tuple #[]) ∧ Wrote b b (acc ++ nodeT pack k n m i d s.len (s.kt pack)) w w' ∧ (acc ++ nodeT pack k n m i d s.len (s.kt pack)) ++ R = T
end Go.Proofs.YtnfndgmlnoeelaaGreatDoor
/- The closure expr of depend.Key -/
namespace Go.Proofs.YtnfndgmlnoeelaaGreatDoor
open Go.RowKit Go.Proofs Go.Shelf

theorem Wrote.same {b : Nat} {acc : List UInt8} {W : World} (h : Lib.IsBuilderF 90 5 b b (Lib.byteCells acc) W) : Wrote b b acc W W:=⟨h,Below.refl _ _,Lib.OthersKept.refl _ _ _⟩
set_option maxRecDepth 100000 in
set_option maxHeartbeats 16000000 in
theorem kt_step (s : Fo) (ih : s.All KtOK) : KtOK s:=by
 intro pack k n m i d A c b p q r acc T R w hs hK hbd hbw hi hB hT hl
 obtain ⟨n',hn'⟩ : ∃ n',packS pack k n = n':=⟨_,rfl⟩
 obtain ⟨TT,hTT⟩ : ∃ TT,Hid (nodeT pack k n m i d s.len (s.kt pack) = TT):=⟨_,Lib.hid rfl⟩
 have HTT:=Lib.hid (show acc ++ TT ++ R = T by rw [← hTT.out,List.append_assoc];exact hT)
 have HT:=Lib.hid (show acc ++ (numL k ++ (txtL n' ++ (txtL m ++ (numL (sgnK i) ++ (numL d ++ (numL s.len ++ (s.kt pack ++ R))))))) = T by
  rw [← hT,nodeT,hn']
  simp only [List.append_assoc])
 rw [hTT.out]
 clear hT
 obtain ⟨SL,HSL⟩ : ∃ Q,Hid (s.len = Q):=⟨_,Lib.hid rfl⟩
 have hcap1:=hs.1
 have hcap2:=hs.2.1
 unfold maxLen at hcap2
 rw [HSL.out] at hcap1 HT ⊢
 obtain ⟨W0,hW0⟩ : ∃ W0,w.alloc (.cells #[.int .i64 k,.string n',.string m,.int .i64 i,.int .i64 d,.slice A SL c] 60) = W0:=⟨_,rfl⟩
 have hz0 : w.heap.size + 1 = W0.heap.size:=by rw [← hW0];simp
 have hWr0 : Wrote b b acc w W0:=by rw [← hW0];exact (Wrote.same hbd).alloc hbw _
 have hx0 : W0.heap[w.heap.size]? = some (.cells #[.int .i64 k,.string n',.string m,.int .i64 i,.int .i64 d,.slice A SL c] 60 (0,0)):=by rw [← hW0];exact heap_alloc_new w _
 have hbl : b < w.heap.size:=hbd.elim (fun h => h.lt) (fun h => h.lt)
 have HC : Hid (∀ (X : World) (l' : List UInt8),Wrote b b l' W0 X → b ≤ X.heap.size ∧ X.cell? ⟨w.heap.size,0,none⟩ = some (.int .i64 k) ∧ X.cell? ⟨w.heap.size,1,none⟩ = some (.string n') ∧ X.cell? ⟨w.heap.size,2,none⟩ = some (.string m) ∧ X.cell? ⟨w.heap.size,3,none⟩ = some (.int .i64 i) ∧ X.cell? ⟨w.heap.size,4,none⟩ = some (.int .i64 d) ∧ X.cell? ⟨w.heap.size,5,none⟩ = some (.slice A SL c) ∧
   X.cell? ⟨p,0,none⟩ = some (.func (.func 30) #[] #[.pointer (some ⟨b,0,none⟩)]) ∧ X.cell? ⟨q,0,none⟩ = some (.func (.func 33) #[] #[.pointer (some ⟨b,0,none⟩)]) ∧ X.cell? ⟨r,0,none⟩ = some (.func (.func 35) #[] #[.pointer (some ⟨p,0,none⟩),.pointer (some ⟨q,0,none⟩),.pointer (some ⟨r,0,none⟩)])):=Lib.hid fun X l' hX => by
  have h0:=hX.rowK hx0 (by omega) (by decide)
  have hk:=(hK.wrote hWr0).wrote hX
  exact ⟨by have:=hX.2.1.size;omega,cell_of_row X _ 0 _ _ (0,0) h0,cell_of_row X _ 1 _ _ (0,0) h0,cell_of_row X _ 2 _ _ (0,0) h0,cell_of_row X _ 3 _ _ (0,0) h0,cell_of_row X _ 4 _ _ (0,0) h0,cell_of_row X _ 5 _ _ (0,0) h0,cell_of_row X _ 0 _ _ (0,0) hk.1,cell_of_row X _ 0 _ _ (0,0) hk.2.1,cell_of_row X _ 0 _ _ (0,0) hk.2.2.1⟩
 obtain ⟨hi1,hi2⟩:=hi
 have HH:=Lib.hid (And.intro hs (And.intro hK (And.intro hB (And.intro hWr0 (And.intro ih hl)))))
 have H0:=Lib.hid (Wrote.same hWr0.1)
 have HN1:=Lib.hid (H0.out.numK (HC.out W0 _ H0.out).1 k HT.out hl)
 have HZ:=Lib.hid hz0
 have hk5 : (k == 5) = decide (k = 5):=by by_cases h : k = 5 <;> simp [h]
 have hne : (n.toList == []) = decide (n.size = 0):=by
  by_cases h : n.size = 0
  ·have:=toList_nil h;simp [this,h]
  ·have:=toList_ne h;simp [this,h]
 obtain ⟨b5,hb5⟩ : ∃ x,decide (k = 5) = x:=⟨_,rfl⟩
 obtain ⟨bn,hbn⟩ : ∃ x,decide (n.size = 0) = x:=⟨_,rfl⟩
 have hnn : n' = if b5 && bn then pack else n:=by
  rw [← hn',packS,← hb5,← hbn]
  by_cases h1 : k = 5 <;> by_cases h2 : n.size = 0 <;> simp [h1,h2]
 rw [hb5] at hk5
 rw [hbn] at hne
 clear hs hK hbd hbw hB hl ih hz0 hWr0 hx0 hbl hTT hb5 hbn hn'
 go_enter Tryz.func35,Tryz.ntmps35
 go_upto_region 1 with fail
 go_cut [16] (fun s16 wx => s16 = .bool (b5 && bn) ∧ wx = w.alloc (.cells #[.int .i64 k,.string n,.string m,.int .i64 i,.int .i64 d,.slice A SL c] 60))
 case first =>
  cases b5 <;> cases bn
  all_goals (
   go_wp2
   go_meet
   exact ⟨rfl,rfl⟩)
 case rest =>
 obtain ⟨h16,hwc⟩:=hcut
 subst h16 hwc
 go_upto_if 16 with (fail)
 go_cut [] (fun wx => wx = W0)
 case first =>
  cases b5 <;> cases bn
  all_goals (
   simp only [Bool.false_and,Bool.true_and,Bool.and_false,Bool.false_eq_true,if_true,if_false] at hnn
   clear hk5 hne
   go_wp2
   go_meet
   rw [← hW0,hnn])
 case rest =>
 subst hcut
 obtain ⟨WZ,hWZ⟩ : ∃ WZ,WZ = wc:=⟨_,rfl⟩
 subst hWZ
 clear hnn hk5 hne
 obtain ⟨_,x0,x1,x2,x3,x4,x5,y0,y1,y2⟩:=HC.out WZ _ H0.out
 go_wp2_with fail
 refine HN1.out.mono ?_
 rintro e w1 ⟨rfl,hw1,hT1⟩
 have HW1:=Lib.hid (And.intro hw1 hT1)
 clear x0 x1 x2 x3 x4 x5 y0 y1 y2 hw1 hT1
 obtain ⟨hbX,x0,x1,x2,x3,x4,x5,y0,y1,y2⟩:=HC.out w1 _ HW1.out.1
 have HN2:=Lib.hid (HW1.out.1.txtK hbX _ HW1.out.2 HH.out.2.2.2.2.2)
 clear hbX
 go_wp2_with fail
 refine HN2.out.mono ?_
 rintro e w2 ⟨rfl,hw2,hT2⟩
 have HW2:=Lib.hid (And.intro (HW1.out.1.trans hw2) hT2)
 clear x0 x1 x2 x3 x4 x5 y0 y1 y2 hw2 hT2 HN2
 obtain ⟨hbX,x0,x1,x2,x3,x4,x5,y0,y1,y2⟩:=HC.out w2 _ HW2.out.1
 have HN3:=Lib.hid (HW2.out.1.txtK hbX _ HW2.out.2 HH.out.2.2.2.2.2)
 clear hbX
 go_wp2_with fail
 refine HN3.out.mono ?_
 rintro e w3 ⟨rfl,hw3,hT3⟩
 have HW3:=Lib.hid (And.intro (HW2.out.1.trans hw3) hT3)
 clear x0 x1 x2 x3 x4 x5 y0 y1 y2 hw3 hT3 HN3
 generalize acc ++ numL k ++ txtL n' ++ txtL m = acc3 at HW3
 obtain ⟨hbX,x0,x1,x2,x3,x4,x5,y0,y1,y2⟩:=HC.out w3 _ HW3.out.1
 have HN4:=Lib.hid (HW3.out.1.numK hbX _ HW3.out.2 HH.out.2.2.2.2.2)
 clear hbX HN1 HW1 HW2
 go_upto_if 33 with (fail)
 go_cut [] (fun wx => Wrote b b (acc3 ++ numL (sgnK i)) w3 wx ∧ (acc3 ++ numL (sgnK i)) ++ (numL d ++ (numL SL ++ (s.kt pack ++ R))) = T)
 case first =>
  cases hneg : decide (i < 0) with
  | true =>
   have HE2:=Lib.hid (show sgnK i = 2 * -i + 1 by rw [sgnK,if_pos (of_decide_eq_true hneg)])
   rw [HE2.out] at HN4
   have hw1 : IntKind.i64.wrap (-i) = -i:=IntWalk.i64_in _ (by omega)
   have hw2 : IntKind.i64.wrap (2 * -i) = 2 * -i:=IntWalk.i64_in _ (by omega)
   have hw3 : IntKind.i64.wrap (2 * -i + 1) = 2 * -i + 1:=IntWalk.i64_in _ (by omega)
   go_wp2_with fail
   refine HN4.out.mono ?_
   rintro e w6 ⟨rfl,hw6,hT6⟩
   have H6:=Lib.hid (And.intro hw6 hT6)
   clear hw6 hT6
   go_wp2
   go_meet
   rw [HE2.out]
   exact H6.out
  | false =>
   have HE2:=Lib.hid (show sgnK i = 2 * i by rw [sgnK,if_neg (of_decide_eq_false hneg)])
   rw [HE2.out] at HN4
   have hw2 : IntKind.i64.wrap (2 * i) = 2 * i:=IntWalk.i64_in _ (by omega)
   go_wp2_with fail
   refine HN4.out.mono ?_
   rintro e w6 ⟨rfl,hw6,hT6⟩
   have H6:=Lib.hid (And.intro hw6 hT6)
   clear hw6 hT6
   go_wp2
   go_meet
   rw [HE2.out]
   exact H6.out
 case rest =>
 obtain ⟨hw6,hT6⟩:=hcut
 have HW6:=Lib.hid (And.intro (HW3.out.1.trans hw6) hT6)
 clear x0 x1 x2 x3 x4 x5 y0 y1 y2 hw6 hT6 HN4
 generalize acc3 ++ numL (sgnK i) = acc4 at HW6
 obtain ⟨hbX,x0,x1,x2,x3,x4,x5,y0,y1,y2⟩:=HC.out wc _ HW6.out.1
 have HN5:=Lib.hid (HW6.out.1.numK hbX _ HW6.out.2 HH.out.2.2.2.2.2)
 clear hbX HW3
 go_wp2_with fail
 refine HN5.out.mono ?_
 rintro e w7 ⟨rfl,hw7,hT7⟩
 have HW7:=Lib.hid (And.intro (HW6.out.1.trans hw7) hT7)
 clear x0 x1 x2 x3 x4 x5 y0 y1 y2 hw7 hT7 HN5
 obtain ⟨hbX,x0,x1,x2,x3,x4,x5,y0,y1,y2⟩:=HC.out w7 _ HW7.out.1
 have HN6:=Lib.hid (HW7.out.1.numK hbX _ HW7.out.2 HH.out.2.2.2.2.2)
 clear hbX HW6
 go_wp2_with fail
 refine HN6.out.mono ?_
 rintro e w8 ⟨rfl,hw8,hT8⟩
 have HW8:=Lib.hid (And.intro (HW7.out.1.trans hw8) hT8)
 clear x0 x1 x2 x3 x4 x5 y0 y1 y2 hw8 hT8 HN6
 generalize acc4 ++ numL d ++ numL SL = acc6 at HW8
 obtain ⟨hbX,x0,x1,x2,x3,x4,x5,y0,y1,y2⟩:=HC.out w8 _ HW8.out.1
 clear hbX HW7
 go_wp2_with fail
 clear x0 x1 x2 x3 x4 x5 y0 y1 y2
 go_loopg [8,58] SL (fun g _ ct wr => ∃ (j : Nat) (r' : Fo) (ac : List UInt8),g = r'.len ∧ j + r'.len = SL ∧ ct = .int .i64 j ∧ r'.All KtOK ∧ r'.Bnd ∧ (r' ≠ .nil → ∃ bb o,A = some ⟨bb,o,none⟩ ∧ bb < b ∧ r'.At wr b bb (o + j * 6)) ∧ Wrote b b ac WZ wr ∧ ac ++ (r'.kt pack ++ R) = T)
 case atStart =>
  refine ⟨0,s,acc6,HSL.out.symm,by rw [HSL.out,Nat.zero_add],rfl,HH.out.2.2.2.2.1,HH.out.2.2.1,fun hne => ?_,HW8.out.1,HW8.out.2⟩
  obtain ⟨bb,o,e,hb,h⟩:=HH.out.1.2.2 hne
  exact ⟨bb,o,e,hb,by rw [Nat.zero_mul,Nat.add_zero];exact h.keep (Nat.le_refl _) (fun p hp => ((HH.out.2.2.2.1).trans HW8.out.1).2.1.cell hp) hb⟩
 case round =>
  obtain ⟨j,r',ac,HG,hjr,rfl,hA,hBn,hAt,hWr,hTj⟩:=hrel
  cases r' with
  | nil =>
   have hjr2 : SL ≤ j:=by simp only [Fo.len] at hjr;omega
   have hjr1 : j ≤ SL:=by simp only [Fo.len] at hjr;omega
   have HF:=Lib.hid (And.intro hWr hTj)
   clear hWr hTj hA hBn hAt HG hjr
   go_wp2
   go_end0
   have hac : ac = acc ++ TT:=List.append_cancel_right (bs:=R) (by rw [HTT.out];exact HF.out.2)
   rw [← hac]
   exact ⟨rfl,HH.out.2.2.2.1.trans HF.out.1,HF.out.2⟩
  | cons rk rn rm ri rd A' c' rs rr =>
   have hjr2 : j < SL:=by simp only [Fo.len] at hjr;omega
   obtain ⟨bb,o,rfl,hb,h0,h1,h2,h3,h4,⟨h5,hc',hm',hs'⟩,hr'⟩:=hAt (by simp)
   have hbr : b ≤ wr.heap.size:=by have:=hWr.2.1.size;have:=HZ.out;have:=HH.out.2.2.2.1.2.1.size;have:=(HC.out wr _ hWr).1;omega
   obtain ⟨W9,hW9⟩ : ∃ W9,wr.alloc (.cells #[.int .i64 rk,.string rn,.string rm,.int .i64 ri,.int .i64 rd,.slice A' rs.len c'] 60) = W9:=⟨_,rfl⟩
   have hWr9 : Wrote b b ac WZ W9:=by rw [← hW9];exact hWr.alloc hbr _
   have hz9 : b ≤ W9.heap.size:=by have:=hWr9.2.1.size;have:=(HC.out W9 _ hWr9).1;omega
   have hB9 : Below b wr W9:=by rw [← hW9];exact (Below.refl _ _).alloc hbr _
   have e0 : W9.cell? ⟨wr.heap.size,0,none⟩ = some (.int .i64 rk):=by subst hW9;go_simp
   have e1 : W9.cell? ⟨wr.heap.size,1,none⟩ = some (.string rn):=by subst hW9;go_simp
   have e2 : W9.cell? ⟨wr.heap.size,2,none⟩ = some (.string rm):=by subst hW9;go_simp
   have e3 : W9.cell? ⟨wr.heap.size,3,none⟩ = some (.int .i64 ri):=by subst hW9;go_simp
   have e4 : W9.cell? ⟨wr.heap.size,4,none⟩ = some (.int .i64 rd):=by subst hW9;go_simp
   have e5 : W9.cell? ⟨wr.heap.size,5,none⟩ = some (.slice A' rs.len c'):=by subst hW9;go_simp
   obtain ⟨_,_,_,_,_,_,_,y0,y1,y2⟩:=HC.out W9 _ hWr9
   have HT9:=Lib.hid (show ac ++ (nodeT pack rk rn rm ri rd rs.len (rs.kt pack) ++ (rr.kt pack ++ R)) = T by rw [← hTj];simp only [Fo.kt,List.append_assoc])
   have HK:=Lib.hid (hA.1 pack rk rn rm ri rd A' c' b p q r ac T (rr.kt pack ++ R) W9 ⟨hc',hm',fun hne => by
    obtain ⟨b',o',e,hb',h'⟩:=hs' hne
    exact ⟨b',o',e,hb',h'.keep (Nat.le_refl _) (fun p hp => hB9.cell hp) hb'⟩⟩ ((HH.out.2.1.wrote HH.out.2.2.2.1).wrote hWr9) hWr9.1 hz9 hBn.1 hBn.2.1 HT9.out HH.out.2.2.2.2.2)
   have HI:=Lib.hid (And.intro HG (And.intro hjr (And.intro hA.2 (And.intro hBn.2.2 (And.intro hr' (And.intro hWr9 hB9))))))
   generalize rs.len = SL' at h5 e5 HK hW9
   clear HG hjr hA hBn hAt hs' hr' hWr hTj hWr9 hB9 hz9
   go_wp2_with fail
   refine HK.out.mono ?_
   rintro e wA ⟨rfl,hwA,hTA⟩
   have HWA:=Lib.hid (And.intro (HI.out.2.2.2.2.2.1.trans hwA) (And.intro hTA hwA.2.1))
   clear hwA hTA e0 e1 e2 e3 e4 e5 y0 y1 y2 h0 h1 h2 h3 h4 h5
   go_wp2
   go_roundg rr.len
   case measure => rw [HI.out.1];simp [Fo.len]
   case rel =>
    have q1 : j + 1 + rr.len = SL:=by have:=HI.out.2.1;simp only [Fo.len] at this;omega
    have q2 : rr ≠ .nil → ∃ b' o',some (⟨bb,o,none⟩ : Addr) = some ⟨b',o',none⟩ ∧ b' < b ∧ rr.At wA b b' (o' + (j + 1) * 6):=fun hne => by
     refine ⟨bb,o,rfl,hb,?_⟩
     rw [show o + (j + 1) * 6 = o + j * 6 + 6 by omega]
     exact HI.out.2.2.2.2.1.keep (Nat.le_refl _) (fun p hp => (HI.out.2.2.2.2.2.2.trans HWA.out.2.2).cell hp) hb
    have q3 : ∀ X : List UInt8,Wrote b b X WZ wA → X ++ (rr.kt pack ++ R) = T → ∃ (j' : Nat) (r' : Fo) (ac : List UInt8),rr.len = r'.len ∧ j' + r'.len = SL ∧ Value.int .i64 ((j : Int) + 1) = .int .i64 j' ∧ r'.All KtOK ∧ r'.Bnd ∧ (r' ≠ .nil → ∃ b' o',some (⟨bb,o,none⟩ : Addr) = some ⟨b',o',none⟩ ∧ b' < b ∧ r'.At wA b b' (o' + j' * 6)) ∧ Wrote b b ac WZ wA ∧ ac ++ (r'.kt pack ++ R) = T:=
     fun X h1 h2 => ⟨j + 1,rr,X,rfl,q1,rfl,HI.out.2.2.1,HI.out.2.2.2.1,q2,h1,h2⟩
    exact q3 _ HWA.out.1 HWA.out.2.1
theorem kt_any (s : Fo) : KtOK s:=Fo.by_parts kt_step s
end Go.Proofs.YtnfndgmlnoeelaaGreatDoor
/- depend.Key -/
namespace Go.Proofs.YtnfndgmlnoeelaaGreatDoor
open Go.RowKit Go.Proofs Go.Shelf

theorem shape_num {k : Int} (h1 : k ≠ 1) (h2 : k ≠ 2) (h5 : k ≠ 5) (h14 : k ≠ 14) : (shapeZ k).2.1 = 0:=by
 unfold shapeZ
 simp only [h1,h2,h5,h14,if_false]
 repeat' split
 all_goals rfl
theorem err_bnd {k : Int} {n m : ByteArray} {i d : Int} {len : Nat} (h : nodeE k n m i d len = 0) : -999999999 ≤ i ∧ i ≤ 999999999:=by
 have hs:=@shape_num k
 unfold nodeE at h
 obtain ⟨⟨a,b,c,ok⟩,ht⟩ : ∃ t,shapeZ k = t:=⟨_,rfl⟩
 rw [ht] at h hs
 cases ok
 ·simp at h
 ·simp only at h hs
  cases ha : argB a b c n m i d len
  ·rw [ha] at h
   simp only [Bool.false_eq_true,if_false] at h
   by_cases hn : namesE k n m a = 0
   ·rw [if_pos hn] at h
    unfold argB at ha
    simp only [Bool.or_eq_false_iff,Bool.and_eq_false_iff,decide_eq_false_iff_not] at ha
    have hb : numB k i d = true:=by
     cases hb : numB k i d
     ·simp [numE,hb] at h
     ·rfl
    unfold numB at hb
    by_cases h1 : k = 1
    ·rw [if_pos h1] at hb;simp at hb;exact hb
    ·rw [if_neg h1] at hb
     by_cases h2 : k = 2
     ·rw [if_pos h2] at hb;simp at hb;omega
     ·rw [if_neg h2] at hb
      by_cases h5 : k = 5
      ·rw [if_pos h5] at hb;simp at hb;omega
      ·rw [if_neg h5] at hb
       by_cases h14 : k = 14
       ·rw [if_pos h14] at hb;simp at hb;omega
       ·have hb0:=hs h1 h2 h5 h14
        have:=ha.1.1.2
        simp only [bne_eq_false_iff_eq] at this
        omega
   ·rw [if_neg hn] at h;exact absurd h hn
  ·rw [ha] at h;simp at h
theorem Fo.bnd_of : ∀ f : Fo,(∀ x ∈ f.vis,x.err = 0) → f.Bnd
 | .nil,_ => trivial
 | .cons k n m i d A c s r,h => by
  simp only [Fo.vis,List.mem_append,List.mem_cons] at h
  exact ⟨err_bnd (h ⟨0,k,n,m,i,d,A,s.len,c⟩ (.inr (.inl rfl))),s.bnd_of fun x hx => h x (.inr (.inr hx)),r.bnd_of fun x hx => h x (.inl hx)⟩
theorem body_bnd {l : List Mo} (h : chkL l = 0) {x : ByteArray × Int} {y : Dc} (hy : bodyOf l x = some y) : (-999999999 ≤ y.i ∧ y.i ≤ 999999999) ∧ y.s.Bnd ∧ y.s.count ≤ 399:=by
 obtain ⟨m,hm,hdm,_,_⟩:=bodyOf_mem hy
 have hv:=(checkE_zero (chkL_zero h m hm)).2.2 y hdm
 have hb:=y.body.bnd_of hv.err
 exact ⟨hb.1,hb.2.1,hv.cnt⟩
theorem txtL_big (s : ByteArray) : (txtL s).length ≤ 65542:=by
 unfold txtL
 split
 ·have:=encL_40 (n:=s.size) (by omega)
  have hz : s.data.toList.length = s.size:=by simp
  rw [List.length_append]
  omega
 ·simp
theorem nodeT_len (pack : ByteArray) (k : Int) (n m : ByteArray) (i d : Int) (len : Nat) (sub : List UInt8) : (nodeT pack k n m i d len sub).length ≤ 131108 + sub.length:=by
 unfold nodeT
 simp only [List.length_append]
 have h1:=numL_len k
 have h2:=txtL_big (packS pack k n)
 have h3:=txtL_big m
 have h4:=numL_len (sgnK i)
 have h5:=numL_len d
 have h6:=numL_len (len : Int)
 omega
theorem Fo.kt_len (pack : ByteArray) : ∀ f : Fo,(f.kt pack).length ≤ 131108 * f.count
 | .nil => by simp [Fo.kt]
 | .cons k n m i d A c s r => by
  have h1:=s.kt_len pack
  have h2:=r.kt_len pack
  have h3:=nodeT_len pack k n m i d s.len (s.kt pack)
  simp only [Fo.kt,Fo.count,List.length_append]
  omega
/-! ### the key in plain words -/
def bodyT (l : List Mo) (x : ByteArray × Int) : List UInt8:=match bodyOf l x with
 | some d => nodeT x.1 d.k d.n d.m d.i d.d d.s.len (d.s.kt x.1)
 | none => []
def entT (l : List Mo) (x : ByteArray × Int) : List UInt8:=txtL x.1 ++ (numL x.2 ++ bodyT l x)
def catE (l : List Mo) (L : List (ByteArray × Int)) : List UInt8:=L.flatMap (entT l)
def keyL (l : List Mo) (n : ByteArray × Int) (L : List (ByteArray × Int)) : List UInt8:=txtL n.1 ++ (numL n.2 ++ catE l L)
theorem catE_at (l : List Mo) {L : List (ByteArray × Int)} {j : Nat} {x : ByteArray × Int} (h : L[j]? = some x) : catE l (L.drop j) = entT l x ++ catE l (L.drop (j + 1)):=by
 obtain ⟨hlt,rfl⟩:=List.getElem?_eq_some_iff.1 h
 rw [List.drop_eq_getElem_cons hlt]
 rfl
theorem catE_len {l : List Mo} (h : chkL l = 0) : ∀ L : List (ByteArray × Int),(catE l L).length ≤ 53000000 * L.length
 | [] => by simp [catE]
 | x :: L => by
  have ih:=catE_len h L
  have e : catE l (x :: L) = entT l x ++ catE l L:=rfl
  have h1:=txtL_big x.1
  have h2:=numL_len x.2
  have h3 : (bodyT l x).length ≤ 52574308:=by
   unfold bodyT
   cases hb : bodyOf l x with
   | none => simp
   | some d =>
    have:=nodeT_len x.1 d.k d.n d.m d.i d.d d.s.len (d.s.kt x.1)
    have h4:=d.s.kt_len x.1
    have h5:=(body_bnd h hb).2.2
    simp only
    omega
  rw [e,entT,List.length_append,List.length_append,List.length_append,List.length_cons]
  omega
def KeyP (l : List Mo) (n : ByteArray × Int) (w : World) (e : Ending) (w' : World) : Prop:=
 Below w.heap.size w w' ∧ ((loadE l n ≠ 0 ∧ e = .returned (.tuple #[.string ⟨#[]⟩,.int .i64 (loadE l n)])) ∨
  (loadE l n = 0 ∧ Clo (grf l) n none ∧ e = .returned (.tuple #[.string ⟨#[]⟩,.int .i64 21])) ∨
  (loadE l n = 0 ∧ ∃ L,Clo (grf l) n (some L) ∧ e = .returned (.tuple #[.string ⟨(keyL l n L).toArray⟩,.int .i64 0])))
theorem run_storeFunc {P : Program} {w : World} {a : Addr} {m : Mode} (fn : Fn) (f c : Array Value) : (store a (.func fn f c) m).run P w = stored P w a (.func fn f c) m:=run_store P w a _ m rfl
attribute [local go_sem] run_storeFunc
set_option maxRecDepth 100000 in
set_option maxHeartbeats 16000000 in
theorem dKey_any (l : List Mo) (n : ByteArray × Int) (A : Option Addr) (c : Nat) (w : World) (hl : SlM w w.heap.size A c l) (hn : NOk n) (hw : MoW l) (ht : totD l ≤ 1000000) (hll : l.length ≤ 1000) (hU : chkL l = 0 → ∃ U,UOk l n U) :
  Calls Tryz.prog 11 #[.slice A l.length c,.agg #[.string n.1,.int .i64 n.2]] w (KeyP l n w):=by
 obtain ⟨W0,hW0⟩ : ∃ W0,w.alloc (.cells #[.string n.1,.int .i64 n.2] 24) = W0:=⟨_,rfl⟩
 have hz0 : W0.heap.size = w.heap.size + 1:=by subst hW0;simp
 have hB0 : Below w.heap.size w W0:=by subst hW0;exact (Below.refl _ _).alloc (Nat.le_refl _) _
 have n0 : W0.cell? ⟨w.heap.size,0,none⟩ = some (.string n.1):=by subst hW0;go_simp
 have n1 : W0.cell? ⟨w.heap.size,1,none⟩ = some (.int .i64 n.2):=by subst hW0;go_simp
 have HC:=Lib.hid (dClosure_any l n A c W0 ((hl.below hB0).keep (B':=W0.heap.size) (by omega) (fun _ _ => rfl)) hn hw ht hll hU)
 obtain ⟨N,HN⟩ : ∃ Q,Hid (l.length = Q):=⟨_,Lib.hid rfl⟩
 rw [HN.out] at HC ⊢
 have HB:=Lib.hid (And.intro hB0 (show w.heap.size < W0.heap.size by omega))
 have HL:=Lib.hid (And.intro hl hn)
 clear hl hn hw ht hll hU hB0 hz0
 go_enter Tryz.func11,Tryz.ntmps11
 go_wp2_with fail
 refine HC.out.mono ?_
 rintro e w1 ⟨hb1,⟨hE,rfl⟩ | ⟨hE,hcl,rfl⟩ | ⟨hE,L,bm,v,hcl,rfl,hbm,hbo,hown,hlen⟩⟩
 ·have hE2 : (loadE l n != 0) = true:=by simpa using hE
  have HX:=Lib.hid (And.intro hb1 hE)
  obtain ⟨E,HE⟩ : ∃ Q,Hid (loadE l n = Q):=⟨_,Lib.hid rfl⟩
  rw [HE.out] at hE2 ⊢
  clear hb1 hE
  go_wp2
  go_ret2
  exact ⟨HB.out.1.trans (HX.out.1.mono (Nat.le_of_lt HB.out.2)),.inl ⟨HX.out.2,by rw [HE.out];rfl⟩⟩
 ·have HX:=Lib.hid (And.intro hb1 (And.intro hE hcl))
  clear hb1 hE hcl
  go_wp2
  go_ret2
  exact ⟨HB.out.1.trans (HX.out.1.mono (Nat.le_of_lt HB.out.2)),.inr (.inl ⟨HX.out.2.1,HX.out.2.2,rfl⟩)⟩
 ·obtain ⟨vA,vc,rfl⟩:=own_formN hown
  obtain ⟨W4,hW4⟩ : ∃ W4,(((w1.alloc (.cells #[.pointer none,.slice none 0 0] 90)).alloc (.cells #[.func (.func 30) #[] #[.pointer (some ⟨w1.heap.size,0,none⟩)]] 96)).alloc (.cells #[.func (.func 33) #[] #[.pointer (some ⟨w1.heap.size,0,none⟩)]] 98)).alloc (.cells #[.func (.func 35) #[] #[.pointer (some ⟨w1.heap.size + 1,0,none⟩),.pointer (some ⟨w1.heap.size + 1 + 1,0,none⟩),.pointer (some ⟨w1.heap.size + 1 + 1 + 1,0,none⟩)]] 99) = W4:=⟨_,rfl⟩
  have hz4 : W4.heap.size = w1.heap.size + 4:=by rw [← hW4];simp
  have hB4 : Below w1.heap.size w1 W4:=by
   rw [← hW4]
   exact ((((Below.refl _ _).alloc (Nat.le_refl _) _).alloc (by simp) _).alloc (by simp;omega) _).alloc (by simp;omega) _
  have hbd4 : Lib.IsBuilderF 90 5 w1.heap.size w1.heap.size (Lib.byteCells []) W4:=by
   rw [← hW4]
   exact (((Lib.IsBuilderF.of (Lib.fresh_isBuilder _ _ w1)).alloc _).alloc _).alloc _
  have hk4 : KeyC W4 w1.heap.size (w1.heap.size + 1) (w1.heap.size + 1 + 1) (w1.heap.size + 1 + 1 + 1):=by
   rw [← hW4]
   refine ⟨?_,?_,?_,by omega,by omega,by omega⟩
   ·simp only [heap_push,alloc_size];rw [if_neg (by omega),if_neg (by omega),if_pos trivial]
   ·simp only [heap_push,alloc_size];rw [if_neg (by omega),if_pos trivial]
   ·simp only [heap_push,alloc_size];rw [if_pos trivial]
  have hzw1 : w.heap.size < w1.heap.size:=Nat.lt_of_lt_of_le HB.out.2 hb1.size
  have hBw1 : Below w.heap.size w w1:=HB.out.1.trans (hb1.mono (Nat.le_of_lt HB.out.2))
  have k0:=(hb1.cell (p:=⟨w.heap.size,0,none⟩) HB.out.2).trans n0
  have k1:=(hb1.cell (p:=⟨w.heap.size,1,none⟩) HB.out.2).trans n1
  have hchk:=(loadE_zero hE).1
  have HC2 : Hid (∀ (X : World) (l' : List UInt8),Wrote w1.heap.size w1.heap.size l' W4 X → w1.heap.size ≤ X.heap.size ∧ Below w.heap.size w X ∧ X.cell? ⟨w.heap.size,0,none⟩ = some (.string n.1) ∧ X.cell? ⟨w.heap.size,1,none⟩ = some (.int .i64 n.2) ∧
    X.cell? ⟨w1.heap.size + 1,0,none⟩ = some (.func (.func 30) #[] #[.pointer (some ⟨w1.heap.size,0,none⟩)]) ∧ X.cell? ⟨w1.heap.size + 1 + 1,0,none⟩ = some (.func (.func 33) #[] #[.pointer (some ⟨w1.heap.size,0,none⟩)]) ∧ X.cell? ⟨w1.heap.size + 1 + 1 + 1,0,none⟩ = some (.func (.func 35) #[] #[.pointer (some ⟨w1.heap.size + 1,0,none⟩),.pointer (some ⟨w1.heap.size + 1 + 1,0,none⟩),.pointer (some ⟨w1.heap.size + 1 + 1 + 1,0,none⟩)])):=Lib.hid fun X l' hX => by
   have hk:=hk4.wrote hX
   have hbX : Below w1.heap.size w1 X:=hB4.trans hX.2.1
   exact ⟨by have:=hX.2.1.size;omega,hBw1.trans (hbX.mono (Nat.le_of_lt hzw1)),(hbX.cell (p:=⟨w.heap.size,0,none⟩) hzw1).trans k0,(hbX.cell (p:=⟨w.heap.size,1,none⟩) hzw1).trans k1,cell_of_row X _ 0 _ _ (0,0) hk.1,cell_of_row X _ 0 _ _ (0,0) hk.2.1,cell_of_row X _ 0 _ _ (0,0) hk.2.2.1⟩
  obtain ⟨T,HTT⟩ : ∃ T,Hid (keyL l n L = T):=⟨_,Lib.hid rfl⟩
  have HT:=Lib.hid (show ([] : List UInt8) ++ (txtL n.1 ++ (numL n.2 ++ catE l (L.drop 0))) = T by rw [← HTT.out];rfl)
  have HLT:=Lib.hid (show T.length ≤ 70368744177664 by
   rw [← HTT.out]
   have h1:=txtL_big n.1
   have h2:=numL_len n.2
   have h3:=catE_len hchk L
   have h4 : 53000000 * L.length ≤ 53000000 * 400000:=Nat.mul_le_mul_left _ hlen
   simp only [keyL,List.length_append]
   omega)
  obtain ⟨M,HM⟩ : ∃ Q,Hid (L.length = Q):=⟨_,Lib.hid rfl⟩
  have HX:=Lib.hid (And.intro hE (And.intro hcl (And.intro hown (And.intro hbo (And.intro hbm (And.intro hB4 (And.intro hk4 (And.intro hBw1 hzw1))))))))
  have H0:=Lib.hid (Wrote.same hbd4)
  rw [HM.out]
  clear hb1 hE hcl hown hbo hlen hB4 hbd4 hk4 n0 n1 k0 k1 hbm hchk hBw1 hW0 hz4
  obtain ⟨hbX,_,x0,x1,y0,y1,y2⟩:=HC2.out W4 _ H0.out
  have HN1:=Lib.hid (H0.out.txtK hbX n.1 HT.out HLT.out)
  clear hbX
  go_wp2_with fail
  refine HN1.out.mono ?_
  rintro e w2 ⟨rfl,hw2,hT2⟩
  have HW2:=Lib.hid (And.intro hw2 hT2)
  clear x0 x1 y0 y1 y2 hw2 hT2 hW4
  obtain ⟨hbX,_,x0,x1,y0,y1,y2⟩:=HC2.out w2 _ HW2.out.1
  have HN2:=Lib.hid (HW2.out.1.numK hbX n.2 HW2.out.2 HLT.out)
  clear hbX
  go_wp2_with fail
  refine HN2.out.mono ?_
  rintro e w3 ⟨rfl,hw3,hT3⟩
  have HW3:=Lib.hid (And.intro (HW2.out.1.trans hw3) hT3)
  clear x0 x1 y0 y1 y2 hw3 hT3 HN1 HN2
  generalize [] ++ txtL n.1 ++ numL n.2 = acc3 at HW3
  go_wp2_with fail
  go_loopg [14,38] M (fun g _ ct wr => ∃ (j : Nat) (ac : List UInt8),g = M - j ∧ j ≤ M ∧ ct = .int .i64 j ∧ Wrote w1.heap.size w1.heap.size ac W4 wr ∧ ac ++ catE l (L.drop j) = T)
  case atStart => exact ⟨0,acc3,rfl,by omega,rfl,HW3.out.1,HW3.out.2⟩
  case round =>
   obtain ⟨j,ac,HG,hj,rfl,hWr,hTj⟩:=hrel
   by_cases hlt : j < M
   ·have hlt' : j < L.length:=by rw [HM.out];exact hlt
    obtain ⟨x,hx⟩ : ∃ x,L[j]? = some x:=⟨_,List.getElem?_eq_getElem hlt'⟩
    have hrow:=HX.out.2.2.1
    rw [HM.out] at hrow
    obtain ⟨gv,cap,hform,hc1,hc2⟩:=own_pos2 hrow (by omega)
    simp only [Value.slice.injEq,true_and] at hform
    obtain ⟨rfl,rfl⟩:=hform
    have hgl:=(hrow.lt gv rfl).2
    have hBX : Below w1.heap.size w1 wr:=HX.out.2.2.2.2.2.1.trans hWr.2.1
    obtain ⟨x0',x1'⟩:=namesC_at x L j hx
    have c0 : wr.cell? ⟨gv,j * 2,none⟩ = some (.string x.1):=(hBX.cell (p:=⟨gv,j * 2,none⟩) hgl).trans ((hrow.cellAt (j * 2) (by omega)).trans x0')
    have c1 : wr.cell? ⟨gv,j * 2 + 1,none⟩ = some (.int .i64 x.2):=(hBX.cell (p:=⟨gv,j * 2 + 1,none⟩) hgl).trans ((hrow.cellAt (j * 2 + 1) (by omega)).trans x1')
    have i1 : (0 : Int) ≤ (j : Int):=by omega
    have i2 : (j : Int) < (M : Int):=by omega
    have hreach : Reach (grf l) n x:=(HX.out.2.1.2.1 x).1 (List.mem_of_getElem? hx)
    have hchk:=(loadE_zero HX.out.1).1
    have hxok:=reach_ok hchk HL.out.2 hreach
    obtain ⟨d,hd⟩ : ∃ d,bodyOf l x = some d:=by
     have:=HX.out.2.1.2.2 x hreach
     unfold grf at this
     cases hb : bodyOf l x with
     | none => rw [hb] at this;exact absurd rfl this
     | some y => exact ⟨y,rfl⟩
    obtain ⟨hbd1,hbd2,_⟩:=body_bnd hchk hd
    have hTx : ac ++ (txtL x.1 ++ (numL x.2 ++ (nodeT x.1 d.k d.n d.m d.i d.d d.s.len (d.s.kt x.1) ++ catE l (L.drop (j + 1))))) = T:=by
     rw [← hTj,catE_at l hx,entT,bodyT,hd]
     simp only [List.append_assoc]
    have hbr:=(HC2.out wr _ hWr).1
    obtain ⟨W8,hW8⟩ : ∃ W8,wr.alloc (.cells #[.string x.1,.int .i64 x.2] 24) = W8:=⟨_,rfl⟩
    have hx8 : W8.heap[wr.heap.size]? = some (.cells #[.string x.1,.int .i64 x.2] 24 (0,0)):=by rw [← hW8];exact heap_alloc_new wr _
    have hWr8 : Wrote w1.heap.size w1.heap.size ac W4 W8:=by rw [← hW8];exact hWr.alloc hbr _
    have hbl : w1.heap.size < wr.heap.size:=hWr.1.elim (fun h => h.lt) (fun h => h.lt)
    have HX8 : Hid (∀ (X : World) (l' : List UInt8),Wrote w1.heap.size w1.heap.size l' W8 X → w1.heap.size ≤ X.heap.size ∧ X.cell? ⟨wr.heap.size,0,none⟩ = some (.string x.1) ∧ X.cell? ⟨wr.heap.size,1,none⟩ = some (.int .i64 x.2) ∧
      X.cell? ⟨w1.heap.size + 1,0,none⟩ = some (.func (.func 30) #[] #[.pointer (some ⟨w1.heap.size,0,none⟩)]) ∧ X.cell? ⟨w1.heap.size + 1 + 1,0,none⟩ = some (.func (.func 33) #[] #[.pointer (some ⟨w1.heap.size,0,none⟩)]) ∧ X.cell? ⟨w1.heap.size + 1 + 1 + 1,0,none⟩ = some (.func (.func 35) #[] #[.pointer (some ⟨w1.heap.size + 1,0,none⟩),.pointer (some ⟨w1.heap.size + 1 + 1,0,none⟩),.pointer (some ⟨w1.heap.size + 1 + 1 + 1,0,none⟩)]) ∧
      (Instr.lookup 68 (.map (some bm)) (.agg #[.string x.1,.int .i64 x.2]) false).run Tryz.prog X = .ok (.agg #[.int .i64 d.k,.string d.n,.string d.m,.int .i64 d.i,.int .i64 d.d,.slice d.A d.s.len d.c]) X):=Lib.hid fun X l' hX => by
     have h0:=hX.rowK hx8 (by omega) (by decide)
     obtain ⟨q0,_,_,_,q4,q5,q6⟩:=HC2.out X _ (hWr8.trans hX)
     have hbX : Below w1.heap.size w1 X:=HX.out.2.2.2.2.2.1.trans (hWr8.trans hX).2.1
     have hlk:=(MapA.keep (w':=X) HX.out.2.2.2.1 (hbX.block bm HX.out.2.2.2.1.lt)).look false Tryz.underlying68 (zeroE_run X) (a:=x) hxok
     simp only [Bool.false_eq_true,if_false] at hlk
     rw [hd] at hlk
     exact ⟨q0,cell_of_row X _ 0 _ _ (0,0) h0,cell_of_row X _ 1 _ _ (0,0) h0,q4,q5,q6,hlk⟩
    have HTx:=Lib.hid hTx
    have H8:=Lib.hid (Wrote.same hWr8.1)
    have HN1:=Lib.hid (H8.out.txtK (HX8.out W8 _ H8.out).1 x.1 HTx.out HLT.out)
    have hsl : d.s.Sl w w.heap.size d.A d.c:=HL.out.1.body hd
    have HI:=Lib.hid (And.intro HG (And.intro hWr8 (And.intro hsl (And.intro hbd1 hbd2))))
    obtain ⟨_,e0,e1,y0,y1,y2,_⟩:=HX8.out W8 _ H8.out
    clear HG hWr hTj hrow hBX x0' x1' hreach hchk hxok hbd1 hbd2 hTx hbr hx8 hWr8 hbl hx hsl
    go_wp2_with fail
    refine HN1.out.mono ?_
    rintro e w5 ⟨rfl,hw5,hT5⟩
    have HW5:=Lib.hid (And.intro hw5 hT5)
    clear e0 e1 y0 y1 y2 hw5 hT5 c0 c1 hW8
    obtain ⟨hbX,e0,e1,y0,y1,y2,_⟩:=HX8.out w5 _ HW5.out.1
    have HN2:=Lib.hid (HW5.out.1.numK hbX x.2 HW5.out.2 HLT.out)
    clear hbX
    go_wp2_with fail
    refine HN2.out.mono ?_
    rintro e w6 ⟨rfl,hw6,hT6⟩
    have HW6:=Lib.hid (And.intro (HW5.out.1.trans hw6) hT6)
    clear e0 e1 y0 y1 y2 hw6 hT6 HN1 HN2
    generalize ac ++ txtL x.1 ++ numL x.2 = ac6 at HW6
    have hWd : Wrote w1.heap.size w1.heap.size ac6 W8 w6.drew:=⟨HW6.out.1.1,below_drew' HW6.out.1.2.1,HW6.out.1.2.2⟩
    have hWd4:=HI.out.2.1.trans hWd
    have hbd:=(HX8.out w6.drew _ hWd).1
    have HSd:=Lib.hid (HX8.out w6.drew _ hWd).2
    have HK:=Lib.hid (kt_any d.s x.1 d.k d.n d.m d.i d.d d.A d.c w1.heap.size (w1.heap.size + 1) (w1.heap.size + 1 + 1) (w1.heap.size + 1 + 1 + 1) ac6 T (catE l (L.drop (j + 1))) w6.drew
     (HI.out.2.2.1.keep (Nat.le_of_lt HX.out.2.2.2.2.2.2.2.2) (fun p hp => (HX.out.2.2.2.2.2.2.2.1.trans ((HX.out.2.2.2.2.2.1.trans hWd4.2.1).mono (Nat.le_of_lt HX.out.2.2.2.2.2.2.2.2))).cell hp)) (HX.out.2.2.2.2.2.2.1.wrote hWd4) hWd.1 hbd HI.out.2.2.2.1 HI.out.2.2.2.2 HW6.out.2 HLT.out)
    have HWd:=Lib.hid hWd4
    have HWd8:=Lib.hid hWd
    clear hWd hWd4 hbd
    go_wp2_with fail
    go_region_held3 (fun X => X.cell? ⟨wr.heap.size,0,none⟩ = some (.string x.1) ∧ X.cell? ⟨wr.heap.size,1,none⟩ = some (.int .i64 x.2) ∧
      X.cell? ⟨w1.heap.size + 1,0,none⟩ = some (.func (.func 30) #[] #[.pointer (some ⟨w1.heap.size,0,none⟩)]) ∧ X.cell? ⟨w1.heap.size + 1 + 1,0,none⟩ = some (.func (.func 33) #[] #[.pointer (some ⟨w1.heap.size,0,none⟩)]) ∧ X.cell? ⟨w1.heap.size + 1 + 1 + 1,0,none⟩ = some (.func (.func 35) #[] #[.pointer (some ⟨w1.heap.size + 1,0,none⟩),.pointer (some ⟨w1.heap.size + 1 + 1,0,none⟩),.pointer (some ⟨w1.heap.size + 1 + 1 + 1,0,none⟩)]) ∧
      (Instr.lookup 68 (.map (some bm)) (.agg #[.string x.1,.int .i64 x.2]) false).run Tryz.prog X = .ok (.agg #[.int .i64 d.k,.string d.n,.string d.m,.int .i64 d.i,.int .i64 d.d,.slice d.A d.s.len d.c]) X)
     (first | exact HSd.out | exact HS2.out)
     (first
      | (go_at_call 35;(with_reducible refine Calls.mono HK.out ?_);rintro e w7 ⟨rfl,hw7,hT7⟩;have HW7:=Lib.hid (And.intro (HWd.out.trans hw7) hT7);have HS2:=Lib.hid (HX8.out w7 _ (HWd8.out.trans hw7)).2;clear hw7 hT7)
      | fail)
    all_goals (
     go_wp2
     go_roundg (M - (j + 1))
     case measure => rw [HI.out.1];omega
     case rel => exact ⟨j + 1,_,rfl,by omega,by go_num,HW7.out.1,HW7.out.2⟩)
   ·have hje : j = M:=by omega
    have hbr:=(HC2.out wr _ hWr).1
    have HS:=Lib.hid (Tryz.BString_k w1.heap.size w1.heap.size ac wr hWr.1 hbr)
    have HWD:=Lib.hid hWr
    have HTD:=Lib.hid (show ac = T by
     rw [List.drop_of_length_le (by rw [HM.out];omega)] at hTj
     simpa [catE] using hTj)
    clear hWr hTj HG hbr
    go_wp2_with fail
    refine HS.out.mono ?_
    rintro e wD ⟨rfl,_,hwD,_⟩
    have HBD2:=Lib.hid (HX.out.2.2.2.2.2.2.2.1.trans ((HX.out.2.2.2.2.2.1.trans (HWD.out.2.1.trans hwD)).mono (Nat.le_of_lt HX.out.2.2.2.2.2.2.2.2)))
    clear hwD
    go_wp2
    go_ret2
    exact ⟨HBD2.out,.inr (.inr ⟨HX.out.1,L,HX.out.2.1,by rw [HTT.out,← HTD.out];rfl⟩)⟩
end Go.Proofs.YtnfndgmlnoeelaaGreatDoor
