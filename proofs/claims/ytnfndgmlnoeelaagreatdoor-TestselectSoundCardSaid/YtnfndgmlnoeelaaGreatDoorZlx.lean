/- depend.Changed: its closures; slices.IndexFunc, DeleteFunc at names -/
import Derived.Test.YtnfndgmlnoeelaaGreatDoorDcs
import Derived.WideKeyEntry
import Derived.ChangeMaps5
import Derived.Test.YtnfndgmlnoeelaaGreatDoorZla
import Derived.Deep.LoopGhost
namespace Go.Proofs.YtnfndgmlnoeelaaGreatDoor
open Go.RowKit Go.Proofs Go.Shelf
def CapS (cb bC : Nat) (C : List (ByteArray × Int)) (X : World) : Prop:=X.heap[cb]? = some (.cells #[.map (some bC)] 114 (0,0)) ∧ MapA nameK X bC C.length (setG C)
theorem CapS.keep {cb bC : Nat} {C : List (ByteArray × Int)} {X Y : World} (h : CapS cb bC C X) (h1 : Y.heap[cb]? = X.heap[cb]?) (h2 : Y.heap[bC]? = X.heap[bC]?) : CapS cb bC C Y:=⟨h1.trans h.1,h.2.keep h2⟩
theorem CapS.lt {cb bC : Nat} {C : List (ByteArray × Int)} {X : World} (h : CapS cb bC C X) : cb < X.heap.size ∧ bC < X.heap.size:=⟨(Array.getElem?_eq_some_iff.1 h.1).1,h.2.lt⟩
set_option maxRecDepth 100000 in
set_option maxHeartbeats 1000000 in
theorem dChanged2_any (x : ByteArray × Int) (hx : NOk x) (cb bC : Nat) (C : List (ByteArray × Int)) (X : World) (h : CapS cb bC C X) :
  Calls Tryz.prog 53 #[.agg #[.string x.1,.int .i64 x.2],.pointer (some ⟨cb,0,none⟩)] X fun e Y => e = .returned (.bool (!memN C x)) ∧ Below X.heap.size X Y:=by
 obtain ⟨W0,hW0⟩ : ∃ W0,X.alloc (.cells #[.string x.1,.int .i64 x.2] 24) = W0:=⟨_,rfl⟩
 have hb0 : Below X.heap.size X W0:=by subst hW0;exact (Below.refl _ _).alloc (Nat.le_refl _) _
 have hlt:=h.lt
 have c0 : W0.cell? ⟨cb,0,none⟩ = some (.map (some bC)):=(hb0.cell (p:=⟨cb,0,none⟩) hlt.1).trans (cell_of_one h.1)
 have n0 : W0.cell? ⟨X.heap.size,0,none⟩ = some (.string x.1):=by subst hW0;go_simp
 have n1 : W0.cell? ⟨X.heap.size,1,none⟩ = some (.int .i64 x.2):=by subst hW0;go_simp
 have hlk:=(h.2.keep (hb0.block bC hlt.2)).look false Tryz.underlying114 (zeroB_run W0) (a:=x) hx
 simp only [Bool.false_eq_true,if_false] at hlk
 have hv : (setG C x).getD (.bool false) = .bool (memN C x):=by unfold setG;cases memN C x <;> rfl
 rw [hv] at hlk
 obtain ⟨q,Hq⟩ : ∃ q,Hid (memN C x = q):=⟨_,Lib.hid rfl⟩
 rw [Hq.out] at hlk ⊢
 change Sem.run Tryz.prog (Instr.lookup 114 (.map (some bC)) (.agg #[.string x.1,.int .i64 x.2]) false) W0 = .ok (.bool q) W0 at hlk
 have HB:=Lib.hid hb0
 clear h hb0 hv
 go_enter Tryz.func53,Tryz.ntmps53
 go_wp2
 go_ret
 exact ⟨rfl,HB.out⟩
def IdxNP (l C : List (ByteArray × Int)) (w : World) (e : Ending) (w' : World) : Prop:=
 Below w.heap.size w w' ∧ (((∀ x ∈ l,x ∈ C) ∧ e = .returned (.int .i64 (-1))) ∨ ∃ k : Nat,k < l.length ∧ (∀ x ∈ l.take k,x ∈ C) ∧ (∀ x,l[k]? = some x → x ∉ C) ∧ e = .returned (.int .i64 k))
set_option maxRecDepth 100000 in
set_option maxHeartbeats 2000000 in
theorem indexFuncN_any (l C : List (ByteArray × Int)) (g cap base cb bC : Nat) (w : World) (hs : w.ownsRow base 24 2 (.slice (some ⟨g,0,none⟩) l.length cap) l.length (namesC l)) (hl : l.length ≤ 1000000) (hok : ∀ x ∈ l,NOk x) (hc : CapS cb bC C w) :
  Calls Tryz.prog 55 #[.slice (some ⟨g,0,none⟩) l.length cap,.func (.func 53) #[] #[.pointer (some ⟨cb,0,none⟩)]] w (IdxNP l C w):=by
 have hcap : l.length ≤ cap ∧ cap ≤ 9223372036854775807:=by
  rcases hs.2 with ⟨h,_⟩ | ⟨g',cap',cur,h,_,_,hle,hmx,_⟩
  ·cases h
  ·cases h;unfold maxLen at hmx;omega
 obtain ⟨N,HN⟩ : ∃ Q,Hid (l.length = Q):=⟨_,Lib.hid rfl⟩
 have HO:=Lib.hid (And.intro hs (And.intro hok hc))
 rw [HN.out] at hcap hl ⊢
 have hgl:=(hs.lt g rfl).2
 clear hs hok hc
 go_enter Tryz.func55,Tryz.ntmps55
 go_wp2
 go_loopg [5,8] N (fun gg _ ct wr => ∃ j : Nat,gg = N - j ∧ j ≤ N ∧ ct = .int .i64 j ∧ (∀ x ∈ l.take j,x ∈ C) ∧ Below w.heap.size w wr)
 case atStart => exact ⟨0,rfl,by omega,rfl,by simp,Below.refl _ _⟩
 case round =>
  obtain ⟨j,HG,hj,rfl,hC,hB⟩:=hrel
  by_cases hlt : j < N
  ·have hlt' : j < l.length:=by rw [HN.out];exact hlt
   obtain ⟨x,hx⟩ : ∃ x,l[j]? = some x:=⟨_,List.getElem?_eq_getElem hlt'⟩
   obtain ⟨n0,n1⟩:=namesC_at x l j hx
   have c0 : wr.cell? ⟨g,j * 2,none⟩ = some (.string x.1):=(hB.cell (p:=⟨g,j * 2,none⟩) hgl).trans ((HO.out.1.cellAt _ (by rw [HN.out];omega)).trans n0)
   have c1 : wr.cell? ⟨g,j * 2 + 1,none⟩ = some (.int .i64 x.2):=(hB.cell (p:=⟨g,j * 2 + 1,none⟩) hgl).trans ((HO.out.1.cellAt _ (by rw [HN.out];omega)).trans n1)
   have HC2:=Lib.hid (dChanged2_any x (HO.out.2.1 x (List.mem_of_getElem? hx)) cb bC C wr (HO.out.2.2.keep (hB.block _ HO.out.2.2.lt.1) (hB.block _ HO.out.2.2.lt.2)))
   have HT:=Lib.hid (And.intro HG (And.intro hC (And.intro hB hx)))
   clear HG hC hB hx n0 n1
   cases hm : memN C x with
   | true =>
    rw [hm] at HC2
    have HM:=Lib.hid (memN_iff.1 hm)
    clear hm
    go_wp2_with fail
    refine HC2.out.mono ?_
    rintro e w1 ⟨rfl,hb1⟩
    have HB1:=Lib.hid hb1
    clear hb1
    go_wp2
    go_roundg (N - (j + 1))
    case measure => rw [HT.out.1];omega
    case rel =>
     refine ⟨j + 1,rfl,by omega,by go_num,fun z hz => ?_,HT.out.2.2.1.trans (HB1.out.mono HT.out.2.2.1.size)⟩
     obtain ⟨hl2,he⟩:=List.getElem?_eq_some_iff.1 HT.out.2.2.2
     rw [List.take_succ_eq_append_getElem hl2,he] at hz
     rcases List.mem_append.1 hz with hz | hz
     ·exact HT.out.2.1 z hz
     ·rw [List.mem_singleton.1 hz];exact HM.out
   | false =>
    rw [hm] at HC2
    have HM:=Lib.hid (show x ∉ C from fun h => by rw [memN_iff.2 h] at hm;cases hm)
    clear hm
    go_wp2_with fail
    refine HC2.out.mono ?_
    rintro e w1 ⟨rfl,hb1⟩
    have HB1:=Lib.hid hb1
    clear hb1
    go_wp2
    go_ret
    exact ⟨HT.out.2.2.1.trans (HB1.out.mono HT.out.2.2.1.size),.inr ⟨j,by rw [HN.out];exact hlt,HT.out.2.1,fun z hz => by rw [HT.out.2.2.2] at hz;cases hz;exact HM.out,rfl⟩⟩
  ·obtain rfl : j = N:=by omega
   have HX:=Lib.hid (And.intro hC hB)
   clear hC hB
   go_wp2
   go_ret
   exact ⟨HX.out.2,.inl ⟨fun x hx => HX.out.1 x (by rw [List.take_of_length_le (by rw [HN.out];exact Nat.le_refl _)];exact hx),rfl⟩⟩
def keepL (C l : List (ByteArray × Int)) : List (ByteArray × Int):=l.filter (memN C)
theorem keepL_all {C l : List (ByteArray × Int)} (h : ∀ x ∈ l,x ∈ C) : keepL C l = l:=List.filter_eq_self.2 fun x hx => memN_iff.2 (h x hx)
theorem keepL_len (C l : List (ByteArray × Int)) : (keepL C l).length ≤ l.length:=List.length_filter_le _ _
theorem keepL_snoc {C l : List (ByteArray × Int)} {j : Nat} {x : ByteArray × Int} (hx : l[j]? = some x) : keepL C (l.take (j + 1)) = if memN C x = true then keepL C (l.take j) ++ [x] else keepL C (l.take j):=by
 obtain ⟨hlt,rfl⟩:=List.getElem?_eq_some_iff.1 hx
 rw [List.take_succ_eq_append_getElem hlt]
 unfold keepL
 rw [List.filter_append]
 by_cases h : memN C l[j] = true <;> simp [h]
def DelP (R : List (ByteArray × Int)) (base : Nat) (w : World) (g : Nat) (e : Ending) (w' : World) : Prop:=∃ v,e = .returned v ∧ w'.ownsRow base 24 2 v R.length (namesC R) ∧ w.grownBy w' (some g)
theorem grown_of_below {w w' : World} (h : Below w.heap.size w w') (row : Option Nat) : w.grownBy w' row:=⟨h.os,h.tape,h.output,h.size,fun k hk _ => h.block k hk⟩
theorem grown_trans {a b c : World} {row : Option Nat} (h : a.grownBy b row) (k : b.grownBy c row) : a.grownBy c row:=
 ⟨k.os.trans h.os,k.tape.trans h.tape,k.output.trans h.output,Nat.le_trans h.size k.size,fun i hi hne => (k.block i (Nat.lt_of_lt_of_le hi h.size) hne).trans (h.block i hi hne)⟩
set_option maxRecDepth 100000 in
set_option maxHeartbeats 4000000 in
theorem deleteN_any (l C : List (ByteArray × Int)) (g cap base cb bC : Nat) (w : World) (hs : w.ownsRow base 24 2 (.slice (some ⟨g,0,none⟩) l.length cap) l.length (namesC l)) (hl : l.length ≤ 1000000) (hok : ∀ x ∈ l,NOk x) (hc : CapS cb bC C w) (hgcb : cb ≠ g) (hgbC : bC ≠ g) :
  Calls Tryz.prog 52 #[.slice (some ⟨g,0,none⟩) l.length cap,.func (.func 53) #[] #[.pointer (some ⟨cb,0,none⟩)]] w (DelP (keepL C l) base w g):=by
 have hcap : l.length ≤ cap ∧ cap ≤ 9223372036854775807:=by
  rcases hs.2 with ⟨h,_⟩ | ⟨g',cap',cur,h,_,_,hle,hmx,_⟩
  ·cases h
  ·cases h;unfold maxLen at hmx;omega
 have HIX:=Lib.hid (indexFuncN_any l C g cap base cb bC w hs hl hok hc)
 obtain ⟨N,HN⟩ : ∃ Q,Hid (l.length = Q):=⟨_,Lib.hid rfl⟩
 have hgb:=(hs.lt g rfl)
 rw [HN.out] at hcap hl HIX ⊢
 obtain ⟨R,HR⟩ : ∃ Q,Hid (keepL C l = Q):=⟨_,Lib.hid rfl⟩
 rw [HR.out]
 have HO:=Lib.hid (And.intro hs (And.intro hok hc))
 clear hs hok hc
 go_enter Tryz.func52,Tryz.ntmps52
 go_wp2_with fail
 refine HIX.out.mono ?_
 rintro e w1 ⟨hb1,⟨hall,rfl⟩ | ⟨k,hk,hpre,hkx,rfl⟩⟩
 ·have HX:=Lib.hid (And.intro hb1 (show R = l by rw [← HR.out,keepL_all hall]))
  clear hb1 hall
  go_wp2
  go_ret
  refine ⟨.slice (some ⟨g,0,none⟩) N cap,rfl,?_,grown_of_below HX.out.1 _⟩
  rw [HX.out.2,HN.out]
  have:=HO.out.1
  rw [HN.out] at this
  exact this.kept (grown_of_below HX.out.1 none) (.inr (by simp [Value.ownBlock]))
 ·rw [HN.out] at hk
  have hown1 : w1.ownsRow base 24 2 (.slice (some ⟨g,0,none⟩) N cap) N (namesC l):=by
   have:=HO.out.1
   rw [HN.out] at this
   exact this.kept (grown_of_below hb1 none) (.inr (by simp [Value.ownBlock]))
  have hk1 : decide ((k : Int) = -1) = false:=by simp
  have hk2 : ((k : Int) == -1) = false:=by simp
  have hk3 : ((k : Int) != -1) = true:=by simp
  have HX:=Lib.hid (And.intro hb1 (And.intro hpre (And.intro hkx hown1)))
  clear hb1 hpre hkx hown1
  go_wp2
  go_loopg [5,6,7] (N - (k + 1)) (fun gg iv jv _ wr => ∃ (i j : Nat) (Z : List (ByteArray × Int)),gg = N - j ∧ j ≤ N ∧ i < j ∧ iv = .int .i64 i ∧ jv = .int .i64 j ∧ Z.length = N ∧ wr.ownsRow base 24 2 (.slice (some ⟨g,0,none⟩) N cap) N (namesC Z) ∧ w.grownBy wr (some g) ∧ Z.take i = keepL C (l.take j) ∧ i = (keepL C (l.take j)).length ∧ ∀ t,j ≤ t → Z[t]? = l[t]?)
  case atStart =>
   have hx : l[k]? = some (l[k]'(by rw [HN.out];exact hk)):=List.getElem?_eq_getElem _
   have hnm:=HX.out.2.2.1 _ hx
   have hkl : keepL C (l.take (k + 1)) = l.take k:=by
    rw [keepL_snoc hx,if_neg (fun h => hnm (memN_iff.1 h)),keepL_all HX.out.2.1]
   refine ⟨k,k + 1,l,rfl,by omega,by omega,rfl,by go_num,HN.out,HX.out.2.2.2,grown_of_below HX.out.1 _,hkl.symm,?_,fun _ _ => rfl⟩
   rw [hkl,List.length_take,HN.out];omega
  case round =>
   obtain ⟨i,j,Z,HG,hj,hij,rfl,rfl,hZ,hown,hgr,hpre,hi,hZt⟩:=hrel
   by_cases hlt : j < N
   ·obtain ⟨x,hx⟩ : ∃ x,Z[j]? = some x:=⟨_,List.getElem?_eq_getElem (by rw [hZ];exact hlt)⟩
    obtain ⟨z,hzz⟩ : ∃ z,Z[i]? = some z:=⟨_,List.getElem?_eq_getElem (by rw [hZ];omega)⟩
    obtain ⟨x0,x1⟩:=namesC_at x Z _ hx
    obtain ⟨z0,z1⟩:=namesC_at z Z _ hzz
    have cx0 : wr.cell? ⟨g,j * 2,none⟩ = some (.string x.1):=(hown.cellAt _ (by omega)).trans x0
    have cx1 : wr.cell? ⟨g,j * 2 + 1,none⟩ = some (.int .i64 x.2):=(hown.cellAt _ (by omega)).trans x1
    have hxl : l[j]? = some x:=(hZt j (Nat.le_refl _)).symm.trans hx
    have hxok:=HO.out.2.1 x (List.mem_of_getElem? hxl)
    obtain ⟨W3,hW3⟩ : ∃ W3,wr.alloc (.cells #[.string x.1,.int .i64 x.2] 24) = W3:=⟨_,rfl⟩
    have hb3 : Below wr.heap.size wr W3:=by subst hW3;exact (Below.refl _ _).alloc (Nat.le_refl _) _
    have k0 : W3.cell? ⟨wr.heap.size,0,none⟩ = some (.string x.1):=by subst hW3;go_simp
    have k1 : W3.cell? ⟨wr.heap.size,1,none⟩ = some (.int .i64 x.2):=by subst hW3;go_simp
    have hz3 : wr.heap.size < W3.heap.size:=by subst hW3;simp
    have hgz:=hgr.size
    have hcl:=HO.out.2.2.lt
    have hcap3 : CapS cb bC C W3:=HO.out.2.2.keep ((hb3.block _ (by omega)).trans (hgr.block _ hcl.1 (by simp;omega))) ((hb3.block _ (by omega)).trans (hgr.block _ hcl.2 (by simp;omega)))
    have HC2:=Lib.hid (dChanged2_any x hxok cb bC C W3 hcap3)
    have hsn:=keepL_snoc (C:=C) hxl
    have HT:=Lib.hid (And.intro HG (And.intro hZ (And.intro hown (And.intro hgr (And.intro hpre (And.intro hi (And.intro hZt (And.intro hsn (And.intro hx hb3)))))))))
    clear HG hZ hgr hpre hi hZt hsn hx hzz x0 x1 hxl hcap3 hb3
    cases hm : memN C x with
    | true =>
     rw [hm] at HC2
     have HM:=Lib.hid hm
     clear hm
     have hown3 : W3.ownsRow base 24 2 (.slice (some ⟨g,0,none⟩) N cap) N (namesC Z):=by rw [← hW3];exact hown.alloc _
     clear hown
     go_wp2_with fail
     refine HC2.out.mono ?_
     rintro e w4 ⟨rfl,hb4⟩
     have hown4:=hown3.kept (grown_of_below hb4 none) (.inr (by simp [Value.ownBlock]))
     have q0 : w4.cell? ⟨wr.heap.size,0,none⟩ = some (.string x.1):=(hb4.cell (p:=⟨wr.heap.size,0,none⟩) hz3).trans k0
     have q1 : w4.cell? ⟨wr.heap.size,1,none⟩ = some (.int .i64 x.2):=(hb4.cell (p:=⟨wr.heap.size,1,none⟩) hz3).trans k1
     have cz0 : w4.cell? ⟨g,i * 2,none⟩ = some (.string z.1):=(hown4.cellAt _ (by omega)).trans z0
     have cz1 : w4.cell? ⟨g,i * 2 + 1,none⟩ = some (.int .i64 z.2):=(hown4.cellAt _ (by omega)).trans z1
     have fz0:=hown4.frozenAt (i * 2)
     have fz1:=hown4.frozenAt (i * 2 + 1)
     have hst:=(hown4.stored (i * 2) (.string x.1)).1.stored (i * 2 + 1) (.int .i64 x.2)
     have hst0:=(hown4.stored (i * 2) (.string x.1)).2
     rw [namesC_set x Z i (by rw [HT.out.2.1];omega)] at hst
     have HS:=Lib.hid (And.intro hst (And.intro hst0 hb4))
     clear hst hst0 hb4 hown4 hown3 hW3 k0 k1 cx0 cx1 z0 z1
     have hil : i < N:=by omega
     go_wp2
     go_roundg (N - (j + 1))
     case measure => rw [HT.out.1];omega
     case rel =>
      refine ⟨i + 1,j + 1,Z.set i x,rfl,by omega,by omega,by go_num,by go_num,by simpa using HT.out.2.1,HS.out.1.1,?_,?_,?_,?_⟩
      ·exact grown_trans (grown_trans (grown_trans (HT.out.2.2.2.1) (grown_of_below (HT.out.2.2.2.2.2.2.2.2.2.trans (HS.out.2.2.mono (by omega))) _)) HS.out.2.1) HS.out.1.2
      ·rw [HT.out.2.2.2.2.2.2.2.1,if_pos HM.out,← HT.out.2.2.2.2.1,List.take_succ_eq_append_getElem (by rw [List.length_set,HT.out.2.1];omega),List.take_set_of_le (Nat.le_refl _)]
       simp
      ·rw [HT.out.2.2.2.2.2.2.2.1,if_pos HM.out,List.length_append,← HT.out.2.2.2.2.2.1];rfl
      ·intro t ht
       rw [List.getElem?_set_ne (by omega)]
       exact HT.out.2.2.2.2.2.2.1 t (by omega)
    | false =>
     rw [hm] at HC2
     have HM:=Lib.hid hm
     have HOW:=Lib.hid (show W3.ownsRow base 24 2 (.slice (some ⟨g,0,none⟩) N cap) N (namesC Z) by rw [← hW3];exact hown.alloc _)
     clear hm hown
     go_wp2_with fail
     refine HC2.out.mono ?_
     rintro e w4 ⟨rfl,hb4⟩
     have HB4:=Lib.hid hb4
     clear hb4 hW3 k0 k1 cx0 cx1 z0 z1
     go_wp2
     go_roundg (N - (j + 1))
     case measure => rw [HT.out.1];omega
     case rel =>
      refine ⟨i,j + 1,Z,rfl,by omega,by omega,rfl,by go_num,HT.out.2.1,HOW.out.kept (grown_of_below HB4.out none) (.inr (by simp [Value.ownBlock])),?_,?_,?_,fun t ht => HT.out.2.2.2.2.2.2.1 t (by omega)⟩
      ·exact grown_trans HT.out.2.2.2.1 (grown_of_below (HT.out.2.2.2.2.2.2.2.2.2.trans (HB4.out.mono (by omega))) _)
      ·rw [HT.out.2.2.2.2.2.2.2.1,if_neg (by rw [HM.out];simp)];exact HT.out.2.2.2.2.1
      ·rw [HT.out.2.2.2.2.2.2.2.1,if_neg (by rw [HM.out];simp)];exact HT.out.2.2.2.2.2.1
   ·obtain rfl : j = N:=by omega
    have hfin : Z.take i = R ∧ R.length = i:=by
     have hl2 : l.take j = l:=List.take_of_length_le (by rw [HN.out];exact Nat.le_refl _)
     rw [hl2,HR.out] at hpre hi
     exact ⟨hpre,hi.symm⟩
    have hcl : ∀ t,t < (j - i) * 2 → (wr.cell? ⟨g,i * 2 + t,none⟩).isSome = true:=by
     intro t ht
     rw [hown.cellAt (i * 2 + t) (by omega),List.getElem?_eq_getElem (by rw [namesC_length,hZ];omega)]
     rfl
    have hfl : ∀ t,t < (j - i) * 2 → wr.frozen? ⟨g,i * 2 + t,none⟩ = false:=fun t _ => hown.frozenAt _
    have HCL:=Lib.hid (And.intro hcl hfl)
    have HF:=Lib.hid (And.intro hfin (And.intro hown hgr))
    have hsl2 : i < cap:=by omega
    have hb6 : (i : Int) ≤ (j : Int):=by omega
    clear hcl hfl hown hfin hgr hpre hi hZt HG
    go_wp2_with (with_reducible refine wpList_clearN _ rfl _ rfl g (i * 2) (j - i) (cap - i) rfl (by omega) HCL.out.1 HCL.out.2 ?_;intro zs)
    go_ret
    obtain ⟨xs',h1,h2,h3⟩:=own_setCells zs (i * 2) _ _ HF.out.2.1
    have h4:=own_shrink (m:=i) h1 (by omega)
    rw [h2,namesC_take,HF.out.1.1] at h4
    exact ⟨_,rfl,by rw [HF.out.1.2];exact h4,grown_trans HF.out.2.2 h3⟩
set_option maxRecDepth 100000 in
theorem indexFuncN_nil (fv : Value) (w : World) : Calls Tryz.prog 55 #[.slice none 0 0,fv] w fun e w' => e = .returned (.int .i64 (-1)) ∧ w = w':=by
 go_enter Tryz.func55,Tryz.ntmps55
 go_wp2
 go_loopg [5,8] 0 (fun g _ ct wr => g = 0 ∧ ct = .int .i64 0 ∧ wr = w)
 case atStart => exact ⟨rfl,rfl,rfl⟩
 case round =>
  obtain ⟨HG,rfl,rfl⟩:=hrel
  clear HG
  go_wp2
  go_ret
  exact ⟨rfl,rfl⟩
set_option maxRecDepth 100000 in
theorem deleteN_nil (fv : Value) (w : World) : Calls Tryz.prog 52 #[.slice none 0 0,fv] w fun e w' => e = .returned (.slice none 0 0) ∧ w = w':=by
 go_enter Tryz.func52,Tryz.ntmps52
 go_wp2_with fail
 refine (indexFuncN_nil fv _).mono ?_
 rintro e w' ⟨rfl,rfl⟩
 go_wp2
 go_ret
 exact ⟨rfl,rfl⟩
end Go.Proofs.YtnfndgmlnoeelaaGreatDoor
/- depend.Changed: the closure visit -/
namespace Go.Proofs.YtnfndgmlnoeelaaGreatDoor
open Go.RowKit Go.Proofs Go.Shelf
structure VisAt (cb bC rb base : Nat) (C rest : List (ByteArray × Int)) (rv : Value) (X : World) : Prop where
 cap : CapS cb bC C X
 box : X.heap[rb]? = some (.cells #[rv] 47 (0,0))
 row : X.ownsRow base 24 2 rv rest.length (namesC rest)
def addN (C : List (ByteArray × Int)) (x : ByteArray × Int) : List (ByteArray × Int):=if memN C x = true then C else C ++ [x]
def addR (C rest : List (ByteArray × Int)) (x : ByteArray × Int) : List (ByteArray × Int):=if memN C x = true then rest else rest ++ [x]
def VisP (cb bC rb base : Nat) (C rest : List (ByteArray × Int)) (rv : Value) (X : World) (e : Ending) (Y : World) : Prop:=
 (∃ v,e = .returned v) ∧ ∃ rv',VisAt cb bC rb base C rest rv' Y ∧ (rv'.ownBlock = rv.ownBlock ∨ ∃ k,rv'.ownBlock = some k ∧ X.heap.size ≤ k) ∧ Keeps (fun k => k ≠ bC ∧ k ≠ rb ∧ rv.ownBlock ≠ some k) X Y
set_option maxRecDepth 100000 in
set_option maxHeartbeats 2000000 in
theorem dChanged1_any (x : ByteArray × Int) (hx : NOk x) (cb bC rb base : Nat) (C rest : List (ByteArray × Int)) (rv : Value) (X : World) (h : VisAt cb bC rb base C rest rv X) (hrb : rb < base) (hbC : bC < base) (hcb : cb < base) (hbase : base ≤ X.heap.size) (hlen : rest.length ≤ 1000000) (hlenC : C.length ≤ 1000000) :
  Calls Tryz.prog 49 #[.agg #[.string x.1,.int .i64 x.2],.pointer (some ⟨cb,0,none⟩),.pointer (some ⟨rb,0,none⟩)] X (VisP cb bC rb base (addN C x) (addR C rest x) rv X):=by
 obtain ⟨i0,hi,hz0',hz1',hz2'⟩:=info_parts Tryz.infoName
 obtain ⟨hcap,hbox,hrow⟩:=h
 obtain ⟨W0,hW0⟩ : ∃ W0,X.alloc (.cells #[.string x.1,.int .i64 x.2] 24) = W0:=⟨_,rfl⟩
 have hb0 : Below X.heap.size X W0:=by subst hW0;exact (Below.refl _ _).alloc (Nat.le_refl _) _
 have hz0 : X.heap.size < W0.heap.size:=by subst hW0;simp
 have hlt:=hcap.lt
 have hrlt : rb < X.heap.size:=(Array.getElem?_eq_some_iff.1 hbox).1
 have hcr : cb ≠ rb:=fun e => by
  have h1:=hcap.1
  rw [e,hbox] at h1
  simp at h1
 have hbr : bC ≠ rb:=fun e => by
  obtain ⟨o,ho,hoc⟩:=hcap.2.obj
  rw [e,hbox] at ho
  cases ho
  cases hoc
 have hbc : bC ≠ cb:=fun e => by
  obtain ⟨o,ho,hoc⟩:=hcap.2.obj
  rw [e,hcap.1] at ho
  cases ho
  cases hoc
 have c0 : W0.cell? ⟨cb,0,none⟩ = some (.map (some bC)):=(hb0.cell (p:=⟨cb,0,none⟩) hlt.1).trans (cell_of_one hcap.1)
 have n0 : W0.cell? ⟨X.heap.size,0,none⟩ = some (.string x.1):=by subst hW0;go_simp
 have n1 : W0.cell? ⟨X.heap.size,1,none⟩ = some (.int .i64 x.2):=by subst hW0;go_simp
 have hmap0:=hcap.2.keep (hb0.block bC hlt.2)
 have hlk:=hmap0.look false Tryz.underlying114 (zeroB_run W0) (a:=x) hx
 simp only [Bool.false_eq_true,if_false] at hlk
 have hv : (setG C x).getD (.bool false) = .bool (memN C x):=by unfold setG;cases memN C x <;> rfl
 rw [hv] at hlk
 change Sem.run Tryz.prog (Instr.lookup 114 (.map (some bC)) (.agg #[.string x.1,.int .i64 x.2]) false) W0 = .ok (.bool (memN C x)) W0 at hlk
 cases hm : memN C x with
 | true =>
  rw [hm] at hlk
  have HR:=Lib.hid (show addN C x = C ∧ addR C rest x = rest by unfold addN addR;rw [if_pos hm,if_pos hm];exact ⟨rfl,rfl⟩)
  rw [HR.out.1,HR.out.2]
  have HX:=Lib.hid (And.intro hcap (And.intro hbox (And.intro hrow hb0)))
  clear hcap hbox hrow hb0 hm hv hmap0
  go_enter Tryz.func49,Tryz.ntmps49
  go_wp2
  refine bodyPost_ret (results_none rfl _ _ _) rfl ?_
  refine ⟨⟨_,rfl⟩,rv,⟨HX.out.1.keep (HX.out.2.2.2.block _ hlt.1) (HX.out.2.2.2.block _ hlt.2),(HX.out.2.2.2.block _ hrlt).trans HX.out.2.1,?_⟩,.inl rfl,Keeps.whole HX.out.2.2.2 _⟩
  rw [← hW0];exact HX.out.2.2.1.alloc _
 | false =>
  rw [hm] at hlk
  have HR:=Lib.hid (show addN C x = C ++ [x] ∧ addR C rest x = rest ++ [x] by unfold addN addR;rw [hm];exact ⟨rfl,rfl⟩)
  rw [HR.out.1,HR.out.2]
  obtain ⟨vA,vc,rfl⟩:=own_formN hrow
  have hrl:=fun k hk => (hrow.lt k hk)
  have hrow0 : W0.ownsRow base 24 2 (.slice vA rest.length vc) rest.length (namesC rest):=by rw [← hW0];exact hrow.alloc _
  have hbox0 : W0.heap[rb]? = some (.cells #[.slice vA rest.length vc] 47 (0,0)):=(hb0.block _ hrlt).trans hbox
  have HX:=Lib.hid (And.intro hcap (And.intro hbox0 (And.intro hrow0 (And.intro hb0 (And.intro hmap0 hrl)))))
  clear hcap hbox hrow hb0 hm hv hrow0 hbox0 hmap0 hrl
  go_enter Tryz.func49,Tryz.ntmps49
  go_wp2_with (first
   | (at_mapUpdate;refine wpList_mapPut _ rfl _ _ _ 114 (.inl rfl) nameK 4 Tryz.underlying114 bC C.length _ rfl HX.out.2.2.2.2.1 (by unfold maxLen;omega) x hx rfl (.bool true) rfl ?_;intro w8 hs8 hg8;have z0 : w8.cell? ⟨X.heap.size,0,none⟩ = some (.string x.1):=(World.cell?_of_block (hg8.block _ hz0 (by simp;omega))).trans n0;have z1 : w8.cell? ⟨X.heap.size,1,none⟩ = some (.int .i64 x.2):=(World.cell?_of_block (hg8.block _ hz0 (by simp;omega))).trans n1;have hbx8 : w8.heap[rb]? = some (.cells #[.slice vA rest.length vc] 47 (0,0)):=(hg8.block rb (by omega) (by simp;omega)).trans HX.out.2.1;have zr : w8.cell? ⟨rb,0,none⟩ = some (.slice vA rest.length vc):=cell_of_one hbx8;have HROW8:=Lib.hid (own_abides HX.out.2.2.1 hg8 (fun r e => by cases e;exact HX.out.2.2.2.2.1.obj));have hz8:=hg8.size;have HS8:=Lib.hid (And.intro hs8 (And.intro hg8 hbx8));clear hs8 hg8 hbx8)
   | (at_builtin;refine wpList_append_own_at _ rfl _ _ 47 rfl base 24 i0 _ 2 24 Tryz.underlying47 hi hz0' hz1' hz2' rfl (by decide) _ _ _ rfl (HROW8.out.alloc _) ⟨w8.heap.size,0,none⟩ 1 1 [.string x.1,.int .i64 x.2] rfl rfl (cell_pair_new _ _ _ _) (by simp [Value.oneCell']) (by unfold maxLen;omega) (by omega) (by simp;omega) ?_;intro v9 w9 hown9 hg9 _ hat9;have hbx9 : w9.heap[rb]? = some (.cells #[.slice vA rest.length vc] 47 (0,0)):=(hg9.block rb (by simp;omega) (fun e => by have:=(HX.out.2.2.2.2.2 rb e.symm).1;omega)).trans ((Below.heap_alloc _ _ _ (by omega)).trans HS8.out.2.2);have hc9:=cell_of_one hbx9;have hf9:=free_of_one hbx9;have HS9:=Lib.hid (And.intro hown9 (And.intro hg9 (And.intro hat9 hbx9)));obtain ⟨g9,c9,rfl⟩:=ownsRow_succ hown9;clear hown9 hg9 hat9 hbx9))
  refine bodyPost_ret (results_none rfl _ _ _) rfl ?_
  have hz8x : W0.heap.size ≤ w8.heap.size:=hz8
  have hg9 : (w8.alloc (.cells #[.string x.1,.int .i64 x.2] 24)).grownBy w9 (Value.slice vA rest.length vc).ownBlock:=HS9.out.2.1
  have hz9:=hg9.size
  simp at hz9
  have hne9 : ∀ k,(Value.slice (some ⟨g9,0,none⟩) (rest.length + 1) c9).ownBlock = some k → k ≠ rb:=fun k hk e => by
   have:=(HS9.out.1.lt k hk).1
   omega
  have hblk : ∀ k,k < X.heap.size → k ≠ bC → (Value.slice vA rest.length vc).ownBlock ≠ some k → w9.heap[k]? = X.heap[k]?:=fun k hk h1 h2 =>
   (hg9.block k (by simp;omega) (fun e => h2 e.symm)).trans ((Below.heap_alloc _ _ _ (by omega)).trans ((HS8.out.2.1.block k (by omega) (fun e => h1 (by cases e;rfl))).trans (HX.out.2.2.2.1.block k hk)))
  have hown0 : ∀ k,(Value.slice vA rest.length vc).ownBlock = some k → base ≤ k:=fun k hk => (HX.out.2.2.2.2.2 k hk).1
  refine ⟨⟨_,rfl⟩,_,⟨⟨?_,?_⟩,one_setCell HS9.out.2.2.2,?_⟩,?_,?_⟩
  ·refine (Below.heap_setCell _ _ _ _ (by simpa using hcr)).trans ((hblk cb hlt.1 (fun e => hbc e.symm) (fun e => ?_)).trans HX.out.1.1)
   have:=hown0 _ e;omega
  ·rw [List.length_append,← setG_add]
   refine HS8.out.1.keep ((Below.heap_setCell _ _ _ _ (by simpa using hbr)).trans ((hg9.block bC (by simp;omega) (fun e => ?_)).trans (Below.heap_alloc _ _ _ (by omega))))
   have:=hown0 _ e.symm;omega
  ·rw [List.length_append,namesC_append]
   refine ownsRow_setCell_other HS9.out.1 (fun e => hne9 rb e rfl) _
  ·rcases HS9.out.2.2.1 with h | h
   ·exact .inl h
   ·refine .inr ⟨_,h,?_⟩
    simp
    omega
  ·have hK : Keeps (fun k => k ≠ bC ∧ k ≠ rb ∧ (Value.slice vA rest.length vc).ownBlock ≠ some k) X W0:=Keeps.whole HX.out.2.2.2.1 _
   exact ((((hK.grown HS8.out.2.1 (fun k e => by cases e;simp)).alloc _).grown hg9 (fun k e => by rintro ⟨_,_,h⟩;exact h e))).setCell (by simp) _
end Go.Proofs.YtnfndgmlnoeelaaGreatDoor
/- depend.Changed: the users of names, a map of lists that grow -/
namespace Go.Proofs.YtnfndgmlnoeelaaGreatDoor
open Go.RowKit Go.Proofs Go.Shelf
open Go.ChangeMaps Go.MapKept
set_option maxRecDepth 100000 in
theorem keyLawName : WideMaps.KeyLaw Tryz.prog 24:=deep_law_laid Tryz.laidOutK (m:=2) (by omega) Tryz.rowName (by kernel_rfl) Tryz.wideName
theorem grown_setBlockN {w : World} {b : Nat} {es : Array MapEntry} {clock : Nat} (hb : w.heap[b]? = some (.map es clock)) (o : Obj) : w.grownBy (setBlock w b o) (some b):=
 ⟨rfl,rfl,rfl,by simp [setBlock],fun i _ hne => heap_setBlock_other hb o (fun e => hne (by rw [e]))⟩
theorem zeroNs_run (w : World) : (zeroValue 47).run Tryz.prog w = .ok (.slice none 0 0) w:=by kernel_rfl
theorem MapA.entry {w : World} {b N : Nat} {g : ByteArray × Int → Option Value} (h : MapA nameK w b N g) {u : ByteArray × Int} (hu : NOk u) (hN : N < maxLen) :
  ∃ (st : Nat) (w1 : World),(Instr.mapEntry 121 (.map (some b)) (nameV u)).run Tryz.prog w = .ok (.tuple #[(g u).getD (.slice none 0 0),.int .i64 st]) w1 ∧ w.grownBy w1 (some b) ∧
   ∀ (w2 : World) (val : Value),w2.heap[b]? = w1.heap[b]? → ∃ w3,(Instr.entryStore 121 (.map (some b)) (.int .i64 st) val).run Tryz.prog w2 = .ok () w3 ∧ MapA nameK w3 b (N + 1) (fun x => if x = u then some val else g x) ∧ w2.grownBy w3 (some b):=by
 have hput:=fun val => h.put (t:=121) (e:=47) Tryz.underlying121 hN (a:=u) hu val
 have hlook:=h.look false (t:=121) (e:=47) Tryz.underlying121 (zeroNs_run w) (a:=u) hu
 obtain ⟨n,D,⟨es,clock,hb,F,hsz,hD⟩,hrest⟩:=h
 obtain ⟨v0,st,es1,clock1,he,hd,hst⟩:=WideElems.entry_then_store keyLawName Tryz.underlying121 zeroNs_run hb F (keyN_some hu)
 have hv0 : v0 = (g u).getD (.slice none 0 0):=by
  have hq:=Maps.fit_look false nameK.law Tryz.underlying121 (zeroNs_run w) hb F (nameK.tot u hu)
  have hpw:=((stamped_iff es clock).1 F.stamped).2.2
  rcases hq with ⟨hrun,h2,_⟩ | ⟨e0,y,h2,h3,hrun,_⟩
  ·rcases hd with ⟨e1,h4,h5,_⟩ | ⟨_,h5⟩
   ·exact absurd h5 (h2 e1 h4)
   ·rw [hlook] at hrun
    simp at hrun
    rw [h5,hrun]
  ·rcases hd with ⟨e1,h4,h5,h6⟩ | ⟨h5,_⟩
   ·have : e1 = e0:=entry_eq_of_key hpw h4 h2 (h5.trans h3.symm)
    subst this
    rw [hlook] at hrun
    simp at hrun
    rw [h6,hrun]
   ·exact absurd h3 (h5 e0 h2)
 subst hv0
 refine ⟨st,_,he,grown_setBlockN hb _,fun w2 val hw2 => ?_⟩
 have hb2 : w2.heap[b]? = some (.map es1 clock1):=hw2.trans (heap_setBlock_same hb _)
 obtain ⟨es',clock',h1,h2⟩:=hst w2 val hb2
 obtain ⟨w',hrun,hset,hg⟩:=hput val
 refine ⟨_,h1,?_,grown_setBlockN hb2 _⟩
 have e : w' = setBlock w b (.map es' clock'):=by
  have h3 : Sem.run Tryz.prog (Instr.mapUpdate 121 (.map (some b)) (nameK.val u) val) w = .ok () (setBlock w b (.map es' clock')):=h2
  rw [hrun] at h3
  injection h3
 exact hset.keep (by rw [e,heap_setBlock_same hb,heap_setBlock_same hb2])
structure ChgAt (cb bC rb bu base N : Nat) (C rest : List (ByteArray × Int)) (f : ByteArray × Int → List (ByteArray × Int)) (rv : Value) (gU : ByteArray × Int → Option Value) (X : World) : Prop where
 vis : VisAt cb bC rb base C rest rv X
 map : MapA nameK X bu N gU
 rows : ∀ u v,NOk u → gU u = some v → X.ownsRow base 24 2 v (f u).length (namesC (f u))
 none : ∀ u,NOk u → gU u = none → f u = []
 apart : ∀ u u' v v' k,NOk u → NOk u' → gU u = some v → gU u' = some v' → v.ownBlock = some k → v'.ownBlock = some k → u = u'
 off : ∀ u v k,NOk u → gU u = some v → v.ownBlock = some k → rv.ownBlock ≠ some k
def MineC (bC rb bu : Nat) (rv : Value) (gU : ByteArray × Int → Option Value) (k : Nat) : Prop:=k = bC ∨ k = rb ∨ rv.ownBlock = some k ∨ k = bu ∨ ∃ u v,NOk u ∧ gU u = some v ∧ v.ownBlock = some k
theorem own_block_cells {X : World} {base : Nat} {e : TypeId} {size : Nat} {v : Value} {n : Nat} {xs : List Value} (h : X.ownsRow base e size v n xs) {k : Nat} (hk : v.ownBlock = some k) : base ≤ k ∧ k < X.heap.size ∧ ∃ o : Obj,X.heap[k]? = some o ∧ o.isCells = true:=by
 rcases h.2 with ⟨rfl,_⟩ | ⟨g,cap,cur,rfl,hb,hg,_⟩
 ·simp [Value.ownBlock] at hk
 ·simp only [Value.ownBlock,Option.some.injEq] at hk
  subst hk
  exact ⟨hb,(Array.getElem?_eq_some_iff.1 hg).1,_,hg,rfl⟩
section
variable {cb bC rb bu base N : Nat} {C rest : List (ByteArray × Int)} {f : ByteArray × Int → List (ByteArray × Int)} {rv : Value} {gU : ByteArray × Int → Option Value} {X Y : World}
theorem ChgAt.keep (h : ChgAt cb bC rb bu base N C rest f rv gU X) (hk : ∀ k,k = cb ∨ MineC bC rb bu rv gU k → Y.heap[k]? = X.heap[k]?) : ChgAt cb bC rb bu base N C rest f rv gU Y where
 vis:=⟨h.vis.cap.keep (hk _ (.inl rfl)) (hk _ (.inr (.inl rfl))),(hk _ (.inr (.inr (.inl rfl)))).trans h.vis.box,own_of_blocks h.vis.row fun k e => hk k (.inr (.inr (.inr (.inl e))))⟩
 map:=h.map.keep (hk _ (.inr (.inr (.inr (.inr (.inl rfl))))))
 rows u v hu hv:=own_of_blocks (h.rows u v hu hv) fun k e => hk k (.inr (.inr (.inr (.inr (.inr ⟨u,v,hu,hv,e⟩)))))
 none:=h.none
 apart:=h.apart
 off:=h.off
theorem ChgAt.lt (h : ChgAt cb bC rb bu base N C rest f rv gU X) {k : Nat} (hk : k = cb ∨ MineC bC rb bu rv gU k) : k < X.heap.size:=by
 rcases hk with rfl | rfl | rfl | hk | rfl | ⟨u,v,hu,hv,hk⟩
 ·exact h.vis.cap.lt.1
 ·exact h.vis.cap.lt.2
 ·exact (Array.getElem?_eq_some_iff.1 h.vis.box).1
 ·exact (own_block_cells h.vis.row hk).2.1
 ·exact h.map.lt
 ·exact (own_block_cells (h.rows u v hu hv) hk).2.1
theorem ChgAt.below (h : ChgAt cb bC rb bu base N C rest f rv gU X) (hb : Below X.heap.size X Y) : ChgAt cb bC rb bu base N C rest f rv gU Y:=h.keep fun k hk => hb.block k (h.lt hk)
theorem ChgAt.visited (h : ChgAt cb bC rb bu base N C rest f rv gU X) (hrb : rb < base) {C' rest' : List (ByteArray × Int)} {rv' : Value} (hv : VisAt cb bC rb base C' rest' rv' Y) (ho : rv'.ownBlock = rv.ownBlock ∨ ∃ k,rv'.ownBlock = some k ∧ X.heap.size ≤ k)
  (hK : Keeps (fun k => k ≠ bC ∧ k ≠ rb ∧ rv.ownBlock ≠ some k) X Y) (hne : bu ≠ bC) : ChgAt cb bC rb bu base N C' rest' f rv' gU Y:=by
 obtain ⟨om,hom,hmc⟩:=h.map.obj
 have hbur : bu ≠ rb:=fun e => by rw [e,h.vis.box] at hom;cases hom;cases hmc
 have hbuo : rv.ownBlock ≠ some bu:=fun e => by
  obtain ⟨_,_,o,ho1,ho2⟩:=own_block_cells h.vis.row e
  rw [hom] at ho1;cases ho1;rw [hmc] at ho2;cases ho2
 have hrow : ∀ u v k,NOk u → gU u = some v → v.ownBlock = some k → Y.heap[k]? = X.heap[k]?:=fun u v k hu hv hk => by
  obtain ⟨h1,h2,o,h3,h4⟩:=own_block_cells (h.rows u v hu hv) hk
  refine hK.block k h2 ⟨fun e => ?_,by omega,h.off u v k hu hv hk⟩
  obtain ⟨oc,hoc,hcc⟩:=h.vis.cap.2.obj
  rw [← e,h3] at hoc;cases hoc;rw [h4] at hcc;cases hcc
 refine ⟨hv,h.map.keep (hK.block bu h.map.lt ⟨hne,hbur,hbuo⟩),fun u v hu hg => own_of_blocks (h.rows u v hu hg) fun k hk => hrow u v k hu hg hk,h.none,h.apart,fun u v k hu hg hk e => ?_⟩
 rcases ho with ho | ⟨k',ho,hle⟩
 ·exact h.off u v k hu hg hk (by rw [← ho];exact e)
 ·rw [e] at ho
  cases ho
  have:=(own_block_cells (h.rows u v hu hg) hk).2.1
  omega
theorem MineC.visited {rv' : Value} {n : Nat} (ho : rv'.ownBlock = rv.ownBlock ∨ ∃ k,rv'.ownBlock = some k ∧ n ≤ k) {k : Nat} (hk : k < n) (h : MineC bC rb bu rv' gU k) : MineC bC rb bu rv gU k:=by
 rcases h with h | h | h | h
 ·exact .inl h
 ·exact .inr (.inl h)
 ·rcases ho with ho | ⟨k',ho,hle⟩
  ·exact .inr (.inr (.inl (by rw [← ho];exact h)))
  ·rw [h] at ho;cases ho;omega
 ·exact .inr (.inr (.inr h))
end
end Go.Proofs.YtnfndgmlnoeelaaGreatDoor
/- depend.equal; slices.EqualFunc at expressions -/
namespace Go.Proofs.YtnfndgmlnoeelaaGreatDoor
open Go.RowKit Go.Proofs
def Fo.eqF : Fo → Fo → Bool
 | .nil,.nil => true
 | .cons k n m i d _ _ s r,.cons k' n' m' i' d' _ _ s' r' => (k == k') && (n.toList == n'.toList) && (m.toList == m'.toList) && (i == i') && (d == d') && s.eqF s' && r.eqF r'
 | _,_ => false
def eqNd (k : Int) (n m : ByteArray) (i d : Int) (s : Fo) (k' : Int) (n' m' : ByteArray) (i' d' : Int) (s' : Fo) : Bool:=(k == k') && (n.toList == n'.toList) && (m.toList == m'.toList) && (i == i') && (d == d') && s.eqF s'
theorem eqF_len : ∀ {s s' : Fo},s.eqF s' = true → s.len = s'.len
 | .nil,.nil,_ => rfl
 | .nil,.cons ..,h => by cases h
 | .cons ..,.nil,h => by cases h
 | .cons _ _ _ _ _ _ _ _ r,.cons _ _ _ _ _ _ _ _ r',h => by
  simp only [Fo.eqF,Bool.and_eq_true] at h
  simp only [Fo.len,eqF_len h.2]
def DeqOK (s : Fo) : Prop:=∀ (k : Int) (n m : ByteArray) (i d : Int) (A : Option Addr) (c : Nat) (k' : Int) (n' m' : ByteArray) (i' d' : Int) (A' : Option Addr) (c' : Nat) (s' : Fo) (w : World),s.Sl w w.heap.size A c → s'.Sl w w.heap.size A' c' →
  Calls Tryz.prog 50 #[.agg #[.int .i64 k,.string n,.string m,.int .i64 i,.int .i64 d,.slice A s.len c],.agg #[.int .i64 k',.string n',.string m',.int .i64 i',.int .i64 d',.slice A' s'.len c']] w fun e w' => e = .returned (.bool (eqNd k n m i d s k' n' m' i' d' s')) ∧ Below w.heap.size w w'
def RestAt (w : World) (B : Nat) (A : Option Addr) (j : Nat) (r : Fo) : Prop:=r ≠ .nil → ∃ b o,A = some ⟨b,o,none⟩ ∧ b < B ∧ r.At w B b (o + j * 6)
theorem RestAt.start {w : World} {B c : Nat} {A : Option Addr} {s : Fo} (h : s.Sl w B A c) : RestAt w B A 0 s:=fun hne => by
 obtain ⟨b,o,e,hb,h⟩:=h.2.2 hne
 exact ⟨b,o,e,hb,by rw [Nat.zero_mul,Nat.add_zero];exact h⟩
theorem RestAt.next {w w' : World} {B j : Nat} {A : Option Addr} {k : Int} {n m : ByteArray} {i d : Int} {A' : Option Addr} {c' : Nat} {s r : Fo} (h : RestAt w B A j (.cons k n m i d A' c' s r)) (hk : ∀ p : Addr,p.block < B → w'.cell? p = w.cell? p) : RestAt w' B A (j + 1) r:=fun _ => by
 obtain ⟨b,o,e,hb,_,_,_,_,_,_,hr⟩:=h (by simp)
 exact ⟨b,o,e,hb,by rw [show o + (j + 1) * 6 = o + j * 6 + 6 by omega];exact hr.keep (Nat.le_refl _) hk hb⟩
set_option maxRecDepth 100000 in
set_option maxHeartbeats 2000000 in
theorem eqf_any (s : Fo) (ih : s.All DeqOK) (A : Option Addr) (c : Nat) (A' : Option Addr) (c' : Nat) (s' : Fo) (w : World) (hs : s.Sl w w.heap.size A c) (hs' : s'.Sl w w.heap.size A' c') :
  Calls Tryz.prog 77 #[.slice A s.len c,.slice A' s'.len c',.func (.func 50) #[] #[]] w fun e w' => e = .returned (.bool (s.eqF s')) ∧ Below w.heap.size w w':=by
 have hcap : s.len ≤ 9223372036854775807:=by have:=hs.1;have:=hs.2.1;unfold maxLen at this;omega
 have hcap' : s'.len ≤ 9223372036854775807:=by have:=hs'.1;have:=hs'.2.1;unfold maxLen at this;omega
 have HS:=Lib.hid (And.intro hs (And.intro hs' ih))
 clear hs hs' ih
 obtain ⟨E,HE⟩ : ∃ Q,Hid (s.eqF s' = Q):=⟨_,Lib.hid rfl⟩
 rw [HE.out]
 obtain ⟨N,HN⟩ : ∃ Q,Hid (s.len = Q):=⟨_,Lib.hid rfl⟩
 obtain ⟨N',HN'⟩ : ∃ Q,Hid (s'.len = Q):=⟨_,Lib.hid rfl⟩
 rw [HN.out] at hcap ⊢
 rw [HN'.out] at hcap' ⊢
 by_cases hl : N = N'
 ·subst hl
  go_enter Tryz.func77,Tryz.ntmps77
  go_wp2
  go_loopg [7,8,9,17] N (fun g _ _ _ ct wr => ∃ (j : Nat) (r r2 : Fo),g = r.len ∧ j + r.len = N ∧ j + r2.len = N ∧ ct = .int .i64 j ∧ E = r.eqF r2 ∧ r.All DeqOK ∧ RestAt wr w.heap.size A j r ∧ RestAt wr w.heap.size A' j r2 ∧ Below w.heap.size w wr)
  case atStart => exact ⟨0,s,s',HN.out.symm,by rw [HN.out];omega,by rw [HN'.out];omega,rfl,HE.out.symm,HS.out.2.2,RestAt.start HS.out.1,RestAt.start HS.out.2.1,Below.refl _ _⟩
  case round =>
   obtain ⟨j,r,r2,HG,hj1,hj2,rfl,hE,hA,hR1,hR2,hB⟩:=hrel
   have hzw:=hB.size
   cases r with
   | nil =>
    cases r2 with
    | nil =>
     obtain rfl : j = N:=by simp only [Fo.len] at hj1;omega
     have HE2:=Lib.hid (And.intro hE hB)
     clear hE hj1 hj2 HG hR1 hR2 hB
     go_wp2
     go_ret
     exact ⟨by rw [HE2.out.1];rfl,HE2.out.2⟩
    | cons => simp only [Fo.len] at hj1 hj2;omega
   | cons rk rn rm ri rd rA rc rs rr =>
    cases r2 with
    | nil => simp only [Fo.len] at hj1 hj2;omega
    | cons tk tn tm ti td tA tc ts tr =>
     have hlt : j < N:=by simp only [Fo.len] at hj1;omega
     obtain ⟨b,o,rfl,hb,d0,d1,d2,d3,d4,⟨d5,hsc,hsm,hss⟩,_⟩:=id hR1 (by simp)
     obtain ⟨b2,o2,rfl,hb2,f0,f1,f2,f3,f4,⟨f5,htc,htm,hts⟩,_⟩:=id hR2 (by simp)
     have hb2w : b2 < wr.heap.size:=by omega
     obtain ⟨X,hX⟩ : ∃ X,(wr.alloc (.cells #[.int .i64 rk,.string rn,.string rm,.int .i64 ri,.int .i64 rd,.slice rA rs.len rc] 60)).alloc (.cells #[.int .i64 tk,.string tn,.string tm,.int .i64 ti,.int .i64 td,.slice tA ts.len tc] 60) = X:=⟨_,rfl⟩
     have hbX : Below wr.heap.size wr X:=by subst hX;exact ((Below.refl _ _).alloc (Nat.le_refl _) _).alloc (by simp) _
     have hzX:=hbX.size
     have hr : rs.Sl X X.heap.size rA rc:=⟨hsc,hsm,fun hne => by
      obtain ⟨b',o',e,hb',h'⟩:=hss hne
      exact ⟨b',o',e,by omega,h'.keep (by omega) (fun p hp => hbX.cell (by omega)) hb'⟩⟩
     have ht : ts.Sl X X.heap.size tA tc:=⟨htc,htm,fun hne => by
      obtain ⟨b',o',e,hb',h'⟩:=hts hne
      exact ⟨b',o',e,by omega,h'.keep (by omega) (fun p hp => hbX.cell (by omega)) hb'⟩⟩
     have HC:=Lib.hid (hA.1 rk rn rm ri rd rA rc tk tn tm ti td tA tc ts X hr ht)
     obtain ⟨q,hq⟩ : ∃ q,eqNd rk rn rm ri rd rs tk tn tm ti td ts = q:=⟨_,rfl⟩
     have hEq : E = (q && rr.eqF tr):=by rw [hE,← hq];rfl
     rw [hq] at HC
     have HT:=Lib.hid (And.intro HG (And.intro hj1 (And.intro hj2 (And.intro hEq (And.intro hA.2 (And.intro hR1 (And.intro hR2 (And.intro hB hbX))))))))
     have q0 : X.cell? ⟨wr.heap.size,0,none⟩ = some (.int .i64 rk):=by subst hX;go_simp
     have q1 : X.cell? ⟨wr.heap.size,1,none⟩ = some (.string rn):=by subst hX;go_simp
     have q2 : X.cell? ⟨wr.heap.size,2,none⟩ = some (.string rm):=by subst hX;go_simp
     have q3 : X.cell? ⟨wr.heap.size,3,none⟩ = some (.int .i64 ri):=by subst hX;go_simp
     have q4 : X.cell? ⟨wr.heap.size,4,none⟩ = some (.int .i64 rd):=by subst hX;go_simp
     have q5 : X.cell? ⟨wr.heap.size,5,none⟩ = some (.slice rA rs.len rc):=by subst hX;go_simp
     have p0 : X.cell? ⟨wr.heap.size + 1,0,none⟩ = some (.int .i64 tk):=by subst hX;go_simp
     have p1 : X.cell? ⟨wr.heap.size + 1,1,none⟩ = some (.string tn):=by subst hX;go_simp
     have p2 : X.cell? ⟨wr.heap.size + 1,2,none⟩ = some (.string tm):=by subst hX;go_simp
     have p3 : X.cell? ⟨wr.heap.size + 1,3,none⟩ = some (.int .i64 ti):=by subst hX;go_simp
     have p4 : X.cell? ⟨wr.heap.size + 1,4,none⟩ = some (.int .i64 td):=by subst hX;go_simp
     have p5 : X.cell? ⟨wr.heap.size + 1,5,none⟩ = some (.slice tA ts.len tc):=by subst hX;go_simp
     clear HG hj1 hj2 hE hEq hA hR1 hR2 hB hbX hr ht hss hts hq
     go_wp2_with fail
     refine HC.out.mono ?_
     rintro e w1 ⟨rfl,hb1⟩
     have HB1:=Lib.hid hb1
     clear hb1 hX q0 q1 q2 q3 q4 q5 p0 p1 p2 p3 p4 p5 d0 d1 d2 d3 d4 d5 f0 f1 f2 f3 f4 f5
     cases q with
     | true =>
      go_wp2
      go_roundg rr.len
      case measure => rw [HT.out.1];simp [Fo.len]
      case rel =>
       have hbb:=HT.out.2.2.2.2.2.2.2.2.trans (HB1.out.mono hzX)
       have hk : ∀ p : Addr,p.block < w.heap.size → w1.cell? p = wr.cell? p:=fun p hp => hbb.cell (by omega)
       exact ⟨j + 1,rr,tr,rfl,by have:=HT.out.2.1;simp only [Fo.len] at this;omega,by have:=HT.out.2.2.1;simp only [Fo.len] at this;omega,by go_num,by rw [HT.out.2.2.2.1];simp,HT.out.2.2.2.2.1,HT.out.2.2.2.2.2.1.next hk,HT.out.2.2.2.2.2.2.1.next hk,HT.out.2.2.2.2.2.2.2.1.trans (hbb.mono hzw)⟩
     | false =>
      go_wp2
      go_ret
      exact ⟨by rw [HT.out.2.2.2.1];rfl,HT.out.2.2.2.2.2.2.2.1.trans ((HT.out.2.2.2.2.2.2.2.2.trans (HB1.out.mono hzX)).mono hzw)⟩
 ·have hE0 : E = false:=by
   cases hE : E with
   | false => rfl
   | true => exact absurd (by rw [← HN.out,← HN'.out];exact eqF_len (HE.out.trans hE)) hl
  have HE0:=Lib.hid hE0
  have hl2 : ((N : Int) != (N' : Int)) = true:=by simp;omega
  clear hE0
  go_enter Tryz.func77,Tryz.ntmps77
  go_wp2
  go_ret
  exact ⟨by rw [HE0.out];rfl,Below.refl _ _⟩
set_option maxRecDepth 100000 in
set_option maxHeartbeats 4000000 in
theorem deq_step (s : Fo) (ih : s.All DeqOK) : DeqOK s:=by
 intro k n m i d A c k' n' m' i' d' A' c' s' w hs hs'
 obtain ⟨X,hX⟩ : ∃ X,(w.alloc (.cells #[.int .i64 k,.string n,.string m,.int .i64 i,.int .i64 d,.slice A s.len c] 60)).alloc (.cells #[.int .i64 k',.string n',.string m',.int .i64 i',.int .i64 d',.slice A' s'.len c'] 60) = X:=⟨_,rfl⟩
 have hbX : Below w.heap.size w X:=by subst hX;exact ((Below.refl _ _).alloc (Nat.le_refl _) _).alloc (by simp) _
 have hzX:=hbX.size
 have HC:=Lib.hid (eqf_any s ih A c A' c' s' X ((hs.below hbX).keep (B':=X.heap.size) hzX (fun _ _ => rfl)) ((hs'.below hbX).keep (B':=X.heap.size) hzX (fun _ _ => rfl)))
 have q0 : X.cell? ⟨w.heap.size,0,none⟩ = some (.int .i64 k):=by subst hX;go_simp
 have q1 : X.cell? ⟨w.heap.size,1,none⟩ = some (.string n):=by subst hX;go_simp
 have q2 : X.cell? ⟨w.heap.size,2,none⟩ = some (.string m):=by subst hX;go_simp
 have q3 : X.cell? ⟨w.heap.size,3,none⟩ = some (.int .i64 i):=by subst hX;go_simp
 have q4 : X.cell? ⟨w.heap.size,4,none⟩ = some (.int .i64 d):=by subst hX;go_simp
 have q5 : X.cell? ⟨w.heap.size,5,none⟩ = some (.slice A s.len c):=by subst hX;go_simp
 have p0 : X.cell? ⟨w.heap.size + 1,0,none⟩ = some (.int .i64 k'):=by subst hX;go_simp
 have p1 : X.cell? ⟨w.heap.size + 1,1,none⟩ = some (.string n'):=by subst hX;go_simp
 have p2 : X.cell? ⟨w.heap.size + 1,2,none⟩ = some (.string m'):=by subst hX;go_simp
 have p3 : X.cell? ⟨w.heap.size + 1,3,none⟩ = some (.int .i64 i'):=by subst hX;go_simp
 have p4 : X.cell? ⟨w.heap.size + 1,4,none⟩ = some (.int .i64 d'):=by subst hX;go_simp
 have p5 : X.cell? ⟨w.heap.size + 1,5,none⟩ = some (.slice A' s'.len c'):=by subst hX;go_simp
 obtain ⟨E,HE⟩ : ∃ Q,Hid (eqNd k n m i d s k' n' m' i' d' s' = Q):=⟨_,Lib.hid rfl⟩
 rw [HE.out]
 have hE:=HE.out
 unfold eqNd at hE
 obtain ⟨q,Hq⟩ : ∃ q,Hid (s.eqF s' = q):=⟨_,Lib.hid rfl⟩
 rw [Hq.out] at HC hE
 have HB:=Lib.hid hbX
 clear hs hs' hbX ih
 cases c0 : (k == k') with
 | false =>
  have HR:=Lib.hid (show E = false by rw [← hE,c0];rfl)
  clear hE
  go_enter Tryz.func50,Tryz.ntmps50
  go_wp2
  go_ret
  exact ⟨by rw [HR.out];rfl,HB.out⟩
 | true =>
  cases c1 : (n.toList == n'.toList) with
  | false =>
   have HR:=Lib.hid (show E = false by rw [← hE,c0,c1];rfl)
   clear hE
   go_enter Tryz.func50,Tryz.ntmps50
   go_wp2
   go_ret
   exact ⟨by rw [HR.out];rfl,HB.out⟩
  | true =>
   cases c2 : (m.toList == m'.toList) with
   | false =>
    have HR:=Lib.hid (show E = false by rw [← hE,c0,c1,c2];rfl)
    clear hE
    go_enter Tryz.func50,Tryz.ntmps50
    go_wp2
    go_ret
    exact ⟨by rw [HR.out];rfl,HB.out⟩
   | true =>
    cases c3 : (i == i') with
    | false =>
     have HR:=Lib.hid (show E = false by rw [← hE,c0,c1,c2,c3];rfl)
     clear hE
     go_enter Tryz.func50,Tryz.ntmps50
     go_wp2
     go_ret
     exact ⟨by rw [HR.out];rfl,HB.out⟩
    | true =>
     cases c4 : (d == d') with
     | false =>
      have HR:=Lib.hid (show E = false by rw [← hE,c0,c1,c2,c3,c4];rfl)
      clear hE
      go_enter Tryz.func50,Tryz.ntmps50
      go_wp2
      go_ret
      exact ⟨by rw [HR.out];rfl,HB.out⟩
     | true =>
      have HR:=Lib.hid (show E = q by rw [← hE,c0,c1,c2,c3,c4];rfl)
      clear hE
      go_enter Tryz.func50,Tryz.ntmps50
      go_wp2_with fail
      refine HC.out.mono ?_
      rintro e w1 ⟨rfl,hb1⟩
      have HB1:=Lib.hid hb1
      clear hb1 hX q0 q1 q2 q3 q4 q5 p0 p1 p2 p3 p4 p5
      go_wp2
      go_ret
      exact ⟨by rw [HR.out];rfl,HB.out.trans (HB1.out.mono hzX)⟩
theorem deq_any (s : Fo) : DeqOK s:=Fo.by_parts deq_step s
end Go.Proofs.YtnfndgmlnoeelaaGreatDoor
