/- ref23.Has: numbers in a list -/
import Derived.Test.YtmmecapgnmlaiaaGreatDoorZxn
import Derived.Deep.RegionLaw
namespace Go.Proofs.YtmmecapgnmlaiaaGreatDoor
open Go Go.RowKit Go.Proofs Go.Shelf
theorem ints_at {w : World} {B : Nat} {A : Option Addr} {c : Nat} {l : List Int} (h : IntsA w B A c l) {j : Nat} (hj : j < l.length) : ∃ b o,A = some ⟨b,o,none⟩ ∧ b < B ∧ w.cell? ⟨b,o + j,none⟩ = some (.int .i64 l[j]):=by
 obtain ⟨b,o,e,hb,hs⟩:=h.2.2 (by intro e;subst e;simp at hj)
 exact ⟨b,o,e,hb,hs j _ (List.getElem?_eq_getElem hj)⟩
set_option maxHeartbeats 1000000 in
theorem has23_any (l : List Int) (s : Int) (A : Option Addr) (c : Nat) (w : World) (hs : IntsA w w.heap.size A c l) :
  Calls Tryz.prog 20 #[.slice A l.length c,.int .i64 s] w fun e w' => e = .returned (.bool (decide (s ∈ l))) ∧ w = w':=by
 have hc1:=hs.1
 have hc2:=hs.2.1
 unfold maxLen at hc2
 have HS:=Lib.hid hs
 clear hs
 obtain ⟨E,HE⟩ : ∃ E,Hid (decide (s ∈ l) = E):=⟨_,Lib.hid rfl⟩
 rw [HE.out]
 obtain ⟨n,HN⟩ : ∃ n,Hid (l.length = n):=⟨_,Lib.hid rfl⟩
 rw [HN.out] at hc1 ⊢
 go_enter Tryz.func20,Tryz.ntmps20
 go_wp2
 go_loop [5] (fun ct => ∃ j : Nat,j ≤ n ∧ ct = .int .i64 j ∧ (∀ i,i < j → ∀ v,l[i]? = some v → v ≠ s)) (fun ct => n - (intOf ct).toNat)
 case atStart => exact ⟨0,by omega,rfl,by intro i hi;omega⟩
 case round =>
  obtain ⟨j,hj,rfl,HA⟩:=hrel
  have HA':=Lib.hid HA
  clear HA
  by_cases hlt : j < n
  ·have hjl : j < l.length:=by rw [HN.out];exact hlt
   obtain ⟨b,o,rfl,hb,hcell⟩:=ints_at HS.out hjl
   have hj2:=Lib.hid (List.getElem?_eq_getElem hjl)
   generalize l[j] = v at hcell hj2
   clear hjl
   by_cases hv : v = s
   ·subst hv
    have HR:=Lib.hid (show E = true by
     rw [← HE.out,decide_eq_true_eq]
     exact List.mem_of_getElem? hj2.out)
    go_wp2
    go_ret
    exact ⟨by rw [HR.out];rfl,rfl⟩
   ·have hv' : (v == s) = false:=by simpa using hv
    go_wp2
    go_round
    case measure => simp [intOf];omega
    case rel =>
     refine ⟨j + 1,by omega,by go_num,fun i hi u hu => ?_⟩
     by_cases hij : i = j
     ·subst hij
      rw [hj2.out] at hu
      cases hu
      exact hv
     ·exact HA'.out i (by omega) u hu
  ·have HR:=Lib.hid (show E = false by
    rw [← HE.out,decide_eq_false_iff_not]
    intro hm
    obtain ⟨i,hi⟩:=List.mem_iff_getElem?.1 hm
    exact HA'.out i (by have:=(List.getElem?_eq_some_iff.1 hi).1;rw [HN.out] at this;omega) s hi rfl)
   go_wp2
   go_ret
   exact ⟨by rw [HR.out];rfl,rfl⟩
end Go.Proofs.YtmmecapgnmlaiaaGreatDoor
/- law25.uses -/
namespace Go.Proofs.YtmmecapgnmlaiaaGreatDoor
open Go Go.RowKit Go.Proofs Go.Proofs.Scc
def usB (ds : List Dc) (id u : Int) : Bool:=ds.any fun d => d.id == id && decide (u ∈ d.us)
theorem mem_us {x : Dc} {u : Int} : u ∈ x.us ↔ (⟨#[]⟩,u) ∈ x.refs:=by
 unfold Dc.us usL
 rw [List.mem_filterMap]
 constructor
 ·rintro ⟨⟨n,i⟩,h,e⟩
  split at e
  ·rename_i hn
   cases e
   simp only at hn
   rw [hn] at h
   exact h
  ·cases e
 ·exact fun h => ⟨_,h,rfl⟩
theorem usB_take (ds : List Dc) (id u : Int) {j : Nat} {x : Dc} (hx : ds[j]? = some x) : usB (ds.take (j + 1)) id u = (usB (ds.take j) id u || (x.id == id && decide (u ∈ x.us))):=by
 unfold usB
 rw [List.take_add_one,hx]
 simp
theorem usB_sub {ds : List Dc} {id u : Int} {j : Nat} {x : Dc} (hx : ds[j]? = some x) (h : (x.id == id && decide (u ∈ x.us)) = true) : usB ds id u = true:=
 List.any_eq_true.2 ⟨x,List.mem_of_getElem? hx,h⟩
set_option maxRecDepth 100000 in
set_option maxHeartbeats 8000000 in
theorem l25uses_any (label : ByteArray) (uses : List ByteArray) (uA : Option Addr) (uc : Nat) (ds : List Dc) (dA : Option Addr) (dc : Nat) (id u : Int) (W : World) (hd : SlD W W.heap.size dA dc ds) (hcn : ∀ x ∈ ds,x.s.count ≤ 100000) :
  Calls Tryz.prog 22 #[.agg #[.string label,.slice uA uses.length uc,.slice dA ds.length dc],.int .i64 id,.int .i64 u] W fun e Y => e = .returned (.bool (usB ds id u)) ∧ RowKit.Below W.heap.size W Y:=by
 obtain ⟨W0,hW0⟩ : ∃ W0,W.alloc (.cells #[.string label,.slice uA uses.length uc,.slice dA ds.length dc] 25) = W0:=⟨_,rfl⟩
 have hb0 : RowKit.Below W.heap.size W W0:=by subst hW0;exact (RowKit.Below.refl _ _).alloc (Nat.le_refl _) _
 have hr0 : W0.heap[W.heap.size]? = some (.cells #[.string label,.slice uA uses.length uc,.slice dA ds.length dc] 25 (0,0)):=by subst hW0;exact heap_alloc_new W _
 obtain ⟨R,HR⟩ : ∃ R,Hid (usB ds id u = R):=⟨_,Lib.hid rfl⟩
 rw [HR.out]
 obtain ⟨N,HN⟩ : ∃ N,Hid (ds.length = N):=⟨_,Lib.hid rfl⟩
 obtain ⟨NU,HNU⟩ : ∃ N,Hid (uses.length = N):=⟨_,Lib.hid rfl⟩
 rw [HN.out,HNU.out] at hW0 hr0 ⊢
 have t2:=cell_of_row W0 W.heap.size 2 _ _ (0,0) hr0
 simp at t2
 have hdc:=hd.2.1
 have hdl:=hd.1
 unfold maxLen at hdc
 rw [HN.out] at hdl
 have HD:=Lib.hid (And.intro hd hcn)
 have HB0:=Lib.hid hb0
 clear hd hb0 hr0 hcn
 go_enter Tryz.func22,Tryz.ntmps22
 go_upto_region 1 with fail
 try rw [hW0]
 go_wp2
 go_loopg [8,14] N (fun g _ ct w => ∃ j : Nat,g = N - j ∧ j ≤ N ∧ ct = .int .i64 j ∧ RowKit.Below W.heap.size W w ∧ usB (ds.take j) id u = false)
 case atStart => exact ⟨0,rfl,Nat.zero_le _,rfl,HB0.out,rfl⟩
 case round =>
  obtain ⟨j,hg,hj,rfl,hB,hn⟩:=hrel
  by_cases hlt : j < N
  ·have hlt' : j < ds.length:=by rw [HN.out];exact hlt
   obtain ⟨x,hx⟩ : ∃ x,ds[j]? = some x:=⟨_,List.getElem?_eq_getElem hlt'⟩
   have hstep:=usB_take ds id u hx
   have hyes:=usB_sub (id:=id) (u:=u) hx
   rw [hn,Bool.false_or] at hstep
   have hcnt:=HD.out.2 x (List.mem_of_getElem? hx)
   have hmus : ∀ v,v ∈ x.us ↔ ((⟨#[]⟩ : ByteArray),v) ∈ x.refs:=fun v => mem_us
   have hrf : x.refs = refsOf (Fo.cons x.k x.n x.m x.i x.d x.A x.c x.s .nil).vis:=rfl
   have hlen : x.refs.length ≤ 1000000:=by
    have h1 : x.refs.length ≤ x.body.vis.length:=refsOf_le
    rw [Fo.vis_length] at h1
    simp only [Dc.body,Fo.count] at h1
    omega
   obtain ⟨RF,HRF⟩ : ∃ RF,Hid (x.refs = RF):=⟨_,Lib.hid rfl⟩
   rw [HRF.out] at hrf hmus hlen
   have hd:=HD.out.1.keep hB.size fun p hp => hB.cell hp
   obtain ⟨b,o,rfl,hb,hall⟩:=hd.2.2 (by intro e;rw [e] at hlt';simp at hlt')
   obtain ⟨hcs,hxok⟩:=hall j x hx
   obtain ⟨us,Hus⟩ : ∃ us,Hid (x.us = us):=⟨_,Lib.hid rfl⟩
   rw [Hus.out] at hstep hyes hmus
   obtain ⟨xid,xkind,xpub,xnA,xnc,xnames,xdoubt,xk,xn,xm,xi,xd,xA,xc,xs⟩:=x
   have d0 : wr.cell? ⟨b,o + j * 11,none⟩ = some (.int .i64 xid):=hcs 0 _ rfl
   have d1 : wr.cell? ⟨b,o + j * 11 + 1,none⟩ = some (.int .i64 xkind):=hcs 1 _ rfl
   have d2 : wr.cell? ⟨b,o + j * 11 + 2,none⟩ = some (.bool xpub):=hcs 2 _ rfl
   have d3 : wr.cell? ⟨b,o + j * 11 + 3,none⟩ = some (.slice xnA xnames.length xnc):=hcs 3 _ rfl
   have d4 : wr.cell? ⟨b,o + j * 11 + 4,none⟩ = some (.bool xdoubt):=hcs 4 _ rfl
   have d5 : wr.cell? ⟨b,o + j * 11 + 5,none⟩ = some (.int .i64 xk):=hcs 5 _ rfl
   have d6 : wr.cell? ⟨b,o + j * 11 + 6,none⟩ = some (.string xn):=hcs 6 _ rfl
   have d7 : wr.cell? ⟨b,o + j * 11 + 7,none⟩ = some (.string xm):=hcs 7 _ rfl
   have d8 : wr.cell? ⟨b,o + j * 11 + 8,none⟩ = some (.int .i64 xi):=hcs 8 _ rfl
   have d9 : wr.cell? ⟨b,o + j * 11 + 9,none⟩ = some (.int .i64 xd):=hcs 9 _ rfl
   have d10 : wr.cell? ⟨b,o + j * 11 + 10,none⟩ = some (.slice xA xs.len xc):=hcs 10 _ rfl
   simp only at hrf hcnt hstep hyes
   obtain ⟨W3,hW3⟩ : ∃ W3,wr.alloc (.cells #[.int .i64 xid,.int .i64 xkind,.bool xpub,.slice xnA xnames.length xnc,.bool xdoubt,.int .i64 xk,.string xn,.string xm,.int .i64 xi,.int .i64 xd,.slice xA xs.len xc] 46) = W3:=⟨_,rfl⟩
   have hb3 : RowKit.Below wr.heap.size wr W3:=by subst hW3;exact (RowKit.Below.refl _ _).alloc (Nat.le_refl _) _
   have hr3 : W3.heap[wr.heap.size]? = some (.cells #[.int .i64 xid,.int .i64 xkind,.bool xpub,.slice xnA xnames.length xnc,.bool xdoubt,.int .i64 xk,.string xn,.string xm,.int .i64 xi,.int .i64 xd,.slice xA xs.len xc] 46 (0,0)):=by subst hW3;exact heap_alloc_new wr _
   have e0:=cell_of_row W3 wr.heap.size 0 _ _ (0,0) hr3
   have e5:=cell_of_row W3 wr.heap.size 5 _ _ (0,0) hr3
   have e6:=cell_of_row W3 wr.heap.size 6 _ _ (0,0) hr3
   have e7:=cell_of_row W3 wr.heap.size 7 _ _ (0,0) hr3
   have e8:=cell_of_row W3 wr.heap.size 8 _ _ (0,0) hr3
   have e9:=cell_of_row W3 wr.heap.size 9 _ _ (0,0) hr3
   have e10:=cell_of_row W3 wr.heap.size 10 _ _ (0,0) hr3
   simp at e0 e5 e6 e7 e8 e9 e10
   have hB3 : RowKit.Below W.heap.size W W3:=hB.trans (hb3.mono hB.size)
   have hsl : xs.Sl W3 W3.heap.size xA xc:=hxok.2.keep hb3.size fun p hp => hb3.cell hp
   have HRA:=Lib.hid (refs_any xk xn xm xi xd xA xc xs W3 hsl hcnt)
   rw [← hrf] at HRA
   obtain ⟨sl,hsl'⟩ : ∃ sl,Hid (xs.len = sl):=⟨_,Lib.hid rfl⟩
   rw [hsl'.out] at HRA hW3 d10 e10
   obtain ⟨xnl,hxnl⟩ : ∃ xnl,Hid (xnames.length = xnl):=⟨_,Lib.hid rfl⟩
   rw [hxnl.out] at hW3 d3
   obtain ⟨L,HL⟩ : ∃ L,Hid (RF.length = L):=⟨_,Lib.hid rfl⟩
   rw [HL.out] at hlen
   have HJ:=Lib.hid (And.intro hg (And.intro hB3 (And.intro hstep (And.intro hyes hmus))))
   clear hg hB hn hd hall hcs hxok hx hstep hyes hmus hrf hcnt hlt' hb3 hr3 hB3 hsl hb
   by_cases hid : xid = id
   ·subst hid
    have hne : (xid != xid) = false:=by simp
    go_upto_region 4 with fail
    try rw [hW3]
    go_wp2_with (go_at_call 54;(with_reducible refine Calls.mono HRA.out ?_);rintro e w6 ⟨rv,rfl,hrow6,hb6⟩;obtain ⟨rA,rc,rfl⟩:=row_slice hrow6;have HR6:=Lib.hid (And.intro hrow6 hb6);clear hrow6 hb6;rw [HL.out])
    go_loopg [10,26] L (fun g _ ct w => ∃ q : Nat,g = L - q ∧ q ≤ L ∧ ct = .int .i64 q ∧ RowKit.Below w6.heap.size w6 w ∧ (⟨#[]⟩,u) ∉ RF.take q)
    case atStart => exact ⟨0,rfl,Nat.zero_le _,rfl,RowKit.Below.refl _ _,by simp⟩
    case round =>
     obtain ⟨q,hg,hq,rfl,hB7,hin⟩:=hrel
     have hW7 : RowKit.Below W.heap.size W wr:=by
      have h1:=HJ.out.2.1
      have h2:=h1.trans (HR6.out.2.mono h1.size)
      exact h2.trans (hB7.mono h2.size)
     by_cases hlq : q < L
     ·have hlq' : q < RF.length:=by rw [HL.out];exact hlq
      obtain ⟨r,hr⟩ : ∃ r,RF[q]? = some r:=⟨_,List.getElem?_eq_getElem hlq'⟩
      have hrm:=List.mem_of_getElem? hr
      obtain ⟨n0,n1⟩:=namesC_at r RF q hr
      obtain ⟨rb,rfl⟩ : ∃ rb,rA = some ⟨rb,0,none⟩:=by
       rcases HR6.out.1.2 with ⟨e,e'⟩ | ⟨g',cap',cur,e,_⟩
       ·omega
       ·cases e;exact ⟨_,rfl⟩
      have hrbz:=(HR6.out.1.lt rb rfl).2
      have hrow':=HR6.out.1
      have c0 : wr.cell? ⟨rb,q * 2,none⟩ = some (.string r.1):=(hB7.cell (p:=⟨rb,q * 2,none⟩) hrbz).trans ((hrow'.cellAt _ (by omega)).trans n0)
      have c1 : wr.cell? ⟨rb,q * 2 + 1,none⟩ = some (.int .i64 r.2):=(hB7.cell (p:=⟨rb,q * 2 + 1,none⟩) hrbz).trans ((hrow'.cellAt _ (by omega)).trans n1)
      have htk : RF.take (q + 1) = RF.take q ++ [r]:=by rw [List.take_add_one,hr];rfl
      have hnext : r ≠ (⟨#[]⟩,u) → (⟨#[]⟩,u) ∉ RF.take (q + 1):=fun h hz => by
       rw [htk,List.mem_append,List.mem_singleton] at hz
       rcases hz with hz | hz
       ·exact hin hz
       ·exact h hz.symm
      have hhit : r = (⟨#[]⟩,u) → R = true:=fun h => by
       rw [← HR.out]
       exact HJ.out.2.2.2.1 (by simp only [beq_self_eq_true,Bool.true_and,decide_eq_true_eq];exact (HJ.out.2.2.2.2 u).2 (h ▸ hrm))
      obtain ⟨rn,ri⟩:=r
      simp only at c0 c1
      obtain ⟨W7,hW7'⟩ : ∃ W7,wr.alloc (.cells #[.string rn,.int .i64 ri] 102) = W7:=⟨_,rfl⟩
      have hb7 : RowKit.Below wr.heap.size wr W7:=by subst hW7';exact (RowKit.Below.refl _ _).alloc (Nat.le_refl _) _
      have hr7 : W7.heap[wr.heap.size]? = some (.cells #[.string rn,.int .i64 ri] 102 (0,0)):=by subst hW7';exact heap_alloc_new wr _
      have f0:=cell_of_row W7 wr.heap.size 0 _ _ (0,0) hr7
      have f1:=cell_of_row W7 wr.heap.size 1 _ _ (0,0) hr7
      simp at f0 f1
      have HX:=Lib.hid (And.intro hg (And.intro (show RowKit.Below w6.heap.size w6 W7 from hB7.trans (hb7.mono hB7.size)) (And.intro hnext (And.intro hhit (show RowKit.Below W.heap.size W W7 from hW7.trans (hb7.mono hW7.size))))))
      clear hg hB7 hin hW7 hr hrm n0 n1 hrow' htk hnext hhit hb7 hr7 hlq'
      by_cases he : rn = ⟨#[]⟩
      ·subst he
       by_cases hu : ri = u
       ·subst hu
        have hue : (ri == ri) = true:=by simp
        have HV:=Lib.hid (HX.out.2.2.2.1 rfl)
        go_upto_region 8 with fail
        try rw [hW7']
        go_wp2
        go_ret
        exact ⟨by rw [HV.out];rfl,HX.out.2.2.2.2⟩
       ·have hue : (ri == u) = false:=by simpa using hu
        go_upto_region 8 with fail
        try rw [hW7']
        go_wp2
        go_roundg (L - (q + 1))
        case measure => have:=HX.out.1;omega
        case rel => exact ⟨q + 1,rfl,by omega,by go_num,HX.out.2.1,HX.out.2.2.1 fun e => hu (by injection e)⟩
      ·have he' : rn.toList.isEmpty = false:=empty_no he
       go_upto_region 8 with fail
       try rw [hW7']
       go_wp2
       go_roundg (L - (q + 1))
       case measure => have:=HX.out.1;omega
       case rel => exact ⟨q + 1,rfl,by omega,by go_num,HX.out.2.1,HX.out.2.2.1 fun e => he (by injection e)⟩
     ·have hqL : q = L:=by omega
      subst hqL
      have HNo:=Lib.hid (show usB (ds.take (j + 1)) xid u = false by
       rw [HJ.out.2.2.1,beq_self_eq_true,Bool.true_and,decide_eq_false_iff_not]
       intro hm
       refine hin ?_
       rw [List.take_of_length_le (by rw [HL.out];exact Nat.le_refl _)]
       exact (HJ.out.2.2.2.2 u).1 hm)
      have HW7:=Lib.hid hW7
      clear hin hg hB7 hW7
      go_wp2
      go_roundg (N - (j + 1))
      case measure => have:=HJ.out.1;omega
      case rel => exact ⟨j + 1,rfl,by omega,by go_num,HW7.out,HNo.out⟩
   ·have hne : (xid != id) = true:=by simpa using hid
    have hne' : (xid == id) = false:=by simpa using hid
    have HNo:=Lib.hid (show usB (ds.take (j + 1)) id u = false by rw [HJ.out.2.2.1,hne',Bool.false_and])
    go_upto_region 4 with fail
    try rw [hW3]
    go_wp2
    go_roundg (N - (j + 1))
    case measure => have:=HJ.out.1;omega
    case rel => exact ⟨j + 1,rfl,by omega,by go_num,HJ.out.2.1,HNo.out⟩
  ·have hjN : j = N:=by omega
   subst hjN
   have HV:=Lib.hid (show R = false by
    rw [List.take_of_length_le (by rw [HN.out];exact Nat.le_refl _)] at hn
    rw [← HR.out];exact hn)
   have HB9:=Lib.hid hB
   clear hn hg hB
   go_wp2
   go_ret
   exact ⟨by rw [HV.out];rfl,HB9.out⟩
end Go.Proofs.YtmmecapgnmlaiaaGreatDoor
/- law25.reaches -/
namespace Go.Proofs.YtmmecapgnmlaiaaGreatDoor
open Go Go.RowKit Go.Proofs Go.Proofs.Scc
theorem nodupI_len : ∀ (m U : List Int),m.Nodup → (∀ x ∈ m,x ∈ U) → m.length ≤ U.length
 | [],_,_,_ => Nat.zero_le _
 | x :: m,U,hn,hs => by
  rw [List.nodup_cons] at hn
  have h:=nodupI_len m (U.erase x) hn.2 fun y hy => (List.mem_erase_of_ne (fun e => hn.1 (by rw [← e];exact hy))).2 (hs y (List.mem_cons_of_mem _ hy))
  have h2:=List.length_erase_of_mem (hs x List.mem_cons_self)
  have h3:=List.length_pos_of_mem (hs x List.mem_cons_self)
  simp only [List.length_cons]
  omega
structure ReI (ds : List Dc) (g : List Int) (fr tz : Int) (M : List Int) (i : Nat) : Prop where
 nd : M.Nodup
 fr : fr ∈ M
 sub : ∀ x ∈ M,x ∈ g
 dn : ∀ (j : Nat) (x : Int),j < i → M[j]? = some x → usB ds x tz = false ∧ ∀ y ∈ g,usB ds x y = true → y ∈ M
structure ReJ (ds : List Dc) (g : List Int) (x : Int) (M : List Int) (M' : List Int) (q : Nat) : Prop where
 nd : M'.Nodup
 pre : ∃ t,M' = M ++ t
 sub : ∀ z ∈ M',z ∈ g
 dn : ∀ y ∈ g.take q,usB ds x y = true → y ∈ M'
theorem ReJ.skip {ds : List Dc} {g : List Int} {x : Int} {M M' : List Int} {q : Nat} {y : Int} (h : ReJ ds g x M M' q) (hy : g[q]? = some y) (hn : usB ds x y = true → y ∈ M') : ReJ ds g x M M' (q + 1):=
 ⟨h.nd,h.pre,h.sub,fun z hz hu => by
  rw [List.take_add_one,hy,List.mem_append] at hz
  rcases hz with hz | hz
  ·exact h.dn z hz hu
  ·simp at hz;subst hz;exact hn hu⟩
theorem ReJ.push {ds : List Dc} {g : List Int} {x : Int} {M M' : List Int} {q : Nat} {y : Int} (h : ReJ ds g x M M' q) (hy : g[q]? = some y) (hn : y ∉ M') : ReJ ds g x M (M' ++ [y]) (q + 1):=by
 obtain ⟨t,ht⟩:=h.pre
 refine ⟨?_,⟨t ++ [y],by rw [ht,List.append_assoc]⟩,fun z hz => ?_,fun z hz hu => ?_⟩
 ·rw [List.nodup_append]
  exact ⟨h.nd,by simp,fun a ha b hb e => by simp at hb;subst hb;subst e;exact hn ha⟩
 ·rcases List.mem_append.1 hz with hz | hz
  ·exact h.sub z hz
  ·simp at hz;subst hz;exact List.mem_of_getElem? hy
 ·rw [List.take_add_one,hy,List.mem_append] at hz
  rcases hz with hz | hz
  ·exact List.mem_append_left _ (h.dn z hz hu)
  ·simp at hz;subst hz;simp
theorem ReJ.done {ds : List Dc} {g : List Int} {fr tz x : Int} {M M' : List Int} {i q : Nat} (h : ReJ ds g x M M' q) (hq : g.length ≤ q) (hI : ReI ds g fr tz M i) (hx : M[i]? = some x) (hto : usB ds x tz = false) : ReI ds g fr tz M' (i + 1) ∧ i + 1 ≤ M'.length:=by
 obtain ⟨t,rfl⟩:=h.pre
 have hil:=(List.getElem?_eq_some_iff.1 hx).1
 refine ⟨⟨h.nd,List.mem_append_left _ hI.fr,h.sub,fun j z hj hz => ?_⟩,by rw [List.length_append];omega⟩
 by_cases e : j = i
 ·subst e
  rw [List.getElem?_append_left hil,hx] at hz
  cases hz
  exact ⟨hto,fun y hy => h.dn y (by rw [List.take_of_length_le hq];exact hy)⟩
 ·rw [List.getElem?_append_left (by omega)] at hz
  obtain ⟨h1,h2⟩:=hI.dn j z (by omega) hz
  exact ⟨h1,fun y hy hu => List.mem_append_left _ (h2 y hy hu)⟩
theorem ReI.out {ds : List Dc} {g : List Int} {fr tz : Int} {M : List Int} {i : Nat} (h : ReI ds g fr tz M i) (hi : M.length ≤ i) (H : ∀ S : List Int,fr ∈ S → (∀ x ∈ S,∀ y ∈ g,usB ds x y = true → y ∈ S) → ∃ x ∈ S,usB ds x tz = true) : False:=by
 have key : ∀ x ∈ M,usB ds x tz = false ∧ ∀ y ∈ g,usB ds x y = true → y ∈ M:=fun x hx => by
  obtain ⟨j,hj⟩:=List.mem_iff_getElem?.1 hx
  exact h.dn j x (by have:=(List.getElem?_eq_some_iff.1 hj).1;omega) hj
 obtain ⟨x,hx,hu⟩:=H M h.fr fun x hx => (key x hx).2
 rw [(key x hx).1] at hu
 cases hu
theorem own_one {w : World} {u : Value} {t : TypeId} : (w.alloc (.cells #[u] t)).ownsRow w.heap.size t 1 (.slice (some ⟨w.heap.size,0,none⟩) 1 1) 1 [u]:=
 ⟨rfl,.inr ⟨w.heap.size,1,#[u],rfl,Nat.le_refl _,heap_alloc_new w _,Nat.le_refl _,by decide,rfl,rfl⟩⟩
end Go.Proofs.YtmmecapgnmlaiaaGreatDoor
/- law25.reaches, walked -/
namespace Go.Proofs.YtmmecapgnmlaiaaGreatDoor
open Go Go.RowKit Go.Proofs Go.Proofs.Scc
set_option maxRecDepth 100000 in
set_option maxHeartbeats 8000000 in
theorem l25reaches_any (label : ByteArray) (uses : List ByteArray) (uA : Option Addr) (uc : Nat) (ds : List Dc) (dA : Option Addr) (dc : Nat) (gA : Option Addr) (gc : Nat) (g : List Int) (fr tz : Int) (W : World) (hd : SlD W W.heap.size dA dc ds) (hcn : ∀ x ∈ ds,x.s.count ≤ 100000) (hg : IntsA W W.heap.size gA gc g) (hgl : g.length ≤ 1000000) (hfr : fr ∈ g)
  (H : ∀ S : List Int,fr ∈ S → (∀ x ∈ S,∀ y ∈ g,usB ds x y = true → y ∈ S) → ∃ x ∈ S,usB ds x tz = true) :
  Calls Tryz.prog 21 #[.agg #[.string label,.slice uA uses.length uc,.slice dA ds.length dc],.slice gA g.length gc,.int .i64 fr,.int .i64 tz] W fun e Y => e = .returned (.bool true) ∧ RowKit.Below W.heap.size W Y:=by
 obtain ⟨W0,hW0⟩ : ∃ W0,W.alloc (.cells #[.string label,.slice uA uses.length uc,.slice dA ds.length dc] 25) = W0:=⟨_,rfl⟩
 have hb0 : RowKit.Below W.heap.size W W0:=by subst hW0;exact (RowKit.Below.refl _ _).alloc (Nat.le_refl _) _
 have hr0 : W0.heap[W.heap.size]? = some (.cells #[.string label,.slice uA uses.length uc,.slice dA ds.length dc] 25 (0,0)):=by subst hW0;exact heap_alloc_new W _
 have HU:=Lib.hid (show ∀ Y id u,RowKit.Below W.heap.size W Y → Calls Tryz.prog 22 #[.agg #[.string label,.slice uA uses.length uc,.slice dA ds.length dc],.int .i64 id,.int .i64 u] Y fun e Z => e = .returned (.bool (usB ds id u)) ∧ RowKit.Below Y.heap.size Y Z from fun Y id u hY =>
  l25uses_any label uses uA uc ds dA dc id u Y (hd.keep hY.size fun p hp => hY.cell hp) hcn)
 have HG:=Lib.hid (show ∀ Y,RowKit.Below W.heap.size W Y → IntsA Y Y.heap.size gA gc g from fun Y hY => (hg.below hY).mono hY.size)
 obtain ⟨N,HN⟩ : ∃ N,Hid (ds.length = N):=⟨_,Lib.hid rfl⟩
 obtain ⟨NU,HNU⟩ : ∃ N,Hid (uses.length = N):=⟨_,Lib.hid rfl⟩
 obtain ⟨L,HL⟩ : ∃ L,Hid (g.length = L):=⟨_,Lib.hid rfl⟩
 rw [HN.out,HNU.out] at hW0 hr0 HU
 rw [HN.out,HNU.out,HL.out]
 rw [HL.out] at hgl
 have hgc:=hg.2.1
 have hgl2:=hg.1
 unfold maxLen at hgc
 rw [HL.out] at hgl2
 have hown0 : (W0.alloc (.cells #[.int .i64 fr] 3)).ownsRow W0.heap.size 3 1 (.slice (some ⟨W0.heap.size,0,none⟩) 1 1) 1 [.int .i64 fr]:=own_one
 have HO0:=Lib.hid (And.intro hown0 (show RowKit.Below W0.heap.size W0 (W0.alloc (.cells #[.int .i64 fr] 3)) from (RowKit.Below.refl _ _).alloc (Nat.le_refl _) _))
 have HI0:=Lib.hid (show ReI ds g fr tz [fr] 0 from ⟨by simp,by simp,fun x hx => by simp at hx;subst hx;exact hfr,fun j x hj => absurd hj (Nat.not_lt_zero _)⟩)
 have HH:=Lib.hid H
 have HB0:=Lib.hid (And.intro hb0 hr0)
 have hz0:=lt_of_block hr0
 clear hd hcn hg hfr H hb0 hr0 hown0
 go_enter Tryz.func21,Tryz.ntmps21
 go_upto_region 1 with fail
 try rw [hW0]
 go_wp2
 go_loopg [9,10,12] L (fun gh lv iv _ w => ∃ (M : List Int) (i : Nat),gh = L - i ∧ iv = .int .i64 i ∧ i ≤ M.length ∧ ReI ds g fr tz M i ∧ w.ownsRow W0.heap.size 3 1 lv M.length (M.map (.int .i64)) ∧ RowKit.Below W0.heap.size W0 w)
 case atStart => exact ⟨[fr],0,by omega,rfl,Nat.zero_le _,HI0.out,HO0.out.1,HO0.out.2⟩
 case round =>
  obtain ⟨M,i,hgh,rfl,hi,hI,hrow,hB⟩:=hrel
  obtain ⟨lA,lc,rfl⟩:=row_slice hrow
  by_cases hlt : i < M.length
  rotate_left
  ·exact (hI.out (by omega) HH.out).elim
  have hML : M.length ≤ L:=by rw [← HL.out];exact nodupI_len _ _ hI.nd hI.sub
  obtain ⟨x,hx⟩ : ∃ x,M[i]? = some x:=⟨_,List.getElem?_eq_getElem hlt⟩
  obtain ⟨b,rfl⟩ : ∃ b,lA = some ⟨b,0,none⟩:=by
   rcases hrow.2 with ⟨e,e'⟩ | ⟨g',cap',cur,e,_⟩
   ·omega
   ·cases e;exact ⟨_,rfl⟩
  have hbz:=(hrow.lt b rfl).2
  have cx : wr.cell? ⟨b,i,none⟩ = some (.int .i64 x):=(hrow.cellAt i (by omega)).trans (by rw [List.getElem?_map,hx];rfl)
  have hlc:=(show M.length ≤ lc ∧ lc ≤ maxLen by
   rcases hrow.2 with ⟨e,e'⟩ | ⟨g',cap',cur,e,q2,q3,q4,q5,_⟩
   ·omega
   ·cases e;exact ⟨q4,q5⟩)
  have hWr : RowKit.Below W.heap.size W wr:=HB0.out.1.trans (hB.mono HB0.out.1.size)
  have HW:=Lib.hid (show ∀ Y,RowKit.Below wr.heap.size wr Y → RowKit.Below W.heap.size W Y from fun Y hY => hWr.trans (hY.mono hWr.size))
  have hbx : wr.heap[W.heap.size]? = some (.cells #[.string label,.slice uA NU uc,.slice dA N dc] 25 (0,0)):=(hB.block _ hz0).trans HB0.out.2
  have HS:=Lib.hid (show ∀ Y,RowKit.Below wr.heap.size wr Y → Y.cell? ⟨W.heap.size,0,none⟩ = some (.string label) ∧ Y.cell? ⟨W.heap.size,1,none⟩ = some (.slice uA NU uc) ∧ Y.cell? ⟨W.heap.size,2,none⟩ = some (.slice dA N dc) ∧ Y.cell? ⟨b,i,none⟩ = some (.int .i64 x) from fun Y hY => by
   have h:=(hY.block _ (lt_of_block hbx)).trans hbx
   exact ⟨cell_of_row Y _ 0 _ _ (0,0) h,cell_of_row Y _ 1 _ _ (0,0) h,cell_of_row Y _ 2 _ _ (0,0) h,(hY.cell (p:=⟨b,i,none⟩) hbz).trans cx⟩)
  obtain ⟨mq,Hmq⟩ : ∃ q,Hid (M.length = q):=⟨_,Lib.hid rfl⟩
  have HI:=Lib.hid (And.intro hgh (And.intro hI (And.intro hrow (And.intro hB (And.intro hML hx)))))
  obtain ⟨R5,H5⟩ : ∃ q,Hid (usB ds x tz = q):=⟨_,Lib.hid rfl⟩
  have hc5:=HU.out wr.drew x tz (HW.out _ (RowKit.Below.refl _ _).drew)
  rw [H5.out] at hc5
  have HC5:=Lib.hid hc5
  rw [Hmq.out] at hlt hi hlc hML
  rw [Hmq.out]
  unfold maxLen at hlc
  clear hgh hI hrow hB hx hbz cx hWr hbx hc5 hW0
  go_upto_region 5 with fail
  go_region_held3 (fun Y => Y.cell? ⟨W.heap.size,0,none⟩ = some (.string label) ∧ Y.cell? ⟨W.heap.size,1,none⟩ = some (.slice uA NU uc) ∧ Y.cell? ⟨W.heap.size,2,none⟩ = some (.slice dA N dc) ∧ Y.cell? ⟨b,i,none⟩ = some (.int .i64 x))
   (first | exact HS.out _ HB5.out | exact HS.out _ (RowKit.Below.refl _ _).drew | exact HS.out _ (RowKit.Below.refl _ _))
   ((go_at_call 22;(with_reducible refine Calls.mono HC5.out ?_);rintro e w5 ⟨rfl,hb5⟩;have HB5:=Lib.hid (show RowKit.Below wr.heap.size wr w5 from (RowKit.Below.refl _ _).drew.trans hb5);clear hb5))
  cases R5 with
  | true =>
   go_wp2
   go_ret
   exact ⟨rfl,HW.out _ HB5.out⟩
  | false =>
   have hrow5:=row_keep HI.out.2.2.1 (w':=w5) fun k hk => HB5.out.block k (HI.out.2.2.1.lt k hk).2
   have HR5:=Lib.hid (And.intro hrow5 (HI.out.2.2.2.1.trans (HB5.out.mono HI.out.2.2.2.1.size)))
   clear hrow5
   go_wp2
   go_loopg [9,12,30] L (fun gh lv _ ct w => ∃ (M' : List Int) (q : Nat),gh = L - q ∧ ct = .int .i64 q ∧ q ≤ L ∧ ReJ ds g x M M' q ∧ w.ownsRow W0.heap.size 3 1 lv M'.length (M'.map (.int .i64)) ∧ RowKit.Below W0.heap.size W0 w)
   case atStart => exact ⟨M,0,rfl,rfl,Nat.zero_le _,⟨HI.out.2.1.nd,⟨[],by simp⟩,HI.out.2.1.sub,fun y hy => by simp at hy⟩,by have h:=HR5.out.1;rw [Hmq.out] at h ⊢;exact h,HR5.out.2⟩
   case round =>
    obtain ⟨M',q,hgh,rfl,hq,hJ,hrow,hB⟩:=hrel
    obtain ⟨lA',lc',rfl⟩:=row_slice hrow
    have hWr : RowKit.Below W.heap.size W wr:=HB0.out.1.trans (hB.mono HB0.out.1.size)
    by_cases hlq : q < L
    ·have hlq' : q < g.length:=by rw [HL.out];exact hlq
     obtain ⟨gb,go,rfl,hgb,hgcell⟩:=ints_at (HG.out wr hWr) hlq'
     have hy:=List.getElem?_eq_getElem hlq'
     generalize g[q] = y at hgcell hy
     obtain ⟨tl,hpre⟩:=hJ.pre
     have hil:=(List.getElem?_eq_some_iff.1 HI.out.2.2.2.2.2).1
     have hx' : M'[i]? = some x:=by rw [hpre,List.getElem?_append_left hil];exact HI.out.2.2.2.2.2
     have hil':=(List.getElem?_eq_some_iff.1 hx').1
     obtain ⟨b',rfl⟩ : ∃ b',lA' = some ⟨b',0,none⟩:=by
      rcases hrow.2 with ⟨e,e'⟩ | ⟨g',cap',cur,e,_⟩
      ·omega
      ·cases e;exact ⟨_,rfl⟩
     have hbz:=(hrow.lt b' rfl).2
     have cx : wr.cell? ⟨b',i,none⟩ = some (.int .i64 x):=(hrow.cellAt i (by omega)).trans (by rw [List.getElem?_map,hx'];rfl)
     have hlc':=(show M'.length ≤ lc' ∧ lc' ≤ maxLen by
      rcases hrow.2 with ⟨e,e'⟩ | ⟨g',cap',cur,e,q2,q3,q4,q5,_⟩
      ·omega
      ·cases e;exact ⟨q4,q5⟩)
     have hML' : M'.length ≤ L:=by rw [← HL.out];exact nodupI_len _ _ hJ.nd hJ.sub
     have HW2:=Lib.hid (show ∀ Y,RowKit.Below wr.heap.size wr Y → RowKit.Below W.heap.size W Y from fun Y hY => hWr.trans (hY.mono hWr.size))
     have hbx : wr.heap[W.heap.size]? = some (.cells #[.string label,.slice uA NU uc,.slice dA N dc] 25 (0,0)):=(hB.block _ hz0).trans HB0.out.2
     have HS2:=Lib.hid (show ∀ Y,RowKit.Below wr.heap.size wr Y → Y.cell? ⟨W.heap.size,0,none⟩ = some (.string label) ∧ Y.cell? ⟨W.heap.size,1,none⟩ = some (.slice uA NU uc) ∧ Y.cell? ⟨W.heap.size,2,none⟩ = some (.slice dA N dc) ∧ Y.cell? ⟨b',i,none⟩ = some (.int .i64 x) from fun Y hY => by
      have h:=(hY.block _ (lt_of_block hbx)).trans hbx
      exact ⟨cell_of_row Y _ 0 _ _ (0,0) h,cell_of_row Y _ 1 _ _ (0,0) h,cell_of_row Y _ 2 _ _ (0,0) h,(hY.cell (p:=⟨b',i,none⟩) hbz).trans cx⟩)
     obtain ⟨R6,H6⟩ : ∃ q,Hid (usB ds x y = q):=⟨_,Lib.hid rfl⟩
     have hc6:=HU.out wr.drew x y (HW2.out _ (RowKit.Below.refl _ _).drew)
     rw [H6.out] at hc6
     have HC6:=Lib.hid hc6
     obtain ⟨mm,Hmm⟩ : ∃ q,Hid (decide (y ∈ M') = q):=⟨_,Lib.hid rfl⟩
     have hri:=fun Y (hY : RowKit.Below wr.heap.size wr Y) => row_ints (row_keep hrow (w':=Y) fun k hk => hY.block k (hrow.lt k hk).2)
     have hhas : ∀ Y,RowKit.Below wr.heap.size wr Y → Calls Tryz.prog 20 #[.slice (some ⟨b',0,none⟩) M'.length lc',.int .i64 y] Y fun e Z => e = .returned (.bool (decide (y ∈ M'))) ∧ Y = Z:=fun Y hY => by
      obtain ⟨A,c,e,h⟩:=hri Y hY
      cases e
      exact has23_any M' y _ _ Y h
     rw [Hmm.out] at hhas
     obtain ⟨mq',Hmq'⟩ : ∃ q,Hid (M'.length = q):=⟨_,Lib.hid rfl⟩
     rw [Hmq'.out] at hhas hlc' hil' hML' ⊢
     have HHas:=Lib.hid hhas
     have HJ:=Lib.hid (And.intro hgh (And.intro hJ (And.intro hrow (And.intro hB hy))))
     have hgcl:=(HG.out wr hWr).1
     rw [HL.out] at hgcl
     unfold maxLen at hlc'
     clear hgh hJ hrow hB hy hpre hx' hbz cx hbx hc6 hri hhas hWr hil hlq' hgcl hi hlc hML hgb
     cases R6 with
     | false =>
      obtain ⟨s0,s1,s2,s3⟩:=HS2.out wr.drew (RowKit.Below.refl _ _).drew
      go_upto_region 10 with fail
      first
       | (go_region_law (first
         | (go_simp;go_at_call 22;(with_reducible refine Calls.mono HC6.out ?_);rintro e w6 ⟨rfl,hb6⟩;have HB6:=Lib.hid (show RowKit.Below wr.heap.size wr w6 from (RowKit.Below.refl _ _).drew.trans hb6);clear hb6)))
       | fail
      all_goals (
       have HR6:=Lib.hid (And.intro (row_keep HJ.out.2.2.1 (w':=w6) fun k hk => HB6.out.block k (HJ.out.2.2.1.lt k hk).2) (HJ.out.2.2.2.1.trans (HB6.out.mono HJ.out.2.2.2.1.size)))
       go_wp2
       go_roundg (L - (q + 1))
       case measure => have:=HJ.out.1;omega
       case rel => exact ⟨M',q + 1,rfl,by go_num,by omega,HJ.out.2.1.skip HJ.out.2.2.2.2 (fun h => by rw [H6.out] at h;cases h),by have h:=HR6.out.1;rw [Hmq'.out] at h ⊢;exact h,HR6.out.2⟩)
     | true =>
      cases mm with
      | true =>
       go_upto_region 10 with fail
       go_region_held3 (fun Y => Y.cell? ⟨W.heap.size,0,none⟩ = some (.string label) ∧ Y.cell? ⟨W.heap.size,1,none⟩ = some (.slice uA NU uc) ∧ Y.cell? ⟨W.heap.size,2,none⟩ = some (.slice dA N dc) ∧ Y.cell? ⟨b',i,none⟩ = some (.int .i64 x))
        (first | exact HS2.out _ HB6.out | exact HS2.out _ (RowKit.Below.refl _ _).drew | exact HS2.out _ (RowKit.Below.refl _ _))
        (first
         | (go_at_call 22;(with_reducible refine Calls.mono HC6.out ?_);rintro e w6 ⟨rfl,hb6⟩;have HB6:=Lib.hid (show RowKit.Below wr.heap.size wr w6 from (RowKit.Below.refl _ _).drew.trans hb6);clear hb6)
         | (go_at_call 20;(with_reducible refine Calls.mono (HHas.out _ HB6.out) ?_);rintro e _ ⟨rfl,rfl⟩)
         | fail)
       have HR6:=Lib.hid (And.intro (row_keep HJ.out.2.2.1 (w':=w6) fun k hk => HB6.out.block k (HJ.out.2.2.1.lt k hk).2) (HJ.out.2.2.2.1.trans (HB6.out.mono HJ.out.2.2.2.1.size)))
       go_wp2
       go_roundg (L - (q + 1))
       case measure => have:=HJ.out.1;omega
       case rel => exact ⟨M',q + 1,rfl,by go_num,by omega,HJ.out.2.1.skip HJ.out.2.2.2.2 (fun _ => of_decide_eq_true Hmm.out),by have h:=HR6.out.1;rw [Hmq'.out] at h ⊢;exact h,HR6.out.2⟩
      | false =>
       go_upto_region 10 with fail
       go_region_held3 (fun Y => Y.cell? ⟨W.heap.size,0,none⟩ = some (.string label) ∧ Y.cell? ⟨W.heap.size,1,none⟩ = some (.slice uA NU uc) ∧ Y.cell? ⟨W.heap.size,2,none⟩ = some (.slice dA N dc) ∧ Y.cell? ⟨b',i,none⟩ = some (.int .i64 x))
        (first | exact HS2.out _ HB6.out | exact HS2.out _ (RowKit.Below.refl _ _).drew | exact HS2.out _ (RowKit.Below.refl _ _))
        (first
         | (go_at_call 22;(with_reducible refine Calls.mono HC6.out ?_);rintro e w6 ⟨rfl,hb6⟩;have HB6:=Lib.hid (show RowKit.Below wr.heap.size wr w6 from (RowKit.Below.refl _ _).drew.trans hb6);clear hb6)
         | (go_at_call 20;(with_reducible refine Calls.mono (HHas.out _ HB6.out) ?_);rintro e _ ⟨rfl,rfl⟩)
         | fail)
       obtain ⟨i1',hi',hz0',hz1',hz2'⟩:=info_parts Tryz.infoInt
       have hrl:=(row_keep HJ.out.2.2.1 (w':=w6) fun k hk => HB6.out.block k (HJ.out.2.2.1.lt k hk).2).alloc (.cells #[.int .i64 y] 3)
       rw [Hmq'.out] at hrl
       have HRL:=Lib.hid (And.intro hrl (show W0.heap.size ≤ (w6.alloc (.cells #[.int .i64 y] 3)).heap.size by have:=HJ.out.2.2.2.1.size;have:=HB6.out.size;simp;omega))
       clear hrl
       go_wp2_with (at_builtin;refine wpList_append_own_at _ rfl _ _ 39 rfl W0.heap.size 3 i1' _ 1 8 Tryz.undInts hi' hz0' hz1' hz2' rfl (by decide) (.slice (some ⟨b',0,none⟩) mq' lc') mq' _ rfl HRL.out.1 ⟨w6.heap.size,0,none⟩ 1 1 [.int .i64 y] rfl rfl (new_one w6 _ _) (by simp [Value.oneCell']) (by unfold maxLen;omega) (by omega) HRL.out.2 ?_;intro lv6 Z6 hown6 hgrow6 _ _;have HZ6:=Lib.hid (And.intro hown6 hgrow6);clear hown6 hgrow6)
       go_roundg (L - (q + 1))
       case measure => have:=HJ.out.1;omega
       case rel =>
        refine ⟨M' ++ [y],q + 1,rfl,by go_num,by omega,HJ.out.2.1.push HJ.out.2.2.2.2 (of_decide_eq_false Hmm.out),?_,?_⟩
        ·rw [List.length_append,List.map_append,List.length_singleton,Hmq'.out]
         exact HZ6.out.1
        ·have h1:=HJ.out.2.2.2.1.trans (HB6.out.mono HJ.out.2.2.2.1.size)
         exact h1.trans (((RowKit.Below.refl _ _).alloc h1.size (.cells #[.int .i64 y] 3)).trans (grown_bel HZ6.out.2 HRL.out.2 fun k e => (HRL.out.1.lt k e).1))
    ·have hqL : q = L:=by omega
     subst hqL
     obtain ⟨hI2,hi2⟩:=hJ.done (by rw [HL.out];exact Nat.le_refl _) HI.out.2.1 HI.out.2.2.2.2.2 H5.out
     have HX:=Lib.hid (And.intro hI2 (And.intro hi2 (And.intro hrow hB)))
     clear hI2 hi2 hrow hB hgh hJ hWr
     go_wp2
     go_roundg (q - (i + 1))
     case measure => have:=HI.out.1;omega
     case rel => exact ⟨M',i + 1,rfl,by go_num,HX.out.2.1,HX.out.1,HX.out.2.2.1,HX.out.2.2.2⟩
end Go.Proofs.YtmmecapgnmlaiaaGreatDoor
/- law25.InferOrder, plainly -/
namespace Go.Proofs.YtmmecapgnmlaiaaGreatDoor
open Go Go.RowKit Go.Proofs Go.Proofs.Scc
theorem usB_iff {ds : List Dc} (h : (idsF ds).Pairwise (· < ·)) {a u : Int} : usB ds a u = true ↔ u ∈ usedF ds a:=by
 unfold usB
 rw [List.any_eq_true]
 constructor
 ·rintro ⟨x,hx,he⟩
  rw [Bool.and_eq_true,decide_eq_true_eq,beq_iff_eq] at he
  rw [← he.1,usedF_mem h hx]
  exact he.2
 ·intro hu
  by_cases ha : a ∈ idsF ds
  ·obtain ⟨x,hx,rfl⟩:=List.mem_map.1 ha
   rw [usedF_mem h hx] at hu
   exact ⟨x,hx,by simp [hu]⟩
  ·have : usedF ds a = []:=by
    unfold usedF
    rw [List.find?_eq_none.2 fun x hx e => ha (List.mem_map.2 ⟨x,hx,by simpa using e⟩)]
   rw [this] at hu
   cases hu
theorem grp_reach {ds : List Dc} {V g : List Int} (h : (idsF ds).Pairwise (· < ·)) (hg : Grp (usedF ds) V g) {fr tz : Int} (h1 : fr ∈ g) (h2 : tz ∈ g) (hne : fr ≠ tz) (S : List Int) (hf : fr ∈ S) (hc : ∀ x ∈ S,∀ y ∈ g,usB ds x y = true → y ∈ S) : ∃ x ∈ S,usB ds x tz = true:=by
 have key : ∀ x y,Rch (usedF ds) x y → y = tz → x ∈ S → x ∈ g → x ≠ tz → ∃ z ∈ S,usB ds z tz = true:=by
  intro x y hr
  induction hr with
  | here => exact fun e _ _ hx => absurd e hx
  | @step x y z hxy hyz ih =>
   intro e hxS hxg _
   by_cases hy : y = tz
   ·subst hy
    exact ⟨x,hxS,(usB_iff h).2 hxy⟩
   ·subst e
    have hzx:=((hg.mem x hxg z).1 h2).2
    have hyg : y ∈ g:=(hg.mem x hxg y).2 ⟨Rch.one hxy,hyz.trans hzx⟩
    exact ih rfl (hc x hxS y hyg ((usB_iff h).2 hxy)) hyg hy
 exact key fr tz ((hg.mem fr h1 tz).1 h2).1 rfl hf h1 hne
theorem ordr_at {used : Int → List Int} : ∀ {R : List (List Int)} {come : Int → Bool},Ordr used come R → ∀ {p : Nat} {g : List Int},R[p]? = some g → ∀ a ∈ g,∀ u ∈ used a,u ∈ (R.take (p + 1)).flatten ∨ come u = true
 | [],_,_,_,_,hp => by simp at hp
 | g0 :: R,come,⟨h1,h2⟩,p,g,hp => by
  intro a ha u hu
  cases p with
  | zero =>
   simp at hp
   subst hp
   rcases rdy_iff.1 h1 a ha u hu with h3 | h3
   ·exact .inr h3
   ·exact .inl (by simpa using h3)
  | succ p =>
   have hp' : R[p]? = some g:=by simpa using hp
   rw [List.take_succ_cons,List.flatten_cons]
   rcases ordr_at h2 hp' a ha u hu with h3 | h3
   ·exact .inl (List.mem_append_right _ h3)
   ·rcases putC_true.1 h3 with h4 | h4
    ·exact .inr h4
    ·exact .inl (List.mem_append_left _ h4)
theorem take_flat {R : List (List Int)} {p : Nat} {g : List Int} (h : R[p]? = some g) : (R.take (p + 1)).flatten = (R.take p).flatten ++ g:=by
 rw [List.take_add_one,h]
 simp
theorem dj_at : ∀ {R : List (List Int)},R.Pairwise Dj → ∀ {p : Nat} {g : List Int},R[p]? = some g → ∀ a ∈ g,a ∉ (R.take p).flatten
 | [],_,_,_,hp => by simp at hp
 | g0 :: R,h,p,g,hp => by
  intro a ha hm
  rw [List.pairwise_cons] at h
  cases p with
  | zero => simp at hm
  | succ p =>
   have hp' : R[p]? = some g:=by simpa using hp
   rw [List.take_succ_cons,List.flatten_cons,List.mem_append] at hm
   rcases hm with hm | hm
   ·exact h.1 g (List.mem_of_getElem? hp') a hm ha
   ·exact dj_at h.2 hp' a ha hm
theorem flat_nodup : ∀ {R : List (List Int)},R.Pairwise Dj → (∀ g ∈ R,g.Nodup) → R.flatten.Nodup
 | [],_,_ => by simp
 | g :: R,h,hn => by
  rw [List.pairwise_cons] at h
  rw [List.flatten_cons,List.nodup_append]
  refine ⟨hn g List.mem_cons_self,flat_nodup h.2 fun x hx => hn x (List.mem_cons_of_mem _ hx),fun a ha b hb e => ?_⟩
  subst e
  obtain ⟨g',hg',hag'⟩:=List.mem_flatten.1 hb
  exact h.1 g' hg' a ha hag'
structure OrdOK (ds : List Dc) (R : List (List Int)) : Prop where
 ne : ∀ g ∈ R,g ≠ [] ∧ g.Pairwise (· < ·) ∧ ∀ a ∈ g,1 ≤ a ∧ a ≤ 999999
 new : ∀ (p : Nat) (g : List Int),R[p]? = some g → ∀ a ∈ g,a ∉ (R.take p).flatten
 rea : ∀ g ∈ R,∀ fr ∈ g,∀ tz ∈ g,fr ≠ tz → ∀ S : List Int,fr ∈ S → (∀ x ∈ S,∀ y ∈ g,usB ds x y = true → y ∈ S) → ∃ x ∈ S,usB ds x tz = true
 use : ∀ (p : Nat) (g : List Int),R[p]? = some g → ∀ a ∈ g,∀ u,usB ds a u = true → u ∈ (R.take (p + 1)).flatten
 len : R.flatten.length = ds.length
 mem : ∀ x ∈ ds,x.id ∈ R.flatten
 cnt : R.length ≤ ds.length
 sz : ∀ g ∈ R,g.length ≤ ds.length
theorem order_ok {label : ByteArray} {ds : List Dc} (hV : MdV label ds) (hm : missF ds = false) : OrdOK ds (grpsOf ds):=by
 have hG:=hV.gr hm
 obtain ⟨c1,c2,c3,c4⟩:=groupsT_spec hG.nd hG.us
 obtain ⟨R,hR⟩ : ∃ R,groupsT (usedF ds) (idsF ds) = R:=⟨_,rfl⟩
 have hR' : grpsOf ds = R:=hR
 rw [hR'] 
 rw [hR] at c1 c2 c3 c4
 have hn : ∀ g ∈ R,g.Nodup:=fun g hg => asc_nodup (c1 g hg).srt
 have hfl:=flat_nodup c2 hn
 have hl1 : R.flatten.length ≤ (idsF ds).length:=nodupI_len _ _ hfl fun x hx => by
  obtain ⟨g,hg,hxg⟩:=List.mem_flatten.1 hx
  exact (c3 x).2 ⟨g,hg,hxg⟩
 have hl2 : (idsF ds).length ≤ R.flatten.length:=nodupI_len _ _ hG.nd fun x hx => by
  obtain ⟨g,hg,hxg⟩:=(c3 x).1 hx
  exact List.mem_flatten.2 ⟨g,hg,hxg⟩
 have hle : (idsF ds).length = ds.length:=List.length_map ..
 have hsum : ∀ L : List (List Int),(∀ g ∈ L,g ≠ []) → L.length ≤ L.flatten.length:=fun L => by
  induction L with
  | nil => exact fun _ => Nat.le_refl _
  | cons g L ih =>
   intro h
   have h1:=ih fun x hx => h x (List.mem_cons_of_mem _ hx)
   have h2:=List.length_pos_iff.2 (h g List.mem_cons_self)
   rw [List.flatten_cons,List.length_append,List.length_cons]
   omega
 have hone : ∀ L : List (List Int),∀ g ∈ L,g.length ≤ L.flatten.length:=fun L => by
  induction L with
  | nil => exact fun g hg => by cases hg
  | cons g0 L ih =>
   intro g hg
   rw [List.flatten_cons,List.length_append]
   rcases List.mem_cons.1 hg with rfl | hg
   ·omega
   ·have:=ih g hg;omega
 refine ⟨fun g hg => ⟨(c1 g hg).ne,(c1 g hg).srt,fun a ha => ?_⟩,fun p g hp => dj_at c2 hp,fun g hg fr hf tz ht hne S hS hc => grp_reach hV.asc (c1 g hg) hf ht hne S hS hc,fun p g hp a ha u hu => ?_,by omega,fun x hx => ?_,?_,?_⟩
 ·obtain ⟨x,hx,rfl⟩:=List.mem_map.1 ((c1 g hg).sub a ha)
  exact (hV.v x hx).id
 ·rcases ordr_at c4 hp a ha u ((usB_iff hV.asc).1 hu) with h | h
  ·exact h
  ·cases h
 ·obtain ⟨g,hg,hxg⟩:=(c3 x.id).1 (List.mem_map.2 ⟨x,hx,rfl⟩)
  exact List.mem_flatten.2 ⟨g,hg,hxg⟩
 ·have:=hsum R fun g hg => (c1 g hg).ne
  omega
 ·intro g hg
  have:=hone R g hg
  omega
end Go.Proofs.YtmmecapgnmlaiaaGreatDoor
