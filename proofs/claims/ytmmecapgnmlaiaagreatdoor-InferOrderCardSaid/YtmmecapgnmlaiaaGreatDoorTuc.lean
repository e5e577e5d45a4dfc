/- infer.checkDecls -/
import Derived.Test.YtmmecapgnmlaiaaGreatDoorTuw
import Derived.Test.YtmmecapgnmlaiaaGreatDoorZxj
namespace Go.Proofs.YtmmecapgnmlaiaaGreatDoor
open Go Go.RowKit Go.Proofs Go.Proofs.Scc
def refB (ids : List Int) (sch : ByteArray × Int → Bool) (r : ByteArray × Int) : Bool:=if r.1 = ⟨#[]⟩ then decide (r.2 ∈ ids) else sch r
def confD (met : List ByteArray) (x : Dc) : Bool:=x.names.length != 1 || x.doubt || (x.k == 15 || x.s.sum) || hasN met (nameOf x)
def chkD (ids : List Int) (sch : ByteArray × Int → Bool) : List ByteArray → List Dc → Int × Int
 | _,[] => (0,0)
 | met,x :: l => if confD met x = true then (x.id,17) else if (x.refs.all (refB ids sch)) = false then (x.id,21) else chkD ids sch (met ++ [nameOf x]) l
theorem Tryz.undSetS : Tryz.prog.underlying 140 = some (.map 9 4):=by kernel_rfl
structure CdI (W : World) (tb : Nat) (mo : Array Value) (ids : List Int) (j : Nat) (w : World) : Prop where
 bl : RowKit.Below W.heap.size W w
 box : w.heap[W.heap.size]? = some (.cells mo 25 (0,0))
 lt : W.heap.size < tb
 tm : MapA intK w tb j (fun a => if a ∈ ids.take j then some (.bool true) else none)
section
variable {W w w' : World} {tb mb j : Nat} {mo : Array Value} {ids : List Int} {met : List ByteArray}
theorem CdI.below (h : CdI W tb mo ids j w) (hb : RowKit.Below w.heap.size w w') : CdI W tb mo ids j w':=⟨h.bl.trans (hb.mono h.bl.size),(hb.block _ (lt_of_block h.box)).trans h.box,h.lt,h.tm.keep (hb.block tb h.tm.lt)⟩
theorem CdI.put (h : CdI W tb mo ids j w) {a : Int} (hj : ids[j]? = some a) (ha : intK.ok a) (hjm : j < maxLen) :
  ∃ Y,(Instr.mapUpdate 79 (.map (some tb)) (.int .i64 a) (.bool true)).run Tryz.prog w = .ok () Y ∧ CdI W tb mo ids (j + 1) Y:=by
 obtain ⟨Y,hr,hm2,hgr⟩:=h.tm.put (t:=79) Tryz.undBoolM hjm ha (.bool true)
 have htk : ids.take (j + 1) = ids.take j ++ [a]:=by rw [List.take_add_one,hj];rfl
 have hlt:=h.lt
 refine ⟨Y,hr,h.bl.trans (grown_bel hgr h.bl.size (fun k e => by have:=Option.some.inj e;omega)),(hgr.block _ (lt_of_block h.box) (fun e => by have:=Option.some.inj e;omega)).trans h.box,hlt,hm2.cong fun x _ => ?_⟩
 rw [htk]
 by_cases e : x = a
 ·subst e;simp
 ·simp [e]
theorem CdI.look (h : CdI W tb mo ids ids.length w) {a : Int} (ha : intK.ok a) : (Instr.lookup 79 (.map (some tb)) (.int .i64 a) false).run Tryz.prog w = .ok (.bool (decide (a ∈ ids))) w:=by
 have:=h.tm.look false (t:=79) Tryz.undBoolM (zeroBoolI w) ha
 simp only [Bool.false_eq_true,if_false,intK] at this
 have e : (if a ∈ ids.take ids.length then some (Value.bool true) else none).getD (.bool false) = .bool (decide (a ∈ ids)):=by
  rw [List.take_length]
  by_cases e : a ∈ ids
  ·rw [if_pos e,decide_eq_true e];rfl
  ·rw [if_neg e,decide_eq_false e];rfl
 rw [e] at this
 exact this
structure CdM (W : World) (tb mb : Nat) (mo : Array Value) (ids : List Int) (met : List ByteArray) (w : World) : Prop where
 i : CdI W tb mo ids ids.length w
 ne : tb < mb
 mm : MapA strK w mb met.length (fun a => if hasN met a = true then some (.bool true) else none)
theorem CdM.below (h : CdM W tb mb mo ids met w) (hb : RowKit.Below w.heap.size w w') : CdM W tb mb mo ids met w':=⟨h.i.below hb,h.ne,h.mm.keep (hb.block mb h.mm.lt)⟩
theorem CdM.put (h : CdM W tb mb mo ids met w) {a : ByteArray} (ha : a.size ≤ maxLen) (hl : met.length < maxLen) :
  ∃ Y,(Instr.mapUpdate 140 (.map (some mb)) (.string a) (.bool true)).run Tryz.prog w = .ok () Y ∧ CdM W tb mb mo ids (met ++ [a]) Y ∧ (∀ k,k < w.heap.size → k ≠ mb → Y.heap[k]? = w.heap[k]?) ∧ w.heap.size ≤ Y.heap.size:=by
 obtain ⟨Y,hr,hm2,hgr⟩:=h.mm.put (t:=140) Tryz.undSetS hl ha (.bool true)
 have hlt:=h.i.lt
 have hne:=h.ne
 have hs : ∀ k,k < w.heap.size → k ≠ mb → Y.heap[k]? = w.heap[k]?:=fun k hk hne => hgr.block k hk (fun e => hne (Option.some.inj e))
 refine ⟨Y,hr,⟨⟨h.i.bl.trans (grown_bel hgr h.i.bl.size (fun k e => by have:=Option.some.inj e;omega)),(hs _ (lt_of_block h.i.box) (by omega)).trans h.i.box,hlt,h.i.tm.keep (hs tb h.i.tm.lt (by omega))⟩,hne,?_⟩,hs,hgr.size⟩
 rw [List.length_append,List.length_singleton]
 refine hm2.cong fun x _ => ?_
 have e2 : hasN (met ++ [a]) x = (hasN met x || (a.data.toList == x.data.toList)):=by simp [hasN]
 rw [e2]
 by_cases e : x = a
 ·subst e;simp
 ·have : (a.data.toList == x.data.toList) = false:=by
   rw [beq_eq_false_iff_ne]
   intro h'
   exact e (by cases x;cases a;exact congrArg ByteArray.mk (Array.ext' h'.symm))
  rw [if_neg e,this,Bool.or_false]
theorem CdM.look (h : CdM W tb mb mo ids met w) {a : ByteArray} (ha : a.size ≤ maxLen) : (Instr.lookup 140 (.map (some mb)) (.string a) false).run Tryz.prog w = .ok (.bool (hasN met a)) w:=by
 have:=h.mm.look false (t:=140) Tryz.undSetS (zeroBoolI w) ha
 simp only [Bool.false_eq_true,if_false,strK] at this
 have e : (if hasN met a = true then some (Value.bool true) else none).getD (.bool false) = .bool (hasN met a):=by cases hasN met a <;> rfl
 rw [e] at this
 exact this
end
def SchB (W : World) (mv kv : Value) (ds : List Dc) (sch : ByteArray × Int → Bool) : Prop:=∀ x ∈ ds,∀ r ∈ x.refs,r.1 ≠ ⟨#[]⟩ → ∀ X,RowKit.Below W.heap.size W X → Calls Tryz.prog 94 #[mv,kv,.agg #[.string r.1,.int .i64 r.2]] X fun e Y => ∃ sv,e = .returned (.tuple #[sv,.bool (sch r)]) ∧ RowKit.Below X.heap.size X Y
set_option maxRecDepth 100000 in
set_option maxHeartbeats 8000000 in
theorem checkDecls_any (label : ByteArray) (uses : List ByteArray) (uA : Option Addr) (uc : Nat) (ds : List Dc) (dA : Option Addr) (dc : Nat) (kA : Option Addr) (kn kc : Nat) (W : World) (hd : SlD W W.heap.size dA dc ds) (hV : MdV label ds) (hst : StrD ds)
  (sch : ByteArray × Int → Bool) (hs : SchB W (.agg #[.string label,.slice uA uses.length uc,.slice dA ds.length dc]) (.slice kA kn kc) ds sch) :
  Calls Tryz.prog 49 #[.agg #[.string label,.slice uA uses.length uc,.slice dA ds.length dc],.slice kA kn kc] W fun e Y => e = .returned (.tuple #[.int .i64 (chkD (idsF ds) sch [] ds).1,.int .i64 (chkD (idsF ds) sch [] ds).2]) ∧ RowKit.Below W.heap.size W Y:=by
 have hmm:=@run_makeMap Tryz.prog
 obtain ⟨W0,hW0⟩ : ∃ W0,W.alloc (.cells #[.string label,.slice uA uses.length uc,.slice dA ds.length dc] 25) = W0:=⟨_,rfl⟩
 have hb0 : RowKit.Below W.heap.size W W0:=by subst hW0;exact (RowKit.Below.refl _ _).alloc (Nat.le_refl _) _
 have hr0 : W0.heap[W.heap.size]? = some (.cells #[.string label,.slice uA uses.length uc,.slice dA ds.length dc] 25 (0,0)):=by subst hW0;exact heap_alloc_new W _
 have hz0 : W.heap.size < W0.heap.size:=by subst hW0;simp
 obtain ⟨R,HR⟩ : ∃ R,Hid (chkD (idsF ds) sch [] ds = R):=⟨_,Lib.hid rfl⟩
 rw [HR.out]
 obtain ⟨N,HN⟩ : ∃ N,Hid (ds.length = N):=⟨_,Lib.hid rfl⟩
 obtain ⟨NU,HNU⟩ : ∃ N,Hid (uses.length = N):=⟨_,Lib.hid rfl⟩
 rw [HN.out,HNU.out] at hW0 hr0 hs ⊢
 have t2:=cell_of_row W0 W.heap.size 2 _ _ (0,0) hr0
 simp at t2
 have hids : (idsF ds).length = N:=by rw [← HN.out];exact List.length_map ..
 have hN100 : N ≤ 100:=by rw [← HN.out];exact hV.len
 have HIL:=Lib.hid hids
 have hdc:=hd.2.1
 have hdl:=hd.1
 unfold maxLen at hdc
 rw [HN.out] at hdl
 have HD:=Lib.hid (And.intro hd (And.intro hV (And.intro hst hs)))
 have HB0:=Lib.hid (And.intro hb0 (And.intro hr0 hz0))
 obtain ⟨mo,Hmo⟩ : ∃ mo : Array Value,Hid (mo = #[.string label,.slice uA NU uc,.slice dA N dc]):=⟨_,Lib.hid rfl⟩
 obtain ⟨tb,Htb⟩ : ∃ tb,Hid (W0.heap.size = tb):=⟨_,Lib.hid rfl⟩
 have hT0 : CdI W tb mo (idsF ds) 0 (W0.alloc (.map #[] 0)):=by
  refine ⟨hb0.alloc hb0.size _,(Below.heap_alloc _ _ _ hz0).trans (by rw [Hmo.out];exact hr0),by rw [← Htb.out];exact hz0,?_⟩
  rw [← Htb.out]
  exact (MapA.made intK W0).cong fun a _ => by simp
 have HT0:=Lib.hid hT0
 clear hd hb0 hr0 hV hst hs hids hT0
 go_enter Tryz.func49,Tryz.ntmps49
 go_upto_region 1 with fail
 try rw [hW0]
 go_wp2
 rw [Htb.out]
 go_loopg [8,19] N (fun g _ ct w => ∃ j : Nat,g = N - j ∧ j ≤ N ∧ ct = .int .i64 j ∧ CdI W tb mo (idsF ds) j w)
 case atStart => exact ⟨0,rfl,Nat.zero_le _,rfl,HT0.out⟩
 case round =>
  obtain ⟨j,hg,hj,rfl,hI⟩:=hrel
  by_cases hlt : j < N
  ·have hlt' : j < ds.length:=by rw [HN.out];exact hlt
   obtain ⟨x,hx⟩ : ∃ x,ds[j]? = some x:=⟨_,List.getElem?_eq_getElem hlt'⟩
   have hxv:=(HD.out.2.1.v x (List.mem_of_getElem? hx)).id
   have hxj : (idsF ds)[j]? = some x.id:=by unfold idsF;rw [List.getElem?_map,hx];rfl
   have hd:=HD.out.1.keepW hI.bl
   obtain ⟨b,o,rfl,hb,hall⟩:=hd.2.2 (by intro e;rw [e] at hlt';simp at hlt')
   obtain ⟨hcs,hxok⟩:=hall j x hx
   obtain ⟨xid,xkind,xpub,xnA,xnc,xnames,xdoubt,xk,xn,xm,xi,xd,xA,xc,xs⟩:=x
   have d0 : wr.cell? ⟨b,o + j * 11,none⟩ = some (.int .i64 xid):=hcs 0 _ rfl
   have d1 : wr.cell? ⟨b,o + j * 11 + 1,none⟩ = some (.int .i64 xkind):=hcs 1 _ rfl
   have d2 : wr.cell? ⟨b,o + j * 11 + 2,none⟩ = some (.bool xpub):=hcs 2 _ rfl
   have d3 : wr.cell? ⟨b,o + j * 11 + 3,none⟩ = some (.slice xnA xnames.length xnc):=hcs 3 _ rfl
   have d4 : wr.cell? ⟨b,o + j * 11 + 4,none⟩ = some (.bool xdoubt):=hcs 4 _ rfl
   have d5 : wr.cell? ⟨b,o + j * 11 + 5,none⟩ = some (.int .i64 xk):=hcs 5 _ rfl
   have d6 : wr.cell? ⟨b,o + j * 11 + 6,none⟩ = some (.string xn):=hcs 6 _ rfl
   have d7 : wr.cell? ⟨b,o + j * 11 + 7,none⟩ = some (.string xm):=hcs 7 _ rfl
   have d8 : wr.cell? ⟨b,o + j * 11 + 8,none⟩ = some (.int .i64 xi):=hcs 8 _ rfl
   have d9 : wr.cell? ⟨b,o + j * 11 + 9,none⟩ = some (.int .i64 xd):=hcs 9 _ rfl
   have d10 : wr.cell? ⟨b,o + j * 11 + 10,none⟩ = some (.slice xA xs.len xc):=hcs 10 _ rfl
   simp only at hxj hxv
   obtain ⟨W3,hW3⟩ : ∃ W3,wr.alloc (.cells #[.int .i64 xid,.int .i64 xkind,.bool xpub,.slice xnA xnames.length xnc,.bool xdoubt,.int .i64 xk,.string xn,.string xm,.int .i64 xi,.int .i64 xd,.slice xA xs.len xc] 46) = W3:=⟨_,rfl⟩
   have hb3 : RowKit.Below wr.heap.size wr W3:=by subst hW3;exact (RowKit.Below.refl _ _).alloc (Nat.le_refl _) _
   have hr3 : W3.heap[wr.heap.size]? = some (.cells #[.int .i64 xid,.int .i64 xkind,.bool xpub,.slice xnA xnames.length xnc,.bool xdoubt,.int .i64 xk,.string xn,.string xm,.int .i64 xi,.int .i64 xd,.slice xA xs.len xc] 46 (0,0)):=by subst hW3;exact heap_alloc_new wr _
   have e0:=cell_of_row W3 wr.heap.size 0 _ _ (0,0) hr3
   simp at e0
   obtain ⟨Z,hrun,hI2⟩:=(hI.below hb3).put hxj (wf64 hxv) (by unfold maxLen;omega)
   have HI2:=Lib.hid (And.intro hg hI2)
   clear hI hd hall hcs hx hxv hxj hb3 hr3 hg hlt' hI2 hxok
   go_upto_region 5 with fail
   try rw [hW3]
   go_wp2
   go_roundg (N - (j + 1))
   case measure => have:=HI2.out.1;omega
   case rel => exact ⟨j + 1,rfl,by omega,by go_num,HI2.out.2⟩
  ·have hjN : N = j:=by omega
   subst hjN
   have i1 : decide ((N : Int) < (N : Int)) = false:=decide_eq_false (by omega)
   have i2 : decide (N < N) = false:=decide_eq_false (by omega)
   have s3 : wr.cell? ⟨W.heap.size,2,none⟩ = some (.slice dA N dc):=by
    have:=hI.box
    rw [Hmo.out] at this
    have:=cell_of_row wr W.heap.size 2 _ _ (0,0) this
    simpa using this
   have hwz:=lt_of_block hI.box
   rw [← HIL.out] at hI
   obtain ⟨mb,Hmb⟩ : ∃ mb,Hid (wr.heap.size = mb):=⟨_,Lib.hid rfl⟩
   have hM0 : CdM W tb mb mo (idsF ds) [] (wr.alloc (.map #[] 0)):=by
    refine ⟨hI.below ((RowKit.Below.refl _ _).alloc (Nat.le_refl _) _),by rw [← Hmb.out];exact hI.tm.lt,?_⟩
    rw [← Hmb.out]
    exact (MapA.made strK wr).cong fun a _ => by simp [hasN]
   have HM0:=Lib.hid hM0
   clear hI hg hM0
   go_wp2
   rw [Hmb.out]
   clear hwz
   go_loopg [11,31] N (fun g _ ct w => ∃ (j : Nat) (met : List ByteArray),g = N - j ∧ j ≤ N ∧ ct = .int .i64 j ∧ CdM W tb mb mo (idsF ds) met w ∧ met.length = j ∧ R = chkD (idsF ds) sch met (ds.drop j))
   case atStart => exact ⟨0,[],rfl,Nat.zero_le _,rfl,HM0.out,rfl,HR.out.symm⟩
   case round =>
    obtain ⟨j,met,hg,hj,rfl,hI,hml,hR⟩:=hrel
    by_cases hlt : j < N
    ·have hlt' : j < ds.length:=by rw [HN.out];exact hlt
     obtain ⟨x,hx⟩ : ∃ x,ds[j]? = some x:=⟨_,List.getElem?_eq_getElem hlt'⟩
     have hxm:=List.mem_of_getElem? hx
     have hxv:=HD.out.2.1.v x hxm
     have hxs:=HD.out.2.2.1 x hxm
     have hdr : ds.drop j = x :: ds.drop (j + 1):=by
      have h1:=List.getElem?_eq_some_iff.1 hx
      rw [List.drop_eq_getElem_cons h1.1,h1.2]
     rw [hdr] at hR
     have HSLW:=Lib.hid (show ∀ Y,RowKit.Below W.heap.size W Y → x.s.Sl Y Y.heap.size x.A x.c from fun Y hY => by
      obtain ⟨b',o',_,_,hall'⟩:=(HD.out.1.keepW hY).2.2 (by intro e;rw [e] at hlt';simp at hlt')
      exact (hall' j x hx).2.2.keep hY.size fun _ _ => rfl)
     have HWZ:=Lib.hid hI.i.bl.size
     have hrf : x.refs = refsOf (Fo.cons x.k x.n x.m x.i x.d x.A x.c x.s .nil).vis:=rfl
     obtain ⟨RF,HRF⟩ : ∃ RF,Hid (x.refs = RF):=⟨_,Lib.hid rfl⟩
     have hxr:=hxv.refs
     have hxid:=hxv.id
     have hcnt:=hxv.cnt
     have hchk : chkD (idsF ds) sch met (x :: ds.drop (j + 1)) = if confD met x = true then (x.id,17) else if (x.refs.all (refB (idsF ds) sch)) = false then (x.id,21) else chkD (idsF ds) sch (met ++ [nameOf x]) (ds.drop (j + 1)):=rfl
     rw [hchk] at hR
     have hsc:=HD.out.2.2.2 x hxm
     rw [HRF.out] at hrf hxr hR hsc
     have hcf : confD met x = (x.names.length != 1 || x.doubt || (x.k == 15 || x.s.sum) || hasN met (nameOf x)):=rfl
     have hd:=HD.out.1.keepW hI.i.bl
     obtain ⟨b,o,rfl,hb,hall⟩:=hd.2.2 (by intro e;rw [e] at hlt';simp at hlt')
     obtain ⟨hcs,hxok⟩:=hall j x hx
     obtain ⟨xid,xkind,xpub,xnA,xnc,xnames,xdoubt,xk,xn,xm,xi,xd,xA,xc,xs⟩:=x
     have d0 : wr.cell? ⟨b,o + j * 11,none⟩ = some (.int .i64 xid):=hcs 0 _ rfl
     have d1 : wr.cell? ⟨b,o + j * 11 + 1,none⟩ = some (.int .i64 xkind):=hcs 1 _ rfl
     have d2 : wr.cell? ⟨b,o + j * 11 + 2,none⟩ = some (.bool xpub):=hcs 2 _ rfl
     have d3 : wr.cell? ⟨b,o + j * 11 + 3,none⟩ = some (.slice xnA xnames.length xnc):=hcs 3 _ rfl
     have d4 : wr.cell? ⟨b,o + j * 11 + 4,none⟩ = some (.bool xdoubt):=hcs 4 _ rfl
     have d5 : wr.cell? ⟨b,o + j * 11 + 5,none⟩ = some (.int .i64 xk):=hcs 5 _ rfl
     have d6 : wr.cell? ⟨b,o + j * 11 + 6,none⟩ = some (.string xn):=hcs 6 _ rfl
     have d7 : wr.cell? ⟨b,o + j * 11 + 7,none⟩ = some (.string xm):=hcs 7 _ rfl
     have d8 : wr.cell? ⟨b,o + j * 11 + 8,none⟩ = some (.int .i64 xi):=hcs 8 _ rfl
     have d9 : wr.cell? ⟨b,o + j * 11 + 9,none⟩ = some (.int .i64 xd):=hcs 9 _ rfl
     have d10 : wr.cell? ⟨b,o + j * 11 + 10,none⟩ = some (.slice xA xs.len xc):=hcs 10 _ rfl
     simp only at hrf hxid hcnt hR hxs hcf
     obtain ⟨W3,hW3⟩ : ∃ W3,wr.alloc (.cells #[.int .i64 xid,.int .i64 xkind,.bool xpub,.slice xnA xnames.length xnc,.bool xdoubt,.int .i64 xk,.string xn,.string xm,.int .i64 xi,.int .i64 xd,.slice xA xs.len xc] 46) = W3:=⟨_,rfl⟩
     have hb3 : RowKit.Below wr.heap.size wr W3:=by subst hW3;exact (RowKit.Below.refl _ _).alloc (Nat.le_refl _) _
     have hr3 : W3.heap[wr.heap.size]? = some (.cells #[.int .i64 xid,.int .i64 xkind,.bool xpub,.slice xnA xnames.length xnc,.bool xdoubt,.int .i64 xk,.string xn,.string xm,.int .i64 xi,.int .i64 xd,.slice xA xs.len xc] 46 (0,0)):=by subst hW3;exact heap_alloc_new wr _
     have e0:=cell_of_row W3 wr.heap.size 0 _ _ (0,0) hr3
     have e1:=cell_of_row W3 wr.heap.size 1 _ _ (0,0) hr3
     have e2:=cell_of_row W3 wr.heap.size 2 _ _ (0,0) hr3
     have e3:=cell_of_row W3 wr.heap.size 3 _ _ (0,0) hr3
     have e4:=cell_of_row W3 wr.heap.size 4 _ _ (0,0) hr3
     have e5:=cell_of_row W3 wr.heap.size 5 _ _ (0,0) hr3
     have e6:=cell_of_row W3 wr.heap.size 6 _ _ (0,0) hr3
     have e7:=cell_of_row W3 wr.heap.size 7 _ _ (0,0) hr3
     have e8:=cell_of_row W3 wr.heap.size 8 _ _ (0,0) hr3
     have e9:=cell_of_row W3 wr.heap.size 9 _ _ (0,0) hr3
     have e10:=cell_of_row W3 wr.heap.size 10 _ _ (0,0) hr3
     simp at e0 e1 e2 e3 e4 e5 e6 e7 e8 e9 e10
     have hI3:=hI.below hb3
     have hsl : xs.Sl W3 W3.heap.size xA xc:=hxok.2.keep (by have:=hI.i.bl.size;have:=hb3.size;omega) fun p hp => hb3.cell (by have:=hI.i.bl.size;omega)
     have hnl:=hxok.1
     have hBW : RowKit.Below W.heap.size W W3:=hI3.i.bl
     obtain ⟨sl,hsl'⟩ : ∃ sl,Hid (xs.len = sl):=⟨_,Lib.hid rfl⟩
     have HSM:=Lib.hid (iHasSum_any xs xk xn xm xi xd xA xc W3 hsl)
     obtain ⟨sm,Hsm⟩ : ∃ sm,Hid ((xk == 15 || xs.sum) = sm):=⟨_,Lib.hid rfl⟩
     rw [Hsm.out] at HSM hcf
     obtain ⟨cf,Hcf⟩ : ∃ cf,Hid (confD met ⟨xid,xkind,xpub,xnA,xnc,xnames,xdoubt,xk,xn,xm,xi,xd,xA,xc,xs⟩ = cf):=⟨_,Lib.hid rfl⟩
     rw [Hcf.out] at hR hcf
     rw [hsl'.out] at HSM hW3 d10 e10
     have HJ:=Lib.hid (And.intro hg (And.intro hI3 (And.intro hml (And.intro hR (And.intro hrf (And.intro hxr (And.intro hxid (And.intro hcnt (And.intro hxs (And.intro hsl (And.intro hnl (And.intro hb3 (And.intro hr3 (And.intro hBW hsc))))))))))))))
     clear hg hI hml hR hd hall hcs hxok hx hxm hxv hxs hdr hrf hxr hxid hcnt hchk hlt' hb3 hr3 hI3 hsl hnl hBW hsc
     by_cases hn1 : xnames.length = 1
     rotate_left
     ·have hn1' : ((xnames.length : Int) != 1) = true:=by simp;omega
      have HV:=Lib.hid (show R = (xid,17) by rw [HJ.out.2.2.2.1,if_pos (by rw [hcf];simp [hn1])])
      clear hn1
      go_upto_region 11 with fail
      try rw [hW3]
      go_wp2
      refine bodyPost_ret (v:=.tuple #[.int .i64 xid,.int .i64 17]) (by simp [results,Tryz.results49,go_sem]) rfl ?_
      exact ⟨by rw [HV.out],HJ.out.2.1.i.bl⟩
     obtain ⟨nm,rfl⟩ : ∃ nm,xnames = [nm]:=List.length_eq_one_iff.1 hn1
     cases xdoubt
     rotate_left
     ·have HV:=Lib.hid (show R = (xid,17) by rw [HJ.out.2.2.2.1,if_pos (by rw [hcf];simp)])
      simp only [List.length_singleton] at d3 e3 hW3
      clear hn1
      go_upto_region 11 with fail
      try rw [hW3]
      go_wp2
      refine bodyPost_ret (v:=.tuple #[.int .i64 xid,.int .i64 17]) (by simp [results,Tryz.results49,go_sem]) rfl ?_
      exact ⟨by rw [HV.out],HJ.out.2.1.i.bl⟩
     obtain ⟨nb,no,rfl,hnb,hncell⟩:=HJ.out.2.2.2.2.2.2.2.2.2.2.1.at_ (j:=0) (by simp)
     have hnc2:=HJ.out.2.2.2.2.2.2.2.2.2.2.1.1
     have hnc3:=HJ.out.2.2.2.2.2.2.2.2.2.2.1.2.1
     unfold maxLen at hnc3
     simp only [List.length_singleton,List.getElem_cons_zero,Nat.add_zero] at hncell hnc2 d3 e3 hW3 hcf
     have hns : nm.size ≤ maxLen:=HJ.out.2.2.2.2.2.2.2.2.1 nm (by simp)
     have HNS:=Lib.hid hns
     have hcf' : cf = (sm || hasN met nm):=by rw [hcf];simp [nameOf]
     have hncW : ∀ Y,RowKit.Below W3.heap.size W3 Y → Y.cell? ⟨nb,no,none⟩ = some (.string nm):=fun Y hb => (hb.cell (p:=⟨nb,no,none⟩) (by have:=HJ.out.2.2.2.2.2.2.2.2.2.2.2.2.2.1.size;simp;omega)).trans ((HJ.out.2.2.2.2.2.2.2.2.2.2.2.1.cell (p:=⟨nb,no,none⟩) (by have:=HWZ.out;show nb < wr.heap.size;omega)).trans hncell)
     have HNC:=Lib.hid hncW
     have HCF:=Lib.hid hcf'
     have HF:=Lib.hid (show ∀ Y : World,Y.heap[wr.heap.size]? = W3.heap[wr.heap.size]? → Y.cell? ⟨wr.heap.size,0,none⟩ = some (.int .i64 xid) ∧ Y.cell? ⟨wr.heap.size,3,none⟩ = some (.slice (some ⟨nb,no,none⟩) 1 xnc) ∧ Y.cell? ⟨wr.heap.size,5,none⟩ = some (.int .i64 xk) ∧ Y.cell? ⟨wr.heap.size,6,none⟩ = some (.string xn) ∧ Y.cell? ⟨wr.heap.size,7,none⟩ = some (.string xm) ∧ Y.cell? ⟨wr.heap.size,8,none⟩ = some (.int .i64 xi) ∧ Y.cell? ⟨wr.heap.size,9,none⟩ = some (.int .i64 xd) ∧ Y.cell? ⟨wr.heap.size,10,none⟩ = some (.slice xA sl xc) from fun Y hY => by
      have h:=hY.trans HJ.out.2.2.2.2.2.2.2.2.2.2.2.2.1
      rw [hsl'.out] at h
      exact ⟨cell_of_row Y _ 0 _ _ (0,0) h,cell_of_row Y _ 3 _ _ (0,0) h,cell_of_row Y _ 5 _ _ (0,0) h,cell_of_row Y _ 6 _ _ (0,0) h,cell_of_row Y _ 7 _ _ (0,0) h,cell_of_row Y _ 8 _ _ (0,0) h,cell_of_row Y _ 9 _ _ (0,0) h,cell_of_row Y _ 10 _ _ (0,0) h⟩)
     have HZ3:=Lib.hid (show wr.heap.size < W3.heap.size from lt_of_block HJ.out.2.2.2.2.2.2.2.2.2.2.2.2.1)
     clear hcf hcf' hncW hncell hns hn1 hnb
     go_upto_region 11 with fail
     try rw [hW3]
     go_wp2_with fail
     with_reducible refine Calls.mono HSM.out ?_
     rintro e w4 ⟨rfl,hb4⟩
     obtain ⟨g0,g3,g5,g6,g7,g8,g9,g10⟩:=HF.out w4 (hb4.block _ HZ3.out)
     have nc4:=HNC.out w4 hb4
     have hI4:=HJ.out.2.1.below hb4
     have hlk:=hI4.look HNS.out
     have HB4:=Lib.hid (And.intro hb4 hI4)
     clear hb4 hI4 d0 d1 d2 d3 d4 d5 d6 d7 d8 d9 d10 e0 e1 e2 e3 e4 e5 e6 e7 e8 e9 e10 hW3
     cases sm with
     | true =>
      have HV:=Lib.hid (show R = (xid,17) by rw [HJ.out.2.2.2.1,if_pos (by rw [HCF.out];rfl)])
      go_wp2
      refine bodyPost_ret (v:=.tuple #[.int .i64 xid,.int .i64 17]) (by simp [results,Tryz.results49,go_sem]) rfl ?_
      exact ⟨by rw [HV.out],HB4.out.2.i.bl⟩
     | false =>
      cases hm : hasN met nm with
      | true =>
       rw [hm] at hlk
       have HV:=Lib.hid (show R = (xid,17) by rw [HJ.out.2.2.2.1,if_pos (by rw [HCF.out,hm];rfl)])
       clear hm
       go_wp2
       refine bodyPost_ret (v:=.tuple #[.int .i64 xid,.int .i64 17]) (by simp [results,Tryz.results49,go_sem]) rfl ?_
       exact ⟨by rw [HV.out],HB4.out.2.i.bl⟩
      | false =>
       rw [hm] at hlk
       obtain ⟨Z,hrun,hIZ,hsZ,hzZ⟩:=HB4.out.2.put HNS.out (by have:=HJ.out.2.2.1;unfold maxLen;omega)
       have hR2 : R = if (RF.all (refB (idsF ds) sch)) = false then (xid,21) else chkD (idsF ds) sch (met ++ [nm]) (ds.drop (j + 1)):=by
        rw [HJ.out.2.2.2.1,if_neg (by rw [HCF.out,hm];simp)]
        rfl
       have hwm : wr.heap.size ≠ mb:=fun e => by
        obtain ⟨_,_,⟨es,cl,h1,_⟩,_⟩:=HJ.out.2.1.mm
        have h2:=HJ.out.2.2.2.2.2.2.2.2.2.2.2.2.1
        rw [e,h1] at h2
        cases h2
       obtain ⟨z0,z3,z5,z6,z7,z8,z9,z10⟩:=HF.out Z ((hsZ _ (Nat.lt_of_lt_of_le HZ3.out HB4.out.1.size) hwm).trans (HB4.out.1.block _ HZ3.out))
       have hRF:=refs_any xk xn xm xi xd xA xc xs Z (HSLW.out Z hIZ.i.bl) (by have:=HJ.out.2.2.2.2.2.2.2.1;omega)
       rw [← HJ.out.2.2.2.2.1,hsl'.out] at hRF
       have HRF2:=Lib.hid hRF
       have HZ:=Lib.hid (And.intro hIZ (And.intro hR2 (show wr.heap.size < Z.heap.size from Nat.lt_of_lt_of_le HZ3.out (Nat.le_trans HB4.out.1.size hzZ))))
       have hzI:=(show Z.heap[wr.heap.size]? = W3.heap[wr.heap.size]? from (hsZ _ (Nat.lt_of_lt_of_le HZ3.out HB4.out.1.size) hwm).trans (HB4.out.1.block _ HZ3.out))
       have HZI:=Lib.hid hzI
       obtain ⟨LR,HLR⟩ : ∃ LR,Hid (RF.length = LR):=⟨_,Lib.hid rfl⟩
       have hLRb : LR ≤ 1000:=by
        rw [← HLR.out,HJ.out.2.2.2.2.1]
        refine Nat.le_trans refsOf_le ?_
        rw [Fo.vis_length]
        simp only [Fo.count]
        have:=HJ.out.2.2.2.2.2.2.2.1
        omega
       clear hm hIZ hR2 hsZ hzZ hRF hwm hzI
       go_wp2_with (go_at_call 54;(with_reducible refine Calls.mono HRF2.out ?_);rintro e w6 ⟨rv,rfl,hrow6,hb6⟩;obtain ⟨rA,rc,rfl⟩:=row_slice hrow6;have HR6:=Lib.hid (And.intro hrow6 hb6);clear hrow6 hb6;rw [HLR.out])
       go_loopg [13,14,67] LR (fun g _ _ ct w => ∃ q : Nat,g = LR - q ∧ q ≤ LR ∧ ct = .int .i64 q ∧ RowKit.Below w6.heap.size w6 w ∧ ∀ r ∈ RF.take q,refB (idsF ds) sch r = true)
       case atStart => exact ⟨0,rfl,Nat.zero_le _,rfl,RowKit.Below.refl _ _,by simp⟩
       case round =>
        obtain ⟨q,hg,hq,rfl,hB7,hin⟩:=hrel
        have hZ7 : RowKit.Below Z.heap.size Z wr:=HR6.out.2.trans (hB7.mono HR6.out.2.size)
        by_cases hlq : q < LR
        ·have hlq' : q < RF.length:=by rw [HLR.out];exact hlq
         obtain ⟨r,hr⟩ : ∃ r,RF[q]? = some r:=⟨_,List.getElem?_eq_getElem hlq'⟩
         have hrm:=List.mem_of_getElem? hr
         obtain ⟨n0,n1⟩:=namesC_at r RF q hr
         obtain ⟨rb,rfl⟩ : ∃ rb,rA = some ⟨rb,0,none⟩:=by
          rcases HR6.out.1.2 with ⟨e,e'⟩ | ⟨g',cap',cur,e,_⟩
          ·omega
          ·cases e;exact ⟨_,rfl⟩
         have hrbz:=(HR6.out.1.lt rb rfl).2
         have hrow':=HR6.out.1
         have c0 : wr.cell? ⟨rb,q * 2,none⟩ = some (.string r.1):=(hB7.cell (p:=⟨rb,q * 2,none⟩) hrbz).trans ((hrow'.cellAt _ (by omega)).trans n0)
         have c1 : wr.cell? ⟨rb,q * 2 + 1,none⟩ = some (.int .i64 r.2):=(hB7.cell (p:=⟨rb,q * 2 + 1,none⟩) hrbz).trans ((hrow'.cellAt _ (by omega)).trans n1)
         have htk : RF.take (q + 1) = RF.take q ++ [r]:=by rw [List.take_add_one,hr];rfl
         have hrok:=HJ.out.2.2.2.2.2.1 r hrm
         have hrsc:=HJ.out.2.2.2.2.2.2.2.2.2.2.2.2.2.2 r hrm
         have hnext : refB (idsF ds) sch r = true → ∀ z ∈ RF.take (q + 1),refB (idsF ds) sch z = true:=fun h z hz => by
          rw [htk,List.mem_append,List.mem_singleton] at hz
          rcases hz with hz | rfl
          ·exact hin z hz
          ·exact h
         have hbad : refB (idsF ds) sch r = false → R = (xid,21):=fun h => by
          rw [HZ.out.2.1,if_pos]
          rw [List.all_eq_false]
          exact ⟨r,hrm,by rw [h];simp⟩
         obtain ⟨rn,ri⟩:=r
         simp only at c0 c1 hrok hrsc
         obtain ⟨W7,hW7⟩ : ∃ W7,wr.alloc (.cells #[.string rn,.int .i64 ri] 102) = W7:=⟨_,rfl⟩
         have hb7 : RowKit.Below wr.heap.size wr W7:=by subst hW7;exact (RowKit.Below.refl _ _).alloc (Nat.le_refl _) _
         have hr7 : W7.heap[wr.heap.size]? = some (.cells #[.string rn,.int .i64 ri] 102 (0,0)):=by subst hW7;exact heap_alloc_new wr _
         have f0:=cell_of_row W7 wr.heap.size 0 _ _ (0,0) hr7
         have f1:=cell_of_row W7 wr.heap.size 1 _ _ (0,0) hr7
         simp at f0 f1
         have hZ8 : RowKit.Below Z.heap.size Z W7:=hZ7.trans (hb7.mono hZ7.size)
         have hI7:=HZ.out.1.below hZ8
         have hlk:=hI7.i.look (wf64 hrok.2)
         have hmbx:=hI7.i.box
         rw [Hmo.out] at hmbx
         have b0:=cell_of_row W7 W.heap.size 0 _ _ (0,0) hmbx
         have b1:=cell_of_row W7 W.heap.size 1 _ _ (0,0) hmbx
         have b2:=cell_of_row W7 W.heap.size 2 _ _ (0,0) hmbx
         simp at b0 b1 b2
         have HX:=Lib.hid (And.intro hg (And.intro (show RowKit.Below w6.heap.size w6 W7 from hB7.trans (hb7.mono hB7.size)) (And.intro hnext (And.intro hbad (show RowKit.Below W.heap.size W W7 from hI7.i.bl)))))
         by_cases he : rn = ⟨#[]⟩
         ·subst he
          have hrf : refB (idsF ds) sch (⟨#[]⟩,ri) = decide (ri ∈ idsF ds):=rfl
          obtain ⟨ok,Hok⟩ : ∃ ok,Hid (decide (ri ∈ idsF ds) = ok):=⟨_,Lib.hid rfl⟩
          rw [Hok.out] at hlk hrf
          have HRF3:=Lib.hid hrf
          obtain ⟨z0',_⟩:=HF.out W7 ((hZ8.block _ HZ.out.2.2).trans HZI.out)
          clear hg hB7 hin hZ7 hr hrm n0 n1 hrow' htk hrok hrsc hnext hbad hb7 hr7 hZ8 hI7 hmbx hlq' hrf
          cases ok with
          | true =>
           go_upto_region 17 with fail
           try rw [hW7]
           go_wp2
           go_roundg (LR - (q + 1))
           case measure => have:=HX.out.1;omega
           case rel => exact ⟨q + 1,rfl,by omega,by go_num,HX.out.2.1,HX.out.2.2.1 HRF3.out⟩
          | false =>
           have HV:=Lib.hid (HX.out.2.2.2.1 HRF3.out)
           go_upto_region 17 with fail
           try rw [hW7]
           go_wp2
           refine bodyPost_ret (v:=.tuple #[.int .i64 xid,.int .i64 21]) (by simp [results,Tryz.results49,go_sem]) rfl ?_
           exact ⟨by rw [HV.out],HX.out.2.2.2.2⟩
         ·have he' : rn.toList.isEmpty = false:=empty_no he
          have hrf : refB (idsF ds) sch (rn,ri) = sch (rn,ri):=by unfold refB;rw [if_neg he]
          have HSC:=Lib.hid (hrsc he W7 hI7.i.bl)
          obtain ⟨ok,Hok⟩ : ∃ ok,Hid (sch (rn,ri) = ok):=⟨_,Lib.hid rfl⟩
          rw [Hok.out] at HSC hrf
          have HRF3:=Lib.hid hrf
          have HZ0:=Lib.hid (show ∀ Y,RowKit.Below W7.heap.size W7 Y → Y.cell? ⟨wr.heap.size,0,none⟩ = W7.cell? ⟨wr.heap.size,0,none⟩ from fun Y hY => hY.cell (lt_of_block hr7))
          have HZ8:=Lib.hid hZ8
          clear hg hB7 hin hZ7 hr hrm n0 n1 hrow' htk hrok hrsc hnext hbad hb7 hr7 hZ8 hI7 hmbx hlq' hrf he
          go_upto_region 17 with fail
          try rw [hW7]
          go_wp2_with fail
          with_reducible refine Calls.mono HSC.out ?_
          rintro e w8 ⟨sv,rfl,hb8⟩
          have hZ9 : RowKit.Below Z.heap.size Z w8:=HZ8.out.trans (hb8.mono HZ8.out.size)
          obtain ⟨z0',_⟩:=HF.out w8 ((hZ9.block _ HZ.out.2.2).trans HZI.out)
          have HB8:=Lib.hid hb8
          clear hb8 hZ9
          cases ok with
          | true =>
           go_wp2
           go_roundg (LR - (q + 1))
           case measure => have:=HX.out.1;omega
           case rel => exact ⟨q + 1,rfl,by omega,by go_num,HX.out.2.1.trans (HB8.out.mono HX.out.2.1.size),HX.out.2.2.1 HRF3.out⟩
          | false =>
           have HV:=Lib.hid (HX.out.2.2.2.1 HRF3.out)
           go_wp2
           refine bodyPost_ret (v:=.tuple #[.int .i64 xid,.int .i64 21]) (by simp [results,Tryz.results49,go_sem]) rfl ?_
           exact ⟨by rw [HV.out],HX.out.2.2.2.2.trans (HB8.out.mono HX.out.2.2.2.2.size)⟩
        ·have hqM : LR = q:=by omega
         subst hqM
         have i1 : decide ((LR : Int) < (LR : Int)) = false:=decide_eq_false (by omega)
         have i2 : decide (LR < LR) = false:=decide_eq_false (by omega)
         rw [List.take_of_length_le (by rw [HLR.out];exact Nat.le_refl _)] at hin
         have HQ:=Lib.hid (And.intro (HZ.out.1.below hZ7) (show R = chkD (idsF ds) sch (met ++ [nm]) (ds.drop (j + 1)) by
          rw [HZ.out.2.1,if_neg]
          rw [Bool.not_eq_false,List.all_eq_true]
          exact hin))
         clear hin hg hB7 hZ7
         go_wp2
         go_roundg (N - (j + 1))
         case measure => have:=HJ.out.1;omega
         case rel => exact ⟨j + 1,met ++ [nm],rfl,by omega,by go_num,HQ.out.1,by rw [List.length_append,HJ.out.2.2.1];rfl,HQ.out.2⟩
    ·have hjN : N = j:=by omega
     subst hjN
     have i1 : decide ((N : Int) < (N : Int)) = false:=decide_eq_false (by omega)
     have i2 : decide (N < N) = false:=decide_eq_false (by omega)
     rw [List.drop_of_length_le (by rw [HN.out];exact Nat.le_refl _)] at hR
     have HQ:=Lib.hid (And.intro hI.i.bl (show R = (0,0) from hR))
     clear hI hR hg hml
     go_wp2
     refine bodyPost_ret (v:=.tuple #[.int .i64 0,.int .i64 0]) (by simp [results,Tryz.results49,go_sem]) rfl ?_
     exact ⟨by rw [HQ.out.2],HQ.out.1⟩
end Go.Proofs.YtmmecapgnmlaiaaGreatDoor
