/- ref21.long, Great, GreatUses -/
import Derived.Test.YtmmecapgnmlaiaaGreatDoorZxa
import Derived.Test.YtmmecapgnmlaiaaGreatDoorZxj
import Derived.Test.YtmmecapgnmlaiaaGreatDoorAwh
namespace Go.Proofs.YtmmecapgnmlaiaaGreatDoor
open Go.RowKit Go.Proofs
def Fo.longB : Fo → Bool
 | .nil => false
 | .cons _ n m _ _ _ _ s r => (decide (100 < n.size) || decide (100 < m.size) || s.longB) || r.longB
def LongOK (s : Fo) : Prop:=∀ (k : Int) (n m : ByteArray) (i d : Int) (A : Option Addr) (c : Nat) (w : World),s.Sl w w.heap.size A c →
  Calls Tryz.prog 185 #[.agg #[.int .i64 k,.string n,.string m,.int .i64 i,.int .i64 d,.slice A s.len c]] w fun e w' => e = .returned (.bool (decide (100 < n.size) || decide (100 < m.size) || s.longB)) ∧ Below w.heap.size w w'
set_option maxRecDepth 100000 in
set_option maxHeartbeats 1000000 in
theorem long_step (s : Fo) (ih : s.All LongOK) : LongOK s:=by
 intro k n m i d A c w hs
 have HS:=Lib.hid hs
 clear hs
 have IH:=Lib.hid ih
 clear ih
 have hcap : s.len ≤ 9223372036854775807:=by have:=HS.out.1;have:=HS.out.2.1;unfold maxLen at this;omega
 obtain ⟨W0,hW0⟩ : ∃ W0,w.alloc (.cells #[.int .i64 k,.string n,.string m,.int .i64 i,.int .i64 d,.slice A s.len c] 44) = W0:=⟨_,rfl⟩
 have hzw : w.heap.size < W0.heap.size:=by subst hW0;simp
 have HB0:=Lib.hid (show Below w.heap.size w W0 by subst hW0;exact (Below.refl _ _).alloc (Nat.le_refl _) _)
 have h1 : W0.cell? ⟨w.heap.size,1,none⟩ = some (.string n):=by subst hW0;go_simp
 have h2 : W0.cell? ⟨w.heap.size,2,none⟩ = some (.string m):=by subst hW0;go_simp
 have h5 : W0.cell? ⟨w.heap.size,5,none⟩ = some (.slice A s.len c):=by subst hW0;go_simp
 by_cases hn : 100 < n.size
 ·have hn' : (100 : Int) < (n.size : Int):=by omega
  go_enter Tryz.func185,Tryz.ntmps185
  go_wp2
  go_ret
  exact ⟨by simp [hn],HB0.out⟩
 have HN:=Lib.hid hn
 have hn' : decide ((100 : Int) < (n.size : Int)) = false:=by simp;omega
 clear hn
 by_cases hm : 100 < m.size
 ·have hm' : (100 : Int) < (m.size : Int):=by omega
  go_enter Tryz.func185,Tryz.ntmps185
  go_wp2
  go_ret
  exact ⟨by simp [hm],HB0.out⟩
 have hm' : decide ((100 : Int) < (m.size : Int)) = false:=by simp;omega
 have HE:=Lib.hid (show (decide (100 < n.size) || decide (100 < m.size) || s.longB) = s.longB by simp [HN.out,hm])
 rw [HE.out]
 clear hm
 go_enter Tryz.func185,Tryz.ntmps185
 go_wp2
 clear hW0
 go_loopg [3] s.len (fun g ct wr => ∃ (j : Nat) (r : Fo),g = r.len ∧ j + r.len = s.len ∧ ct = .int .i64 j ∧ s.longB = r.longB ∧ r.All LongOK ∧
  (r ≠ .nil → ∃ b o,A = some ⟨b,o,none⟩ ∧ b < w.heap.size ∧ r.At wr w.heap.size b (o + j * 6)) ∧ Below W0.heap.size W0 wr)
 case atStart =>
  refine ⟨0,s,rfl,by omega,rfl,rfl,IH.out,?_,Below.refl _ _⟩
  intro hne
  obtain ⟨b,o,e,hb,h⟩:=HS.out.2.2 hne
  exact ⟨b,o,e,hb,by rw [Nat.zero_mul,Nat.add_zero];exact h.keep (Nat.le_refl _) (fun p hp => HB0.out.cell hp) hb⟩
 case round =>
  obtain ⟨j,r,HG,hjr,rfl,HL,HA,HAt,HB⟩:=hrel
  have y5:=(HB.cell (p:=⟨w.heap.size,5,none⟩) hzw).trans h5
  have hz:=HB.size
  have HG':=Lib.hid (And.intro HG (And.intro HL (HB0.out.trans (HB.mono (by omega)))))
  clear HG HL
  cases r with
  | nil =>
   have hjr2 : s.len ≤ j:=by simp only [Fo.len] at hjr;omega
   have hjr1 : j ≤ s.len:=by simp only [Fo.len] at hjr;omega
   clear hjr HA HAt
   go_wp2
   go_ret
   exact ⟨by rw [HG'.out.2.1];rfl,HG'.out.2.2⟩
  | cons rk rn rm ri rd A' c' rs rr =>
   have hjr2 : j < s.len:=by simp only [Fo.len] at hjr;omega
   obtain ⟨b,o,rfl,hb,t0,t1,t2,t3,t4,⟨t5,hc',hm'',hs'⟩,hr'⟩:=HAt (by simp)
   have HX:=Lib.hid (HA.1 rk rn rm ri rd A' c' wr ⟨hc',hm'',fun hne => by
     obtain ⟨b',o',e,hb',h'⟩:=hs' hne
     exact ⟨b',o',e,by omega,h'.keep (by omega) (fun _ _ => rfl) hb'⟩⟩)
   have HN2:=Lib.hid (And.intro HA.2 hr')
   obtain ⟨bx,Hbx⟩ : ∃ bx,Hid ((decide (100 < rn.size) || decide (100 < rm.size) || rs.longB) = bx):=⟨_,rfl⟩
   rw [Hbx.out] at HX
   have HLB:=Lib.hid (show (Fo.cons rk rn rm ri rd A' c' rs rr).longB = (bx || rr.longB) by rw [Fo.longB,Hbx.out])
   clear HA HAt hs' hr'
   go_wp2_with fail
   refine HX.out.mono ?_
   rintro e w1 ⟨rfl,hb1⟩
   have HB1:=Lib.hid (And.intro hb1 (HB.trans (hb1.mono hz)))
   clear hb1 t0 t1 t2 t3 t4 t5
   cases bx
   ·go_wp2
    go_roundg rr.len
    case measure => rw [HG'.out.1];simp [Fo.len]
    case rel =>
     refine ⟨j + 1,rr,rfl,by simp only [Fo.len] at hjr;omega,by go_num,by rw [HG'.out.2.1,HLB.out];rfl,HN2.out.1,fun hne => ⟨b,o,rfl,hb,?_⟩,HB1.out.2⟩
     rw [show o + (j + 1) * 6 = o + j * 6 + 6 by omega]
     exact HN2.out.2.keep (Nat.le_refl _) (fun p hp => HB1.out.1.cell (by omega)) hb
   ·go_wp2
    go_ret
    exact ⟨by rw [HG'.out.2.1,HLB.out];rfl,HG'.out.2.2.trans (HB1.out.1.mono (by omega))⟩
theorem long_any (s : Fo) : LongOK s:=Fo.by_parts long_step s
end Go.Proofs.YtmmecapgnmlaiaaGreatDoor
/- ref21.Great, GreatUses -/
namespace Go.Proofs.YtmmecapgnmlaiaaGreatDoor
open Go.RowKit Go.Proofs
def greatE (n m : ByteArray) (s : Fo) : Bool:=decide (40 < wrap64 (1 + s.count)) || (decide (100 < n.size) || decide (100 < m.size) || s.longB)
def greatU (l : List ByteArray) : Bool:=decide (10 < l.length) || l.any fun s => decide (120 < s.size)
set_option maxHeartbeats 1000000 in
theorem great21_any (k : Int) (n m : ByteArray) (i d : Int) (A : Option Addr) (c : Nat) (s : Fo) (w : World) (hs : s.Sl w w.heap.size A c) :
  Calls Tryz.prog 140 #[.agg #[.int .i64 k,.string n,.string m,.int .i64 i,.int .i64 d,.slice A s.len c]] w fun e w' => e = .returned (.bool (greatE n m s)) ∧ Below w.heap.size w w':=by
 obtain ⟨W0,hW0⟩ : ∃ W0,w.alloc (.cells #[.int .i64 k,.string n,.string m,.int .i64 i,.int .i64 d,.slice A s.len c] 44) = W0:=⟨_,rfl⟩
 have hzw : w.heap.size < W0.heap.size:=by subst hW0;simp
 have HB0:=Lib.hid (show Below w.heap.size w W0 by subst hW0;exact (Below.refl _ _).alloc (Nat.le_refl _) _)
 have h0 : W0.cell? ⟨w.heap.size,0,none⟩ = some (.int .i64 k):=by subst hW0;go_simp
 have h1 : W0.cell? ⟨w.heap.size,1,none⟩ = some (.string n):=by subst hW0;go_simp
 have h2 : W0.cell? ⟨w.heap.size,2,none⟩ = some (.string m):=by subst hW0;go_simp
 have h3 : W0.cell? ⟨w.heap.size,3,none⟩ = some (.int .i64 i):=by subst hW0;go_simp
 have h4 : W0.cell? ⟨w.heap.size,4,none⟩ = some (.int .i64 d):=by subst hW0;go_simp
 have h5 : W0.cell? ⟨w.heap.size,5,none⟩ = some (.slice A s.len c):=by subst hW0;go_simp
 have hs0:=hs.keep (w':=W0) (B':=W0.heap.size) (by omega) fun p hp => HB0.out.cell hp
 have HN:=Lib.hid (nodes_any s k n m i d A c W0 hs0)
 obtain ⟨N,HNE⟩ : ∃ N,Hid (wrap64 (1 + s.count) = N):=⟨_,rfl⟩
 obtain ⟨bl,Hbl⟩ : ∃ bl,Hid ((decide (100 < n.size) || decide (100 < m.size) || s.longB) = bl):=⟨_,rfl⟩
 have HE:=Lib.hid (show greatE n m s = (decide (40 < N) || bl) by rw [greatE,HNE.out,Hbl.out])
 rw [HE.out]
 have HS:=Lib.hid hs0
 clear hs hs0
 rw [HNE.out] at HN
 go_enter Tryz.func140,Tryz.ntmps140
 go_wp2_with fail
 refine HN.out.mono ?_
 rintro e w1 ⟨rfl,hb1⟩
 have HB1:=Lib.hid (HB0.out.trans (hb1.mono (by omega)))
 have y0:=(hb1.cell (p:=⟨w.heap.size,0,none⟩) hzw).trans h0
 have y1:=(hb1.cell (p:=⟨w.heap.size,1,none⟩) hzw).trans h1
 have y2:=(hb1.cell (p:=⟨w.heap.size,2,none⟩) hzw).trans h2
 have y3:=(hb1.cell (p:=⟨w.heap.size,3,none⟩) hzw).trans h3
 have y4:=(hb1.cell (p:=⟨w.heap.size,4,none⟩) hzw).trans h4
 have y5:=(hb1.cell (p:=⟨w.heap.size,5,none⟩) hzw).trans h5
 have HL:=Lib.hid (long_any s k n m i d A c w1 (HS.out.keep hb1.size fun p hp => hb1.cell hp))
 rw [Hbl.out] at HL
 clear hb1 h0 h1 h2 h3 h4 h5 hW0
 by_cases hN : 40 < N
 ·go_wp2
  go_ret
  exact ⟨by simp [hN],HB1.out⟩
 ·have hN' : decide (40 < N) = false:=by simpa using hN
  clear hN
  go_wp2_with (go_at_call 185;refine HL.out.mono ?_;rintro e w2 ⟨rfl,hb2⟩)
  go_ret
  exact ⟨by rw [hN'];rfl,HB1.out.trans (hb2.mono HB1.out.size)⟩
set_option maxHeartbeats 1000000 in
theorem greatUses_any (l : List ByteArray) (A : Option Addr) (c : Nat) (w : World) (hs : SlS w w.heap.size A c l) :
  Calls Tryz.prog 74 #[.slice A l.length c] w fun e w' => e = .returned (.bool (greatU l)) ∧ w = w':=by
 have hc1:=hs.1
 have hc2:=hs.2.1
 unfold maxLen at hc2
 have HS:=Lib.hid hs
 clear hs
 obtain ⟨E,HE⟩ : ∃ E,Hid (E = greatU l):=⟨_,rfl⟩
 rw [← HE.out]
 by_cases hl : 10 < l.length
 ·have HR:=Lib.hid (show E = true by rw [HE.out,greatU];simp [hl])
  go_enter Tryz.func74,Tryz.ntmps74
  go_wp2
  go_ret
  exact ⟨by rw [HR.out];rfl,rfl⟩
 have HE1:=Lib.hid (show E = l.any fun s => decide (120 < s.size) by rw [HE.out,greatU];simp [hl])
 go_enter Tryz.func74,Tryz.ntmps74
 go_wp2
 go_loopg [3] l.length (fun g ct wr => ∃ j : Nat,g = l.length - j ∧ j ≤ l.length ∧ ct = .int .i64 j ∧ ((l.take j).any fun s => decide (120 < s.size)) = false ∧ wr = w)
 case atStart => exact ⟨0,rfl,by omega,rfl,by simp,rfl⟩
 case round =>
  obtain ⟨j,HG,hj,rfl,HA,rfl⟩:=hrel
  have HG':=Lib.hid (And.intro HG HA)
  clear HG HA
  by_cases hlt : j < l.length
  ·obtain ⟨b,o,rfl,hb,hcell⟩:=HS.out.at_ hlt
   have HT:=Lib.hid (And.intro (show (l.take (j + 1)).any (fun s => decide (120 < s.size)) = decide (120 < l[j].size) by
    rw [List.take_succ_eq_append_getElem hlt,List.any_append,HG'.out.2];simp) (show decide (120 < l[j].size) = true → (l.any fun s => decide (120 < s.size)) = true from fun h => List.any_eq_true.2 ⟨l[j],List.getElem_mem hlt,h⟩))
   generalize l[j] = v at hcell HT
   by_cases hv : 120 < v.size
   ·have hv' : (120 : Int) < (v.size : Int):=by omega
    have HR:=Lib.hid (HE1.out.trans (HT.out.2 (by simpa using hv)))
    clear hv
    go_wp2
    go_ret
    exact ⟨by rw [HR.out];rfl,rfl⟩
   ·have hv' : decide ((120 : Int) < (v.size : Int)) = false:=by simp;omega
    have hv2:=Lib.hid (show decide (120 < v.size) = false by simpa using hv)
    clear hv
    go_wp2
    go_roundg (l.length - (j + 1))
    case measure => rw [HG'.out.1];omega
    case rel => exact ⟨j + 1,rfl,by omega,by go_num,by rw [HT.out.1,hv2.out],rfl⟩
  ·obtain rfl : j = l.length:=by omega
   have HR:=Lib.hid (show E = false by rw [HE1.out,← HG'.out.2,List.take_of_length_le (Nat.le_refl _)])
   go_wp2
   go_ret
   exact ⟨by rw [HR.out];rfl,rfl⟩
end Go.Proofs.YtmmecapgnmlaiaaGreatDoor
/- ref21.GreatDecls, ref24.Great -/
namespace Go.Proofs.YtmmecapgnmlaiaaGreatDoor
open Go.RowKit Go.Proofs
def greatN (l : List ByteArray) : Bool:=l.any fun s => decide (100 < s.size)
def greatD1 (x : Dc) : Bool:=decide (5 < x.names.length) || greatE x.n x.m x.s || greatN x.names
def greatD (l : List Dc) : Bool:=decide (8 < l.length) || l.any greatD1
def greatM (label : ByteArray) (uses : List ByteArray) (decls : List Dc) : Bool:=decide (120 < label.size) || greatU uses || greatD decls
set_option maxRecDepth 100000 in
set_option maxHeartbeats 1000000 in
theorem greatDecls_any (l : List Dc) (A : Option Addr) (c : Nat) (w : World) (hs : SlD w w.heap.size A c l) :
  Calls Tryz.prog 75 #[.slice A l.length c] w fun e w' => e = .returned (.bool (greatD l)) ∧ Below w.heap.size w w':=by
 have hc1:=hs.1
 have hc2:=hs.2.1
 unfold maxLen at hc2
 have HS:=Lib.hid hs
 clear hs
 obtain ⟨E,HE⟩ : ∃ E,Hid (E = greatD l):=⟨_,rfl⟩
 rw [← HE.out]
 by_cases hl : 8 < l.length
 ·have HR:=Lib.hid (show E = true by rw [HE.out,greatD];simp [hl])
  go_enter Tryz.func75,Tryz.ntmps75
  go_wp2
  go_ret
  exact ⟨by rw [HR.out];rfl,Below.refl _ _⟩
 have HE1:=Lib.hid (show E = l.any greatD1 by rw [HE.out,greatD];simp [hl])
 clear HE
 go_enter Tryz.func75,Tryz.ntmps75
 go_wp2
 go_loopg [3,4] l.length (fun g ct _ wr => ∃ j : Nat,g = l.length - j ∧ j ≤ l.length ∧ ct = .int .i64 j ∧ (l.take j).any greatD1 = false ∧ Below w.heap.size w wr)
 case atStart => exact ⟨0,rfl,by omega,rfl,by simp,Below.refl _ _⟩
 case round =>
  obtain ⟨j,HG,hj,rfl,HA,HB⟩:=hrel
  have HG':=Lib.hid (And.intro HG HA)
  clear HG HA
  have hz:=HB.size
  by_cases hlt : j < l.length
  ·have hj3 : l[j]? = some l[j]:=List.getElem?_eq_getElem hlt
   obtain ⟨b,o,rfl,hb,hall⟩:=HS.out.2.2 (by intro e;subst e;simp at hlt)
   obtain ⟨hcs,hok⟩:=hall j _ hj3
   have HT:=Lib.hid (And.intro (show (l.take (j + 1)).any greatD1 = greatD1 l[j] by
    rw [List.take_succ_eq_append_getElem hlt,List.any_append,HG'.out.2];simp) (show greatD1 l[j] = true → l.any greatD1 = true from fun h => List.any_eq_true.2 ⟨l[j],List.getElem_mem hlt,h⟩))
   clear hall hj3
   generalize l[j] = x at hcs hok HT
   have HOK:=Lib.hid (show x.Ok wr w.heap.size from ⟨hok.1.below HB,hok.2.below HB⟩)
   clear hok
   obtain ⟨xid,xkind,xpub,xnA,xnc,xnames,xdoubt,xk,xn,xm,xi,xd,xA,xc,xs⟩:=x
   have d3 : wr.cell? ⟨b,o + j * 11 + 3,none⟩ = some (.slice xnA xnames.length xnc):=(HB.cell (p:=⟨b,o + j * 11 + 3,none⟩) hb).trans (hcs 3 _ rfl)
   have d5 : wr.cell? ⟨b,o + j * 11 + 5,none⟩ = some (.int .i64 xk):=(HB.cell (p:=⟨b,o + j * 11 + 5,none⟩) hb).trans (hcs 5 _ rfl)
   have d6 : wr.cell? ⟨b,o + j * 11 + 6,none⟩ = some (.string xn):=(HB.cell (p:=⟨b,o + j * 11 + 6,none⟩) hb).trans (hcs 6 _ rfl)
   have d7 : wr.cell? ⟨b,o + j * 11 + 7,none⟩ = some (.string xm):=(HB.cell (p:=⟨b,o + j * 11 + 7,none⟩) hb).trans (hcs 7 _ rfl)
   have d8 : wr.cell? ⟨b,o + j * 11 + 8,none⟩ = some (.int .i64 xi):=(HB.cell (p:=⟨b,o + j * 11 + 8,none⟩) hb).trans (hcs 8 _ rfl)
   have d9 : wr.cell? ⟨b,o + j * 11 + 9,none⟩ = some (.int .i64 xd):=(HB.cell (p:=⟨b,o + j * 11 + 9,none⟩) hb).trans (hcs 9 _ rfl)
   have d10 : wr.cell? ⟨b,o + j * 11 + 10,none⟩ = some (.slice xA xs.len xc):=(HB.cell (p:=⟨b,o + j * 11 + 10,none⟩) hb).trans (hcs 10 _ rfl)
   have HD3 : Hid (∀ X,Below wr.heap.size wr X → X.cell? ⟨b,o + j * 11 + 3,none⟩ = some (.slice xnA xnames.length xnc) ∧ SlS X w.heap.size xnA xnc xnames):=fun X hX =>
    ⟨(hX.cell (p:=⟨b,o + j * 11 + 3,none⟩) (by simp;omega)).trans d3,HOK.out.1.keep (Nat.le_refl _) fun p hp => hX.cell (by omega)⟩
   clear hcs
   have HD1:=Lib.hid (show greatD1 ⟨xid,xkind,xpub,xnA,xnc,xnames,xdoubt,xk,xn,xm,xi,xd,xA,xc,xs⟩ = (decide (5 < xnames.length) || greatE xn xm xs || greatN xnames) from rfl)
   by_cases h5 : 5 < xnames.length
   ·have HR:=Lib.hid (show E = true by rw [HE1.out];exact HT.out.2 (by rw [HD1.out];simp [h5]))
    go_wp2
    go_ret
    exact ⟨by rw [HR.out];rfl,HB⟩
   have h5' : decide ((5 : Int) < (xnames.length : Int)) = false:=by simp;omega
   have H5:=Lib.hid h5
   clear h5
   obtain ⟨bg,Hbg⟩ : ∃ bg,Hid (greatE xn xm xs = bg):=⟨_,rfl⟩
   have HGR:=Lib.hid (great21_any xk xn xm xi xd xA xc xs wr (Fo.Sl.keep (w:=wr) (w':=wr) (B:=w.heap.size) HOK.out.2 hz fun _ _ => rfl))
   rw [Hbg.out] at HGR
   go_wp2_with fail
   refine HGR.out.mono ?_
   rintro e w1 ⟨rfl,hb1⟩
   obtain ⟨y3,hsn⟩:=HD3.out w1 hb1
   have HB1:=Lib.hid (And.intro (HB.trans (hb1.mono hz)) hsn)
   have hz1:=hb1.size
   have HB1b:=Lib.hid hb1
   clear hb1 hsn d3 d5 d6 d7 d8 d9 d10
   cases bg
   rotate_left
   ·have HR:=Lib.hid (show E = true by rw [HE1.out];exact HT.out.2 (by rw [HD1.out,Hbg.out];simp))
    go_wp2
    go_ret
    exact ⟨by rw [HR.out];rfl,HB1.out.1⟩
   go_wp2
   go_loopg [4] xnames.length (fun g ct wr2 => ∃ q : Nat,g = xnames.length - q ∧ q ≤ xnames.length ∧ ct = .int .i64 q ∧ greatN (xnames.take q) = false ∧ wr2 = w1)
   case atStart => exact ⟨0,rfl,by omega,rfl,by simp [greatN],rfl⟩
   case round =>
    obtain ⟨q,HQ,hq,rfl,HA2,rfl⟩:=hrel
    have HQ':=Lib.hid (And.intro HQ HA2)
    clear HQ HA2
    have hnl : xnames.length ≤ 5:=by have:=H5.out;omega
    by_cases hlt2 : q < xnames.length
    ·obtain ⟨b2,o2,rfl,hb2,hcell⟩:=HB1.out.2.at_ hlt2
     have HT2:=Lib.hid (And.intro (show greatN (xnames.take (q + 1)) = decide (100 < xnames[q].size) by
      have:=HQ'.out.2
      unfold greatN at this ⊢
      rw [List.take_succ_eq_append_getElem hlt2,List.any_append,this];simp) (show decide (100 < xnames[q].size) = true → greatN xnames = true from fun h => List.any_eq_true.2 ⟨xnames[q],List.getElem_mem hlt2,h⟩))
     generalize xnames[q] = v at hcell HT2
     by_cases hv : 100 < v.size
     ·have hv' : (100 : Int) < (v.size : Int):=by omega
      have HR:=Lib.hid (show E = true by rw [HE1.out];exact HT.out.2 (by rw [HD1.out,HT2.out.2 (by simpa using hv)];simp))
      clear hv
      go_wp2
      go_ret
      exact ⟨by rw [HR.out];rfl,HB1.out.1⟩
     ·have hv' : decide ((100 : Int) < (v.size : Int)) = false:=by simp;omega
      have hv2:=Lib.hid (show decide (100 < v.size) = false by simpa using hv)
      clear hv
      go_wp2
      go_roundg (xnames.length - (q + 1))
      case measure => rw [HQ'.out.1];omega
      case rel => exact ⟨q + 1,rfl,by omega,by go_num,by rw [HT2.out.1,hv2.out],rfl⟩
    ·obtain rfl : q = xnames.length:=by omega
     have HR:=Lib.hid (show (l.take (j + 1)).any greatD1 = false by
      have h:=HQ'.out.2
      rw [List.take_of_length_le (Nat.le_refl _)] at h
      rw [HT.out.1,HD1.out,Hbg.out,h]
      simp [H5.out])
     go_wp2
     go_roundg (l.length - (j + 1))
     case measure => rw [HG'.out.1];omega
     case rel => exact ⟨j + 1,rfl,by omega,by go_num,HR.out,HB1.out.1⟩
  ·obtain rfl : j = l.length:=by omega
   have HR:=Lib.hid (show E = false by rw [HE1.out,← HG'.out.2,List.take_of_length_le (Nat.le_refl _)])
   go_wp2
   go_ret
   exact ⟨by rw [HR.out];rfl,HB⟩
end Go.Proofs.YtmmecapgnmlaiaaGreatDoor
/- ref24.Great -/
namespace Go.Proofs.YtmmecapgnmlaiaaGreatDoor
open Go.RowKit Go.Proofs
set_option maxRecDepth 100000 in
set_option maxHeartbeats 1000000 in
theorem great24_any (label : ByteArray) (uses : List ByteArray) (uA : Option Addr) (uc : Nat) (decls : List Dc) (dA : Option Addr) (dc : Nat) (w : World) (hu : SlS w w.heap.size uA uc uses) (hd : SlD w w.heap.size dA dc decls) :
  Calls Tryz.prog 39 #[.agg #[.string label,.slice uA uses.length uc,.slice dA decls.length dc]] w fun e w' => e = .returned (.bool (greatM label uses decls)) ∧ Below w.heap.size w w':=by
 obtain ⟨W0,hW0⟩ : ∃ W0,w.alloc (.cells #[.string label,.slice uA uses.length uc,.slice dA decls.length dc] 25) = W0:=⟨_,rfl⟩
 have hzw : w.heap.size < W0.heap.size:=by subst hW0;simp
 have hB0 : Below w.heap.size w W0:=by subst hW0;exact (Below.refl _ _).alloc (Nat.le_refl _) _
 have h0 : W0.cell? ⟨w.heap.size,0,none⟩ = some (.string label):=by subst hW0;go_simp
 have h1 : W0.cell? ⟨w.heap.size,1,none⟩ = some (.slice uA uses.length uc):=by subst hW0;go_simp
 have h2 : W0.cell? ⟨w.heap.size,2,none⟩ = some (.slice dA decls.length dc):=by subst hW0;go_simp
 have HU:=Lib.hid (greatUses_any uses uA uc W0 (hu.keep (w':=W0) (B':=W0.heap.size) (by omega) fun p hp => hB0.cell hp))
 have HD:=Lib.hid (greatDecls_any decls dA dc W0 (hd.keep (w':=W0) (B':=W0.heap.size) (by omega) fun p hp => hB0.cell hp))
 have HB0:=Lib.hid hB0
 clear hu hd hB0
 obtain ⟨b1,Hb1⟩ : ∃ b1,Hid (greatU uses = b1):=⟨_,rfl⟩
 obtain ⟨b2,Hb2⟩ : ∃ b2,Hid (greatD decls = b2):=⟨_,rfl⟩
 rw [Hb1.out] at HU
 rw [Hb2.out] at HD
 have HE:=Lib.hid (show greatM label uses decls = (decide (120 < label.size) || b1 || b2) by rw [greatM,Hb1.out,Hb2.out])
 rw [HE.out]
 by_cases hl : 120 < label.size
 ·have hl' : (120 : Int) < (label.size : Int):=by omega
  go_enter Tryz.func39,Tryz.ntmps39
  go_wp2
  go_ret
  exact ⟨by simp [hl],HB0.out⟩
 have hl' : decide ((120 : Int) < (label.size : Int)) = false:=by simp;omega
 have HL:=Lib.hid (show decide (120 < label.size) = false by simpa using hl)
 clear hl
 cases b1
 ·go_enter Tryz.func39,Tryz.ntmps39
  go_wp2_with (first | (go_at_call 74;refine HU.out.mono ?_;rintro e w1 ⟨rfl,rfl⟩) | (go_at_call 75;refine HD.out.mono ?_;rintro e w2 ⟨rfl,hb2⟩))
  go_ret
  exact ⟨by rw [HL.out];rfl,HB0.out.trans (hb2.mono (by omega))⟩
 ·go_enter Tryz.func39,Tryz.ntmps39
  go_wp2_with (first | (go_at_call 74;refine HU.out.mono ?_;rintro e w1 ⟨rfl,rfl⟩) | (go_at_call 75;refine HD.out.mono ?_;rintro e w2 ⟨rfl,hb2⟩))
  go_ret
  exact ⟨by rw [HL.out];rfl,HB0.out⟩
end Go.Proofs.YtmmecapgnmlaiaaGreatDoor
/- law25.great without interfaces -/
namespace Go.Proofs.YtmmecapgnmlaiaaGreatDoor
open Go Go.RowKit Go.Proofs
set_option maxRecDepth 100000 in
set_option maxHeartbeats 1000000 in
theorem greatK0_any (w : World) : Calls Tryz.prog 40 #[.slice none 0 0] w fun e w' => e = .returned (.bool false) ∧ w = w':=by
 go_enter Tryz.func40,Tryz.ntmps40
 go_wp2
 go_loop [3,4] (fun ct _ => ct = .int .i64 0) (fun _ _ => 0)
 case atStart => rfl
 case round =>
  subst hrel
  go_wp2
  go_ret
  exact ⟨rfl,rfl⟩
set_option maxRecDepth 100000 in
set_option maxHeartbeats 1000000 in
theorem l25great_any (label : ByteArray) (uses : List ByteArray) (uA : Option Addr) (uc : Nat) (ds : List Dc) (dA : Option Addr) (dc : Nat) (w : World) (hu : SlS w w.heap.size uA uc uses) (hd : SlD w w.heap.size dA dc ds) :
  Calls Tryz.prog 12 #[.agg #[.string label,.slice uA uses.length uc,.slice dA ds.length dc],.slice none 0 0] w fun e w' => e = .returned (.bool (greatM label uses ds)) ∧ RowKit.Below w.heap.size w w':=by
 obtain ⟨W0,hW0⟩ : ∃ W0,w.alloc (.cells #[.string label,.slice uA uses.length uc,.slice dA ds.length dc] 25) = W0:=⟨_,rfl⟩
 have hb0 : RowKit.Below w.heap.size w W0:=by subst hW0;exact (RowKit.Below.refl _ _).alloc (Nat.le_refl _) _
 have hr0 : W0.heap[w.heap.size]? = some (.cells #[.string label,.slice uA uses.length uc,.slice dA ds.length dc] 25 (0,0)):=by subst hW0;exact heap_alloc_new w _
 have e0:=cell_of_row W0 w.heap.size 0 _ _ (0,0) hr0
 have e1:=cell_of_row W0 w.heap.size 1 _ _ (0,0) hr0
 have e2:=cell_of_row W0 w.heap.size 2 _ _ (0,0) hr0
 simp at e0 e1 e2
 have HG:=Lib.hid (great24_any label uses uA uc ds dA dc W0 (hu.keep hb0.size fun p hp => hb0.cell hp) (hd.keep hb0.size fun p hp => hb0.cell hp))
 obtain ⟨G,hG⟩ : ∃ G,Hid (greatM label uses ds = G):=⟨_,Lib.hid rfl⟩
 rw [hG.out] at HG ⊢
 have HB0:=Lib.hid hb0
 clear hu hd hb0 hr0
 cases G with
 | true =>
  go_enter Tryz.func12,Tryz.ntmps12
  go_upto_region 1 with fail
  try rw [hW0]
  go_wp2_with (first | (go_at_call 39;(with_reducible refine Calls.mono HG.out ?_);rintro e w1 ⟨rfl,hb1⟩;have HB1:=Lib.hid hb1;clear hb1) | fail)
  go_ret
  exact ⟨rfl,HB0.out.trans (HB1.out.mono HB0.out.size)⟩
 | false =>
  go_enter Tryz.func12,Tryz.ntmps12
  go_upto_region 1 with fail
  try rw [hW0]
  go_wp2_with (first | (go_at_call 39;(with_reducible refine Calls.mono HG.out ?_);rintro e w1 ⟨rfl,hb1⟩;have HB1:=Lib.hid hb1;clear hb1) | (go_at_call 40;(with_reducible refine Calls.mono (greatK0_any _) ?_);rintro e _ ⟨rfl,rfl⟩) | fail)
  go_loop [6,15] (fun _ ct => ct = .int .i64 0) (fun _ _ => 0)
  case atStart => rfl
  case round =>
   subst hrel
   go_wp2
   go_ret
   exact ⟨rfl,HB0.out.trans (HB1.out.mono HB0.out.size)⟩
end Go.Proofs.YtmmecapgnmlaiaaGreatDoor
