/- The evaluator's values in memory -/
import Derived.Test.YtnfndgmlnoeelaaGreatDoorZea
import Derived.Test.YtnfndgmlnoeelaaGreatDoorProg
import Derived.Laws.Rows
import Derived.Below
import Derived.Test.YtnfndgmlnoeelaaGreatDoorZla
import Derived.Maps.AppendAt
import Derived.ArgAppend
import Derived.Laws.OwnMore
import Derived.Tactics
import Derived.Shelf.Abstract
import Derived.ProofKit
import Derived.OwnWalk
import Derived.Deep.LoopGhost
import Derived.WalkLawsBesides
import Derived.WalkSpells
import Derived.Deep.RegionHeld3
import Derived.Deep.AppendLies
import Derived.Deep.RegionLaw
import Derived.RangeFuncBox
import Derived.WalkSmall
import Derived.Lib.SmallJoins
import Derived.Deep.QuietTactic
import Derived.BigQuiet
import Derived.BigRegion
namespace Go.Proofs.YtnfndgmlnoeelaaGreatDoor
open Go Go.RowKit Go.Proofs
abbrev Dead:=Nat → Nat → Prop
def Ka (w : World) (b n : Nat) : Prop:=∃ cs,w.heap[b]? = some (.cells cs 36 (0,0)) ∧ cs.size = n
structure Kp (D : Dead) (w : World) (D' : Dead) (w' : World) : Prop where
 size : w.heap.size ≤ w'.heap.size
 cell : ∀ b o,b < w.heap.size → ¬ D b o → w'.cell? ⟨b,o,none⟩ = w.cell? ⟨b,o,none⟩ ∧ ¬ D' b o
 ka : ∀ b o n,b < w.heap.size → ¬ D b o → Ka w b n → Ka w' b n
theorem Kp.refl (D : Dead) (w : World) : Kp D w D w:=⟨Nat.le_refl _,fun _ _ _ h => ⟨rfl,h⟩,fun _ _ _ _ _ h => h⟩
theorem Kp.trans {D D1 D2 : Dead} {w w1 w2 : World} (h : Kp D w D1 w1) (h' : Kp D1 w1 D2 w2) : Kp D w D2 w2:=
 ⟨Nat.le_trans h.size h'.size,fun b o hb hd => by
  obtain ⟨e1,d1⟩:=h.cell b o hb hd
  obtain ⟨e2,d2⟩:=h'.cell b o (Nat.lt_of_lt_of_le hb h.size) d1
  exact ⟨e2.trans e1,d2⟩,fun b o n hb hd hk => h'.ka b o n (Nat.lt_of_lt_of_le hb h.size) (h.cell b o hb hd).2 (h.ka b o n hb hd hk)⟩
abbrev Code:=Option Addr → Nat → Sk → Prop
def off (nm : Bool) : Nat:=if nm then 1 else 0
def Vl.At (Cd : Code) (w : World) (D : Dead) : Bool → Vl → Nat → Nat → Prop
 | _,.nil,_,_ => True
 | nm,.cons x k i l p q b e r,g,o =>
  ((nm = true → ¬ D g o ∧ w.cell? ⟨g,o,none⟩ = some (.string x)) ∧ (nm = false → x = noB)) ∧
  ((∀ j,j < 8 → ¬ D g (o + off nm + j)) ∧ w.cell? ⟨g,o + off nm,none⟩ = some (.int .i64 k) ∧ w.cell? ⟨g,o + off nm + 1,none⟩ = some (.int .i64 i) ∧
   w.cell? ⟨g,o + off nm + 3,none⟩ = some (.int .i64 0) ∧ w.cell? ⟨g,o + off nm + 4,none⟩ = some (.string p) ∧ w.cell? ⟨g,o + off nm + 5,none⟩ = some (.string q)) ∧
  (∃ A c,w.cell? ⟨g,o + off nm + 2,none⟩ = some (.slice A l.len c) ∧ l.len ≤ c ∧ c ≤ maxLen ∧ (l ≠ .nil → ∃ g' o',A = some ⟨g',o',none⟩ ∧ g' < w.heap.size ∧ l.At Cd w D false g' o' ∧ (false = false → Ka w g' (o' + l.len * 8)))) ∧
  (∃ A c,w.cell? ⟨g,o + off nm + 6,none⟩ = some (.slice A b.len c) ∧ Cd A c b) ∧
  (∃ A c,w.cell? ⟨g,o + off nm + 7,none⟩ = some (.slice A e.len c) ∧ e.len ≤ c ∧ c ≤ maxLen ∧ (e ≠ .nil → ∃ g' o',A = some ⟨g',o',none⟩ ∧ g' < w.heap.size ∧ e.At Cd w D true g' o' ∧ (true = false → Ka w g' (o' + e.len * 8)))) ∧
  r.At Cd w D nm g (o + off nm + 8)
def Vl.Sl (Cd : Code) (w : World) (D : Dead) (nm : Bool) (A : Option Addr) (c : Nat) (l : Vl) : Prop:=
 l.len ≤ c ∧ c ≤ maxLen ∧ (l ≠ .nil → ∃ g o,A = some ⟨g,o,none⟩ ∧ g < w.heap.size ∧ l.At Cd w D nm g o ∧ (nm = false → Ka w g (o + l.len * 8)))
structure VaR (Cd : Code) (w : World) (D : Dead) (v : Va) (lA : Option Addr) (lc : Nat) (bA : Option Addr) (bc : Nat) (eA : Option Addr) (ec : Nat) : Prop where
 l : v.l.Sl Cd w D false lA lc
 b : Cd bA bc v.b
 e : v.e.Sl Cd w D true eA ec
def Va.cells (v : Va) (lA : Option Addr) (lc : Nat) (bA : Option Addr) (bc : Nat) (eA : Option Addr) (ec : Nat) : List Value:=
 [.int .i64 v.k,.int .i64 v.i,.slice lA v.l.len lc,.int .i64 0,.string v.p,.string v.q,.slice bA v.b.len bc,.slice eA v.e.len ec]
theorem Vl.At.live {Cd : Code} {D : Dead} {w : World} : ∀ {nm : Bool} {l : Vl} {g o : Nat},l ≠ .nil → l.At Cd w D nm g o → ∃ o',¬ D g o'
 | _,.nil,_,_,h,_ => absurd rfl h
 | _,.cons ..,_,_,_,h => ⟨_,h.2.1.1 0 (by decide)⟩
theorem Vl.At.keep {Cd : Code} {D D' : Dead} {w w' : World} (hk : Kp D w D' w') : ∀ {nm : Bool} {l : Vl} {g o : Nat},g < w.heap.size → l.At Cd w D nm g o → l.At Cd w' D' nm g o
 | _,.nil,_,_,_,_ => trivial
 | nm,.cons x k i l p q b e r,g,o,hg,h => by
  obtain ⟨⟨h1,h1'⟩,⟨hd,h2,h3,h4,h5,h6⟩,⟨A,c,h7,hc,hm,hl⟩,⟨bA,bc,h8,hb⟩,⟨eA,ec,h9,hec,hem,he⟩,hr⟩:=h
  have cl : ∀ j,j < 8 → w'.cell? ⟨g,o + off nm + j,none⟩ = w.cell? ⟨g,o + off nm + j,none⟩:=fun j hj => (hk.cell g _ hg (hd j hj)).1
  refine ⟨⟨fun e' => ?_,h1'⟩,⟨fun j hj => (hk.cell g _ hg (hd j hj)).2,(cl 0 (by omega)).trans h2,(cl 1 (by omega)).trans h3,(cl 3 (by omega)).trans h4,(cl 4 (by omega)).trans h5,(cl 5 (by omega)).trans h6⟩,
   ⟨A,c,(cl 2 (by omega)).trans h7,hc,hm,fun hne => ?_⟩,⟨bA,bc,(cl 6 (by omega)).trans h8,hb⟩,⟨eA,ec,(cl 7 (by omega)).trans h9,hec,hem,fun hne => ?_⟩,Vl.At.keep hk hg hr⟩
  ·obtain ⟨a,b⟩:=h1 e'
   obtain ⟨c1,c2⟩:=hk.cell g o hg a
   exact ⟨c2,c1.trans b⟩
  ·obtain ⟨g',o',e1,e2,e3,e4⟩:=hl hne
   obtain ⟨o2,hd2⟩:=e3.live hne
   exact ⟨g',o',e1,Nat.lt_of_lt_of_le e2 hk.size,Vl.At.keep hk e2 e3,fun e => hk.ka g' o2 _ e2 hd2 (e4 e)⟩
  ·obtain ⟨g',o',e1,e2,e3,e4⟩:=he hne
   exact ⟨g',o',e1,Nat.lt_of_lt_of_le e2 hk.size,Vl.At.keep hk e2 e3,fun e => by cases e⟩
theorem Vl.Sl.keep {Cd : Code} {D D' : Dead} {w w' : World} (hk : Kp D w D' w') {nm : Bool} {A : Option Addr} {c : Nat} {l : Vl} (h : l.Sl Cd w D nm A c) : l.Sl Cd w' D' nm A c:=
 ⟨h.1,h.2.1,fun hne => by
  obtain ⟨g,o,e1,e2,e3,e4⟩:=h.2.2 hne
  obtain ⟨o2,hd2⟩:=e3.live hne
  exact ⟨g,o,e1,Nat.lt_of_lt_of_le e2 hk.size,e3.keep hk e2,fun e => hk.ka g o2 _ e2 hd2 (e4 e)⟩⟩
theorem VaR.keep {Cd : Code} {D D' : Dead} {w w' : World} (hk : Kp D w D' w') {v : Va} {lA : Option Addr} {lc : Nat} {bA : Option Addr} {bc : Nat} {eA : Option Addr} {ec : Nat} (h : VaR Cd w D v lA lc bA bc eA ec) : VaR Cd w' D' v lA lc bA bc eA ec:=
 ⟨h.l.keep hk,h.b,h.e.keep hk⟩
theorem Vl.Sl.nil (Cd : Code) (w : World) (D : Dead) (nm : Bool) (A : Option Addr) : (Vl.nil).Sl Cd w D nm A 0:=⟨Nat.le_refl _,Nat.zero_le _,fun h => absurd rfl h⟩
theorem Vl.At.get {Cd : Code} {D : Dead} {w : World} : ∀ {nm : Bool} {l : Vl} {g o j : Nat} {x : ByteArray} {v : Va},l.At Cd w D nm g o → l.at j = some (x,v) →
  (nm = true → w.cell? ⟨g,o + j * (off nm + 8),none⟩ = some (.string x)) ∧ (nm = false → x = noB) ∧
  ∃ lA lc bA bc eA ec,VaR Cd w D v lA lc bA bc eA ec ∧ ∀ t c,(v.cells lA lc bA bc eA ec)[t]? = some c → w.cell? ⟨g,o + j * (off nm + 8) + off nm + t,none⟩ = some c
 | _,.nil,_,_,_,_,_,_,h => by simp [Vl.at] at h
 | nm,.cons x k i l p q b e r,g,o,0,y,v,h,e' => by
  simp only [Vl.at,Option.some.injEq,Prod.mk.injEq] at e'
  obtain ⟨rfl,rfl⟩:=e'
  obtain ⟨⟨h1,h1'⟩,⟨hd,h2,h3,h4,h5,h6⟩,⟨A,c,h7,hc,hm,hl⟩,⟨bA,bc,h8,hb⟩,⟨eA,ec,h9,hec,hem,he⟩,hr⟩:=h
  simp only [Nat.zero_mul,Nat.add_zero]
  refine ⟨fun e' => (h1 e').2,h1',A,c,bA,bc,eA,ec,⟨⟨hc,hm,hl⟩,hb,⟨hec,hem,he⟩⟩,fun t u ht => ?_⟩
  match t,ht with
  | 0,ht => simp only [Va.cells,List.getElem?_cons_zero,Option.some.injEq] at ht;subst ht;exact h2
  | 1,ht => simp only [Va.cells,List.getElem?_cons_succ,List.getElem?_cons_zero,Option.some.injEq] at ht;subst ht;exact h3
  | 2,ht => simp only [Va.cells,List.getElem?_cons_succ,List.getElem?_cons_zero,Option.some.injEq] at ht;subst ht;exact h7
  | 3,ht => simp only [Va.cells,List.getElem?_cons_succ,List.getElem?_cons_zero,Option.some.injEq] at ht;subst ht;exact h4
  | 4,ht => simp only [Va.cells,List.getElem?_cons_succ,List.getElem?_cons_zero,Option.some.injEq] at ht;subst ht;exact h5
  | 5,ht => simp only [Va.cells,List.getElem?_cons_succ,List.getElem?_cons_zero,Option.some.injEq] at ht;subst ht;exact h6
  | 6,ht => simp only [Va.cells,List.getElem?_cons_succ,List.getElem?_cons_zero,Option.some.injEq] at ht;subst ht;exact h8
  | 7,ht => simp only [Va.cells,List.getElem?_cons_succ,List.getElem?_cons_zero,Option.some.injEq] at ht;subst ht;exact h9
  | t + 8,ht => simp [Va.cells] at ht
 | nm,.cons x k i l p q b e r,g,o,j + 1,y,v,h,e' => by
  have h':=Vl.At.get (j:=j) h.2.2.2.2.2 e'
  rw [show o + off nm + 8 + j * (off nm + 8) = o + (j + 1) * (off nm + 8) by rw [Nat.succ_mul];omega] at h'
  exact h'
theorem Vl.At.mk {Cd : Code} {D : Dead} {w : World} : ∀ {nm : Bool} {l : Vl} {g o : Nat},
  (∀ j x v,l.at j = some (x,v) → ((nm = true → ¬ D g (o + j * (off nm + 8)) ∧ w.cell? ⟨g,o + j * (off nm + 8),none⟩ = some (.string x)) ∧ (nm = false → x = noB)) ∧
   (∀ t,t < 8 → ¬ D g (o + j * (off nm + 8) + off nm + t)) ∧
   ∃ lA lc bA bc eA ec,VaR Cd w D v lA lc bA bc eA ec ∧ ∀ t c,(v.cells lA lc bA bc eA ec)[t]? = some c → w.cell? ⟨g,o + j * (off nm + 8) + off nm + t,none⟩ = some c) → l.At Cd w D nm g o
 | _,.nil,_,_,_ => trivial
 | nm,.cons x k i l p q b e r,g,o,h => by
  obtain ⟨h1,hd,lA,lc,bA,bc,eA,ec,hv,hc⟩:=h 0 x _ rfl
  simp only [Nat.zero_mul,Nat.add_zero] at h1 hd hc
  refine ⟨h1,⟨hd,hc 0 _ rfl,hc 1 _ rfl,hc 3 _ rfl,hc 4 _ rfl,hc 5 _ rfl⟩,⟨lA,lc,hc 2 _ rfl,hv.l⟩,⟨bA,bc,hc 6 _ rfl,hv.b⟩,⟨eA,ec,hc 7 _ rfl,hv.e⟩,Vl.At.mk fun j y v hj => ?_⟩
  have h':=h (j + 1) y v hj
  rw [show o + (j + 1) * (off nm + 8) = o + off nm + 8 + j * (off nm + 8) by rw [Nat.succ_mul];omega] at h'
  exact h'
end Go.Proofs.YtnfndgmlnoeelaaGreatDoor
/- What a row of eight cells holds, and what storing into it gives -/
namespace Go.Proofs.YtnfndgmlnoeelaaGreatDoor
open Go Go.RowKit Go.Proofs

theorem row8 {W : World} {b : Nat} {t : TypeId} {c0 c1 c2 c3 c4 c5 c6 c7 : Value} (h : W.heap[b]? = some (.cells #[c0,c1,c2,c3,c4,c5,c6,c7] t (0,0))) :
  W.cell? ⟨b,0,none⟩ = some c0 ∧ W.cell? ⟨b,1,none⟩ = some c1 ∧ W.cell? ⟨b,2,none⟩ = some c2 ∧ W.cell? ⟨b,3,none⟩ = some c3 ∧ W.cell? ⟨b,4,none⟩ = some c4 ∧ W.cell? ⟨b,5,none⟩ = some c5 ∧ W.cell? ⟨b,6,none⟩ = some c6 ∧ W.cell? ⟨b,7,none⟩ = some c7 ∧ W.frozen? ⟨b,0,none⟩ = false ∧ W.frozen? ⟨b,1,none⟩ = false ∧ W.frozen? ⟨b,2,none⟩ = false ∧ W.frozen? ⟨b,3,none⟩ = false ∧ W.frozen? ⟨b,4,none⟩ = false ∧ W.frozen? ⟨b,5,none⟩ = false ∧ W.frozen? ⟨b,6,none⟩ = false ∧ W.frozen? ⟨b,7,none⟩ = false:=
 ⟨cell_of_row W b 0 _ _ (0,0) h,cell_of_row W b 1 _ _ (0,0) h,cell_of_row W b 2 _ _ (0,0) h,cell_of_row W b 3 _ _ (0,0) h,cell_of_row W b 4 _ _ (0,0) h,cell_of_row W b 5 _ _ (0,0) h,cell_of_row W b 6 _ _ (0,0) h,cell_of_row W b 7 _ _ (0,0) h,frozen_of_row W b 0 _ _ h,frozen_of_row W b 1 _ _ h,frozen_of_row W b 2 _ _ h,frozen_of_row W b 3 _ _ h,frozen_of_row W b 4 _ _ h,frozen_of_row W b 5 _ _ h,frozen_of_row W b 6 _ _ h,frozen_of_row W b 7 _ _ h⟩
theorem set8 {W : World} {b : Nat} {t : TypeId} {c0 c1 c2 c3 c4 c5 c6 c7 : Value} (u0 u1 u2 u3 u4 u5 u6 u7 : Value) (h : W.heap[b]? = some (.cells #[c0,c1,c2,c3,c4,c5,c6,c7] t (0,0))) :
  ((((((((W.setCell ⟨b,0,none⟩ u0).setCell ⟨b,1,none⟩ u1).setCell ⟨b,2,none⟩ u2).setCell ⟨b,3,none⟩ u3).setCell ⟨b,4,none⟩ u4).setCell ⟨b,5,none⟩ u5).setCell ⟨b,6,none⟩ u6).setCell ⟨b,7,none⟩ u7).heap[b]? = some (.cells #[u0,u1,u2,u3,u4,u5,u6,u7] t (0,0)):=by
 simp [World.setCell,Array.getElem?_modify,h]
end Go.Proofs.YtnfndgmlnoeelaaGreatDoor
/- append onto a row of the call's own: the elements that were there stay where they were -/
namespace Go.Proofs.YtnfndgmlnoeelaaGreatDoor
open Go Go.RowKit Go.Proofs

section
variable {P : Program} (w : World)
theorem run_append_keep (base : Nat) (t ty e : TypeId) (i : TypeInfo) (z : Value) (size bytes : Nat) (ht : P.underlying t = some (.slice e)) (hi : P.info? e = some i) (hz : i.zero = some z)
  (hsize : i.size = size) (hby : i.bytes = bytes) (hzs : z.cells.size = size) (hsz : 0 < size)
  (v : Value) (n : Nat) (xs : List Value) (hown : w.ownsRow base e size v n xs)
  (a : Addr) (m c : Nat) (news : List Value) (hl : news.length = m * size) (hnews : ∀ j u,news[j]? = some u → w.cell? (a.add j) = some u) (h1 : ∀ u ∈ news,u.oneCell' = true)
  (h63 : n + m ≤ maxLen) (hbytes : (n + m) * bytes ≤ 140737488355328) (hbase : base ≤ w.heap.size) :
  ∃ v' w',(Builtin.append_ #[t,t] ty #[v,.slice (some a) m c]).run P w = .ok v' w' ∧ w'.ownsRow base e size v' (n + m) (xs ++ news) ∧ w.grownBy w' v.ownBlock ∧
   (v'.ownBlock = v.ownBlock ∨ v'.ownBlock = some w.heap.size) ∧ ∀ k o,v.ownBlock = some k → o < n * size → w'.cell? ⟨k,o,none⟩ = w.cell? ⟨k,o,none⟩:=by
 obtain ⟨v',w',hrun,hr,hg,_,hat⟩:=run_append_own_at (P:=P) w base t ty e i z size bytes ht hi hz hsize hby hzs hsz v n xs hown a m c news hl hnews h1 h63 hbytes hbase
 refine ⟨v',w',hrun,hr,hg,hat,fun k o hk ho => ?_⟩
 rcases hown.2 with ⟨rfl,rfl⟩ | ⟨g,cap,cur,rfl,hbg,hgg,hnc,hcm,hcs,htake⟩
 ·cases hk
 ·simp only [Value.ownBlock,Option.some.injEq] at hk
  subst hk
  by_cases hroom : n + m ≤ cap
  ·have hfit : n * i.size + news.length ≤ cur.size:=by rw [hl,hcs,hsize,← Nat.add_mul];exact Nat.mul_le_mul_right _ hroom
   have hr2:=run_append_room (P:=P) w t ty e i ht hi g n cap cur hgg a m c news (by rw [hsize];exact hl) hnews h1 hroom hfit
   rw [hrun] at hr2
   simp only [Result.ok.injEq] at hr2
   obtain ⟨rfl,_⟩:=hr2
   rw [hr.cellAt o (by rw [Nat.add_mul];omega),hown.cellAt o ho,List.getElem?_append_left (by rw [hown.1];exact ho)]
  ·have holds : ∀ j u,xs[j]? = some u → w.cell? ((⟨g,0,none⟩ : Addr).add j) = some u:=hown.cells (g:=g) rfl
   obtain ⟨v2,w2,hr2,_,hg2⟩:=run_append_arg_grows (P:=P) w t ty e i z size bytes ht hi hz hsize hby hzs hsz ⟨g,0,none⟩ n cap xs hown.1 holds a m c news hl hnews (by omega) h63 hbytes
   rw [hrun] at hr2
   simp only [Result.ok.injEq] at hr2
   obtain ⟨_,rfl⟩:=hr2
   exact World.cell?_of_block (hg2.block g (lt_of_block hgg) (by simp))
theorem wpList_append_keep {ops : Array Oper} {rest : List Oper} {o : Oper} {a : Act} {Q : Exit → Act → World → Prop} (hgd : o.guard = none) (s x : Operand) (t : TypeId)
  (ho : o.op = .call { callee:=.builtin .append,args:=#[s,x],argTypes:=#[t,t] })
  (base : Nat) (e : TypeId) (i : TypeInfo) (z : Value) (size bytes : Nat) (ht : P.underlying t = some (.slice e)) (hi : P.info? e = some i) (hz : i.zero = some z)
  (hsize : i.size = size) (hby : i.bytes = bytes) (hzs : z.cells.size = size) (hsz : 0 < size)
  (v : Value) (n : Nat) (xs : List Value) (hs : a.eval s = v) (hown : w.ownsRow base e size v n xs)
  (ad : Addr) (m c : Nat) (news : List Value) (hx : a.eval x = .slice (some ad) m c) (hl : news.length = m * size) (hnews : ∀ j u,news[j]? = some u → w.cell? (ad.add j) = some u) (h1 : ∀ u ∈ news,u.oneCell' = true)
  (h63 : n + m ≤ maxLen) (hbytes : (n + m) * bytes ≤ 140737488355328) (hbase : base ≤ w.heap.size)
  (h : ∀ v' w',w'.ownsRow base e size v' (n + m) (xs ++ news) → w.grownBy w' v.ownBlock → (v'.ownBlock = v.ownBlock ∨ v'.ownBlock = some w.heap.size) → (∀ k o,v.ownBlock = some k → o < n * size → w'.cell? ⟨k,o,none⟩ = w.cell? ⟨k,o,none⟩) → wpList P ops Q rest (a.put o.dst v') w') :
  wpList P ops Q (o :: rest) a w:=by
 refine wpList_plain hgd fun K hK => ?_
 obtain ⟨v',w',hr,h2,h3,h4,h5⟩:=run_append_keep (P:=P) w base t o.type e i z size bytes ht hi hz hsize hby hzs hsz v n xs hown ad m c news hl hnews h1 h63 hbytes hbase
 unfold Oper.wp execOp
 simp only [ho,resolve,invoke,builtin,Sem.run_bind,Sem.run_pure,Result.andThen_ok,List.map_toArray,List.map_cons,List.map_nil,hs,hx,hr]
 exact hK _ _ (h v' w' h2 h3 h4 h5)
end
end Go.Proofs.YtnfndgmlnoeelaaGreatDoor
/- eval: the evaluator's small methods -/
namespace Go.Proofs.YtnfndgmlnoeelaaGreatDoor
open Go Go.RowKit Go.Proofs Go.Shelf
structure Oth (p : Nat → Prop) (w w' : World) : Prop where
 os : w'.os = w.os
 tape : w'.tape = w.tape
 output : w'.output = w.output
 size : w.heap.size ≤ w'.heap.size
 block : ∀ k,k < w.heap.size → ¬ p k → w'.heap[k]? = w.heap[k]?
theorem Oth.refl (p : Nat → Prop) (w : World) : Oth p w w:=⟨rfl,rfl,rfl,Nat.le_refl _,fun _ _ _ => rfl⟩
theorem Oth.trans {p : Nat → Prop} {a b c : World} (h : Oth p a b) (k : Oth p b c) : Oth p a c:=
 ⟨k.os.trans h.os,k.tape.trans h.tape,k.output.trans h.output,Nat.le_trans h.size k.size,fun i hi hp => (k.block i (Nat.lt_of_lt_of_le hi h.size) hp).trans (h.block i hi hp)⟩
theorem Oth.mono {p q : Nat → Prop} {a b : World} (h : Oth p a b) (hq : ∀ k,k < a.heap.size → p k → q k) : Oth q a b:=
 ⟨h.os,h.tape,h.output,h.size,fun i hi hp => h.block i hi fun e => hp (hq i hi e)⟩
theorem Oth.setCell {p : Nat → Prop} {a w : World} (h : Oth p a w) {x : Addr} (hx : x.block < a.heap.size → p x.block) (u : Value) : Oth p a (w.setCell x u):=
 ⟨h.os,h.tape,h.output,by simpa using h.size,fun i hi hp => (Below.heap_setCell _ _ _ _ (fun e => hp (by rw [e];exact hx (by rw [← e];exact hi)))).trans (h.block i hi hp)⟩
theorem Oth.alloc {p : Nat → Prop} {a w : World} (h : Oth p a w) (o : Obj) : Oth p a (w.alloc o):=
 ⟨h.os,h.tape,h.output,by have:=h.size;simp;omega,fun i hi hp => (Below.heap_alloc _ _ _ (Nat.lt_of_lt_of_le hi h.size)).trans (h.block i hi hp)⟩
theorem Oth.drewN {p : Nat → Prop} {a w : World} (h : Oth p a w) (n : Nat) : Oth p a (w.drewN n):=⟨h.os,h.tape,h.output,h.size,h.block⟩
theorem Oth.drew {p : Nat → Prop} {a w : World} (h : Oth p a w) : Oth p a w.drew:=⟨h.os,h.tape,h.output,h.size,h.block⟩
theorem Oth.grown {p : Nat → Prop} {a w w' : World} {row : Option Nat} (h : Oth p a w) (hg : w.grownBy w' row) (hr : ∀ k,some k = row → k < a.heap.size → p k) : Oth p a w':=
 ⟨hg.os.trans h.os,hg.tape.trans h.tape,hg.output.trans h.output,Nat.le_trans h.size hg.size,fun i hi hp =>
  (hg.block i (Nat.lt_of_lt_of_le hi h.size) fun e => hp (hr i e hi)).trans (h.block i hi hp)⟩
theorem Oth.below {p : Nat → Prop} {B : Nat} {a w : World} (h : Oth p a w) (hB : B ≤ a.heap.size) (hp : ∀ k,k < B → ¬ p k) : Below B a w:=
 ⟨h.os,h.tape,h.output,h.size,fun k hk => h.block k (by omega) (hp k hk)⟩
theorem Oth.row {p : Nat → Prop} {a w : World} (h : Oth p a w) {base : Nat} {t : TypeId} {size : Nat} {v : Value} {n : Nat} {xs : List Value} (hr : a.ownsRow base t size v n xs) (hp : ∀ k,v.ownBlock = some k → ¬ p k) : w.ownsRow base t size v n xs:=by
 refine ⟨hr.1,?_⟩
 rcases hr.2 with h0 | ⟨g,cap,cur,rfl,hg,hh,hr2⟩
 ·exact .inl h0
 ·exact .inr ⟨g,cap,cur,rfl,hg,(h.block g (lt_of_block hh) (hp g rfl)).trans hh,hr2⟩
def failed (e : Int) : Ending:=.panicked [{ v:=.iface 133 (.agg #[.int .i64 e]),recovered:=false }]
def evC (m : Value) (n L z : Int) (f v r : Value) : Array Value:=#[m,.int .i64 n,.int .i64 L,.int .u64 z,f,v,r]
theorem evFail_any (p : Value) (e : Int) (w : World) : Calls Tryz.prog 99 #[p,.int .i64 e] w fun e' w' => e' = failed e ∧ w' = w:=by
 go_enter Tryz.func99,Tryz.ntmps99
 go_wp2
 exact ⟨rfl,rfl,rfl⟩
set_option maxRecDepth 100000 in
theorem evStep_no (vb : Nat) (m : Value) (n L z : Int) (f v r : Value) (w : World) (h : w.heap[vb]? = some (.cells (evC m n L z f v r) 83 (0,0))) (hl : L ≤ n) :
  Calls Tryz.prog 61 #[.pointer (some ⟨vb,0,none⟩)] w fun e w' => e = failed 27 ∧ Oth (fun _ => False) w w':=by
 have x1:=cell_of_row w vb 1 _ _ (0,0) h
 have x2:=cell_of_row w vb 2 _ _ (0,0) h
 simp [evC] at x1 x2
 have HF:=Lib.hid (fun X => evFail_any (.pointer (some ⟨vb,0,none⟩)) 27 X)
 clear h
 go_enter Tryz.func61,Tryz.ntmps61
 go_wp2
 go_quiet (fail)
 go_wp2_with fail
 refine (HF.out _).mono ?_
 rintro e w1 ⟨he,rfl⟩
 unfold failed at he
 subst he
 go_wp2
 exact ⟨rfl,rfl,(Oth.refl _ _).drewN _⟩
set_option maxRecDepth 100000 in
theorem evStep_ok (vb : Nat) (m : Value) (n L z : Int) (f v r : Value) (w : World) (h : w.heap[vb]? = some (.cells (evC m n L z f v r) 83 (0,0))) (hl : n < L) (h0 : -9223372036854775808 ≤ n) (h1 : L ≤ 1000000) :
  Calls Tryz.prog 61 #[.pointer (some ⟨vb,0,none⟩)] w fun e w' => e = .returned (.tuple #[]) ∧ w'.heap[vb]? = some (.cells (evC m (n + 1) L z f v r) 83 (0,0)) ∧ Oth (· = vb) w w':=by
 have x1:=cell_of_row w vb 1 _ _ (0,0) h
 have x2:=cell_of_row w vb 2 _ _ (0,0) h
 have z1:=frozen_of_row w vb 1 _ _ h
 simp [evC] at x1 x2
 have HH:=Lib.hid h
 have hl2 : ¬ (L ≤ n):=by omega
 have hw : wrap64 (n + 1) = n + 1:=by unfold wrap64;omega
 clear h
 go_enter Tryz.func61,Tryz.ntmps61
 go_wp2
 go_quiet (fail)
 go_wp2
 go_end0
 exact ⟨rfl,by simpa [evC] using Joins.block_setCell (w:=w.drewN nq) HH.out (i:=1) (.int .i64 (n + 1)),((Oth.refl (· = vb) w).drewN _).setCell (fun _ => rfl) _⟩
theorem Tryz.infoFrame : (Tryz.prog.info? 143).map (fun i => (i.zero,i.size,i.bytes)) = some (some (.agg #[.pointer none,.int .i64 0,.pointer none]),3,24):=by kernel_rfl
theorem Tryz.infoValue : (Tryz.prog.info? 36).map (fun i => (i.zero,i.size,i.bytes)) = some (some (.agg #[.int .i64 0,.int .i64 0,.slice none 0 0,.int .i64 0,.string ⟨#[]⟩,.string ⟨#[]⟩,.slice none 0 0,.slice none 0 0]),8,128):=by kernel_rfl
theorem Tryz.undFrames : Tryz.prog.underlying 80 = some (.slice 143):=by kernel_rfl
theorem Tryz.undValues : Tryz.prog.underlying 32 = some (.slice 36):=by kernel_rfl
structure EvR (w : World) (vb base : Nat) (m : Value) (n L z : Int) (r : Value) (fv : Value) (fn : Nat) (fc : List Value) (gv : Value) (gn : Nat) (gc : List Value) : Prop where
 blk : w.heap[vb]? = some (.cells (evC m n L z fv gv r) 83 (0,0))
 fr : w.ownsRow base 143 3 fv fn fc
 va : w.ownsRow base 36 8 gv gn gc
 ne : ∀ k,fv.ownBlock = some k → gv.ownBlock ≠ some k
 lt : vb < base
 le : base ≤ w.heap.size
theorem EvR.oth {w w' : World} {vb base : Nat} {m : Value} {n L z : Int} {r fv : Value} {fn : Nat} {fc : List Value} {gv : Value} {gn : Nat} {gc : List Value} (h : EvR w vb base m n L z r fv fn fc gv gn gc) {p : Nat → Prop} (ho : Oth p w w')
  (hv : ¬ p vb) (hf : ∀ k,fv.ownBlock = some k → ¬ p k) (hg : ∀ k,gv.ownBlock = some k → ¬ p k) : EvR w' vb base m n L z r fv fn fc gv gn gc:=
 ⟨(ho.block vb (lt_of_block h.blk) hv).trans h.blk,ho.row h.fr hf,ho.row h.va hg,h.ne,h.lt,Nat.le_trans h.le ho.size⟩
def NewB (v v' : Value) (w : World) : Prop:=v'.ownBlock = v.ownBlock ∨ ∃ k,v'.ownBlock = some k ∧ w.heap.size ≤ k
set_option maxRecDepth 100000 in
theorem evBegin_any (vb base : Nat) (m : Value) (n L z : Int) (r fv : Value) (fn : Nat) (fc : List Value) (gv : Value) (gn : Nat) (gc : List Value) (ea pa : Option Addr) (w : World) (h : EvR w vb base m n L z r fv fn fc gv gn gc) (hn : (fn + 1) * 24 ≤ 140737488355328) :
  Calls Tryz.prog 60 #[.pointer (some ⟨vb,0,none⟩),.pointer ea,.pointer pa] w fun e w' => e = .returned (.tuple #[]) ∧ Oth (fun k => k = vb ∨ fv.ownBlock = some k) w w' ∧ ∃ fv',EvR w' vb base m n L z r fv' (fn + 1) (fc ++ [.pointer ea,.int .i64 0,.pointer pa]) gv gn gc ∧ NewB fv fv' w ∧ ∀ k o,fv.ownBlock = some k → o < fn * 3 → w'.cell? ⟨k,o,none⟩ = w.cell? ⟨k,o,none⟩:=by
 obtain ⟨i0,hi,hz0,hz1,hz2⟩:=info_parts Tryz.infoFrame
 have x4:=cell_of_row w vb 4 _ _ (0,0) h.blk
 simp [evC] at x4
 have HH:=Lib.hid h
 have m1 : fn + 1 ≤ maxLen:=by unfold maxLen;omega
 clear h
 have mb : base ≤ (w.alloc (.cells #[.pointer ea,.int .i64 0,.pointer pa] 143)).heap.size:=by have:=HH.out.le;simp;omega
 have HO:=Lib.hid (HH.out.fr.alloc (.cells #[.pointer ea,.int .i64 0,.pointer pa] 143))
 have HM:=Lib.hid (And.intro m1 (And.intro hn mb))
 have HX:=Lib.hid (show ∀ Y : World,(w.alloc (.cells #[.pointer ea,.int .i64 0,.pointer pa] 143)).grownBy Y fv.ownBlock → Y.heap[vb]? = some (.cells (evC m n L z fv gv r) 83 (0,0)) from fun Y hg => by
  have hb:=HH.out.blk
  refine (hg.block vb ?_ fun e => ?_).trans ((Below.heap_alloc _ _ _ (lt_of_block hb)).trans hb)
  ·have:=lt_of_block hb
   simp
   omega
  ·have:=(HH.out.fr.lt vb e.symm).1
   have:=HH.out.lt
   omega)
 have HN:=Lib.hid (World.news_of_block (heap_alloc_new w (.cells #[.pointer ea,.int .i64 0,.pointer pa] 143)))
 clear m1 hn mb
 go_enter Tryz.func60,Tryz.ntmps60
 go_wp2_with (at_builtin;refine wpList_append_keep _ rfl _ _ 80 rfl base 143 i0 _ 3 24 Tryz.undFrames hi hz0 hz1 hz2 rfl (by decide) _ _ _ rfl HO.out ⟨w.heap.size,0,none⟩ 1 1 [.pointer ea,.int .i64 0,.pointer pa] rfl rfl HN.out (by simp [Value.oneCell']) HM.out.1 HM.out.2.1 HM.out.2.2 ?_;intro v9 w9 hown9 hg9 hat9 hkp9;have HS:=Lib.hid (And.intro hown9 (And.intro hg9 (And.intro hat9 hkp9)));have f4:=frozen_of_row w9 vb 4 _ _ (HX.out w9 hg9);have e4:=cell_of_row w9 vb 4 _ _ (0,0) (HX.out w9 hg9);simp [evC] at e4;obtain ⟨g9,c9,rfl⟩:=ownsRow_succ hown9;clear hown9 hg9 hat9 hkp9)
 go_end0
 have ho : Oth (fun k => k = vb ∨ fv.ownBlock = some k) w (w9.setCell ⟨vb,4,none⟩ (.slice (some ⟨g9,0,none⟩) (fn + 1) c9)):=
  (((Oth.refl _ _).alloc _).grown HS.out.2.1 (fun k hk _ => .inr hk.symm)).setCell (fun _ => .inl rfl) _
 refine ⟨rfl,ho,_,⟨?_,ownsRow_setCell_below HS.out.1 (by show vb < base;exact HH.out.lt) _,ho.row HH.out.va (fun k hk h => ?_),fun k hk hk' => ?_,HH.out.lt,Nat.le_trans HH.out.le ho.size⟩,?_,fun k o hk ho => ?_⟩
 ·simpa [evC] using Joins.block_setCell (HX.out w9 HS.out.2.1) (i:=4) (.slice (some ⟨g9,0,none⟩) (fn + 1) c9)
 ·rcases h with h | h
  ·have:=(HH.out.va.lt k hk).1
   have:=HH.out.lt
   omega
  ·exact HH.out.ne k h hk
 ·rcases HS.out.2.2.1 with h | h
  ·have h' : (Value.slice (some ⟨g9,0,none⟩) (fn + 1) c9).ownBlock = fv.ownBlock:=h
   exact HH.out.ne k (by rw [← h'];exact hk) hk'
  ·rw [hk] at h
   have:=(HH.out.va.lt k hk').2
   simp at h
   omega
 ·rcases HS.out.2.2.1 with h | h
  ·exact .inl h
  ·exact .inr ⟨_,h,by simp⟩
 ·have hkl:=HH.out.fr.lt k hk
  have hlt:=HH.out.lt
  have hc1 : (w9.setCell ⟨vb,4,none⟩ (.slice (some ⟨g9,0,none⟩) (fn + 1) c9)).cell? ⟨k,o,none⟩ = w9.cell? ⟨k,o,none⟩:=World.cell?_of_block (Below.heap_setCell _ _ _ _ (by show k ≠ vb;omega))
  have hc2 : (w.alloc (.cells #[.pointer ea,.int .i64 0,.pointer pa] 143)).cell? ⟨k,o,none⟩ = w.cell? ⟨k,o,none⟩:=World.cell?_alloc_lt w _ ⟨k,o,none⟩ hkl.2
  exact hc1.trans ((HS.out.2.2.2 k o hk ho).trans hc2)
set_option maxRecDepth 100000 in
theorem evEnd_any (vb base : Nat) (m : Value) (n L z : Int) (r fv : Value) (fn : Nat) (fc l : List Value) (gv : Value) (gn : Nat) (gc : List Value) (w : World) (h : EvR w vb base m n L z r fv (fn + 1) (fc ++ l) gv gn gc) (hl : fc.length = fn * 3) :
  Calls Tryz.prog 127 #[.pointer (some ⟨vb,0,none⟩)] w fun e w' => e = .returned (.tuple #[]) ∧ Oth (fun k => k = vb) w w' ∧ ∃ fv',EvR w' vb base m n L z r fv' fn fc gv gn gc ∧ fv'.ownBlock = fv.ownBlock:=by
 obtain ⟨g,cap,rfl⟩:=ownsRow_succ h.fr
 have x4:=cell_of_row w vb 4 _ _ (0,0) h.blk
 have z4:=frozen_of_row w vb 4 _ _ h.blk
 simp [evC] at x4
 have HH:=Lib.hid h
 have hc : fn + 1 ≤ cap ∧ cap ≤ 9223372036854775807:=by
  rcases h.fr.2 with ⟨h0,_⟩ | ⟨g',cap',cur,e,_,_,h1,h2,_⟩
  ·cases h0
  ·cases e
   unfold maxLen at h2
   omega
 clear h
 go_enter Tryz.func127,Tryz.ntmps127
 go_wp2
 go_region
 show bodyPost _ _ _ _ _ _
 go_end0
 have ho : Oth (fun k => k = vb) w ((w.setCell ⟨vb,4,none⟩ (.slice (some ⟨g,0,none⟩) fn cap)).drew):=((Oth.refl (· = vb) w).setCell (fun _ => rfl) _).drew
 refine ⟨rfl,ho,.slice (some ⟨g,0,none⟩) fn cap,⟨?_,?_,ho.row HH.out.va (fun k hk h => ?_),HH.out.ne,HH.out.lt,Nat.le_trans HH.out.le ho.size⟩,rfl⟩
 ·show (w.setCell ⟨vb,4,none⟩ (.slice (some ⟨g,0,none⟩) fn cap)).heap[vb]? = _
  simpa [evC] using Joins.block_setCell HH.out.blk (i:=4) (.slice (some ⟨g,0,none⟩) fn cap)
 ·exact (ownsRow_setCell_below (a:=⟨vb,4,none⟩) (ownsRow_pop hl HH.out.fr) HH.out.lt _).drew
 ·have:=(HH.out.va.lt k hk).1
  have:=HH.out.lt
  omega
def zeroV : Array Value:=#[.int .i64 0,.int .i64 0,.slice none 0 0,.int .i64 0,.string ⟨#[]⟩,.string ⟨#[]⟩,.slice none 0 0,.slice none 0 0]
abbrev valL (k i : Int) (lA : Option Addr) (ln lc : Nat) (p q : ByteArray) (bA : Option Addr) (bn bc : Nat) (eA : Option Addr) (en ec : Nat) : List Value:=[.int .i64 k,.int .i64 i,.slice lA ln lc,.int .i64 0,.string p,.string q,.slice bA bn bc,.slice eA en ec]
set_option maxRecDepth 100000 in
theorem evPop_any (vb base : Nat) (m : Value) (n L z : Int) (r fv : Value) (fn : Nat) (fc : List Value) (gv : Value) (gn : Nat) (gc : List Value) (k i : Int) (lA : Option Addr) (ln lc : Nat) (p q : ByteArray) (bA : Option Addr) (bn bc : Nat) (eA : Option Addr) (en ec : Nat) (w : World)
  (h : EvR w vb base m n L z r fv fn fc gv (gn + 1) (gc ++ valL k i lA ln lc p q bA bn bc eA en ec)) (hl : gc.length = gn * 8) :
  Calls Tryz.prog 62 #[.pointer (some ⟨vb,0,none⟩)] w fun e w' => e = .returned (.agg #[.int .i64 k,.int .i64 i,.slice lA ln lc,.int .i64 0,.string p,.string q,.slice bA bn bc,.slice eA en ec]) ∧ Oth (fun k => k = vb) w w' ∧ ∃ gv',EvR w' vb base m n L z r fv fn fc gv' gn gc ∧ gv'.ownBlock = gv.ownBlock:=by
 obtain ⟨g,cap,rfl⟩:=ownsRow_succ h.va
 have H0:=Lib.hid h
 have hc : gn + 1 ≤ cap ∧ cap ≤ 9223372036854775807:=by
  rcases h.va.2 with ⟨h0,_⟩ | ⟨g',cap',cur,e,_,_,h1,h2,_⟩
  ·cases h0
  ·cases e
   unfold maxLen at h2
   omega
 have hat : ∀ t u,(valL k i lA ln lc p q bA bn bc eA en ec)[t]? = some u → w.cell? ⟨g,gn * 8 + t,none⟩ = some u:=fun t u ht => by
  have htl:=(List.getElem?_eq_some_iff.1 ht).1
  simp only [valL,List.length_cons,List.length_nil] at htl
  rw [h.va.cellAt (gn * 8 + t) (by omega),List.getElem?_append_right (by omega),show gn * 8 + t - gc.length = t by omega]
  exact ht
 obtain ⟨V1,hV1⟩ : ∃ q,w.alloc (.cells zeroV 36) = q:=⟨_,rfl⟩
 have ho1 : Oth (fun _ => False) w V1:=by rw [← hV1];exact (Oth.refl _ _).alloc _
 have hr1 : V1.heap[w.heap.size]? = some (.cells zeroV 36 (0,0)):=by rw [← hV1];exact heap_alloc_new _ _
 have h1 : EvR V1 vb base m n L z r fv fn fc (.slice (some ⟨g,0,none⟩) (gn + 1) cap) (gn + 1) (gc ++ valL k i lA ln lc p q bA bn bc eA en ec):=h.oth ho1 (fun e => e) (fun _ _ e => e) (fun _ _ e => e)
 have hat1 : ∀ t u,(valL k i lA ln lc p q bA bn bc eA en ec)[t]? = some u → V1.cell? ⟨g,gn * 8 + t,none⟩ = some u:=fun t u ht => by
  rw [← hat t u ht]
  exact World.cell?_of_block (ho1.block g (World.block_lt_of_cell? w ⟨g,_,none⟩ (hat t u ht)) (fun e => e))
 have x5:=cell_of_row V1 vb 5 _ _ (0,0) h1.blk
 have z5:=frozen_of_row V1 vb 5 _ _ h1.blk
 simp [evC] at x5
 have e0:=hat1 0 _ rfl
 have e1:=hat1 1 _ rfl
 have e2:=hat1 2 _ rfl
 have e3:=hat1 3 _ rfl
 have e4:=hat1 4 _ rfl
 have e5:=hat1 5 _ rfl
 have e6:=hat1 6 _ rfl
 have e7:=hat1 7 _ rfl
 simp only [Nat.add_zero] at e0
 have al : ∀ p u,V1.cell? p = some u → (V1.alloc (.cells #[.int .i64 0,.int .i64 0,.slice none 0 0,.int .i64 0,.string ⟨#[]⟩,.string ⟨#[]⟩,.slice none 0 0,.slice none 0 0] 36)).cell? p = some u:=fun p u h => (World.cell?_alloc_lt V1 _ p (World.block_lt_of_cell? V1 p h)).trans h
 have y5:=al _ _ x5
 have d0:=al _ _ e0
 have d1:=al _ _ e1
 have d2:=al _ _ e2
 have d3:=al _ _ e3
 have d4:=al _ _ e4
 have d5:=al _ _ e5
 have d6:=al _ _ e6
 have d7:=al _ _ e7
 have hix : (gn : Int) < (gn : Int) + 1:=by omega
 have HH:=Lib.hid (And.intro h1 (And.intro hr1 ho1))
 clear h hat hat1 h1 hr1 ho1 al
 unfold zeroV at hV1
 go_enter Tryz.func62,Tryz.ntmps62
 go_wp2
 clear hV1
 go_region
 have ho2 : Oth (fun _ => False) V1 (V1.alloc (.cells #[.int .i64 k,.int .i64 i,.slice lA ln lc,.int .i64 0,.string p,.string q,.slice bA bn bc,.slice eA en ec] 36)).drew:=((Oth.refl _ _).alloc _).drew
 have hr2 : (V1.alloc (.cells #[.int .i64 k,.int .i64 i,.slice lA ln lc,.int .i64 0,.string p,.string q,.slice bA bn bc,.slice eA en ec] 36)).drew.heap[V1.heap.size]? = some (.cells #[.int .i64 k,.int .i64 i,.slice lA ln lc,.int .i64 0,.string p,.string q,.slice bA bn bc,.slice eA en ec] 36 (0,0)):=heap_alloc_new _ _
 generalize (V1.alloc (.cells #[.int .i64 k,.int .i64 i,.slice lA ln lc,.int .i64 0,.string p,.string q,.slice bA bn bc,.slice eA en ec] 36)).drew = V2 at ho2 hr2 ⊢
 clear x5 z5 e0 e1 e2 e3 e4 e5 e6 e7 y5 d0 d1 d2 d3 d4 d5 d6 d7
 have h2:=HH.out.1.oth ho2 (fun e => e) (fun _ _ e => e) (fun _ _ e => e)
 have x5:=cell_of_row V2 vb 5 _ _ (0,0) h2.blk
 have z5:=frozen_of_row V2 vb 5 _ _ h2.blk
 simp [evC] at x5
 have H2:=Lib.hid (And.intro h2 (And.intro hr2 ho2))
 clear h2 hr2 ho2
 go_wp2
 go_region
 have ho3 : Oth (· = vb) V2 (V2.setCell ⟨vb,5,none⟩ (.slice (some ⟨g,0,none⟩) gn cap)).drew:=((Oth.refl (· = vb) V2).setCell (fun _ => rfl) _).drew
 have hb3 : (V2.setCell ⟨vb,5,none⟩ (.slice (some ⟨g,0,none⟩) gn cap)).drew.heap[vb]? = some (.cells (evC m n L z fv (.slice (some ⟨g,0,none⟩) gn cap) r) 83 (0,0)):=by
  show (V2.setCell ⟨vb,5,none⟩ (.slice (some ⟨g,0,none⟩) gn cap)).heap[vb]? = _
  simpa [evC] using Joins.block_setCell H2.out.1.blk (i:=5) (.slice (some ⟨g,0,none⟩) gn cap)
 have hv3 : (V2.setCell ⟨vb,5,none⟩ (.slice (some ⟨g,0,none⟩) gn cap)).drew.ownsRow base 36 8 (.slice (some ⟨g,0,none⟩) gn cap) gn gc:=
  (ownsRow_setCell_below (a:=⟨vb,5,none⟩) (ownsRow_pop hl H2.out.1.va) H2.out.1.lt _).drew
 generalize (V2.setCell ⟨vb,5,none⟩ (.slice (some ⟨g,0,none⟩) gn cap)).drew = V3 at ho3 hb3 hv3 ⊢
 clear x5 z5
 have hlt:=HH.out.1.lt
 have hle:=HH.out.1.le
 have hz1:=HH.out.2.2.size
 have hbw:=H0.out.le
 have h3 : EvR V3 vb base m n L z r fv fn fc (.slice (some ⟨g,0,none⟩) gn cap) gn gc:=
  ⟨hb3,ho3.row H2.out.1.fr (fun k hk h => by have:=(H2.out.1.fr.lt k hk).1;omega),hv3,H2.out.1.ne,hlt,Nat.le_trans H2.out.1.le ho3.size⟩
 have hr3 : V3.heap[V1.heap.size]? = some (.cells #[.int .i64 k,.int .i64 i,.slice lA ln lc,.int .i64 0,.string p,.string q,.slice bA bn bc,.slice eA en ec] 36 (0,0)):=(ho3.block _ (lt_of_block H2.out.2.1) (by omega)).trans H2.out.2.1
 have hs1:=lt_of_block HH.out.2.1
 have hz3 : V3.heap[w.heap.size]? = some (.cells zeroV 36 (0,0)):=(ho3.block _ (Nat.lt_of_lt_of_le hs1 H2.out.2.2.size) (by omega)).trans ((H2.out.2.2.block _ hs1 (fun e => e)).trans HH.out.2.1)
 obtain ⟨a0,a1,a2,a3,a4,a5,a6,a7,_,_,_,_,_,_,_,_⟩:=row8 hr3
 obtain ⟨b0,b1,b2,b3,b4,b5,b6,b7,q0,q1,q2,q3,q4,q5,q6,q7⟩:=row8 (by unfold zeroV at hz3;exact hz3)
 have hr4:=set8 (.int .i64 k) (.int .i64 i) (.slice lA ln lc) (.int .i64 0) (.string p) (.string q) (.slice bA bn bc) (.slice eA en ec) (by unfold zeroV at hz3;exact hz3)
 have ho4 : Oth (· = w.heap.size) V3 ((((((((V3.setCell ⟨w.heap.size,0,none⟩ (.int .i64 k)).setCell ⟨w.heap.size,1,none⟩ (.int .i64 i)).setCell ⟨w.heap.size,2,none⟩ (.slice lA ln lc)).setCell ⟨w.heap.size,3,none⟩ (.int .i64 0)).setCell ⟨w.heap.size,4,none⟩ (.string p)).setCell ⟨w.heap.size,5,none⟩ (.string q)).setCell ⟨w.heap.size,6,none⟩ (.slice bA bn bc)).setCell ⟨w.heap.size,7,none⟩ (.slice eA en ec)):=((((((((Oth.refl (· = w.heap.size) V3).setCell (fun _ => rfl) _).setCell (fun _ => rfl) _).setCell (fun _ => rfl) _).setCell (fun _ => rfl) _).setCell (fun _ => rfl) _).setCell (fun _ => rfl) _).setCell (fun _ => rfl) _).setCell (fun _ => rfl) _
 have H3:=Lib.hid (And.intro h3 ho3)
 clear h3 ho3 hb3 hv3 hr3 hz3
 go_wp2
 generalize ((((((((V3.setCell ⟨w.heap.size,0,none⟩ (.int .i64 k)).setCell ⟨w.heap.size,1,none⟩ (.int .i64 i)).setCell ⟨w.heap.size,2,none⟩ (.slice lA ln lc)).setCell ⟨w.heap.size,3,none⟩ (.int .i64 0)).setCell ⟨w.heap.size,4,none⟩ (.string p)).setCell ⟨w.heap.size,5,none⟩ (.string q)).setCell ⟨w.heap.size,6,none⟩ (.slice bA bn bc)).setCell ⟨w.heap.size,7,none⟩ (.slice eA en ec)) = V4 at hr4 ho4 ⊢
 clear a0 a1 a2 a3 a4 a5 a6 a7 b0 b1 b2 b3 b4 b5 b6 b7 q0 q1 q2 q3 q4 q5 q6 q7
 obtain ⟨a0,a1,a2,a3,a4,a5,a6,a7,_,_,_,_,_,_,_,_⟩:=row8 hr4
 refine bodyPost_ret (v:=.agg #[.int .i64 k,.int .i64 i,.slice lA ln lc,.int .i64 0,.string p,.string q,.slice bA bn bc,.slice eA en ec]) (by simp [results,Tryz.results62,go_sem,a0,a1,a2,a3,a4,a5,a6,a7]) rfl ?_
 have ho : Oth (fun k => k = vb) w V4:=by
  refine ⟨ho4.os.trans (H3.out.2.os.trans (H2.out.2.2.os.trans HH.out.2.2.os)),ho4.tape.trans (H3.out.2.tape.trans (H2.out.2.2.tape.trans HH.out.2.2.tape)),ho4.output.trans (H3.out.2.output.trans (H2.out.2.2.output.trans HH.out.2.2.output)),
   Nat.le_trans hz1 (Nat.le_trans H2.out.2.2.size (Nat.le_trans H3.out.2.size ho4.size)),fun k hk hp => ?_⟩
  have h1:=Nat.lt_of_lt_of_le hk hz1
  have h2:=Nat.lt_of_lt_of_le h1 H2.out.2.2.size
  exact (ho4.block k (Nat.lt_of_lt_of_le h2 H3.out.2.size) (by omega)).trans ((H3.out.2.block k h2 hp).trans ((H2.out.2.2.block k h1 (fun e => e)).trans (HH.out.2.2.block k hk (fun e => e))))
 refine ⟨rfl,ho,.slice (some ⟨g,0,none⟩) gn cap,H3.out.1.oth ho4 (by omega) (fun k hk e => ?_) (fun k hk e => ?_),rfl⟩
 ·have:=(H0.out.fr.lt k hk).2
  omega
 ·have:=(H0.out.va.lt k hk).2
  omega
end Go.Proofs.YtnfndgmlnoeelaaGreatDoor
/- eval: part, instead, truth -/
namespace Go.Proofs.YtnfndgmlnoeelaaGreatDoor
open Go Go.RowKit Go.Proofs Go.Shelf
theorem rowF {w : World} {base g cap n : Nat} {t : TypeId} {gc : List Value} {z0 z1 z2 : Value} (h : w.ownsRow base t 3 (.slice (some ⟨g,0,none⟩) (n + 1) cap) (n + 1) (gc ++ [z0,z1,z2])) :
  w.cell? ⟨g,n * 3,none⟩ = some z0 ∧ w.cell? ⟨g,n * 3 + 1,none⟩ = some z1 ∧ w.cell? ⟨g,n * 3 + 2,none⟩ = some z2 ∧ w.frozen? ⟨g,n * 3,none⟩ = false ∧ w.frozen? ⟨g,n * 3 + 1,none⟩ = false ∧ w.frozen? ⟨g,n * 3 + 2,none⟩ = false:=by
 have hl : gc.length = n * 3:=by
  have:=h.1
  simp only [List.length_append,List.length_cons,List.length_nil] at this
  omega
 have hat : ∀ j u,[z0,z1,z2][j]? = some u → w.cell? ⟨g,n * 3 + j,none⟩ = some u:=fun j u hj => by
  have hjl:=(List.getElem?_eq_some_iff.1 hj).1
  simp only [List.length_cons,List.length_nil] at hjl
  rw [h.cellAt (n * 3 + j) (by omega),List.getElem?_append_right (by omega),show n * 3 + j - gc.length = j by omega]
  exact hj
 exact ⟨hat 0 _ rfl,hat 1 _ rfl,hat 2 _ rfl,h.frozenAt _,h.frozenAt _,h.frozenAt _⟩
theorem set_tail3 {gc : List Value} {n j : Nat} (hl : gc.length = n * 3) (u : Value) (t : List Value) : (gc ++ t).set (n * 3 + j) u = gc ++ t.set j u:=by
 rw [List.set_append_right _ _ (by omega),show n * 3 + j - gc.length = j by omega]
theorem EvR.frame {w : World} {vb base : Nat} {m : Value} {n L z : Int} {r : Value} {g cap : Nat} {fn : Nat} {fc l : List Value} {gv : Value} {gn : Nat} {gc : List Value} (h : EvR w vb base m n L z r (.slice (some ⟨g,0,none⟩) (fn + 1) cap) (fn + 1) (fc ++ l) gv gn gc)
  (hl : fc.length = fn * 3) (j : Nat) (u : Value) : EvR (w.setCell ⟨g,fn * 3 + j,none⟩ u) vb base m n L z r (.slice (some ⟨g,0,none⟩) (fn + 1) cap) (fn + 1) (fc ++ l.set j u) gv gn gc ∧ Oth (· = g) w (w.setCell ⟨g,fn * 3 + j,none⟩ u):=by
 have ho : Oth (· = g) w (w.setCell ⟨g,fn * 3 + j,none⟩ u):=(Oth.refl (· = g) w).setCell (fun _ => rfl) _
 have hgb:=(h.fr.lt g rfl).1
 have hlt:=h.lt
 have hs:=(h.fr.stored (fn * 3 + j) u).1
 rw [set_tail3 hl] at hs
 exact ⟨⟨(ho.block vb (lt_of_block h.blk) (by omega)).trans h.blk,hs,ho.row h.va (fun k hk e => h.ne g rfl (e ▸ hk)),h.ne,h.lt,Nat.le_trans h.le ho.size⟩,ho⟩
set_option maxRecDepth 100000 in
theorem evPart_any (vb base : Nat) (m : Value) (n L z : Int) (r : Value) (g cap fn : Nat) (fc : List Value) (gv : Value) (gn : Nat) (gc : List Value) (eb eo : Nat) (a0 : Int) (pa qa : Option Addr) (sb so sn sc j : Nat) (a : Int) (w : World)
  (h : EvR w vb base m n L z r (.slice (some ⟨g,0,none⟩) (fn + 1) cap) (fn + 1) (fc ++ [.pointer (some ⟨eb,eo,none⟩),.int .i64 a0,.pointer pa]) gv gn gc) (hl : fc.length = fn * 3)
  (he : w.cell? ⟨eb,eo + 5,none⟩ = some (.slice (some ⟨sb,so,none⟩) sn sc)) (heb : eb < base) (hj : j < sn) (hsn : sn ≤ 1000000) (hn : (fn + 2) * 24 ≤ 140737488355328) :
  Calls Tryz.prog 128 #[.pointer (some ⟨vb,0,none⟩),.pointer (some ⟨g,fn * 3,none⟩),.int .i64 j,.int .i64 a,.pointer qa] w fun e w' => e = .returned (.tuple #[]) ∧ Oth (fun k => k = vb ∨ k = g) w w' ∧
   ∃ fv',EvR w' vb base m n L z r fv' (fn + 1 + 1) ((fc ++ [.pointer (some ⟨eb,eo,none⟩),.int .i64 a,.pointer pa]) ++ [.pointer (some ⟨sb,so + j * 6,none⟩),.int .i64 0,.pointer qa]) gv gn gc ∧ NewB (.slice (some ⟨g,0,none⟩) (fn + 1) cap) fv' w ∧ ∀ o,o < (fn + 1) * 3 → o ≠ fn * 3 + 1 → w'.cell? ⟨g,o,none⟩ = w.cell? ⟨g,o,none⟩:=by
 obtain ⟨x0,x1,x2,y0,y1,y2⟩:=rowF h.fr
 have hgb:=(h.fr.lt g rfl).1
 obtain ⟨V1,hV1⟩ : ∃ Q9,w.setCell ⟨g,fn * 3 + 1,none⟩ (.int .i64 a) = Q9:=⟨_,rfl⟩
 have hE:=h.frame hl 1 (.int .i64 a)
 rw [hV1] at hE
 obtain ⟨h1,ho1⟩:=hE
 simp only [List.set_cons_succ,List.set_cons_zero] at h1
 obtain ⟨X0,_,_,_,_,_⟩:=rowF h1.fr
 have e5 : V1.cell? ⟨eb,eo + 5,none⟩ = some (.slice (some ⟨sb,so,none⟩) sn sc):=(World.cell?_of_block (ho1.block eb (World.block_lt_of_cell? w ⟨eb,_,none⟩ he) (by omega))).trans he
 have HC1:=Lib.hid (show ∀ o,o ≠ fn * 3 + 1 → V1.cell? ⟨g,o,none⟩ = w.cell? ⟨g,o,none⟩ from fun o ho => by rw [← hV1];exact World.cell?_setCell_other _ _ _ _ (fun e => ho (by cases e;rfl)))
 have HB:=Lib.hid (evBegin_any vb base m n L z r _ (fn + 1) _ gv gn gc (some ⟨sb,so + j * 6,none⟩) qa V1 h1 hn)
 have HO:=Lib.hid (And.intro ho1 h1)
 have hj1 : (j : Int) < (sn : Int):=by omega
 have hj2 : (j : Int) ≤ 1000000:=by omega
 clear h h1 ho1 he
 go_enter Tryz.func128,Tryz.ntmps128
 go_wp2_with fail
 refine HB.out.mono ?_
 rintro e w1 ⟨rfl,ho,fv',hE,hN,hkc⟩
 have HF:=Lib.hid (And.intro ho (And.intro hE (And.intro hN hkc)))
 clear ho hE hN hkc
 go_wp2
 go_end0
 refine ⟨rfl,(HO.out.1.mono fun _ _ e => .inr e).trans (HF.out.1.mono fun k _ e => ?_),fv',HF.out.2.1,?_,fun o ho ho1 => ?_⟩
 ·rcases e with e | e
  ·exact .inl e
  ·simp only [Value.ownBlock,Option.some.injEq] at e
   exact .inr e.symm
 ·rcases HF.out.2.2.1 with e | ⟨k,e,hk⟩
  ·exact .inl e
  ·exact .inr ⟨k,e,Nat.le_trans HO.out.1.size hk⟩
 ·exact (HF.out.2.2.2 g o rfl ho).trans (HC1.out o ho1)
set_option maxRecDepth 100000 in
theorem evInstead_any (vb base : Nat) (m : Value) (n L z : Int) (r : Value) (g cap fn : Nat) (fc : List Value) (gv : Value) (gn : Nat) (gc : List Value) (eb eo : Nat) (a0 : Int) (pa : Option Addr) (sb so sn sc j : Nat) (w : World)
  (h : EvR w vb base m n L z r (.slice (some ⟨g,0,none⟩) (fn + 1) cap) (fn + 1) (fc ++ [.pointer (some ⟨eb,eo,none⟩),.int .i64 a0,.pointer pa]) gv gn gc) (hl : fc.length = fn * 3)
  (he : w.cell? ⟨eb,eo + 5,none⟩ = some (.slice (some ⟨sb,so,none⟩) sn sc)) (hj : j < sn) (hsn : sn ≤ 1000000) :
  Calls Tryz.prog 130 #[.pointer (some ⟨vb,0,none⟩),.pointer (some ⟨g,fn * 3,none⟩),.int .i64 j] w fun e w' => e = .returned (.tuple #[]) ∧ Oth (· = g) w w' ∧
   EvR w' vb base m n L z r (.slice (some ⟨g,0,none⟩) (fn + 1) cap) (fn + 1) (fc ++ [.pointer (some ⟨sb,so + j * 6,none⟩),.int .i64 0,.pointer pa]) gv gn gc:=by
 obtain ⟨x0,x1,x2,y0,y1,y2⟩:=rowF h.fr
 have hgb:=(h.fr.lt g rfl).1
 have hE:=h.frame hl 0 (.pointer (some ⟨sb,so + j * 6,none⟩))
 obtain ⟨h1,ho1⟩:=hE
 simp only [List.set_cons_zero,Nat.add_zero] at h1 ho1
 obtain ⟨h2,ho2⟩:=h1.frame hl 1 (.int .i64 0)
 simp only [List.set_cons_succ,List.set_cons_zero] at h2
 have HO:=Lib.hid (And.intro (ho1.trans ho2) h2)
 have hj1 : (j : Int) < (sn : Int):=by omega
 have hj2 : (j : Int) ≤ 1000000:=by omega
 clear h h1 ho1 h2 ho2
 go_enter Tryz.func130,Tryz.ntmps130
 go_wp2
 go_end0
 exact ⟨rfl,HO.out⟩
set_option maxRecDepth 100000 in
theorem evTruth_any (b : Bool) (w : World) : Calls Tryz.prog 131 #[.bool b] w fun e w' => e = .returned (.agg #[.int .i64 2,.int .i64 (if b then 1 else 0),.slice none 0 0,.int .i64 0,.string ⟨#[]⟩,.string ⟨#[]⟩,.slice none 0 0,.slice none 0 0]) ∧ Oth (fun _ => False) w w':=by
 cases b with
 | true =>
  go_enter Tryz.func131,Tryz.ntmps131
  go_wp2
  refine bodyPost_ret (v:=.agg #[.int .i64 2,.int .i64 1,.slice none 0 0,.int .i64 0,.string ⟨#[]⟩,.string ⟨#[]⟩,.slice none 0 0,.slice none 0 0]) (by simp [results,Tryz.results131,go_sem]) rfl ?_
  exact ⟨rfl,((Oth.refl _ _).alloc _).alloc _⟩
 | false =>
  go_enter Tryz.func131,Tryz.ntmps131
  go_wp2
  refine bodyPost_ret (v:=.agg #[.int .i64 2,.int .i64 0,.slice none 0 0,.int .i64 0,.string ⟨#[]⟩,.string ⟨#[]⟩,.slice none 0 0,.slice none 0 0]) (by simp [results,Tryz.results131,go_sem]) rfl ?_
  exact ⟨rfl,((Oth.refl _ _).alloc _).alloc _⟩
theorem slcClipB_any (A : Option Addr) (n c : Nat) (w : World) (hn : n ≤ c) : Calls Tryz.prog 158 #[.slice A n c] w fun e w' => e = .returned (.slice A n n) ∧ w' = w:=by
 go_enter Tryz.func158,Tryz.ntmps158
 go_wp2
 go_ret
 exact ⟨rfl,rfl⟩
theorem Tryz.infoBound : (Tryz.prog.info? 147).map (fun i => (i.zero,i.size,i.bytes)) = some (some (.agg #[.string ⟨#[]⟩,.int .i64 0,.int .i64 0,.slice none 0 0,.int .i64 0,.string ⟨#[]⟩,.string ⟨#[]⟩,.slice none 0 0,.slice none 0 0]),9,144):=by kernel_rfl
theorem Tryz.undBounds : Tryz.prog.underlying 34 = some (.slice 147):=by kernel_rfl
set_option maxRecDepth 100000 in
theorem evAdd_any (pb : Nat) (A : Option Addr) (n c : Nat) (pack : ByteArray) (olds news : List Value) (mb m mc : Nat) (w : World)
  (hp : w.cell? ⟨pb,1,none⟩ = some (.slice A n c)) (hn : n ≤ c) (hA : A = none → n = 0) (hlo : olds.length = n * 9) (holds : ∀ b,A = some b → ∀ j u,olds[j]? = some u → w.cell? (b.add j) = some u) (hm : 0 < m) (hl : news.length = m * 9)
  (hnews : ∀ j u,news[j]? = some u → w.cell? ((⟨mb,0,none⟩ : Addr).add j) = some u) (h1 : ∀ u ∈ news,u.oneCell' = true) (hb : (n + m) * 144 ≤ 140737488355328) :
  Calls Tryz.prog 129 #[.pointer (some ⟨pb,0,none⟩),.string pack,.slice (some ⟨mb,0,none⟩) m mc] w fun e w' => ∃ nb g cap,e = .returned (.pointer (some ⟨nb,0,none⟩)) ∧ Oth (fun _ => False) w w' ∧ w.heap.size ≤ nb ∧
   w'.heap[nb]? = some (.cells #[.string pack,.slice (some ⟨g,0,none⟩) (n + m) cap] 140 (0,0)) ∧ w'.ownsRow w.heap.size 147 9 (.slice (some ⟨g,0,none⟩) (n + m) cap) (n + m) (olds ++ news):=by
 obtain ⟨i0,hi,hz0,hz1,hz2⟩:=info_parts Tryz.infoBound
 have hmx : n + m ≤ maxLen:=by unfold maxLen;omega
 have HC:=Lib.hid (slcClipB_any A n c w hn)
 have HN:=Lib.hid hnews
 have HD:=Lib.hid holds
 have HA:=Lib.hid (show A = none → n = 0 ∧ n = 0 from fun e => ⟨hA e,hA e⟩)
 have HM:=Lib.hid (And.intro (show n < n + m by omega) (And.intro hmx (And.intro hb (And.intro h1 hm))))
 obtain ⟨k,rfl⟩ : ∃ k,m = k + 1:=⟨m - 1,by omega⟩
 clear hnews holds hA hmx hb hn h1 hm
 go_enter Tryz.func129,Tryz.ntmps129
 go_wp2_with fail
 refine HC.out.mono ?_
 rintro e w1 ⟨rfl,rfl⟩
 go_wp2_with (at_builtin;refine wpList_append_grows _ rfl _ _ 34 rfl 147 i0 _ 9 144 Tryz.undBounds hi hz0 hz1 hz2 rfl (by decide) A n n olds rfl HA.out hlo HD.out ⟨mb,0,none⟩ (k + 1) mc news rfl hl HN.out HM.out.2.2.2.1 HM.out.1 HM.out.2.1 HM.out.2.2.1 ?_;intro v9 w9 hown9 hg9;have HS:=Lib.hid (And.intro hown9 hg9);obtain ⟨g9,c9,rfl⟩:=ownsRow_succ hown9;clear hown9 hg9)
 go_ret
 refine ⟨_,g9,c9,rfl,((Oth.refl _ _).grown HS.out.2 (fun k hk _ => by cases hk)).alloc _,HS.out.2.size,heap_alloc_new _ _,HS.out.1.alloc _⟩
end Go.Proofs.YtnfndgmlnoeelaaGreatDoor
/- eval: how the evaluator's state lies in memory -/
namespace Go.Proofs.YtnfndgmlnoeelaaGreatDoor
open Go Go.RowKit Go.Proofs
/-! Code -/
def CdW (W0 : World) (B0 : Nat) : Code:=fun A c s => ∃ f : Fo,f.sk = s ∧ f.Sl W0 B0 A c
structure XpA (W0 : World) (B0 : Nat) (b o : Nat) (x : Xp) : Prop where
 lt : b < B0
 c0 : W0.cell? ⟨b,o,none⟩ = some (.int .i64 x.k)
 c1 : W0.cell? ⟨b,o + 1,none⟩ = some (.string x.n)
 c2 : W0.cell? ⟨b,o + 2,none⟩ = some (.string x.m)
 c3 : W0.cell? ⟨b,o + 3,none⟩ = some (.int .i64 x.i)
 c4 : W0.cell? ⟨b,o + 4,none⟩ = some (.int .i64 x.d)
 c5 : ∃ A c,W0.cell? ⟨b,o + 5,none⟩ = some (.slice A x.s.len c) ∧ CdW W0 B0 A c x.s
theorem Fo.At.xp {W0 : World} {B0 : Nat} : ∀ {f : Fo} {b o j : Nat} {x : Xp},b < B0 → f.At W0 B0 b o → f.sk.at j = some x → XpA W0 B0 b (o + j * 6) x
 | .nil,_,_,_,_,_,_,h => by simp [Fo.sk,Sk.at] at h
 | .cons k n m i d A c s r,b,o,0,x,hb,h,e => by
  simp only [Fo.sk,Sk.at,Option.some.injEq] at e
  subst e
  obtain ⟨h0,h1,h2,h3,h4,⟨h5,hc,hm,hs⟩,hr⟩:=h
  simp only [Nat.zero_mul,Nat.add_zero]
  exact ⟨hb,h0,h1,h2,h3,h4,A,c,by rw [Fo.sk_len];exact h5,s,rfl,hc,hm,hs⟩
 | .cons k n m i d A c s r,b,o,j + 1,x,hb,h,e => by
  have:=Fo.At.xp (f:=r) (j:=j) hb h.2.2.2.2.2.2 e
  rw [show o + 6 + j * 6 = o + (j + 1) * 6 by omega] at this
  exact this
theorem CdW.at {W0 : World} {B0 : Nat} {A : Option Addr} {c : Nat} {s : Sk} {j : Nat} {x : Xp} (h : CdW W0 B0 A c s) (e : s.at j = some x) : ∃ b o,A = some ⟨b,o,none⟩ ∧ XpA W0 B0 b (o + j * 6) x:=by
 obtain ⟨f,rfl,h⟩:=h
 obtain ⟨b,o,rfl,hb,ha⟩:=h.2.2 (by intro e';subst e';simp [Fo.sk,Sk.at] at e)
 exact ⟨b,o,rfl,ha.xp hb e⟩
theorem CdW.len {W0 : World} {B0 : Nat} {A : Option Addr} {c : Nat} {s : Sk} (h : CdW W0 B0 A c s) : s.len ≤ c ∧ c ≤ maxLen:=by
 obtain ⟨f,rfl,h⟩:=h
 rw [Fo.sk_len]
 exact ⟨h.1,h.2.1⟩
theorem CdW.nil (W0 : World) (B0 : Nat) (A : Option Addr) : CdW W0 B0 A 0 .nil:=⟨.nil,rfl,Nat.le_refl _,Nat.zero_le _,fun h => absurd rfl h⟩
/-! Values that are copied, values that are added -/
theorem Vl.At.copy {Cd : Code} {D D' : Dead} {w w' : World} (hk : Kp D w D' w') {g g' : Nat} (hg : g < w.heap.size) : ∀ {nm : Bool} {l : Vl} {o o' : Nat},
  (∀ t,t < l.len * (off nm + 8) → w'.cell? ⟨g',o' + t,none⟩ = w.cell? ⟨g,o + t,none⟩ ∧ ¬ D' g' (o' + t)) → l.At Cd w D nm g o → l.At Cd w' D' nm g' o'
 | _,.nil,_,_,_,_ => trivial
 | nm,.cons x k i l p q b e r,o,o',hc,h => by
  have hk':=Vl.At.keep hk hg h
  obtain ⟨⟨h1,h1'⟩,⟨hd,h2,h3,h4,h5,h6⟩,⟨A,c,h7,hl⟩,⟨bA,bc,h8,hb⟩,⟨eA,ec,h9,he⟩,hr⟩:=h
  obtain ⟨_,_,⟨A',c',k7,kl⟩,_,⟨eA',ec',k9,ke⟩,_⟩:=hk'
  have hl0 : (Vl.cons x k i l p q b e r).len * (off nm + 8) = r.len * (off nm + 8) + (off nm + 8):=by simp only [Vl.len,Nat.succ_mul]
  have cl : ∀ j,j < 8 → w'.cell? ⟨g',o' + off nm + j,none⟩ = w.cell? ⟨g,o + off nm + j,none⟩ ∧ ¬ D' g' (o' + off nm + j):=fun j hj => by
   have:=hc (off nm + j) (by omega)
   rw [← Nat.add_assoc,← Nat.add_assoc] at this
   exact this
  have ho : off nm ≤ 1:=by cases nm <;> simp [off]
  have e7 : A' = A ∧ c' = c:=by
   have:=(hk.cell g _ hg (hd 2 (by omega))).1.symm.trans k7
   rw [h7] at this
   simp only [Option.some.injEq,Value.slice.injEq] at this
   exact ⟨this.1.symm,this.2.2.symm⟩
  have e9 : eA' = eA ∧ ec' = ec:=by
   have:=(hk.cell g _ hg (hd 7 (by omega))).1.symm.trans k9
   rw [h9] at this
   simp only [Option.some.injEq,Value.slice.injEq] at this
   exact ⟨this.1.symm,this.2.2.symm⟩
  obtain ⟨rfl,rfl⟩:=e7
  obtain ⟨rfl,rfl⟩:=e9
  refine ⟨⟨fun e' => ?_,h1'⟩,⟨fun j hj => (cl j hj).2,(cl 0 (by omega)).1.trans h2,(cl 1 (by omega)).1.trans h3,(cl 3 (by omega)).1.trans h4,(cl 4 (by omega)).1.trans h5,(cl 5 (by omega)).1.trans h6⟩,
   ⟨A',c',(cl 2 (by omega)).1.trans h7,kl⟩,⟨bA,bc,(cl 6 (by omega)).1.trans h8,hb⟩,⟨eA',ec',(cl 7 (by omega)).1.trans h9,ke⟩,Vl.At.copy hk hg (fun t ht => ?_) hr⟩
  ·obtain ⟨c1,c2⟩:=hc 0 (by omega)
   rw [Nat.add_zero,Nat.add_zero] at c1
   exact ⟨c2,c1.trans (h1 e').2⟩
  ·have:=hc (off nm + 8 + t) (by omega)
   rw [← Nat.add_assoc,← Nat.add_assoc,← Nat.add_assoc,← Nat.add_assoc] at this
   exact this
theorem Vl.snoc_len : ∀ (l : Vl) (x : ByteArray) (v : Va),(l.snoc x v).len = l.len + 1
 | .nil,_,_ => rfl
 | .cons _ _ _ _ _ _ _ _ r,x,v => by simp [Vl.snoc,Vl.len,Vl.snoc_len r]
def VaAt (Cd : Code) (w : World) (D : Dead) (nm : Bool) (x : ByteArray) (v : Va) (g o : Nat) : Prop:=(Vl.push x v .nil).At Cd w D nm g o
theorem Vl.At.snoc {Cd : Code} {D : Dead} {w : World} : ∀ {nm : Bool} {l : Vl} {g o : Nat} {x : ByteArray} {v : Va},l.At Cd w D nm g o → VaAt Cd w D nm x v g (o + l.len * (off nm + 8)) → (l.snoc x v).At Cd w D nm g o
 | _,.nil,g,o,x,v,_,h => by
  simp only [Vl.len,Nat.zero_mul,Nat.add_zero] at h
  exact h
 | nm,.cons y k i l p q b e r,g,o,x,v,h,h' => by
  obtain ⟨h1,h2,h3,h4,h5,hr⟩:=h
  refine ⟨h1,h2,h3,h4,h5,Vl.At.snoc hr ?_⟩
  rw [show o + off nm + 8 + r.len * (off nm + 8) = o + (r.len + 1) * (off nm + 8) by rw [Nat.succ_mul];omega]
  exact h'
theorem VaAt.mk' {Cd : Code} {D : Dead} {w : World} {nm : Bool} {x : ByteArray} {v : Va} {g o : Nat} {lA : Option Addr} {lc : Nat} {bA : Option Addr} {bc : Nat} {eA : Option Addr} {ec : Nat} (hn : nm = true → w.cell? ⟨g,o,none⟩ = some (.string x)) (hn' : nm = false → x = noB) (hd : ∀ t,¬ D g (o + t))
  (hv : VaR Cd w D v lA lc bA bc eA ec) (hc : ∀ t c,(v.cells lA lc bA bc eA ec)[t]? = some c → w.cell? ⟨g,o + off nm + t,none⟩ = some c) : VaAt Cd w D nm x v g o:=
 ⟨⟨fun e => ⟨hd 0,hn e⟩,hn'⟩,⟨fun j _ => by rw [Nat.add_assoc];exact hd _,hc 0 _ rfl,hc 1 _ rfl,hc 3 _ rfl,hc 4 _ rfl,hc 5 _ rfl⟩,⟨lA,lc,hc 2 _ rfl,hv.l⟩,⟨bA,bc,hc 6 _ rfl,hv.b⟩,⟨eA,ec,hc 7 _ rfl,hv.e⟩,trivial⟩
/-! Places, frames, values -/
structure PlA (Cd : Code) (w : World) (D : Dead) (pb : Nat) (p : ByteArray) (v : Vl) : Prop where
 c0 : w.cell? ⟨pb,0,none⟩ = some (.string p)
 d0 : ¬ D pb 0
 c1 : ∃ A c,w.cell? ⟨pb,1,none⟩ = some (.slice A v.len c) ∧ v.Sl Cd w D true A c
 d1 : ¬ D pb 1
theorem PlA.keep {Cd : Code} {D D' : Dead} {w w' : World} (hk : Kp D w D' w') {pb : Nat} {p : ByteArray} {v : Vl} (h : PlA Cd w D pb p v) : PlA Cd w' D' pb p v:=by
 have hb:=World.block_lt_of_cell? w ⟨pb,0,none⟩ h.c0
 obtain ⟨A,c,hc,hs⟩:=h.c1
 exact ⟨(hk.cell pb 0 hb h.d0).1.trans h.c0,(hk.cell pb 0 hb h.d0).2,⟨A,c,(hk.cell pb 1 hb h.d1).1.trans hc,hs.keep hk⟩,(hk.cell pb 1 hb h.d1).2⟩
def FrsR (W0 : World) (B0 : Nat) (w : World) (D : Dead) : List Fe → List Value → Prop
 | [],fc => fc = []
 | f :: r,fc => ∃ fc' eb eo pb,fc = fc' ++ [.pointer (some ⟨eb,eo,none⟩),.int .i64 f.at_,.pointer (some ⟨pb,0,none⟩)] ∧ XpA W0 B0 eb eo f.e ∧ PlA (CdW W0 B0) w D pb f.p f.v ∧ FrsR W0 B0 w D r fc'
theorem FrsR.keep {W0 : World} {B0 : Nat} {D D' : Dead} {w w' : World} (hk : Kp D w D' w') : ∀ {fs : List Fe} {fc : List Value},FrsR W0 B0 w D fs fc → FrsR W0 B0 w' D' fs fc
 | [],_,h => h
 | f :: r,fc,h => by
  obtain ⟨fc',eb,eo,pb,e,h1,h2,h3⟩:=h
  exact ⟨fc',eb,eo,pb,e,h1,h2.keep hk,h3.keep hk⟩
theorem FrsR.len {W0 : World} {B0 : Nat} {D : Dead} {w : World} : ∀ {fs : List Fe} {fc : List Value},FrsR W0 B0 w D fs fc → fc.length = fs.length * 3
 | [],_,h => by rw [show _ = [] from h];rfl
 | f :: r,fc,h => by
  obtain ⟨fc',eb,eo,pb,rfl,h1,h2,h3⟩:=h
  have:=h3.len
  simp only [List.length_append,List.length_cons,List.length_nil]
  omega
def VasR (Cd : Code) (w : World) (D : Dead) : List Va → List Value → Prop
 | [],gc => gc = []
 | v :: r,gc => ∃ gc' lA lc bA bc eA ec,gc = gc' ++ v.cells lA lc bA bc eA ec ∧ VaR Cd w D v lA lc bA bc eA ec ∧ VasR Cd w D r gc'
theorem VasR.keep {Cd : Code} {D D' : Dead} {w w' : World} (hk : Kp D w D' w') : ∀ {vs : List Va} {gc : List Value},VasR Cd w D vs gc → VasR Cd w' D' vs gc
 | [],_,h => h
 | v :: r,gc,h => by
  obtain ⟨gc',lA,lc,bA,bc,eA,ec,e,h1,h2⟩:=h
  exact ⟨gc',lA,lc,bA,bc,eA,ec,e,h1.keep hk,h2.keep hk⟩
theorem VasR.len {Cd : Code} {D : Dead} {w : World} : ∀ {vs : List Va} {gc : List Value},VasR Cd w D vs gc → gc.length = vs.length * 8
 | [],_,h => by rw [show _ = [] from h];rfl
 | v :: r,gc,h => by
  obtain ⟨gc',lA,lc,bA,bc,eA,ec,rfl,h1,h2⟩:=h
  have:=h2.len
  simp only [List.length_append,List.length_cons,Va.cells,List.length_nil]
  omega
/-! Rooms: arrays whose first elements are free -/
structure Rm where
 b : Nat
 s : Nat
 q : Nat
def Dd (vb rb : Nat) (fv gv : Value) (rs : List Rm) : Dead:=fun k o => k = vb ∨ k = rb ∨ fv.ownBlock = some k ∨ gv.ownBlock = some k ∨ ∃ x ∈ rs,k = x.q ∨ (k = x.b ∧ o < x.s * 8)
structure RmR (rb base : Nat) (fv gv : Value) (w : World) (rs : List Rm) : Prop where
 mp : ∃ es clock,w.heap[rb]? = some (.map es clock) ∧ es.toList.map (fun e => (e.key,e.val)) = rs.map fun x => (Value.pointer (some ⟨x.b,x.s * 8,none⟩),Value.pointer (some ⟨x.q,0,none⟩))
 at_ : ∀ x ∈ rs,base ≤ x.b ∧ base ≤ x.q ∧ ∃ N cur,w.heap[x.q]? = some (.cells #[.slice (some ⟨x.b,0,none⟩) N N,.int .i64 x.s] 228 (0,0)) ∧ w.heap[x.b]? = some (.cells cur 36 (0,0)) ∧ cur.size = N * 8 ∧ x.s ≤ N ∧ N ≤ 1000000
 own : ∀ x ∈ rs,fv.ownBlock ≠ some x.b ∧ fv.ownBlock ≠ some x.q ∧ gv.ownBlock ≠ some x.b ∧ gv.ownBlock ≠ some x.q
 dis : rs.Pairwise fun x y => x.b ≠ y.b ∧ x.q ≠ y.q
structure EvI (W0 : World) (B0 vb rb base : Nat) (m : Value) (L : Int) (w : World) (s : Es) (fv : Value) (fc : List Value) (gv : Value) (gc : List Value) (rs : List Rm) : Prop where
 ev : EvR w vb base m s.n L s.z (.map (some rb)) fv s.fs.length fc gv s.vs.length gc
 fr : FrsR W0 B0 w (Dd vb rb fv gv rs) s.fs fc
 va : VasR (CdW W0 B0) w (Dd vb rb fv gv rs) s.vs gc
 rm : RmR rb base fv gv w rs
 old : ∀ k,k < base → k ≠ vb → k ≠ rb → w.heap[k]? = W0.heap[k]?
 lv : B0 ≤ vb
 lr : B0 ≤ rb
 rlt : rb < base
 rne : rb ≠ vb
section
variable {W0 : World} {B0 vb rb base : Nat} {m : Value} {L : Int} {w w' : World} {s s' : Es} {fv : Value} {fc : List Value} {gv : Value} {gc : List Value} {rs : List Rm} {fv' gv' : Value} {fc' gc' : List Value}
theorem EvI.code (h : EvI W0 B0 vb rb base m L w s fv fc gv gc rs) {b o : Nat} (hb : b < B0) : w.cell? ⟨b,o,none⟩ = W0.cell? ⟨b,o,none⟩:=
 World.cell?_of_block (h.old b (by have:=h.lr;have:=h.rlt;omega) (by have:=h.lv;omega) (by have:=h.lr;omega))
theorem EvI.kp (_h : EvI W0 B0 vb rb base m L w s fv fc gv gc rs) {p : Nat → Prop} (ho : Oth p w w') (hp : ∀ k,p k → k = vb ∨ fv.ownBlock = some k ∨ gv.ownBlock = some k) (hf : NewB fv fv' w) (hg : NewB gv gv' w) :
  Kp (Dd vb rb fv gv rs) w (Dd vb rb fv' gv' rs) w':=by
 have hpd : ∀ b o,p b → Dd vb rb fv gv rs b o:=fun b o e => by
  rcases hp b e with e | e | e
  ·exact .inl e
  ·exact .inr (.inr (.inl e))
  ·exact .inr (.inr (.inr (.inl e)))
 refine ⟨ho.size,fun b o hb hd => ⟨World.cell?_of_block (ho.block b hb fun e => hd (hpd b o e)),fun e => hd ?_⟩,fun b o n hb hd ⟨cs,hcs,hn⟩ => ⟨cs,(ho.block b hb fun e => hd (hpd b o e)).trans hcs,hn⟩⟩
 ·rcases e with e | e | e | e | e
  ·exact .inl e
  ·exact .inr (.inl e)
  ·rcases hf with h1 | ⟨k,h1,h2⟩
   ·exact .inr (.inr (.inl (h1 ▸ e)))
   ·rw [h1] at e
    cases e
    omega
  ·rcases hg with h1 | ⟨k,h1,h2⟩
   ·exact .inr (.inr (.inr (.inl (h1 ▸ e))))
   ·rw [h1] at e
    cases e
    omega
  ·exact .inr (.inr (.inr (.inr e)))
theorem EvI.next (h : EvI W0 B0 vb rb base m L w s fv fc gv gc rs) {p : Nat → Prop} (ho : Oth p w w') (hp : ∀ k,p k → k = vb ∨ fv.ownBlock = some k ∨ gv.ownBlock = some k) (hf : NewB fv fv' w) (hg : NewB gv gv' w)
  (ev : EvR w' vb base m s'.n L s'.z (.map (some rb)) fv' s'.fs.length fc' gv' s'.vs.length gc') (fr : FrsR W0 B0 w' (Dd vb rb fv' gv' rs) s'.fs fc') (va : VasR (CdW W0 B0) w' (Dd vb rb fv' gv' rs) s'.vs gc') : EvI W0 B0 vb rb base m L w' s' fv' fc' gv' gc' rs:=by
 have hlt:=h.ev.lt
 have hrb : ¬ p rb:=fun e => by
  rcases hp rb e with e | e | e
  ·exact h.rne e
  ·have:=(h.ev.fr.lt rb e).1
   have:=h.rlt
   omega
  ·have:=(h.ev.va.lt rb e).1
   have:=h.rlt
   omega
 have hx : ∀ x ∈ rs,¬ p x.b ∧ ¬ p x.q:=fun x hx => by
  obtain ⟨h1,h2,_⟩:=h.rm.at_ x hx
  obtain ⟨o1,o2,o3,o4⟩:=h.rm.own x hx
  refine ⟨fun e => ?_,fun e => ?_⟩
  ·rcases hp _ e with e | e | e
   ·omega
   ·exact o1 e
   ·exact o3 e
  ·rcases hp _ e with e | e | e
   ·omega
   ·exact o2 e
   ·exact o4 e
 refine ⟨ev,fr,va,⟨?_,fun x hxm => ?_,fun x hxm => ?_,h.rm.dis⟩,fun k hk h1 h2 => ?_,h.lv,h.lr,h.rlt,h.rne⟩
 ·obtain ⟨es,clock,h1,h2⟩:=h.rm.mp
  exact ⟨es,clock,(ho.block rb (lt_of_block h1) hrb).trans h1,h2⟩
 ·obtain ⟨h1,h2,N,cur,h3,h4,h5⟩:=h.rm.at_ x hxm
  exact ⟨h1,h2,N,cur,(ho.block _ (lt_of_block h3) (hx x hxm).2).trans h3,(ho.block _ (lt_of_block h4) (hx x hxm).1).trans h4,h5⟩
 ·obtain ⟨_,_,N,cur,h3,h4,_⟩:=h.rm.at_ x hxm
  have l3:=lt_of_block h3
  have l4:=lt_of_block h4
  obtain ⟨o1,o2,o3,o4⟩:=h.rm.own x hxm
  refine ⟨fun e => ?_,fun e => ?_,fun e => ?_,fun e => ?_⟩
  ·rcases hf with h1 | ⟨k,h1,h2⟩
   ·exact o1 (h1 ▸ e)
   ·rw [h1] at e;cases e;omega
  ·rcases hf with h1 | ⟨k,h1,h2⟩
   ·exact o2 (h1 ▸ e)
   ·rw [h1] at e;cases e;omega
  ·rcases hg with h1 | ⟨k,h1,h2⟩
   ·exact o3 (h1 ▸ e)
   ·rw [h1] at e;cases e;omega
  ·rcases hg with h1 | ⟨k,h1,h2⟩
   ·exact o4 (h1 ▸ e)
   ·rw [h1] at e;cases e;omega
 ·refine (ho.block k (Nat.lt_of_lt_of_le hk h.ev.le) fun e => ?_).trans (h.old k hk h1 h2)
  rcases hp k e with e | e | e
  ·exact h1 e
  ·have:=(h.ev.fr.lt k e).1
   omega
  ·have:=(h.ev.va.lt k e).1
   omega
end
end Go.Proofs.YtnfndgmlnoeelaaGreatDoor
