/- eval: a place with more variables -/
import Derived.Test.YtnfndgmlnoeelaaGreatDoorZee
namespace Go.Proofs.YtnfndgmlnoeelaaGreatDoor
open Go Go.RowKit Go.Proofs
theorem Vl.Sl.olds {Cd : Code} {D : Dead} {w : World} {A : Option Addr} {c : Nat} {l : Vl} (h : l.Sl Cd w D true A c) : (A = none → l.len = 0) ∧ ∃ olds : List Value,olds.length = l.len * 9 ∧ (∀ b,A = some b → ∀ j u,olds[j]? = some u → w.cell? (b.add j) = some u) ∧
  (l ≠ .nil → ∃ g o,A = some ⟨g,o,none⟩ ∧ g < w.heap.size ∧ l.At Cd w D true g o ∧ ∀ t,t < l.len * 9 → olds[t]? = w.cell? ⟨g,o + t,none⟩):=by
 by_cases hn : l = .nil
 ·subst hn
  exact ⟨fun _ => rfl,[],rfl,fun b _ j u hj => by simp at hj,fun e => absurd rfl e⟩
 ·obtain ⟨g,o,rfl,hg,ha,_⟩:=h.2.2 hn
  have hex : ∀ t,t < l.len * 9 → ∃ u,w.cell? ⟨g,o + t,none⟩ = some u:=by
   intro t ht
   have hj : t / 9 < l.len:=by omega
   have hat : ∀ (l : Vl) (j : Nat),j < l.len → ∃ x,l.at j = some x:=fun l => by
    induction l with
    | nil => intro j hj;simp [Vl.len] at hj
    | cons x k i l p q b e r _ _ ih =>
     intro j hj
     cases j with
     | zero => exact ⟨_,rfl⟩
     | succ j => exact ih j (by simp [Vl.len] at hj;omega)
   obtain ⟨⟨x,v⟩,hx⟩:=hat l _ hj
   obtain ⟨h1,_,lA,lc,bA,bc,eA,ec,_,hc⟩:=Vl.At.get ha hx
   have h1:=h1 rfl
   simp only [off] at h1 hc
   by_cases h0 : t % 9 = 0
   ·refine ⟨_,(?_ : w.cell? ⟨g,o + t,none⟩ = some (.string x))⟩
    rw [← h1]
    congr 2
    simp
    omega
   ·obtain ⟨u,hu⟩ : ∃ u,(v.cells lA lc bA bc eA ec)[t % 9 - 1]? = some u:=⟨_,List.getElem?_eq_getElem (by simp [Va.cells];omega)⟩
    refine ⟨u,?_⟩
    rw [← hc _ _ hu]
    congr 2
    simp
    omega
  refine ⟨(fun e => by cases e),(List.range (l.len * 9)).map fun t => (w.cell? ⟨g,o + t,none⟩).getD (.int .i64 0),by simp,fun b hb j u hj => ?_,fun _ => ⟨g,o,rfl,hg,ha,fun t ht => ?_⟩⟩
  ·simp only [Option.some.injEq] at hb
   subst hb
   have hjl : j < l.len * 9:=by
    have:=(List.getElem?_eq_some_iff.1 hj).1
    simpa using this
   obtain ⟨u',hu⟩:=hex j hjl
   simp only [List.getElem?_map,List.getElem?_range hjl,Option.map_some,hu,Option.getD_some,Option.some.injEq] at hj
   subst hj
   have hadd : (⟨g,o,none⟩ : Addr).add j = ⟨g,o + j,none⟩:=by unfold Addr.add;split <;> simp_all
   rw [hadd]
   exact hu
  ·obtain ⟨u',hu⟩:=hex t ht
   simp only [List.getElem?_map,List.getElem?_range ht,Option.map_some,hu,Option.getD_some]
section
variable {W0 : World} {B0 vb rb base : Nat} {m : Value} {L : Int} {w : World} {s : Es} {fv : Value} {fc : List Value} {gv : Value} {gc : List Value} {rs : List Rm}
theorem EvI.dead_lt (h : EvI W0 B0 vb rb base m L w s fv fc gv gc rs) {b o : Nat} (hd : Dd vb rb fv gv rs b o) : b < w.heap.size:=by
 rcases hd with rfl | rfl | e | e | ⟨x,hx,e⟩
 ·exact lt_of_block h.ev.blk
 ·obtain ⟨es,cl,h1,_⟩:=h.rm.mp
  exact lt_of_block h1
 ·exact (h.ev.fr.lt b e).2
 ·exact (h.ev.va.lt b e).2
 ·obtain ⟨_,_,N,cur,h1,h2,_⟩:=h.rm.at_ x hx
  rcases e with rfl | ⟨rfl,_⟩
  ·exact lt_of_block h1
  ·exact lt_of_block h2
theorem addPl (h : EvI W0 B0 vb rb base m L w s fv fc gv gc rs) {v : Vl} {A : Option Addr} {c : Nat} (hsl : v.Sl (CdW W0 B0) w (Dd vb rb fv gv rs) true A c) {olds news : List Value} (hlo : olds.length = v.len * 9)
  (hol : v ≠ .nil → ∃ g o,A = some ⟨g,o,none⟩ ∧ g < w.heap.size ∧ v.At (CdW W0 B0) w (Dd vb rb fv gv rs) true g o ∧ ∀ t,t < v.len * 9 → olds[t]? = w.cell? ⟨g,o + t,none⟩)
  {w' : World} (ho : Oth (fun _ => False) w w') {pack : ByteArray} {nb g cap n : Nat} (hnb : w.heap.size ≤ nb) (hpl : w'.heap[nb]? = some (.cells #[.string pack,.slice (some ⟨g,0,none⟩) n cap] 140 (0,0))) (hrow : w'.ownsRow w.heap.size 147 9 (.slice (some ⟨g,0,none⟩) n cap) n (olds ++ news))
  {u : Vl} (hu : u.len = n)
  (hat : v.At (CdW W0 B0) w' (Dd vb rb fv gv rs) true g 0 → (∀ t,news[t]? = w'.cell? ⟨g,v.len * 9 + t,none⟩ ∨ n * 9 ≤ v.len * 9 + t) → u.At (CdW W0 B0) w' (Dd vb rb fv gv rs) true g 0) : PlA (CdW W0 B0) w' (Dd vb rb fv gv rs) nb pack u:=by
 have hk:=(h.same ho).2.1
 have hgl:=hrow.lt g rfl
 have hdg : ∀ o,¬ Dd vb rb fv gv rs g o:=fun o hd => by have:=h.dead_lt hd;omega
 have hdn : ∀ o,¬ Dd vb rb fv gv rs nb o:=fun o hd => by have:=h.dead_lt hd;omega
 have hcap : n ≤ cap ∧ cap ≤ maxLen:=by
  rcases hrow.2 with ⟨h0,_⟩ | ⟨g',cap',cur,e,_,_,h1,h2,_⟩
  ·cases h0
  ·cases e
   exact ⟨h1,h2⟩
 refine ⟨cell_of_row w' nb 0 _ _ (0,0) hpl,hdn 0,⟨some ⟨g,0,none⟩,cap,by rw [hu];exact cell_of_row w' nb 1 _ _ (0,0) hpl,by rw [hu];exact hcap.1,hcap.2,fun _ => ⟨g,0,rfl,hgl.2,hat ?_ fun t => ?_,fun e => by cases e⟩⟩,hdn 1⟩
 ·by_cases hv : v = .nil
  ·subst hv
   trivial
  ·obtain ⟨g0,o0,_,hg0,ha,hc⟩:=hol hv
   refine Vl.At.copy hk hg0 (fun t ht => ?_) ha
   have ht' : t < v.len * 9:=ht
   rw [Nat.zero_add]
   refine ⟨?_,hdg t⟩
   have hlen:=hrow.1
   rw [List.length_append,hlo] at hlen
   rw [hrow.cellAt t (by omega),List.getElem?_append_left (by omega),hc t ht']
 ·by_cases ht : n * 9 ≤ v.len * 9 + t
  ·exact .inr ht
  ·left
   rw [hrow.cellAt (v.len * 9 + t) (by omega),List.getElem?_append_right (by omega),show v.len * 9 + t - olds.length = t by omega]
theorem oneCells (v : Va) (lA : Option Addr) (lc : Nat) (bA : Option Addr) (bc : Nat) (eA : Option Addr) (ec : Nat) : ∀ u ∈ v.cells lA lc bA bc eA ec,u.oneCell' = true:=by simp [Va.cells,Value.oneCell']
theorem addI1 (h : EvI W0 B0 vb rb base m L w s fv fc gv gc rs) {pb : Nat} {p : ByteArray} {v : Vl} (hpl : PlA (CdW W0 B0) w (Dd vb rb fv gv rs) pb p v) (hvl : v.len ≤ 1000000000) {pack name : ByteArray} {x : Va} {lA : Option Addr} {lc : Nat} {bA : Option Addr} {bc : Nat} {eA : Option Addr} {ec : Nat}
  (hx : VaR (CdW W0 B0) w (Dd vb rb fv gv rs) x lA lc bA bc eA ec) {mb mc : Nat} {t : TypeId} (hm : w.heap[mb]? = some (.cells (.string name :: x.cells lA lc bA bc eA ec).toArray t (0,0))) :
  Calls Tryz.prog 129 #[.pointer (some ⟨pb,0,none⟩),.string pack,.slice (some ⟨mb,0,none⟩) 1 mc] w fun e w' => ∃ nb,e = .returned (.pointer (some ⟨nb,0,none⟩)) ∧ Oth (fun _ => False) w w' ∧ PlA (CdW W0 B0) w' (Dd vb rb fv gv rs) nb pack (v.snoc name x):=by
 obtain ⟨A,c,hc,hsl⟩:=hpl.c1
 obtain ⟨hA,olds,hlo,hold,hol⟩:=hsl.olds
 refine (evAdd_any pb A v.len c pack olds (.string name :: x.cells lA lc bA bc eA ec) mb 1 mc w hc hsl.1 hA hlo hold (by decide) (by simp [Va.cells]) (World.news_of_block hm) (fun u hu => ?_) (by omega)).mono ?_
 ·rcases List.mem_cons.1 hu with rfl | hu
  ·rfl
  ·exact oneCells _ _ _ _ _ _ _ u hu
 ·rintro e w' ⟨nb,g,cap,rfl,ho,hnb,hp,hr⟩
  refine ⟨nb,rfl,ho,addPl h hsl hlo hol ho hnb hp hr (Vl.snoc_len _ _ _) fun ha hn => ha.snoc ?_⟩
  have hdg : ∀ o,¬ Dd vb rb fv gv rs g o:=fun o hd => by have:=h.dead_lt hd;have:=(hr.lt g rfl).1;omega
  have hk:=(h.same ho).2.1
  have hcl : ∀ j u,(.string name :: x.cells lA lc bA bc eA ec)[j]? = some u → w'.cell? ⟨g,v.len * 9 + j,none⟩ = some u:=fun j u hj => by
   rcases hn j with e | e
   ·exact e.symm.trans hj
   ·have:=(List.getElem?_eq_some_iff.1 hj).1
    simp [Va.cells] at this
    omega
  refine VaAt.mk' (fun _ => ?_) (fun e => by cases e) (fun t => hdg _) (hx.keep hk) fun t u ht => ?_
  ·have:=hcl 0 _ rfl
   simpa [off] using this
  ·have:=hcl (t + 1) u (by simpa using ht)
   rw [show 0 + v.len * (off true + 8) + off true + t = v.len * 9 + (t + 1) by simp [off];omega]
   exact this
theorem addI2 (h : EvI W0 B0 vb rb base m L w s fv fc gv gc rs) {pb : Nat} {p : ByteArray} {v : Vl} (hpl : PlA (CdW W0 B0) w (Dd vb rb fv gv rs) pb p v) (hvl : v.len ≤ 1000000000) {pack name name2 : ByteArray} {x y : Va} {lA : Option Addr} {lc : Nat} {bA : Option Addr} {bc : Nat} {eA : Option Addr} {ec : Nat} {lA2 : Option Addr} {lc2 : Nat} {bA2 : Option Addr} {bc2 : Nat} {eA2 : Option Addr} {ec2 : Nat}
  (hx : VaR (CdW W0 B0) w (Dd vb rb fv gv rs) x lA lc bA bc eA ec) (hy : VaR (CdW W0 B0) w (Dd vb rb fv gv rs) y lA2 lc2 bA2 bc2 eA2 ec2) {mb mc : Nat} {t : TypeId} (hm : w.heap[mb]? = some (.cells ((.string name :: x.cells lA lc bA bc eA ec) ++ (.string name2 :: y.cells lA2 lc2 bA2 bc2 eA2 ec2)).toArray t (0,0))) :
  Calls Tryz.prog 129 #[.pointer (some ⟨pb,0,none⟩),.string pack,.slice (some ⟨mb,0,none⟩) 2 mc] w fun e w' => ∃ nb,e = .returned (.pointer (some ⟨nb,0,none⟩)) ∧ Oth (fun _ => False) w w' ∧ PlA (CdW W0 B0) w' (Dd vb rb fv gv rs) nb pack ((v.snoc name x).snoc name2 y):=by
 obtain ⟨A,c,hc,hsl⟩:=hpl.c1
 obtain ⟨hA,olds,hlo,hold,hol⟩:=hsl.olds
 refine (evAdd_any pb A v.len c pack olds ((.string name :: x.cells lA lc bA bc eA ec) ++ (.string name2 :: y.cells lA2 lc2 bA2 bc2 eA2 ec2)) mb 2 mc w hc hsl.1 hA hlo hold (by decide) (by simp [Va.cells]) (World.news_of_block hm) (fun u hu => ?_) (by omega)).mono ?_
 ·rcases List.mem_append.1 hu with hu | hu
  ·rcases List.mem_cons.1 hu with rfl | hu
   ·rfl
   ·exact oneCells _ _ _ _ _ _ _ u hu
  ·rcases List.mem_cons.1 hu with rfl | hu
   ·rfl
   ·exact oneCells _ _ _ _ _ _ _ u hu
 ·rintro e w' ⟨nb,g,cap,rfl,ho,hnb,hp,hr⟩
  refine ⟨nb,rfl,ho,addPl h hsl hlo hol ho hnb hp hr (by rw [Vl.snoc_len,Vl.snoc_len]) fun ha hn => (ha.snoc ?_).snoc ?_⟩
  all_goals
   have hdg : ∀ o,¬ Dd vb rb fv gv rs g o:=fun o hd => by have:=h.dead_lt hd;have:=(hr.lt g rfl).1;omega
   have hk:=(h.same ho).2.1
   have hcl : ∀ j u,((.string name :: x.cells lA lc bA bc eA ec) ++ (.string name2 :: y.cells lA2 lc2 bA2 bc2 eA2 ec2))[j]? = some u → w'.cell? ⟨g,v.len * 9 + j,none⟩ = some u:=fun j u hj => by
    rcases hn j with e | e
    ·exact e.symm.trans hj
    ·have:=(List.getElem?_eq_some_iff.1 hj).1
     simp [Va.cells] at this
     omega
  ·refine VaAt.mk' (fun _ => ?_) (fun e => by cases e) (fun t => hdg _) (hx.keep hk) fun t u ht => ?_
   ·have:=hcl 0 _ rfl
    simpa [off] using this
   ·have htl : t < 8:=(List.getElem?_eq_some_iff.1 ht).1
    have:=hcl (t + 1) u (by rw [List.getElem?_append_left (by simp [Va.cells];omega)];simpa using ht)
    rw [show 0 + v.len * (off true + 8) + off true + t = v.len * 9 + (t + 1) by simp [off];omega]
    exact this
  ·rw [Vl.snoc_len]
   refine VaAt.mk' (fun _ => ?_) (fun e => by cases e) (fun t => hdg _) (hy.keep hk) fun t u ht => ?_
   ·have:=hcl 9 _ rfl
    rw [show 0 + (v.len + 1) * (off true + 8) = v.len * 9 + 9 by simp [off];omega]
    exact this
   ·have htl : t < 8:=(List.getElem?_eq_some_iff.1 ht).1
    have:=hcl (t + 10) u (by rw [List.getElem?_append_right (by simp [Va.cells])];simpa [Va.cells] using ht)
    rw [show 0 + (v.len + 1) * (off true + 8) + off true + t = v.len * 9 + (t + 10) by simp [off];omega]
    exact this
end
end Go.Proofs.YtnfndgmlnoeelaaGreatDoor
/- eval: let -/
namespace Go.Proofs.YtnfndgmlnoeelaaGreatDoor
open Go Go.RowKit Go.Proofs
structure KL (vb g q : Nat) (A B : World) : Prop where
 size : A.heap.size ≤ B.heap.size
 cell : ∀ b o,b < A.heap.size → b ≠ vb → b ≠ g → B.cell? ⟨b,o,none⟩ = A.cell? ⟨b,o,none⟩
 fr : ∀ o,o < (q + 1) * 3 → o ≠ q * 3 + 1 → B.cell? ⟨g,o,none⟩ = A.cell? ⟨g,o,none⟩
theorem KL.trans {vb g q : Nat} {A B C : World} (h : KL vb g q A B) (k : KL vb g q B C) : KL vb g q A C:=
 ⟨Nat.le_trans h.size k.size,fun b o hb h1 h2 => (k.cell b o (Nat.lt_of_lt_of_le hb h.size) h1 h2).trans (h.cell b o hb h1 h2),fun o h1 h2 => (k.fr o h1 h2).trans (h.fr o h1 h2)⟩
theorem KL.of_oth {vb g q : Nat} {p : Nat → Prop} {A B : World} (ho : Oth p A B) (hp : ∀ k,p k → k = vb) (hg : g < A.heap.size) (hne : g ≠ vb) : KL vb g q A B:=
 ⟨ho.size,fun b _ hb h1 _ => World.cell?_of_block (ho.block b hb fun e => h1 (hp b e)),fun _ _ _ => World.cell?_of_block (ho.block g hg fun e => hne (hp g e))⟩
theorem KL.of_part {vb g q : Nat} {A B : World} (ho : Oth (fun k => k = vb ∨ k = g) A B) (hf : ∀ o,o < (q + 1) * 3 → o ≠ q * 3 + 1 → B.cell? ⟨g,o,none⟩ = A.cell? ⟨g,o,none⟩) : KL vb g q A B:=
 ⟨ho.size,fun b _ hb h1 h2 => World.cell?_of_block (ho.block b hb fun e => e.elim h1 h2),hf⟩
section
variable {W0 : World} {B0 vb rb base : Nat} {m : Value} {L : Int} {w : World} {fv : Value} {fc : List Value} {gv : Value} {gc : List Value} {rs : List Rm}
set_option maxRecDepth 100000 in
set_option maxHeartbeats 4000000 in
theorem evLet_any {n z : Int} {f : Fe} {fs : List Fe} {vs : List Va} {g cap : Nat} (h : EvI W0 B0 vb rb base m L w ⟨n,z,f :: fs,vs⟩ (.slice (some ⟨g,0,none⟩) (fs.length + 1) cap) fc gv gc rs) (hs : Sm L ⟨n,z,f :: fs,vs⟩) (ha : f.at_ ≤ 2) (hlen : f.e.s.len = 2) (hvs : f.at_ = 1 → ∃ x vs1,vs = x :: vs1) (hvl : f.v.len ≤ 1000000000) :
  Calls Tryz.prog 92 #[.pointer (some ⟨vb,0,none⟩),.pointer (some ⟨g,fs.length * 3,none⟩)] w (MethR W0 B0 vb rb base m L (.slice (some ⟨g,0,none⟩) (fs.length + 1) cap) gv rs w (sLet L n z f fs vs)):=by
 obtain ⟨R,HR⟩ : ∃ R,Hid (sLet L n z f fs vs = R):=⟨_,Lib.hid rfl⟩
 rw [HR.out]
 rcases (show f.at_ = 0 ∨ f.at_ = 1 ∨ f.at_ = 2 by omega) with ha0 | ha0 | ha0
 ·obtain ⟨x0,hx0⟩:=Sk.at_lt (s:=f.e.s) (j:=0) (by omega)
  have HN:=Lib.hid (show R = .go ⟨n,z,⟨x0,0,f.p,f.v⟩ :: f.put 1 :: fs,vs⟩ by rw [← HR.out];unfold sLet;rw [if_pos ha0];unfold partR;rw [hx0])
  obtain ⟨eb,eo,pb,sA,sc,vA,vc,hT⟩:=h.facts
  have HP:=Lib.hid (partI h hs (j:=0) (a:=1) hx0 (by omega) hT.pl)
  have p1:=hT.p1
  have p2:=hT.p2
  rw [ha0] at p1
  clear h hs hT hx0
  go_enter Tryz.func92,Tryz.ntmps92
  go_wp2_with fail
  refine HP.out.mono ?_
  rintro e w1 ⟨rfl,hE⟩
  have HE:=Lib.hid hE
  clear hE
  go_wp2
  go_end0
  rw [HN.out]
  exact ⟨rfl,HE.out⟩
 ·obtain ⟨x,vs1,rfl⟩:=hvs ha0
  obtain ⟨x1,hx1⟩:=Sk.at_lt (s:=f.e.s) (j:=1) (by omega)
  by_cases hl : L ≤ n
  ·have HN:=Lib.hid (show R = .bad 27 n by rw [← HR.out];unfold sLet;rw [if_neg (by omega),if_pos ha0];exact if_pos hl)
   have HS:=Lib.hid (stepI_no h hl)
   obtain ⟨eb,eo,pb,sA,sc,vA,vc,hT⟩:=h.facts
   have p1:=hT.p1
   rw [ha0] at p1
   clear h hl hs hT
   go_enter Tryz.func92,Tryz.ntmps92
   go_wp2_with fail
   refine HS.out.mono ?_
   rintro e w1 ⟨he,hE,hst⟩
   have HE:=Lib.hid (And.intro hE hst)
   clear hE hst
   unfold failed at he
   subst he
   go_wp2
   rw [HN.out]
   exact ⟨rfl,rfl,_,_,_,_,_,_,HE.out.1,rfl,HE.out.2⟩
  ·have HS:=Lib.hid (stepI_ok h hs (by show n < L;omega))
   have HM:=Lib.hid (show Sm L ⟨n + 1,z,f :: fs,x :: vs1⟩ from ⟨by have:=hs.n0;show 0 ≤ n + 1;simp only at this;omega,hs.l,hs.f,hs.v⟩)
   have HL:=Lib.hid (show n < L by omega)
   obtain ⟨eb,eo,pb,sA,sc,vA,vc,hT⟩:=h.facts
   have p1:=hT.p1
   rw [ha0] at p1
   clear h hl hs hT
   go_enter Tryz.func92,Tryz.ntmps92
   go_wp2_with fail
   refine HS.out.mono ?_
   rintro e w1 ⟨rfl,hE,hkp,hst⟩
   clear p1 HS
   obtain ⟨eb,eo,pb,sA,sc,vA,vc,hT⟩:=hE.facts
   have HF:=Lib.hid (show R = .go ⟨n + 1,z,⟨x1,0,f.p,f.v.snoc f.e.n x⟩ :: f.put 2 :: fs,vs1⟩ by rw [← HR.out];unfold sLet;rw [if_neg (by omega),if_pos ha0];refine (if_neg (Int.not_le.2 HL.out)).trans ?_;unfold partR;simp only;rw [hx1])
   have hlt:=hE.ev.lt
   have hgl:=hE.ev.fr.lt g rfl
   have hpbd : pb ≠ vb ∧ pb ≠ g:=⟨fun e => hT.pl.d0 (.inl e),fun e => hT.pl.d0 (.inr (.inr (.inl (by rw [e];rfl))))⟩
   have hpbl:=World.block_lt_of_cell? w1 ⟨pb,0,none⟩ hT.v0
   have hebl:=World.block_lt_of_cell? w1 ⟨eb,eo,none⟩ hT.k0
   have hebn : eb ≠ vb ∧ eb ≠ g:=by
    have h1:=hT.xp.lt
    have h2:=hE.lv
    have h3:=hE.lr
    have h4:=hE.rlt
    omega
   have HFX:=Lib.hid (show ∀ Y : World,KL vb g fs.length w1 Y → (Y.cell? ⟨g,fs.length * 3,none⟩ = some (.pointer (some ⟨eb,eo,none⟩)) ∧ Y.cell? ⟨g,fs.length * 3 + 2,none⟩ = some (.pointer (some ⟨pb,0,none⟩)) ∧ Y.cell? ⟨pb,0,none⟩ = some (.string f.p) ∧ Y.cell? ⟨eb,eo + 1,none⟩ = some (.string f.e.n)) from fun Y hk =>
    ⟨(hk.fr _ (by omega) (by omega)).trans hT.p0,(hk.fr _ (by omega) (by omega)).trans hT.p2,(hk.cell pb 0 hpbl hpbd.1 hpbd.2).trans hT.v0,(hk.cell eb _ hebl hebn.1 hebn.2).trans hT.k1⟩)
   have HPop:=Lib.hid (fun (X : World) (ho : Oth (fun _ => False) w1 X) => popO (hE.same ho).1)
   have HAdd:=Lib.hid (show ∀ (w2 : World) (gv2 : Value) (gc2 : List Value) (lA : Option Addr) (lc : Nat) (bA : Option Addr) (bc : Nat) (eA : Option Addr) (ec : Nat),EvI W0 B0 vb rb base m L w2 ⟨n + 1,z,f :: fs,vs1⟩ (.slice (some ⟨g,0,none⟩) (fs.length + 1) cap) fc gv2 gc2 rs → Kp (Dd vb rb (.slice (some ⟨g,0,none⟩) (fs.length + 1) cap) gv rs) w1 (Dd vb rb (.slice (some ⟨g,0,none⟩) (fs.length + 1) cap) gv2 rs) w2 → VaR (CdW W0 B0) w2 (Dd vb rb (.slice (some ⟨g,0,none⟩) (fs.length + 1) cap) gv2 rs) x lA lc bA bc eA ec →
     Calls Tryz.prog 129 #[.pointer (some ⟨pb,0,none⟩),.string f.p,.slice (some ⟨w2.heap.size,0,none⟩) 1 1] (w2.alloc (.cells #[.string f.e.n,.int .i64 x.k,.int .i64 x.i,.slice lA x.l.len lc,.int .i64 0,.string x.p,.string x.q,.slice bA x.b.len bc,.slice eA x.e.len ec] 147)) fun e w4 => ∃ nb,e = .returned (.pointer (some ⟨nb,0,none⟩)) ∧ Oth (fun _ => False) w2 w4 ∧ PlA (CdW W0 B0) w4 (Dd vb rb (.slice (some ⟨g,0,none⟩) (fs.length + 1) cap) gv2 rs) nb f.p (f.v.snoc f.e.n x) from fun w2 gv2 gc2 lA lc bA bc eA ec h2 hk hx => by
    have ho : Oth (fun _ => False) w2 (w2.alloc (.cells #[.string f.e.n,.int .i64 x.k,.int .i64 x.i,.slice lA x.l.len lc,.int .i64 0,.string x.p,.string x.q,.slice bA x.b.len bc,.slice eA x.e.len ec] 147)):=(Oth.refl _ _).alloc _
    have hs2:=h2.same ho
    refine (addI1 hs2.1 (pack:=f.p) (name:=f.e.n) ((hT.pl.keep hk).keep hs2.2.1) hvl (hx.keep hs2.2.1) (heap_alloc_new w2 (.cells #[.string f.e.n,.int .i64 x.k,.int .i64 x.i,.slice lA x.l.len lc,.int .i64 0,.string x.p,.string x.q,.slice bA x.b.len bc,.slice eA x.e.len ec] 147))).mono ?_
    rintro e w4 ⟨nb,rfl,ho4,hp4⟩
    exact ⟨nb,rfl,ho.trans ho4,hp4⟩)
   have HPart:=Lib.hid (show ∀ (w2 : World) (gv2 : Value) (gc2 : List Value) (w4 : World) (nb : Nat),EvI W0 B0 vb rb base m L w2 ⟨n + 1,z,f :: fs,vs1⟩ (.slice (some ⟨g,0,none⟩) (fs.length + 1) cap) fc gv2 gc2 rs → Oth (fun _ => False) w2 w4 → PlA (CdW W0 B0) w4 (Dd vb rb (.slice (some ⟨g,0,none⟩) (fs.length + 1) cap) gv2 rs) nb f.p (f.v.snoc f.e.n x) → _ from fun w2 gv2 gc2 w4 nb h2 ho hp => partO (h2.same ho).1 ⟨HM.out.n0,HM.out.l,HM.out.f,by have:=HM.out.v;simp only [List.length_cons] at this;show vs1.length ≤ _;omega⟩ (j:=1) (a:=2) hx1 (by omega) hp)
   have HKL:=Lib.hid (show ∀ (A B : World) (p : Nat → Prop),w1.heap.size ≤ A.heap.size → Oth p A B → (∀ k,p k → k = vb) → KL vb g fs.length A B from fun A B p hz ho hp => KL.of_oth ho hp (by omega) (by omega))
   have HE:=Lib.hid (And.intro hE (And.intro hkp hst))
   clear hE hkp hst hT hx1 hlt hgl hpbd hpbl hebl hebn hvl hlen hvs
   go_upto_region 7 with fail
   go_region_held3 (fun Y => (Y.cell? ⟨g,fs.length * 3,none⟩ = some (.pointer (some ⟨eb,eo,none⟩)) ∧ Y.cell? ⟨g,fs.length * 3 + 2,none⟩ = some (.pointer (some ⟨pb,0,none⟩)) ∧ Y.cell? ⟨pb,0,none⟩ = some (.string f.p) ∧ Y.cell? ⟨eb,eo + 1,none⟩ = some (.string f.e.n)))
    (first | exact HFX.out _ hkl5 | exact HFX.out _ hkl4 | exact HFX.out _ (hkl2.trans (HKL.out _ _ _ hkl2.size ((Oth.refl (fun _ => False) _).alloc _) (fun _ e => e.elim))) | exact HFX.out _ hkl2 | exact HFX.out _ (HKL.out _ _ _ (Nat.le_refl _) (Oth.refl (fun _ => False) _).drew (fun _ e => e.elim)))
    (first
     | (go_at_call 62;refine (HPop.out _ (Oth.refl _ _).drew).mono ?_;rintro e w2 ⟨lA,lc,bA,bc,eA,ec,rfl,gv2,gc2,hE2,hk2,hst2,hx2,ho2⟩;have hkl2 : KL vb g fs.length w1 w2:=(HKL.out _ _ _ (Nat.le_refl _) (Oth.refl (fun _ => False) _).drew (fun _ e => e.elim)).trans (HKL.out _ _ _ (Nat.le_refl _) ho2 (fun _ e => e));have hk12:=(HE.out.1.same (w':=w1.drew) (Oth.refl _ _).drew).2.1.trans hk2)
     | (go_at_call 129;refine (HAdd.out _ _ _ _ _ _ _ _ _ hE2 hk12 hx2).mono ?_;rintro e w4 ⟨nb,rfl,ho4,hp4⟩;have hkl4 : KL vb g fs.length w1 w4:=hkl2.trans (HKL.out _ _ _ hkl2.size ho4 (fun _ e => e.elim)))
     | (go_at_call 128;refine (HPart.out _ _ _ _ _ hE2 ho4 hp4).mono ?_;rintro e w5 ⟨rfl,hE5,ho5,hf5⟩;have hkl5 : KL vb g fs.length w1 w5:=hkl4.trans (KL.of_part ho5 hf5)))
   have HE5:=Lib.hid (hE5.next (hk12.trans (hE2.same ho4).2.1) (St.trans (HE.out.1.same (w':=w1.drew) (Oth.refl _ _).drew).2.2 (hst2.trans ho4.st)))
   clear hE5 hE2 hk2 hst2 hx2 ho2 hkl2 hk12 ho4 hp4 hkl4 ho5 hf5 hkl5
   go_wp2
   go_end0
   rw [HF.out]
   exact ⟨rfl,HE5.out.next HE.out.2.1 HE.out.2.2⟩
 ·by_cases hl : L ≤ n
  ·have HN:=Lib.hid (show R = .bad 27 n by rw [← HR.out];unfold sLet;rw [if_neg (by omega),if_neg (by omega)];exact if_pos hl)
   have HS:=Lib.hid (stepI_no h hl)
   obtain ⟨eb,eo,pb,sA,sc,vA,vc,hT⟩:=h.facts
   have p1:=hT.p1
   rw [ha0] at p1
   clear h hl hs hT
   go_enter Tryz.func92,Tryz.ntmps92
   go_wp2_with fail
   refine HS.out.mono ?_
   rintro e w1 ⟨he,hE,hst⟩
   have HE:=Lib.hid (And.intro hE hst)
   clear hE hst
   unfold failed at he
   subst he
   go_wp2
   rw [HN.out]
   exact ⟨rfl,rfl,_,_,_,_,_,_,HE.out.1,rfl,HE.out.2⟩
  ·have HF:=Lib.hid (show R = .go ⟨n + 1,z,fs,vs⟩ by rw [← HR.out];unfold sLet;rw [if_neg (by omega),if_neg (by omega)];exact if_neg hl)
   have HS:=Lib.hid (stepI_ok h hs (by show n < L;omega))
   obtain ⟨eb,eo,pb,sA,sc,vA,vc,hT⟩:=h.facts
   have p1:=hT.p1
   rw [ha0] at p1
   clear h hl hs hT
   go_enter Tryz.func92,Tryz.ntmps92
   go_wp2_with fail
   refine HS.out.mono ?_
   rintro e w1 ⟨rfl,hE,hkp,hst⟩
   have HQ:=Lib.hid (endI hE)
   have HE:=Lib.hid (And.intro hkp hst)
   clear hE hkp hst p1
   go_wp2_with fail
   refine HQ.out.mono ?_
   rintro e w2 ⟨rfl,hE2⟩
   have HE2:=Lib.hid hE2
   clear hE2
   go_wp2
   go_end0
   rw [HF.out]
   exact ⟨rfl,HE2.out.next HE.out.1 HE.out.2⟩
end
end Go.Proofs.YtnfndgmlnoeelaaGreatDoor
/- eval: if -/
namespace Go.Proofs.YtnfndgmlnoeelaaGreatDoor
open Go Go.RowKit Go.Proofs

section
variable {W0 : World} {B0 vb rb base : Nat} {m : Value} {L : Int} {w : World} {fv : Value} {fc : List Value} {gv : Value} {gc : List Value} {rs : List Rm}
set_option maxRecDepth 100000 in
set_option maxHeartbeats 4000000 in
theorem evIf_any {n z : Int} {f : Fe} {fs : List Fe} {vs : List Va} {g cap : Nat} (h : EvI W0 B0 vb rb base m L w ⟨n,z,f :: fs,vs⟩ (.slice (some ⟨g,0,none⟩) (fs.length + 1) cap) fc gv gc rs) (hs : Sm L ⟨n,z,f :: fs,vs⟩) (ha : f.at_ ≤ 2) (hlen : f.e.s.len = 3) (hvs : f.at_ = 1 → ∃ x vs1,vs = x :: vs1) :
  Calls Tryz.prog 93 #[.pointer (some ⟨vb,0,none⟩),.pointer (some ⟨g,fs.length * 3,none⟩)] w (MethR W0 B0 vb rb base m L (.slice (some ⟨g,0,none⟩) (fs.length + 1) cap) gv rs w (sIf L n z f fs vs)):=by
 obtain ⟨R,HR⟩ : ∃ R,Hid (sIf L n z f fs vs = R):=⟨_,Lib.hid rfl⟩
 rw [HR.out]
 rcases (show f.at_ = 0 ∨ f.at_ = 1 ∨ f.at_ = 2 by omega) with ha0 | ha0 | ha0
 ·obtain ⟨x0,hx0⟩:=Sk.at_lt (s:=f.e.s) (j:=0) (by omega)
  have HN:=Lib.hid (show R = .go ⟨n,z,⟨x0,0,f.p,f.v⟩ :: f.put 1 :: fs,vs⟩ by rw [← HR.out];unfold sIf;rw [if_pos ha0];unfold partR;rw [hx0])
  obtain ⟨eb,eo,pb,sA,sc,vA,vc,hT⟩:=h.facts
  have HP:=Lib.hid (partI h hs (j:=0) (a:=1) hx0 (by omega) hT.pl)
  have p1:=hT.p1
  have p2:=hT.p2
  rw [ha0] at p1
  clear h hs hT hx0
  go_enter Tryz.func93,Tryz.ntmps93
  go_wp2_with fail
  refine HP.out.mono ?_
  rintro e w1 ⟨rfl,hE⟩
  have HE:=Lib.hid hE
  clear hE
  go_wp2
  go_end0
  rw [HN.out]
  exact ⟨rfl,HE.out⟩
 ·obtain ⟨x,vs1,rfl⟩:=hvs ha0
  obtain ⟨x1,hx1⟩:=Sk.at_lt (s:=f.e.s) (j:=1) (by omega)
  obtain ⟨x2,hx2⟩:=Sk.at_lt (s:=f.e.s) (j:=2) (by omega)
  by_cases hl : L ≤ n
  ·have HN:=Lib.hid (show R = .bad 27 n by rw [← HR.out];unfold sIf;rw [if_neg (by omega),if_pos ha0];exact if_pos hl)
   have HS:=Lib.hid (stepI_no h hl)
   obtain ⟨eb,eo,pb,sA,sc,vA,vc,hT⟩:=h.facts
   have p1:=hT.p1
   rw [ha0] at p1
   clear h hl hs hT
   go_enter Tryz.func93,Tryz.ntmps93
   go_wp2_with fail
   refine HS.out.mono ?_
   rintro e w1 ⟨he,hE,hst⟩
   have HE:=Lib.hid (And.intro hE hst)
   clear hE hst
   unfold failed at he
   subst he
   go_wp2
   rw [HN.out]
   exact ⟨rfl,rfl,_,_,_,_,_,_,HE.out.1,rfl,HE.out.2⟩
  ·have HS:=Lib.hid (stepI_ok h hs (by show n < L;omega))
   have HM:=Lib.hid (show Sm L ⟨n + 1,z,f :: fs,x :: vs1⟩ from ⟨by have:=hs.n0;show 0 ≤ n + 1;simp only at this;omega,hs.l,hs.f,hs.v⟩)
   have HL:=Lib.hid (show n < L by omega)
   obtain ⟨eb,eo,pb,sA,sc,vA,vc,hT⟩:=h.facts
   have p1:=hT.p1
   rw [ha0] at p1
   clear h hl hs hT
   go_enter Tryz.func93,Tryz.ntmps93
   go_wp2_with fail
   refine HS.out.mono ?_
   rintro e w1 ⟨rfl,hE,hkp,hst⟩
   clear p1 HS
   obtain ⟨eb,eo,pb,sA,sc,vA,vc,hT⟩:=hE.facts
   have HF:=Lib.hid (show R = if x.k ≠ 2 then Rs.bad 26 (n + 1) else if x.i = 1 then partR (n + 1) z f 1 2 f.v fs vs1 else insteadR (n + 1) z f 2 fs vs1 by rw [← HR.out];unfold sIf;rw [if_neg (by omega),if_pos ha0];exact if_neg (Int.not_le.2 HL.out))
   have HPop1:=Lib.hid (popI hE)
   have HE:=Lib.hid (And.intro hkp hst)
   have HT:=Lib.hid hT.pl
   clear hE hkp hst hT
   go_wp2_with fail
   refine HPop1.out.mono ?_
   rintro e w2 ⟨lA1,lc1,bA1,bc1,eA1,ec1,rfl,gv1,gc1,hE,hk,hst,hx⟩
   obtain ⟨w3,hw1⟩ : ∃ Q9,w2.alloc (.cells #[.int .i64 x.k,.int .i64 x.i,.slice lA1 x.l.len lc1,.int .i64 0,.string x.p,.string x.q,.slice bA1 x.b.len bc1,.slice eA1 x.e.len ec1] 36) = Q9:=⟨_,rfl⟩
   have ho : Oth (fun _ => False) w2 w3:=by rw [← hw1];exact (Oth.refl _ _).alloc _
   have hr1 : w3.heap[w2.heap.size]? = some (.cells #[.int .i64 x.k,.int .i64 x.i,.slice lA1 x.l.len lc1,.int .i64 0,.string x.p,.string x.q,.slice bA1 x.b.len bc1,.slice eA1 x.e.len ec1] 36 (0,0)):=by rw [← hw1];exact heap_alloc_new _ _
   have hsm:=hE.same ho
   obtain ⟨eb',eo',pb',sA',sc',vA',vc',hT'⟩:=hsm.1.facts
   have HB:=Lib.hid (And.intro hsm.1 (And.intro (hk.trans hsm.2.1) (hst.trans hsm.2.2)))
   have HP:=Lib.hid (partI hsm.1 ⟨HM.out.n0,HM.out.l,HM.out.f,by have:=HM.out.v;simp only [List.length_cons] at this;show vs1.length ≤ _;omega⟩ (j:=1) (a:=2) hx1 (by omega) hT'.pl)
   have HI:=Lib.hid (insteadI hsm.1 (j:=2) hx2 (by omega) (by omega))
   have HX1:=Lib.hid hx1
   have HX2:=Lib.hid hx2
   have c0:=cell_of_row w3 w2.heap.size 0 _ _ (0,0) hr1
   have c1:=cell_of_row w3 w2.heap.size 1 _ _ (0,0) hr1
   simp at c0 c1
   have p2:=hT'.p2
   clear hE hk hst hx ho hr1 hsm hx1 hx2 hlen hvs hT'
   by_cases hk2 : x.k = 2
   ·have hkb : (x.k != 2) = false:=by simp [hk2]
    have HK:=Lib.hid hk2
    clear hk2
    by_cases hi1 : x.i = 1
    ·have hib : (x.i == 1) = true:=by simp [hi1]
     have HR2:=Lib.hid (show R = .go ⟨n + 1,z,⟨x1,0,f.p,f.v⟩ :: f.put 2 :: fs,vs1⟩ by rw [HF.out,if_neg (by rw [HK.out];decide),if_pos hi1];unfold partR;rw [HX1.out])
     clear hi1
     go_wp2_with fail
     refine HP.out.mono ?_
     rintro e w4 ⟨rfl,hE4⟩
     have HE4:=Lib.hid hE4
     clear hE4 hw1 c0 c1 p2
     go_wp2
     go_end0
     rw [HR2.out]
     exact ⟨rfl,(HE4.out.next HB.out.2.1 HB.out.2.2).next HE.out.1 HE.out.2⟩
    ·have hib : (x.i == 1) = false:=by simp [hi1]
     have HR2:=Lib.hid (show R = .go ⟨n + 1,z,⟨x2,0,f.p,f.v⟩ :: fs,vs1⟩ by rw [HF.out,if_neg (by rw [HK.out];decide),if_neg hi1];unfold insteadR;rw [HX2.out])
     clear hi1
     go_wp2_with fail
     refine HI.out.mono ?_
     rintro e w4 ⟨rfl,hE4⟩
     have HE4:=Lib.hid hE4
     clear hE4 hw1 c0 c1 p2
     go_wp2
     go_end0
     rw [HR2.out]
     exact ⟨rfl,(HE4.out.next HB.out.2.1 HB.out.2.2).next HE.out.1 HE.out.2⟩
   ·have hkb : (x.k != 2) = true:=by simp [hk2]
    have HR2:=Lib.hid (show R = .bad 26 (n + 1) by rw [HF.out,if_pos hk2])
    have HFl:=Lib.hid (fun X => evFail_any (.pointer (some ⟨vb,0,none⟩)) 26 X)
    clear hk2
    go_wp2_with fail
    refine (HFl.out _).mono ?_
    rintro e w4 ⟨he,rfl⟩
    clear hw1 c0 c1 p2
    unfold failed at he
    subst he
    go_wp2
    rw [HR2.out]
    exact ⟨rfl,rfl,_,_,_,_,_,_,HB.out.1,rfl,HE.out.2.trans HB.out.2.2⟩
 ·by_cases hl : L ≤ n
  ·have HN:=Lib.hid (show R = .bad 27 n by rw [← HR.out];unfold sIf;rw [if_neg (by omega),if_neg (by omega)];exact if_pos hl)
   have HS:=Lib.hid (stepI_no h hl)
   obtain ⟨eb,eo,pb,sA,sc,vA,vc,hT⟩:=h.facts
   have p1:=hT.p1
   rw [ha0] at p1
   clear h hl hs hT
   go_enter Tryz.func93,Tryz.ntmps93
   go_wp2_with fail
   refine HS.out.mono ?_
   rintro e w1 ⟨he,hE,hst⟩
   have HE:=Lib.hid (And.intro hE hst)
   clear hE hst
   unfold failed at he
   subst he
   go_wp2
   rw [HN.out]
   exact ⟨rfl,rfl,_,_,_,_,_,_,HE.out.1,rfl,HE.out.2⟩
  ·have HF:=Lib.hid (show R = .go ⟨n + 1,z,fs,vs⟩ by rw [← HR.out];unfold sIf;rw [if_neg (by omega),if_neg (by omega)];exact if_neg hl)
   have HS:=Lib.hid (stepI_ok h hs (by show n < L;omega))
   obtain ⟨eb,eo,pb,sA,sc,vA,vc,hT⟩:=h.facts
   have p1:=hT.p1
   rw [ha0] at p1
   clear h hl hs hT
   go_enter Tryz.func93,Tryz.ntmps93
   go_wp2_with fail
   refine HS.out.mono ?_
   rintro e w1 ⟨rfl,hE,hkp,hst⟩
   have HQ:=Lib.hid (endI hE)
   have HE:=Lib.hid (And.intro hkp hst)
   clear hE hkp hst p1
   go_wp2_with fail
   refine HQ.out.mono ?_
   rintro e w2 ⟨rfl,hE2⟩
   have HE2:=Lib.hid hE2
   clear hE2
   go_wp2
   go_end0
   rw [HF.out]
   exact ⟨rfl,HE2.out.next HE.out.1 HE.out.2⟩
end
end Go.Proofs.YtnfndgmlnoeelaaGreatDoor
/- eval: calls -/
namespace Go.Proofs.YtnfndgmlnoeelaaGreatDoor
open Go Go.RowKit Go.Proofs
section
variable {W0 : World} {B0 vb rb base : Nat} {m : Value} {L : Int} {w : World} {fv : Value} {fc : List Value} {gv : Value} {gc : List Value} {rs : List Rm}
theorem EvI.setAt {n z : Int} {f : Fe} {fs : List Fe} {vs : List Va} {g cap : Nat} (h : EvI W0 B0 vb rb base m L w ⟨n,z,f :: fs,vs⟩ (.slice (some ⟨g,0,none⟩) (fs.length + 1) cap) fc gv gc rs) (a : Nat) :
  ∃ fc',EvI W0 B0 vb rb base m L (w.setCell ⟨g,fs.length * 3 + 1,none⟩ (.int .i64 a)) ⟨n,z,f.put a :: fs,vs⟩ (.slice (some ⟨g,0,none⟩) (fs.length + 1) cap) fc' gv gc rs ∧ Kp (Dd vb rb (.slice (some ⟨g,0,none⟩) (fs.length + 1) cap) gv rs) w (Dd vb rb (.slice (some ⟨g,0,none⟩) (fs.length + 1) cap) gv rs) (w.setCell ⟨g,fs.length * 3 + 1,none⟩ (.int .i64 a)) ∧ St w (w.setCell ⟨g,fs.length * 3 + 1,none⟩ (.int .i64 a)) ∧ Oth (· = g) w (w.setCell ⟨g,fs.length * 3 + 1,none⟩ (.int .i64 a)):=by
 obtain ⟨g',cap',fc',eb,eo,pb',e',rfl,h1,h2,h3,hl⟩:=h.top
 cases e'
 obtain ⟨hE,ho⟩:=h.ev.frame hl 1 (.int .i64 a)
 have hp : ∀ k,k = g → k = vb ∨ (Value.slice (some ⟨g,0,none⟩) (fs.length + 1) cap).ownBlock = some k ∨ gv.ownBlock = some k:=fun k e => .inr (.inl (by rw [e];rfl))
 have hk:=h.kp (fv':=(.slice (some ⟨g,0,none⟩) (fs.length + 1) cap)) (gv':=gv) ho hp (NewB.refl _ _) (NewB.refl _ _)
 exact ⟨_,h.next (s':=⟨n,z,f.put a :: fs,vs⟩) ho hp (NewB.refl _ _) (NewB.refl _ _) hE ⟨fc',eb,eo,pb',rfl,h1,h2.keep hk,h3.keep hk⟩ (h.va.keep hk),hk,ho.st,ho⟩
theorem rowF_top {n z : Int} {f : Fe} {fs : List Fe} {vs : List Va} {g cap : Nat} (h : EvI W0 B0 vb rb base m L w ⟨n,z,f :: fs,vs⟩ (.slice (some ⟨g,0,none⟩) (fs.length + 1) cap) fc gv gc rs) : w.cell? ⟨g,fs.length * 3 + 1,none⟩ = some (.int .i64 f.at_) ∧ w.frozen? ⟨g,fs.length * 3 + 1,none⟩ = false:=by
 obtain ⟨g',cap',fc',eb,eo,pb',e',rfl,h1,h2,h3,hl⟩:=h.top
 cases e'
 obtain ⟨_,x1,_,_,y1,_⟩:=rowF h.ev.fr
 exact ⟨x1,y1⟩
set_option maxRecDepth 100000 in
set_option maxHeartbeats 8000000 in
theorem evCall_any {n z : Int} {f : Fe} {fs : List Fe} {vs : List Va} {g cap : Nat} (h : EvI W0 B0 vb rb base m L w ⟨n,z,f :: fs,vs⟩ (.slice (some ⟨g,0,none⟩) (fs.length + 1) cap) fc gv gc rs) (hs : Sm L ⟨n,z,f :: fs,vs⟩) (ha : f.at_ ≤ 3) (hlen : f.e.s.len = 2) (hvs : f.at_ = 2 → ∃ y x vs1,vs = y :: x :: vs1 ∧ (x.k = 4 → x.b.len = 1) ∧ x.e.len ≤ 1000000000) :
  Calls Tryz.prog 91 #[.pointer (some ⟨vb,0,none⟩),.pointer (some ⟨g,fs.length * 3,none⟩)] w (MethR W0 B0 vb rb base m L (.slice (some ⟨g,0,none⟩) (fs.length + 1) cap) gv rs w (sCall L n z f fs vs)):=by
 obtain ⟨R,HR⟩ : ∃ R,Hid (sCall L n z f fs vs = R):=⟨_,Lib.hid rfl⟩
 rw [HR.out]
 rcases (show f.at_ = 0 ∨ f.at_ = 1 ∨ f.at_ = 2 ∨ f.at_ = 3 by omega) with ha0 | ha0 | ha0 | ha0
 ·obtain ⟨x0,hx0⟩:=Sk.at_lt (s:=f.e.s) (j:=0) (by omega)
  have HN:=Lib.hid (show R = .go ⟨n,z,⟨x0,0,f.p,f.v⟩ :: f.put 1 :: fs,vs⟩ by rw [← HR.out];unfold sCall;rw [if_pos (by omega)];unfold partR;simp only [ha0];rw [hx0])
  obtain ⟨eb,eo,pb,sA,sc,vA,vc,hT⟩:=h.facts
  have hD:=h.same (w':=w.drew) (Oth.refl _ _).drew
  have HP:=Lib.hid (partI hD.1 hs (j:=0) (a:=1) hx0 (by omega) (hT.pl.keep hD.2.1))
  have HD:=Lib.hid hD.2
  have p1:=hT.p1
  have p2:=hT.p2
  rw [ha0] at p1
  clear h hs hT hx0 hD
  go_enter Tryz.func91,Tryz.ntmps91
  go_wp2
  go_still_tail 15,(by kernel_rfl)
  change wpList _ _ _ _ _ w.drew
  generalize w.drew = wd at HP HD ⊢
  clear p1 p2
  go_wp2_with fail
  refine HP.out.mono ?_
  rintro e w1 ⟨rfl,hE⟩
  have HE:=Lib.hid hE
  clear hE
  go_wp2
  go_end0
  rw [HN.out]
  exact ⟨rfl,HE.out.next HD.out.1 HD.out.2⟩
 ·obtain ⟨x0,hx0⟩:=Sk.at_lt (s:=f.e.s) (j:=1) (by omega)
  have HN:=Lib.hid (show R = .go ⟨n,z,⟨x0,0,f.p,f.v⟩ :: f.put 2 :: fs,vs⟩ by rw [← HR.out];unfold sCall;rw [if_pos (by omega)];unfold partR;simp only [ha0];rw [hx0])
  obtain ⟨eb,eo,pb,sA,sc,vA,vc,hT⟩:=h.facts
  have hD:=h.same (w':=w.drew) (Oth.refl _ _).drew
  have HP:=Lib.hid (partI hD.1 hs (j:=1) (a:=2) hx0 (by omega) (hT.pl.keep hD.2.1))
  have HD:=Lib.hid hD.2
  have p1:=hT.p1
  have p2:=hT.p2
  rw [ha0] at p1
  clear h hs hT hx0 hD
  go_enter Tryz.func91,Tryz.ntmps91
  go_wp2
  go_still_tail 15,(by kernel_rfl)
  change wpList _ _ _ _ _ w.drew
  generalize w.drew = wd at HP HD ⊢
  clear p1 p2
  go_wp2_with fail
  refine HP.out.mono ?_
  rintro e w1 ⟨rfl,hE⟩
  have HE:=Lib.hid hE
  clear hE
  go_wp2
  go_end0
  rw [HN.out]
  exact ⟨rfl,HE.out.next HD.out.1 HD.out.2⟩
 ·obtain ⟨y,x,vs1,rfl,hxb,hxe⟩:=hvs ha0
  by_cases hl : L ≤ n
  ·have HN:=Lib.hid (show R = .bad 27 n by rw [← HR.out];unfold sCall;rw [if_neg (by omega),if_pos ha0];exact if_pos hl)
   have HS:=Lib.hid (stepI_no h hl)
   obtain ⟨eb,eo,pb,sA,sc,vA,vc,hT⟩:=h.facts
   have p1:=hT.p1
   rw [ha0] at p1
   clear h hl hs hT
   go_enter Tryz.func91,Tryz.ntmps91
   go_wp2_with fail
   refine HS.out.mono ?_
   rintro e w1 ⟨he,hE,hst⟩
   have HE:=Lib.hid (And.intro hE hst)
   clear hE hst
   unfold failed at he
   subst he
   go_wp2
   rw [HN.out]
   exact ⟨rfl,rfl,_,_,_,_,_,_,HE.out.1,rfl,HE.out.2⟩
  ·have HS:=Lib.hid (stepI_ok h hs (by show n < L;omega))
   have HM:=Lib.hid (show Sm L ⟨n + 1,z,f :: fs,y :: x :: vs1⟩ from ⟨by have:=hs.n0;show 0 ≤ n + 1;simp only at this;omega,hs.l,hs.f,hs.v⟩)
   have HL:=Lib.hid (show n < L by omega)
   obtain ⟨eb,eo,pb,sA,sc,vA,vc,hT⟩:=h.facts
   have p1:=hT.p1
   rw [ha0] at p1
   clear h hl hs hT
   go_enter Tryz.func91,Tryz.ntmps91
   go_wp2_with fail
   refine HS.out.mono ?_
   rintro e w1 ⟨rfl,hE,hkp,hst⟩
   clear p1 HS
   obtain ⟨eb,eo,pb,sA,sc,vA,vc,hT⟩:=hE.facts
   have HF:=Lib.hid (show R = if x.k ≠ 4 then Rs.bad 26 (n + 1) else (match x.b.at 0 with | some b => .go ⟨n + 1,z,⟨b,0,x.p,x.e.snoc x.q y⟩ :: f.put 3 :: fs,vs1⟩ | none => .bad 0 0) by rw [← HR.out];unfold sCall;rw [if_neg (by omega),if_pos ha0];exact if_neg (Int.not_le.2 HL.out))
   have hvw : vb < w1.heap.size:=lt_of_block hE.ev.blk
   have HG:=Lib.hid (hE.ev.fr.lt g rfl).2
   have HPop1:=Lib.hid (popO hE)
   have HE:=Lib.hid (And.intro hkp hst)
   clear hE hkp hst hT
   go_wp2_with fail
   refine HPop1.out.mono ?_
   rintro e w2 ⟨lA1,lc1,bA1,bc1,eA1,ec1,rfl,gv1,gc1,hE,hk,hst,hx,hov⟩
   obtain ⟨w3,hw1⟩ : ∃ Q9,w2.alloc (.cells #[.int .i64 y.k,.int .i64 y.i,.slice lA1 y.l.len lc1,.int .i64 0,.string y.p,.string y.q,.slice bA1 y.b.len bc1,.slice eA1 y.e.len ec1] 36) = Q9:=⟨_,rfl⟩
   have ho : Oth (fun _ => False) w2 w3:=by rw [← hw1];exact (Oth.refl _ _).alloc _
   have hr : w3.heap[w2.heap.size]? = some (.cells #[.int .i64 y.k,.int .i64 y.i,.slice lA1 y.l.len lc1,.int .i64 0,.string y.p,.string y.q,.slice bA1 y.b.len bc1,.slice eA1 y.e.len ec1] 36 (0,0)):=by rw [← hw1];exact heap_alloc_new _ _
   have hsm:=hE.same ho
   have hz2:=hov.size
   have hB : EvI W0 B0 vb rb base m L w3 ⟨n + 1,z,f :: fs,x :: vs1⟩ (.slice (some ⟨g,0,none⟩) (fs.length + 1) cap) fc gv1 gc1 rs ∧ Kp (Dd vb rb (.slice (some ⟨g,0,none⟩) (fs.length + 1) cap) gv rs) w1 (Dd vb rb (.slice (some ⟨g,0,none⟩) (fs.length + 1) cap) gv1 rs) w3 ∧ St w1 w3:=⟨hsm.1,hk.trans hsm.2.1,hst.trans hsm.2.2⟩
   have HB:=Lib.hid hB
   have HY:=Lib.hid (And.intro (hx.keep hsm.2.1) (And.intro hr (show w2.heap.size ≠ vb by omega)))
   have HPop2:=Lib.hid (popO hsm.1)
   clear hE hk hst hx ho hr hsm hB hov
   go_wp2_with fail
   clear hw1
   refine HPop2.out.mono ?_
   rintro e w4 ⟨lA2,lc2,bA2,bc2,eA2,ec2,rfl,gv2,gc2,hE,hk,hst,hx,hov⟩
   obtain ⟨w5,hw2⟩ : ∃ Q9,w4.alloc (.cells #[.int .i64 x.k,.int .i64 x.i,.slice lA2 x.l.len lc2,.int .i64 0,.string x.p,.string x.q,.slice bA2 x.b.len bc2,.slice eA2 x.e.len ec2] 36) = Q9:=⟨_,rfl⟩
   have ho : Oth (fun _ => False) w4 w5:=by rw [← hw2];exact (Oth.refl _ _).alloc _
   have hr : w5.heap[w4.heap.size]? = some (.cells #[.int .i64 x.k,.int .i64 x.i,.slice lA2 x.l.len lc2,.int .i64 0,.string x.p,.string x.q,.slice bA2 x.b.len bc2,.slice eA2 x.e.len ec2] 36 (0,0)):=by rw [← hw2];exact heap_alloc_new _ _
   have hsm:=hE.same ho
   have hB : EvI W0 B0 vb rb base m L w5 ⟨n + 1,z,f :: fs,vs1⟩ (.slice (some ⟨g,0,none⟩) (fs.length + 1) cap) fc gv2 gc2 rs ∧ Kp (Dd vb rb (.slice (some ⟨g,0,none⟩) (fs.length + 1) cap) gv1 rs) w3 (Dd vb rb (.slice (some ⟨g,0,none⟩) (fs.length + 1) cap) gv2 rs) w5 ∧ St w3 w5:=⟨hsm.1,hk.trans hsm.2.1,hst.trans hsm.2.2⟩
   have hry : w5.heap[w2.heap.size]? = _:=(ho.block _ (Nat.lt_of_lt_of_le (lt_of_block HY.out.2.1) hov.size) (fun e => e)).trans ((hov.block _ (lt_of_block HY.out.2.1) HY.out.2.2).trans HY.out.2.1)
   obtain ⟨c0,c1,c2,c3,c4,c5,c6,c7,_,_,_,_,_,_,_,_⟩:=row8 hry
   obtain ⟨d0,d1,d2,d3,d4,d5,d6,d7,_,_,_,_,_,_,_,_⟩:=row8 hr
   have HB2:=Lib.hid hB
   have HX:=Lib.hid (And.intro (hx.keep hsm.2.1) ((HY.out.1.keep hk).keep hsm.2.1))
   have hz4:=hov.size
   have hzb : w3.heap.size ≤ w4.heap.size ∧ w2.heap.size < w3.heap.size:=⟨hz4,lt_of_block HY.out.2.1⟩
   have HZ:=Lib.hid (And.intro hvw (And.intro hz2 hzb))
   have HXB:=Lib.hid hxb
   have HXE:=Lib.hid hxe
   have HROW:=Lib.hid (And.intro hry hr)
   obtain ⟨eb',eo',pb',sA',sc',vA',vc',hT'⟩:=hsm.1.facts
   have p1:=hT'.p1
   have p1f:=((rowF_top hsm.1).2)
   clear hE hk hst hx ho hr hsm hB hov hry hT' hlen hvs hvw hz2 hz4 hzb hxb hxe
   by_cases hxk : x.k = 4
   rotate_left
   ·have hxb : (x.k != 4) = true:=by simp [hxk]
    have HR2:=Lib.hid (show R = .bad 26 (n + 1) by rw [HF.out,if_pos hxk])
    have HFl:=Lib.hid (fun X => evFail_any (.pointer (some ⟨vb,0,none⟩)) 26 X)
    clear hxk
    go_wp2_with fail
    refine (HFl.out _).mono ?_
    rintro e w6 ⟨he,rfl⟩
    clear hw2 c0 c1 c2 c3 c4 c5 c6 c7 d0 d1 d2 d3 d4 d5 d6 d7 p1 p1f
    unfold failed at he
    subst he
    go_wp2
    rw [HR2.out]
    exact ⟨rfl,rfl,_,_,_,_,_,_,HB2.out.1,rfl,HE.out.2.trans (HB.out.2.2.trans HB2.out.2.2)⟩
   have hxb : (x.k != 4) = false:=by simp [hxk]
   obtain ⟨b1,hb1⟩:=Sk.at_lt (s:=x.b) (j:=0) (by rw [HXB.out hxk];omega)
   have HR2:=Lib.hid (show R = .go ⟨n + 1,z,⟨b1,0,x.p,x.e.snoc x.q y⟩ :: f.put 3 :: fs,vs1⟩ by rw [HF.out,if_neg (by simp [hxk]),hb1])
   have HXL:=Lib.hid (HXB.out hxk)
   obtain ⟨sb,so,rfl,hbx⟩:=HX.out.1.b.at hb1
   rw [Nat.zero_mul,Nat.add_zero] at hbx
   have HBX:=Lib.hid hbx
   have hb0 : (0 : Int) < (x.b.len : Int):=by rw [HXL.out];decide
   clear hxk hb1 hbx
   go_upto_region 13 with fail
   obtain ⟨fc6,h6,hk6,hst6,ho6⟩:=HB2.out.1.setAt 3
   generalize w5.setCell ⟨g,fs.length * 3 + 1,none⟩ (.int .i64 ((3 : Nat) : Int)) = w6 at h6 hk6 hst6 ho6 ⊢
   have hz:=HZ.out
   have hgw:=HG.out
   have hry6 : w6.heap[w2.heap.size]? = _:=(ho6.block _ (lt_of_block HROW.out.1) (by omega)).trans HROW.out.1
   have hrx6 : w6.heap[w4.heap.size]? = _:=(ho6.block _ (lt_of_block HROW.out.2) (by omega)).trans HROW.out.2
   have HFX:=Lib.hid (show ∀ (Y : World) (p : Nat → Prop),Oth p w6 Y → ¬ p w2.heap.size → ¬ p w4.heap.size → (Y.cell? ⟨w2.heap.size,0,none⟩ = some (.int .i64 y.k) ∧ Y.cell? ⟨w2.heap.size,1,none⟩ = some (.int .i64 y.i) ∧ Y.cell? ⟨w2.heap.size,2,none⟩ = some (.slice lA1 y.l.len lc1) ∧ Y.cell? ⟨w2.heap.size,3,none⟩ = some (.int .i64 0) ∧ Y.cell? ⟨w2.heap.size,4,none⟩ = some (.string y.p) ∧ Y.cell? ⟨w2.heap.size,5,none⟩ = some (.string y.q) ∧ Y.cell? ⟨w2.heap.size,6,none⟩ = some (.slice bA1 y.b.len bc1) ∧ Y.cell? ⟨w2.heap.size,7,none⟩ = some (.slice eA1 y.e.len ec1) ∧ Y.cell? ⟨w4.heap.size,4,none⟩ = some (.string x.p) ∧ Y.cell? ⟨w4.heap.size,5,none⟩ = some (.string x.q) ∧ Y.cell? ⟨w4.heap.size,6,none⟩ = some (.slice (some ⟨sb,so,none⟩) 1 bc2) ∧ Y.cell? ⟨w4.heap.size,7,none⟩ = some (.slice eA2 x.e.len ec2)) from fun Y p ho h1 h2 => by
    obtain ⟨a0,a1,a2,a3,a4,a5,a6,a7,_⟩:=row8 ((ho.block _ (lt_of_block hry6) h1).trans hry6)
    obtain ⟨b0,b1,b2,b3,b4,b5,b6,b7,_⟩:=row8 ((ho.block _ (lt_of_block hrx6) h2).trans hrx6)
    rw [HXL.out] at b6
    exact ⟨a0,a1,a2,a3,a4,a5,a6,a7,b4,b5,b6,b7⟩)
   have HXY:=Lib.hid (And.intro (HX.out.1.keep hk6) (HX.out.2.keep hk6))
   have hal : ∀ (X : World) (pbk mbk : Nat),Oth (fun _ => False) w6 X → w6.heap.size ≤ pbk → X.heap[pbk]? = some (.cells #[.string ⟨#[]⟩,.slice eA2 x.e.len ec2] 140) → X.heap[mbk]? = some (.cells #[.string x.q,.int .i64 y.k,.int .i64 y.i,.slice lA1 y.l.len lc1,.int .i64 0,.string y.p,.string y.q,.slice bA1 y.b.len bc1,.slice eA1 y.e.len ec1] 147) →
     Calls Tryz.prog 129 #[.pointer (some ⟨pbk,0,none⟩),.string x.p,.slice (some ⟨mbk,0,none⟩) 1 1] X fun e w7 => ∃ nb,e = .returned (.pointer (some ⟨nb,0,none⟩)) ∧ Oth (fun _ => False) w6 w7 ∧ PlA (CdW W0 B0) w7 (Dd vb rb (.slice (some ⟨g,0,none⟩) (fs.length + 1) cap) gv2 rs) nb x.p (x.e.snoc x.q y):=fun X pbk mbk hoX hpb hp hm => by
    have hs:=h6.same hoX
    have hdn : ∀ o,¬ Dd vb rb (.slice (some ⟨g,0,none⟩) (fs.length + 1) cap) gv2 rs pbk o:=fun o hd => by have:=h6.dead_lt hd;omega
    have hx7:=HXY.out.1.keep hs.2.1
    refine (addI1 hs.1 (p:=⟨#[]⟩) (v:=x.e) (pack:=x.p) (name:=x.q) ⟨cell_of_row X pbk 0 _ _ (0,0) hp,hdn 0,⟨eA2,ec2,cell_of_row X pbk 1 _ _ (0,0) hp,hx7.e⟩,hdn 1⟩ HXE.out (HXY.out.2.keep hs.2.1) hm).mono ?_
    rintro e w7 ⟨nb,rfl,ho7,hp7⟩
    exact ⟨nb,rfl,hoX.trans ho7,hp7⟩
   have two_new : ∀ (A B : Obj) (X : World),X.heap = ((w6.alloc A).alloc B).heap → X.heap[w6.heap.size]? = some A ∧ X.heap[w6.heap.size + 1]? = some B:=fun A B X e => by
    rw [e]
    refine ⟨(Below.heap_alloc _ _ _ (by simp)).trans (heap_alloc_new w6 A),?_⟩
    have:=heap_alloc_new (w6.alloc A) B
    rw [show (w6.alloc A).heap.size = w6.heap.size + 1 by simp] at this
    exact this
   have HA1:=Lib.hid (fun (X : World) (e : X.heap = ((w6.alloc (.cells #[.string ⟨#[]⟩,.slice eA2 x.e.len ec2] 140)).alloc (.cells #[.string x.q,.int .i64 y.k,.int .i64 y.i,.slice lA1 y.l.len lc1,.int .i64 0,.string y.p,.string y.q,.slice bA1 y.b.len bc1,.slice eA1 y.e.len ec1] 147)).heap) (ho : Oth (fun _ => False) w6 X) => hal X w6.heap.size (w6.heap.size + 1) ho (Nat.le_refl _) (two_new _ _ X e).1 (two_new _ _ X e).2)
   have HA2:=Lib.hid (fun (X : World) (e : X.heap = ((w6.alloc (.cells #[.string x.q,.int .i64 y.k,.int .i64 y.i,.slice lA1 y.l.len lc1,.int .i64 0,.string y.p,.string y.q,.slice bA1 y.b.len bc1,.slice eA1 y.e.len ec1] 147)).alloc (.cells #[.string ⟨#[]⟩,.slice eA2 x.e.len ec2] 140)).heap) (ho : Oth (fun _ => False) w6 X) => hal X (w6.heap.size + 1) w6.heap.size ho (by omega) (two_new _ _ X e).2 (two_new _ _ X e).1)
   have HBg:=Lib.hid (show ∀ (w7 : World) (nb : Nat),Oth (fun _ => False) w6 w7 → PlA (CdW W0 B0) w7 (Dd vb rb (.slice (some ⟨g,0,none⟩) (fs.length + 1) cap) gv2 rs) nb x.p (x.e.snoc x.q y) → _ from fun w7 nb ho hp => beginO (h6.same ho).1 ⟨HM.out.n0,HM.out.l,HM.out.f,by have:=HM.out.v;simp only [List.length_cons] at this;show vs1.length ≤ _;omega⟩ HBX.out hp)
   have hn2 : ∀ k,(k = vb ∨ (Value.slice (some ⟨g,0,none⟩) (fs.length + 1) cap).ownBlock = some k) → k < w1.heap.size:=fun k hk => by
    rcases hk with rfl | hk
    ·omega
    ·simp only [Value.ownBlock,Option.some.injEq] at hk
     omega
   have HN2:=Lib.hid (show ∀ (w7 w8 : World),Oth (fun _ => False) w6 w7 → Oth (fun k => k = vb ∨ (Value.slice (some ⟨g,0,none⟩) (fs.length + 1) cap).ownBlock = some k) w7 w8 → _ from fun w7 w8 h7 h8 => HFX.out w8 _ ((h7.mono (fun _ _ e => e.elim)).trans h8) (fun e => by have:=hn2 _ e;omega) (fun e => by have:=hn2 _ e;omega))
   have H6:=Lib.hid (And.intro h6 (And.intro hk6 hst6))
   clear h6 hk6 hst6 ho6 hz hgw hry6 hrx6 hal two_new hn2 c0 c1 c2 c3 c4 c5 c6 c7 d0 d1 d2 d3 d4 d5 d6 d7 p1 p1f hw2
   go_region_held3 (fun Y => Y.cell? ⟨w2.heap.size,0,none⟩ = some (.int .i64 y.k) ∧ Y.cell? ⟨w2.heap.size,1,none⟩ = some (.int .i64 y.i) ∧ Y.cell? ⟨w2.heap.size,2,none⟩ = some (.slice lA1 y.l.len lc1) ∧ Y.cell? ⟨w2.heap.size,3,none⟩ = some (.int .i64 0) ∧ Y.cell? ⟨w2.heap.size,4,none⟩ = some (.string y.p) ∧ Y.cell? ⟨w2.heap.size,5,none⟩ = some (.string y.q) ∧ Y.cell? ⟨w2.heap.size,6,none⟩ = some (.slice bA1 y.b.len bc1) ∧ Y.cell? ⟨w2.heap.size,7,none⟩ = some (.slice eA1 y.e.len ec1) ∧ Y.cell? ⟨w4.heap.size,4,none⟩ = some (.string x.p) ∧ Y.cell? ⟨w4.heap.size,5,none⟩ = some (.string x.q) ∧ Y.cell? ⟨w4.heap.size,6,none⟩ = some (.slice (some ⟨sb,so,none⟩) 1 bc2) ∧ Y.cell? ⟨w4.heap.size,7,none⟩ = some (.slice eA2 x.e.len ec2))
    (first | with_reducible exact HN2.out _ _ ho7 ho8 | with_reducible exact HFX.out _ (fun _ => False) ho7 (fun e => e) (fun e => e) | with_reducible exact HFX.out _ (fun _ => False) (Oth.refl _ _) (fun e => e) (fun e => e) | with_reducible exact HFX.out _ (fun _ => False) (Oth.refl _ _).drew (fun e => e) (fun e => e) | with_reducible exact HFX.out _ (fun _ => False) ((Oth.refl _ _).alloc _) (fun e => e) (fun e => e) | with_reducible exact HFX.out _ (fun _ => False) ((Oth.refl _ _).drew.alloc _) (fun e => e) (fun e => e) | with_reducible exact HFX.out _ (fun _ => False) ((Oth.refl _ _).alloc _).drew (fun e => e) (fun e => e) | with_reducible exact HFX.out _ (fun _ => False) (((Oth.refl _ _).alloc _).alloc _) (fun e => e) (fun e => e) | with_reducible exact HFX.out _ (fun _ => False) (((Oth.refl _ _).drew.alloc _).alloc _) (fun e => e) (fun e => e) | with_reducible exact HFX.out _ (fun _ => False) (((Oth.refl _ _).alloc _).alloc _).drew (fun e => e) (fun e => e))
    (first
     | (go_at_call 129;with_reducible refine Calls.mono (HA1.out _ (by with_unfolding_all rfl) (by first | with_unfolding_all exact (((Oth.refl _ _).alloc _).alloc _) | with_unfolding_all exact (((Oth.refl _ _).alloc _).alloc _).drew)) ?_;rintro e w7 ⟨nb,rfl,ho7,hp7⟩)
     | (go_at_call 129;with_reducible refine Calls.mono (HA2.out _ (by with_unfolding_all rfl) (by first | with_unfolding_all exact (((Oth.refl _ _).alloc _).alloc _) | with_unfolding_all exact (((Oth.refl _ _).alloc _).alloc _).drew)) ?_;rintro e w7 ⟨nb,rfl,ho7,hp7⟩)
     | (go_at_call 60;refine (HBg.out _ _ ho7 hp7).mono ?_;rintro e w8 ⟨rfl,hE8,ho8⟩))
   all_goals
    have HE8:=Lib.hid (And.intro hE8 ho7)
    clear hE8 ho7 hp7 ho8
    go_wp2
    go_end0
    rw [HR2.out]
    exact ⟨rfl,((((HE8.out.1.next (H6.out.1.same HE8.out.2).2.1 (H6.out.1.same HE8.out.2).2.2).next H6.out.2.1 H6.out.2.2).next HB2.out.2.1 HB2.out.2.2).next HB.out.2.1 HB.out.2.2).next HE.out.1 HE.out.2⟩
 ·by_cases hl : L ≤ n
  ·have HN:=Lib.hid (show R = .bad 27 n by rw [← HR.out];unfold sCall;rw [if_neg (by omega),if_neg (by omega)];exact if_pos hl)
   have HS:=Lib.hid (stepI_no h hl)
   obtain ⟨eb,eo,pb,sA,sc,vA,vc,hT⟩:=h.facts
   have p1:=hT.p1
   rw [ha0] at p1
   clear h hl hs hT
   go_enter Tryz.func91,Tryz.ntmps91
   go_wp2_with fail
   refine HS.out.mono ?_
   rintro e w1 ⟨he,hE,hst⟩
   have HE:=Lib.hid (And.intro hE hst)
   clear hE hst
   unfold failed at he
   subst he
   go_wp2
   rw [HN.out]
   exact ⟨rfl,rfl,_,_,_,_,_,_,HE.out.1,rfl,HE.out.2⟩
  ·have HF:=Lib.hid (show R = .go ⟨n + 1,z,fs,vs⟩ by rw [← HR.out];unfold sCall;rw [if_neg (by omega),if_neg (by omega)];exact if_neg hl)
   have HS:=Lib.hid (stepI_ok h hs (by show n < L;omega))
   obtain ⟨eb,eo,pb,sA,sc,vA,vc,hT⟩:=h.facts
   have p1:=hT.p1
   rw [ha0] at p1
   clear h hl hs hT
   go_enter Tryz.func91,Tryz.ntmps91
   go_wp2_with fail
   refine HS.out.mono ?_
   rintro e w1 ⟨rfl,hE,hkp,hst⟩
   have HQ:=Lib.hid (endI hE)
   have HE:=Lib.hid (And.intro hkp hst)
   clear hE hkp hst p1
   go_wp2_with fail
   refine HQ.out.mono ?_
   rintro e w2 ⟨rfl,hE2⟩
   have HE2:=Lib.hid hE2
   clear hE2
   go_wp2
   go_end0
   rw [HF.out]
   exact ⟨rfl,HE2.out.next HE.out.1 HE.out.2⟩
end
end Go.Proofs.YtnfndgmlnoeelaaGreatDoor
