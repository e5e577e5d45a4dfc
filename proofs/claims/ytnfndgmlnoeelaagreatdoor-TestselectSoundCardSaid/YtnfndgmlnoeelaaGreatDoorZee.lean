/- eval: result -/
import Derived.Test.YtnfndgmlnoeelaaGreatDoorZec
import Derived.Deep.DeepCutAuto
import Derived.StillTailTactics
namespace Go.Proofs.YtnfndgmlnoeelaaGreatDoor
open Go Go.RowKit Go.Proofs Go.Shelf
theorem rowT {w : World} {base g cap n : Nat} {t : TypeId} {gc : List Value} {z0 z1 z2 z3 z4 z5 z6 z7 : Value} (h : w.ownsRow base t 8 (.slice (some ⟨g,0,none⟩) (n + 1) cap) (n + 1) (gc ++ [z0,z1,z2,z3,z4,z5,z6,z7])) :
    w.cell? ⟨g,n * 8,none⟩ = some z0 ∧ w.cell? ⟨g,n * 8 + 1,none⟩ = some z1 ∧ w.cell? ⟨g,n * 8 + 2,none⟩ = some z2 ∧ w.cell? ⟨g,n * 8 + 3,none⟩ = some z3 ∧ w.cell? ⟨g,n * 8 + 4,none⟩ = some z4 ∧ w.cell? ⟨g,n * 8 + 5,none⟩ = some z5 ∧ w.cell? ⟨g,n * 8 + 6,none⟩ = some z6 ∧ w.cell? ⟨g,n * 8 + 7,none⟩ = some z7 ∧ w.frozen? ⟨g,n * 8,none⟩ = false ∧ w.frozen? ⟨g,n * 8 + 1,none⟩ = false ∧ w.frozen? ⟨g,n * 8 + 2,none⟩ = false ∧ w.frozen? ⟨g,n * 8 + 3,none⟩ = false ∧ w.frozen? ⟨g,n * 8 + 4,none⟩ = false ∧ w.frozen? ⟨g,n * 8 + 5,none⟩ = false ∧ w.frozen? ⟨g,n * 8 + 6,none⟩ = false ∧ w.frozen? ⟨g,n * 8 + 7,none⟩ = false:=by
  have hl : gc.length = n * 8:=by
    have:=h.1
    simp only [List.length_append,List.length_cons,List.length_nil] at this
    omega
  have hat : ∀ j u,[z0,z1,z2,z3,z4,z5,z6,z7][j]? = some u → w.cell? ⟨g,n * 8 + j,none⟩ = some u:=fun j u hj => by
    have hjl:=(List.getElem?_eq_some_iff.1 hj).1
    simp only [List.length_cons,List.length_nil] at hjl
    rw [h.cellAt (n * 8 + j) (by omega),List.getElem?_append_right (by omega),show n * 8 + j - gc.length = j by omega]
    exact hj
  exact ⟨hat 0 _ rfl,hat 1 _ rfl,hat 2 _ rfl,hat 3 _ rfl,hat 4 _ rfl,hat 5 _ rfl,hat 6 _ rfl,hat 7 _ rfl,h.frozenAt _,h.frozenAt _,h.frozenAt _,h.frozenAt _,h.frozenAt _,h.frozenAt _,h.frozenAt _,h.frozenAt _⟩
theorem set_tail8 {gc : List Value} {n : Nat} (hl : gc.length = n * 8) (z0 z1 z2 z3 z4 z5 z6 z7 u0 u1 u2 u3 u4 u5 u6 u7 : Value) :
    ((((((((gc ++ [z0,z1,z2,z3,z4,z5,z6,z7]).set (n * 8) u0).set (n * 8 + 1) u1).set (n * 8 + 2) u2).set (n * 8 + 3) u3).set (n * 8 + 4) u4).set (n * 8 + 5) u5).set (n * 8 + 6) u6).set (n * 8 + 7) u7 = gc ++ [u0,u1,u2,u3,u4,u5,u6,u7]:=by
  have e : ∀ (j : Nat) (u : Value) (t : List Value),(gc ++ t).set (n * 8 + j) u = gc ++ t.set j u:=fun j u t => by
    rw [List.set_append_right _ _ (by omega),show n * 8 + j - gc.length = j by omega]
  have e0 : ∀ (u : Value) (t : List Value),(gc ++ t).set (n * 8) u = gc ++ t.set 0 u:=fun u t => e 0 u t
  rw [e0,e,e,e,e,e,e,e]
  rfl
theorem row_set8 {w : World} {base g cap n : Nat} {t : TypeId} {gc : List Value} {z0 z1 z2 z3 z4 z5 z6 z7 : Value} (u0 u1 u2 u3 u4 u5 u6 u7 : Value) (h : w.ownsRow base t 8 (.slice (some ⟨g,0,none⟩) (n + 1) cap) (n + 1) (gc ++ [z0,z1,z2,z3,z4,z5,z6,z7])) :
    ((((((((w.setCell ⟨g,n * 8,none⟩ u0).setCell ⟨g,n * 8 + 1,none⟩ u1).setCell ⟨g,n * 8 + 2,none⟩ u2).setCell ⟨g,n * 8 + 3,none⟩ u3).setCell ⟨g,n * 8 + 4,none⟩ u4).setCell ⟨g,n * 8 + 5,none⟩ u5).setCell ⟨g,n * 8 + 6,none⟩ u6).setCell ⟨g,n * 8 + 7,none⟩ u7).ownsRow base t 8 (.slice (some ⟨g,0,none⟩) (n + 1) cap) (n + 1) (gc ++ [u0,u1,u2,u3,u4,u5,u6,u7]):=by
  have hl : gc.length = n * 8:=by
    have:=h.1
    simp only [List.length_append,List.length_cons,List.length_nil] at this
    omega
  have h8:=((((((((h.stored (n * 8) u0).1.stored (n * 8 + 1) u1).1.stored (n * 8 + 2) u2).1.stored (n * 8 + 3) u3).1.stored (n * 8 + 4) u4).1.stored (n * 8 + 5) u5).1.stored (n * 8 + 6) u6).1.stored (n * 8 + 7) u7).1
  rw [set_tail8 hl] at h8
  exact h8
theorem oth_set8 (w : World) (g n : Nat) (u0 u1 u2 u3 u4 u5 u6 u7 : Value) : Oth (· = g) w ((((((((w.setCell ⟨g,n * 8,none⟩ u0).setCell ⟨g,n * 8 + 1,none⟩ u1).setCell ⟨g,n * 8 + 2,none⟩ u2).setCell ⟨g,n * 8 + 3,none⟩ u3).setCell ⟨g,n * 8 + 4,none⟩ u4).setCell ⟨g,n * 8 + 5,none⟩ u5).setCell ⟨g,n * 8 + 6,none⟩ u6).setCell ⟨g,n * 8 + 7,none⟩ u7):=
  ((((((((Oth.refl (· = g) w).setCell (fun _ => rfl) _).setCell (fun _ => rfl) _).setCell (fun _ => rfl) _).setCell (fun _ => rfl) _).setCell (fun _ => rfl) _).setCell (fun _ => rfl) _).setCell (fun _ => rfl) _).setCell (fun _ => rfl) _
def PushP (vb base : Nat) (m : Value) (n L z : Int) (r fv : Value) (fn : Nat) (fc : List Value) (gv : Value) (gn : Nat) (gc us : List Value) (w wx : World) : Prop:=
  Oth (fun k => k = vb ∨ gv.ownBlock = some k) w wx ∧ ∃ gv',EvR wx vb base m n L z r fv fn fc gv' (gn + 1) (gc ++ us) ∧ NewB gv gv' w
theorem push_ok {vb base : Nat} {m : Value} {n L z : Int} {r fv : Value} {fn : Nat} {fc : List Value} {gv : Value} {gn : Nat} {gc us : List Value} {w V w9 wx : World} {g cap : Nat} (h : EvR w vb base m n L z r fv fn fc gv gn gc) (ho1 : Oth (fun _ => False) w V)
    (hg9 : V.grownBy w9 gv.ownBlock) (hat : gv.ownBlock = some g ∨ w.heap.size ≤ g) (hx : Oth (fun k => k = vb ∨ k = g) w9 wx)
    (hb : wx.heap[vb]? = some (.cells (evC m n L z fv (.slice (some ⟨g,0,none⟩) (gn + 1) cap) r) 83 (0,0))) (hr : wx.ownsRow base 36 8 (.slice (some ⟨g,0,none⟩) (gn + 1) cap) (gn + 1) (gc ++ us)) :
    PushP vb base m n L z r fv fn fc gv gn gc us w wx:=by
  have ho : Oth (fun k => k = vb ∨ gv.ownBlock = some k) w wx:=by
    have h9 : Oth (fun k => k = vb ∨ gv.ownBlock = some k) w w9:=(ho1.mono (fun _ _ e => e.elim)).grown hg9 (fun k hk _ => .inr hk.symm)
    refine ⟨hx.os.trans h9.os,hx.tape.trans h9.tape,hx.output.trans h9.output,Nat.le_trans h9.size hx.size,fun k hk hp => ?_⟩
    refine (hx.block k (Nat.lt_of_lt_of_le hk h9.size) fun e => ?_).trans (h9.block k hk hp)
    rcases e with e | e
    · exact hp (.inl e)
    · subst e
      rcases hat with e | e
      · exact hp (.inr e)
      · omega
  refine ⟨ho,_,⟨hb,ho.row h.fr (fun k hk e => ?_),hr,fun k hk e => ?_,h.lt,Nat.le_trans h.le ho.size⟩,?_⟩
  · rcases e with e | e
    · have:=(h.fr.lt k hk).1
      have:=h.lt
      omega
    · exact h.ne k hk e
  · simp only [Value.ownBlock,Option.some.injEq] at e
    subst e
    rcases hat with e | e
    · exact h.ne _ hk e
    · have:=(h.fr.lt _ hk).2
      omega
  · rcases hat with e | e
    · exact .inl e.symm
    · exact .inr ⟨g,rfl,e⟩
theorem pushA {vb base : Nat} {m : Value} {n L z : Int} {r fv : Value} {fn : Nat} {fc : List Value} {gv : Value} {gn : Nat} {gc : List Value} {w V w9 : World} {g cap : Nat} {z0 z1 z2 z3 z4 z5 z6 z7 : Value} (u0 u1 u2 u3 u4 u5 u6 u7 : Value) (h : EvR w vb base m n L z r fv fn fc gv gn gc) (ho1 : Oth (fun _ => False) w V)
    (hg9 : V.grownBy w9 gv.ownBlock) (hat : gv.ownBlock = some g ∨ w.heap.size ≤ g) (hX : w9.heap[vb]? = some (.cells (evC m n L z fv gv r) 83 (0,0))) (hown : w9.ownsRow base 36 8 (.slice (some ⟨g,0,none⟩) (gn + 1) cap) (gn + 1) (gc ++ [z0,z1,z2,z3,z4,z5,z6,z7])) :
    PushP vb base m n L z r fv fn fc gv gn gc [u0,u1,u2,u3,u4,u5,u6,u7] w (((((((((w9.setCell ⟨vb,5,none⟩ (.slice (some ⟨g,0,none⟩) (gn + 1) cap)).setCell ⟨g,gn * 8,none⟩ u0).setCell ⟨g,gn * 8 + 1,none⟩ u1).setCell ⟨g,gn * 8 + 2,none⟩ u2).setCell ⟨g,gn * 8 + 3,none⟩ u3).setCell ⟨g,gn * 8 + 4,none⟩ u4).setCell ⟨g,gn * 8 + 5,none⟩ u5).setCell ⟨g,gn * 8 + 6,none⟩ u6).setCell ⟨g,gn * 8 + 7,none⟩ u7):=by
  have hgb:=(hown.lt g rfl).1
  have hlt:=h.lt
  have hb:=Joins.block_setCell hX (i:=5) (.slice (some ⟨g,0,none⟩) (gn + 1) cap)
  have hr:=row_set8 u0 u1 u2 u3 u4 u5 u6 u7 (ownsRow_setCell_below (a:=⟨vb,5,none⟩) hown h.lt (.slice (some ⟨g,0,none⟩) (gn + 1) cap))
  have ho:=oth_set8 (w9.setCell ⟨vb,5,none⟩ (.slice (some ⟨g,0,none⟩) (gn + 1) cap)) g gn u0 u1 u2 u3 u4 u5 u6 u7
  refine push_ok h ho1 hg9 hat (((Oth.refl (fun k => k = vb ∨ k = g) w9).setCell (fun _ => .inl rfl) _).trans (ho.mono fun _ _ e => .inr e)) ?_ hr
  refine (ho.block vb (lt_of_block hb) (by omega)).trans ?_
  simpa [evC] using hb
theorem pushB {vb base : Nat} {m : Value} {n L z : Int} {r fv : Value} {fn : Nat} {fc : List Value} {gv : Value} {gn : Nat} {gc : List Value} {w V w9 : World} {g cap : Nat} {z0 z1 z2 z3 z4 z5 z6 z7 : Value} (u0 u1 u2 u3 u4 u5 u6 u7 : Value) (h : EvR w vb base m n L z r fv fn fc gv gn gc) (ho1 : Oth (fun _ => False) w V)
    (hg9 : V.grownBy w9 gv.ownBlock) (hat : gv.ownBlock = some g ∨ w.heap.size ≤ g) (hX : w9.heap[vb]? = some (.cells (evC m n L z fv gv r) 83 (0,0))) (hown : w9.ownsRow base 36 8 (.slice (some ⟨g,0,none⟩) (gn + 1) cap) (gn + 1) (gc ++ [z0,z1,z2,z3,z4,z5,z6,z7])) :
    PushP vb base m n L z r fv fn fc gv gn gc [u0,u1,u2,u3,u4,u5,u6,u7] w (((((((((w9.setCell ⟨g,gn * 8,none⟩ u0).setCell ⟨g,gn * 8 + 1,none⟩ u1).setCell ⟨g,gn * 8 + 2,none⟩ u2).setCell ⟨g,gn * 8 + 3,none⟩ u3).setCell ⟨g,gn * 8 + 4,none⟩ u4).setCell ⟨g,gn * 8 + 5,none⟩ u5).setCell ⟨g,gn * 8 + 6,none⟩ u6).setCell ⟨g,gn * 8 + 7,none⟩ u7).setCell ⟨vb,5,none⟩ (.slice (some ⟨g,0,none⟩) (gn + 1) cap)):=by
  have hgb:=(hown.lt g rfl).1
  have hlt:=h.lt
  have ho:=oth_set8 w9 g gn u0 u1 u2 u3 u4 u5 u6 u7
  have hX':=(ho.block vb (lt_of_block hX) (by omega)).trans hX
  have hb:=Joins.block_setCell hX' (i:=5) (.slice (some ⟨g,0,none⟩) (gn + 1) cap)
  have hr:=ownsRow_setCell_below (a:=⟨vb,5,none⟩) (row_set8 u0 u1 u2 u3 u4 u5 u6 u7 hown) h.lt (.slice (some ⟨g,0,none⟩) (gn + 1) cap)
  refine push_ok h ho1 hg9 hat ((ho.mono fun _ _ e => .inr e).setCell (fun _ => .inl rfl) _) ?_ hr
  simpa [evC] using hb
set_option maxRecDepth 100000 in
set_option maxHeartbeats 4000000 in
theorem evResult_any (vb base : Nat) (m : Value) (n L z : Int) (r fv : Value) (fn : Nat) (fc l : List Value) (gv : Value) (gn : Nat) (gc : List Value) (k i : Int) (lA : Option Addr) (ln lc : Nat) (p q : ByteArray) (bA : Option Addr) (bn bc : Nat) (eA : Option Addr) (en ec : Nat) (w : World)
    (h : EvR w vb base m n L z r fv (fn + 1) (fc ++ l) gv gn gc) (hl : fc.length = fn * 3) (hn : (gn + 1) * 128 ≤ 140737488355328) :
    Calls Tryz.prog 125 #[.pointer (some ⟨vb,0,none⟩),.agg #[.int .i64 k,.int .i64 i,.slice lA ln lc,.int .i64 0,.string p,.string q,.slice bA bn bc,.slice eA en ec]] w fun e w' => e = .returned (.tuple #[]) ∧ Oth (fun k => k = vb ∨ gv.ownBlock = some k) w w' ∧
      ∃ fv' gv',EvR w' vb base m n L z r fv' fn fc gv' (gn + 1) (gc ++ valL k i lA ln lc p q bA bn bc eA en ec) ∧ fv'.ownBlock = fv.ownBlock ∧ NewB gv gv' w:=by
  obtain ⟨i0,hi,hz0,hz1,hz2⟩:=info_parts Tryz.infoValue
  obtain ⟨gA,gcp,rfl⟩ : ∃ A c,gv = .slice A gn c:=by
    rcases h.va.2 with ⟨rfl,rfl⟩ | ⟨g,cap,cur,rfl,_⟩
    · exact ⟨none,0,rfl⟩
    · exact ⟨_,_,rfl⟩
  have H0:=Lib.hid h
  obtain ⟨V1,hV1⟩ : ∃ Q9,w.alloc (.cells #[.int .i64 k,.int .i64 i,.slice lA ln lc,.int .i64 0,.string p,.string q,.slice bA bn bc,.slice eA en ec] 36) = Q9:=⟨_,rfl⟩
  have ho1 : Oth (fun _ => False) w V1:=by rw [← hV1];exact (Oth.refl _ _).alloc _
  have hr1 : V1.heap[w.heap.size]? = some (.cells #[.int .i64 k,.int .i64 i,.slice lA ln lc,.int .i64 0,.string p,.string q,.slice bA bn bc,.slice eA en ec] 36 (0,0)):=by rw [← hV1];exact heap_alloc_new _ _
  have h1 : EvR V1 vb base m n L z r fv (fn + 1) (fc ++ l) (.slice gA gn gcp) gn gc:=h.oth ho1 (fun e => e) (fun _ _ e => e) (fun _ _ e => e)
  have x5:=cell_of_row V1 vb 5 _ _ (0,0) h1.blk
  simp [evC] at x5
  obtain ⟨e0,e1,e2,e3,e4,e5,e6,e7,_,_,_,_,_,_,_,_⟩:=row8 hr1
  have al : ∀ p u,V1.cell? p = some u → (V1.alloc (.cells #[.int .i64 0,.int .i64 0,.slice none 0 0,.int .i64 0,.string ⟨#[]⟩,.string ⟨#[]⟩,.slice none 0 0,.slice none 0 0] 36)).cell? p = some u:=fun p u h => (World.cell?_alloc_lt V1 _ p (World.block_lt_of_cell? V1 p h)).trans h
  have y5:=al _ _ x5
  have d0:=al _ _ e0
  have d1:=al _ _ e1
  have d2:=al _ _ e2
  have d3:=al _ _ e3
  have d4:=al _ _ e4
  have d5:=al _ _ e5
  have d6:=al _ _ e6
  have d7:=al _ _ e7
  have m1 : gn + 1 ≤ maxLen:=by unfold maxLen;omega
  have mb : base ≤ (V1.alloc (.cells #[.int .i64 0,.int .i64 0,.slice none 0 0,.int .i64 0,.string ⟨#[]⟩,.string ⟨#[]⟩,.slice none 0 0,.slice none 0 0] 36)).drew.heap.size:=by have:=h1.le;show base ≤ (V1.alloc (.cells #[.int .i64 0,.int .i64 0,.slice none 0 0,.int .i64 0,.string ⟨#[]⟩,.string ⟨#[]⟩,.slice none 0 0,.slice none 0 0] 36)).heap.size;simp;omega
  have HO:=Lib.hid (show (V1.alloc (.cells #[.int .i64 0,.int .i64 0,.slice none 0 0,.int .i64 0,.string ⟨#[]⟩,.string ⟨#[]⟩,.slice none 0 0,.slice none 0 0] 36)).drew.ownsRow base 36 8 (.slice gA gn gcp) gn gc from (h1.va.alloc (.cells #[.int .i64 0,.int .i64 0,.slice none 0 0,.int .i64 0,.string ⟨#[]⟩,.string ⟨#[]⟩,.slice none 0 0,.slice none 0 0] 36)).drew)
  have HM:=Lib.hid (And.intro m1 (And.intro hn mb))
  have HN:=Lib.hid (show ∀ j u,([.int .i64 0,.int .i64 0,.slice none 0 0,.int .i64 0,.string ⟨#[]⟩,.string ⟨#[]⟩,.slice none 0 0,.slice none 0 0] : List Value)[j]? = some u → (V1.alloc (.cells #[.int .i64 0,.int .i64 0,.slice none 0 0,.int .i64 0,.string ⟨#[]⟩,.string ⟨#[]⟩,.slice none 0 0,.slice none 0 0] 36)).drew.cell? ((⟨V1.heap.size,0,none⟩ : Addr).add j) = some u from World.news_of_block (heap_alloc_new V1 (.cells #[.int .i64 0,.int .i64 0,.slice none 0 0,.int .i64 0,.string ⟨#[]⟩,.string ⟨#[]⟩,.slice none 0 0,.slice none 0 0] 36)))
  have HX:=Lib.hid (show ∀ Y : World,(V1.alloc (.cells #[.int .i64 0,.int .i64 0,.slice none 0 0,.int .i64 0,.string ⟨#[]⟩,.string ⟨#[]⟩,.slice none 0 0,.slice none 0 0] 36)).drew.grownBy Y (Value.slice gA gn gcp).ownBlock → Y.heap[vb]? = some (.cells (evC m n L z fv (.slice gA gn gcp) r) 83 (0,0)) from fun Y hg => by
    have hb:=h1.blk
    refine (hg.block vb ?_ fun e => ?_).trans ((Below.heap_alloc _ _ _ (lt_of_block hb)).trans hb)
    · have:=lt_of_block hb
      show vb < (V1.alloc (.cells #[.int .i64 0,.int .i64 0,.slice none 0 0,.int .i64 0,.string ⟨#[]⟩,.string ⟨#[]⟩,.slice none 0 0,.slice none 0 0] 36)).heap.size
      simp
      omega
    · have:=(h1.va.lt vb e.symm).1
      have:=h1.lt
      omega)
  have HZ:=Lib.hid (show Oth (fun _ => False) w (V1.alloc (.cells #[.int .i64 0,.int .i64 0,.slice none 0 0,.int .i64 0,.string ⟨#[]⟩,.string ⟨#[]⟩,.slice none 0 0,.slice none 0 0] 36)).drew from (ho1.alloc _).drew)
  have HAt:=Lib.hid (show ∀ g,(Value.slice gA gn gcp).ownBlock = some g ∨ g = (V1.alloc (.cells #[.int .i64 0,.int .i64 0,.slice none 0 0,.int .i64 0,.string ⟨#[]⟩,.string ⟨#[]⟩,.slice none 0 0,.slice none 0 0] 36)).drew.heap.size → (Value.slice gA gn gcp).ownBlock = some g ∨ w.heap.size ≤ g from fun g hg => hg.imp id fun e => by rw [e];exact Nat.le_trans ho1.size (show V1.heap.size ≤ (V1.alloc (.cells #[.int .i64 0,.int .i64 0,.slice none 0 0,.int .i64 0,.string ⟨#[]⟩,.string ⟨#[]⟩,.slice none 0 0,.slice none 0 0] 36)).heap.size by simp))
  have hix : (gn : Int) < (gn : Int) + 1:=by omega
  have HH:=Lib.hid (And.intro h1 (And.intro hr1 ho1))
  clear m1 hn mb h h1 hr1 ho1 al
  go_enter Tryz.func125,Tryz.ntmps125
  go_wp2
  clear hV1
  go_cut [0] (fun s wx => s = .pointer (some ⟨vb,0,none⟩) ∧ PushP vb base m n L z r fv (fn + 1) (fc ++ l) (.slice gA gn gcp) gn gc (valL k i lA ln lc p q bA bn bc eA en ec) w wx)
  case first =>
   go_region_law (first | (refine step_append_lies _ rfl (.tmp 7) (.tmp 10) 32 rfl base 36 i0 _ 8 128 Tryz.undValues hi hz0 hz1 hz2 rfl (by decide) (.slice gA gn gcp) gn gc rfl HO.out ⟨V1.heap.size,0,none⟩ 1 1 [.int .i64 0,.int .i64 0,.slice none 0 0,.int .i64 0,.string ⟨#[]⟩,.string ⟨#[]⟩,.slice none 0 0,.slice none 0 0] rfl rfl HN.out (by simp [Value.oneCell']) (by decide) HM.out.1 HM.out.2.1 HM.out.2.2 _ rfl ?_;intro g cap w9 hown9 hg9 hat9 hlt9;have HS:=Lib.hid (And.intro hown9 (And.intro hg9 (And.intro hat9 hlt9)));obtain ⟨s0,s1,s2,s3,s4,s5,s6,s7,t0,t1,t2,t3,t4,t5,t6,t7⟩:=rowT hown9;have f5:=frozen_of_row w9 vb 5 _ _ (HX.out w9 hg9);have c5:=cell_of_row w9 vb 5 _ _ (0,0) (HX.out w9 hg9);simp [evC] at c5;have ng : ¬ vb = g:=(fun e => by have:=(hown9.lt g rfl).1;have:=HH.out.1.lt;omega);have ng' : ¬ g = vb:=fun e => ng e.symm;clear hown9 hg9 hat9 hlt9))
   all_goals go_wp2
   all_goals go_meet
   all_goals refine ⟨rfl,?_⟩
   all_goals first
     | with_reducible exact pushA _ _ _ _ _ _ _ _ H0.out HZ.out HS.out.2.1 (HAt.out g HS.out.2.2.1) (HX.out w9 HS.out.2.1) HS.out.1
     | with_reducible exact pushB _ _ _ _ _ _ _ _ H0.out HZ.out HS.out.2.1 (HAt.out g HS.out.2.2.1) (HX.out w9 HS.out.2.1) HS.out.1
  case rest =>
  obtain ⟨rfl,ho,gv',hE,hN⟩:=hcut
  have HE:=Lib.hid (And.intro (evEnd_any vb base m n L z r fv fn fc l gv' (gn + 1) (gc ++ valL k i lA ln lc p q bA bn bc eA en ec) wc hE hl) (And.intro ho (And.intro hE hN)))
  clear ho hE hN x5 y5 e0 e1 e2 e3 e4 e5 e6 e7 d0 d1 d2 d3 d4 d5 d6 d7
  go_wp2_with fail
  refine HE.out.1.mono ?_
  rintro e w1 ⟨rfl,ho,fv',hE,hf⟩
  have HF:=Lib.hid (And.intro ho (And.intro hE hf))
  clear ho hE hf
  go_wp2
  go_end0
  exact ⟨rfl,HE.out.2.1.trans (HF.out.1.mono fun _ _ e => .inl e),fv',gv',HF.out.2.1,HF.out.2.2,HE.out.2.2.2⟩
end Go.Proofs.YtnfndgmlnoeelaaGreatDoor
/- eval: the small methods over the state in memory -/
namespace Go.Proofs.YtnfndgmlnoeelaaGreatDoor
open Go Go.RowKit Go.Proofs
def St (w w' : World) : Prop:=w'.os = w.os ∧ w'.tape = w.tape ∧ w'.output = w.output
theorem St.refl (w : World) : St w w:=⟨rfl,rfl,rfl⟩
theorem St.trans {a b c : World} (h : St a b) (k : St b c) : St a c:=⟨k.1.trans h.1,k.2.1.trans h.2.1,k.2.2.trans h.2.2⟩
theorem Oth.st {p : Nat → Prop} {w w' : World} (h : Oth p w w') : St w w':=⟨h.os,h.tape,h.output⟩
def EvK (W0 : World) (B0 vb rb base : Nat) (m : Value) (L : Int) (fv gv : Value) (rs : List Rm) (w w' : World) (s : Es) : Prop:=
  ∃ fv' fc' gv' gc' rs',EvI W0 B0 vb rb base m L w' s fv' fc' gv' gc' rs' ∧ Kp (Dd vb rb fv gv rs) w (Dd vb rb fv' gv' rs') w' ∧ St w w'
structure Sm (L : Int) (s : Es) : Prop where
  n0 : 0 ≤ s.n
  l : L ≤ 1000000
  f : s.fs.length ≤ 1000000000
  v : s.vs.length ≤ 1000000000
theorem NewB.refl (v : Value) (w : World) : NewB v v w:=.inl rfl
section
variable {W0 : World} {B0 vb rb base : Nat} {m : Value} {L : Int} {w : World} {fv : Value} {fc : List Value} {gv : Value} {gc : List Value} {rs : List Rm}
theorem stepI_no {s : Es} (h : EvI W0 B0 vb rb base m L w s fv fc gv gc rs) (hl : L ≤ s.n) :
    Calls Tryz.prog 61 #[.pointer (some ⟨vb,0,none⟩)] w fun e w' => e = failed 27 ∧ EvI W0 B0 vb rb base m L w' s fv fc gv gc rs ∧ St w w':=by
  refine (evStep_no vb m s.n L s.z fv gv _ w h.ev.blk hl).mono ?_
  rintro e w' ⟨rfl,ho⟩
  have hk:=h.kp ho (fun _ e => e.elim) (NewB.refl _ _) (NewB.refl _ _)
  exact ⟨rfl,h.next ho (fun _ e => e.elim) (NewB.refl _ _) (NewB.refl _ _) (h.ev.oth ho (fun e => e) (fun _ _ e => e) (fun _ _ e => e)) (h.fr.keep hk) (h.va.keep hk),ho.st⟩
theorem stepI_ok {s : Es} (h : EvI W0 B0 vb rb base m L w s fv fc gv gc rs) (hs : Sm L s) (hl : s.n < L) :
    Calls Tryz.prog 61 #[.pointer (some ⟨vb,0,none⟩)] w fun e w' => e = .returned (.tuple #[]) ∧ EvI W0 B0 vb rb base m L w' { s with n:=s.n + 1 } fv fc gv gc rs ∧ Kp (Dd vb rb fv gv rs) w (Dd vb rb fv gv rs) w' ∧ St w w':=by
  have hs0:=hs.n0
  refine (evStep_ok vb m s.n L s.z fv gv _ w h.ev.blk hl (by omega) hs.l).mono ?_
  rintro e w' ⟨rfl,hb,ho⟩
  have hp : ∀ k,k = vb → k = vb ∨ fv.ownBlock = some k ∨ gv.ownBlock = some k:=fun _ e => .inl e
  have hk:=h.kp ho hp (NewB.refl _ _) (NewB.refl _ _)
  have hlt:=h.ev.lt
  refine ⟨rfl,h.next ho hp (NewB.refl _ _) (NewB.refl _ _) ⟨hb,ho.row h.ev.fr fun k hk e => ?_,ho.row h.ev.va fun k hk e => ?_,h.ev.ne,h.ev.lt,Nat.le_trans h.ev.le ho.size⟩ (h.fr.keep hk) (h.va.keep hk),hk,ho.st⟩
  · have:=(h.ev.fr.lt k hk).1
    omega
  · have:=(h.ev.va.lt k hk).1
    omega
theorem EvI.top {n z : Int} {f : Fe} {fs : List Fe} {vs : List Va} (h : EvI W0 B0 vb rb base m L w ⟨n,z,f :: fs,vs⟩ fv fc gv gc rs) :
    ∃ g cap fc' eb eo pb,fv = .slice (some ⟨g,0,none⟩) (fs.length + 1) cap ∧ fc = fc' ++ [.pointer (some ⟨eb,eo,none⟩),.int .i64 f.at_,.pointer (some ⟨pb,0,none⟩)] ∧ XpA W0 B0 eb eo f.e ∧ PlA (CdW W0 B0) w (Dd vb rb fv gv rs) pb f.p f.v ∧ FrsR W0 B0 w (Dd vb rb fv gv rs) fs fc' ∧ fc'.length = fs.length * 3:=by
  obtain ⟨g,cap,rfl⟩:=ownsRow_succ h.ev.fr
  obtain ⟨fc',eb,eo,pb,rfl,h1,h2,h3⟩:=h.fr
  exact ⟨g,cap,fc',eb,eo,pb,rfl,rfl,h1,h2,h3,h3.len⟩
theorem endI {n z : Int} {f : Fe} {fs : List Fe} {vs : List Va} (h : EvI W0 B0 vb rb base m L w ⟨n,z,f :: fs,vs⟩ fv fc gv gc rs) :
    Calls Tryz.prog 127 #[.pointer (some ⟨vb,0,none⟩)] w fun e w' => e = .returned (.tuple #[]) ∧ EvK W0 B0 vb rb base m L fv gv rs w w' ⟨n,z,fs,vs⟩:=by
  obtain ⟨g,cap,fc',eb,eo,pb,rfl,rfl,h1,h2,h3,hl⟩:=h.top
  refine (evEnd_any vb base m n L z _ _ fs.length fc' _ gv vs.length gc w h.ev hl).mono ?_
  rintro e w' ⟨rfl,ho,fv',hE,hf⟩
  have hp : ∀ k,k = vb → k = vb ∨ (Value.slice (some ⟨g,0,none⟩) (fs.length + 1) cap).ownBlock = some k ∨ gv.ownBlock = some k:=fun _ e => .inl e
  have hk:=h.kp (fv':=fv') (gv':=gv) ho hp (.inl hf) (NewB.refl _ _)
  exact ⟨rfl,fv',fc',gv,gc,rs,h.next (s':=⟨n,z,fs,vs⟩) ho hp (.inl hf) (NewB.refl _ _) hE (h3.keep hk) (h.va.keep hk),hk,ho.st⟩
theorem resultO {n z : Int} {f : Fe} {fs : List Fe} {vs : List Va} (h : EvI W0 B0 vb rb base m L w ⟨n,z,f :: fs,vs⟩ fv fc gv gc rs) (hs : Sm L ⟨n,z,f :: fs,vs⟩) {v : Va} {lA : Option Addr} {lc : Nat} {bA : Option Addr} {bc : Nat} {eA : Option Addr} {ec : Nat} (hv : VaR (CdW W0 B0) w (Dd vb rb fv gv rs) v lA lc bA bc eA ec) :
    Calls Tryz.prog 125 #[.pointer (some ⟨vb,0,none⟩),.agg #[.int .i64 v.k,.int .i64 v.i,.slice lA v.l.len lc,.int .i64 0,.string v.p,.string v.q,.slice bA v.b.len bc,.slice eA v.e.len ec]] w fun e w' => e = .returned (.tuple #[]) ∧ EvK W0 B0 vb rb base m L fv gv rs w w' ⟨n,z,fs,v :: vs⟩ ∧ Oth (fun k => k = vb ∨ gv.ownBlock = some k) w w':=by
  obtain ⟨g,cap,fc',eb,eo,pb,rfl,rfl,h1,h2,h3,hl⟩:=h.top
  have hsv : vs.length ≤ 1000000000:=hs.v
  refine (evResult_any vb base m n L z _ _ fs.length fc' _ gv vs.length gc v.k v.i lA v.l.len lc v.p v.q bA v.b.len bc eA v.e.len ec w h.ev hl (by omega)).mono ?_
  rintro e w' ⟨rfl,ho,fv',gv',hE,hf,hg⟩
  have hp : ∀ k,(k = vb ∨ gv.ownBlock = some k) → k = vb ∨ (Value.slice (some ⟨g,0,none⟩) (fs.length + 1) cap).ownBlock = some k ∨ gv.ownBlock = some k:=fun _ e => e.imp id .inr
  have hk:=h.kp (fv':=fv') (gv':=gv') ho hp (.inl hf) hg
  exact ⟨rfl,⟨fv',fc',gv',_,rs,h.next (s':=⟨n,z,fs,v :: vs⟩) ho hp (.inl hf) hg hE (h3.keep hk) ⟨gc,lA,lc,bA,bc,eA,ec,rfl,hv.keep hk,h.va.keep hk⟩,hk,ho.st⟩,ho⟩
theorem resultI {n z : Int} {f : Fe} {fs : List Fe} {vs : List Va} (h : EvI W0 B0 vb rb base m L w ⟨n,z,f :: fs,vs⟩ fv fc gv gc rs) (hs : Sm L ⟨n,z,f :: fs,vs⟩) {v : Va} {lA : Option Addr} {lc : Nat} {bA : Option Addr} {bc : Nat} {eA : Option Addr} {ec : Nat} (hv : VaR (CdW W0 B0) w (Dd vb rb fv gv rs) v lA lc bA bc eA ec) :
    Calls Tryz.prog 125 #[.pointer (some ⟨vb,0,none⟩),.agg #[.int .i64 v.k,.int .i64 v.i,.slice lA v.l.len lc,.int .i64 0,.string v.p,.string v.q,.slice bA v.b.len bc,.slice eA v.e.len ec]] w fun e w' => e = .returned (.tuple #[]) ∧ EvK W0 B0 vb rb base m L fv gv rs w w' ⟨n,z,fs,v :: vs⟩:=by
  refine (resultO h hs hv).mono ?_
  rintro e w' ⟨rfl,h1,_⟩
  exact ⟨rfl,h1⟩
theorem popO {n z : Int} {fs : List Fe} {v : Va} {vs : List Va} (h : EvI W0 B0 vb rb base m L w ⟨n,z,fs,v :: vs⟩ fv fc gv gc rs) :
    Calls Tryz.prog 62 #[.pointer (some ⟨vb,0,none⟩)] w fun e w' => ∃ lA lc bA bc eA ec,e = .returned (.agg #[.int .i64 v.k,.int .i64 v.i,.slice lA v.l.len lc,.int .i64 0,.string v.p,.string v.q,.slice bA v.b.len bc,.slice eA v.e.len ec]) ∧
      ∃ gv' gc',EvI W0 B0 vb rb base m L w' ⟨n,z,fs,vs⟩ fv fc gv' gc' rs ∧ Kp (Dd vb rb fv gv rs) w (Dd vb rb fv gv' rs) w' ∧ St w w' ∧ VaR (CdW W0 B0) w' (Dd vb rb fv gv' rs) v lA lc bA bc eA ec ∧ Oth (fun k => k = vb) w w':=by
  obtain ⟨gc',lA,lc,bA,bc,eA,ec,rfl,hv,hvs⟩:=h.va
  refine (evPop_any vb base m n L z _ fv fs.length fc gv vs.length gc' v.k v.i lA v.l.len lc v.p v.q bA v.b.len bc eA v.e.len ec w h.ev hvs.len).mono ?_
  rintro e w' ⟨rfl,ho,gv',hE,hg⟩
  have hp : ∀ k,k = vb → k = vb ∨ fv.ownBlock = some k ∨ gv.ownBlock = some k:=fun _ e => .inl e
  have hk:=h.kp (fv':=fv) (gv':=gv') ho hp (NewB.refl _ _) (.inl hg)
  exact ⟨lA,lc,bA,bc,eA,ec,rfl,gv',gc',h.next (s':=⟨n,z,fs,vs⟩) ho hp (NewB.refl _ _) (.inl hg) hE (h.fr.keep hk) (hvs.keep hk),hk,ho.st,hv.keep hk,ho⟩
theorem popI {n z : Int} {fs : List Fe} {v : Va} {vs : List Va} (h : EvI W0 B0 vb rb base m L w ⟨n,z,fs,v :: vs⟩ fv fc gv gc rs) :
    Calls Tryz.prog 62 #[.pointer (some ⟨vb,0,none⟩)] w fun e w' => ∃ lA lc bA bc eA ec,e = .returned (.agg #[.int .i64 v.k,.int .i64 v.i,.slice lA v.l.len lc,.int .i64 0,.string v.p,.string v.q,.slice bA v.b.len bc,.slice eA v.e.len ec]) ∧
      ∃ gv' gc',EvI W0 B0 vb rb base m L w' ⟨n,z,fs,vs⟩ fv fc gv' gc' rs ∧ Kp (Dd vb rb fv gv rs) w (Dd vb rb fv gv' rs) w' ∧ St w w' ∧ VaR (CdW W0 B0) w' (Dd vb rb fv gv' rs) v lA lc bA bc eA ec:=by
  refine (popO h).mono ?_
  rintro e w' ⟨lA,lc,bA,bc,eA,ec,rfl,gv',gc',h1,h2,h3,h4,_⟩
  exact ⟨lA,lc,bA,bc,eA,ec,rfl,gv',gc',h1,h2,h3,h4⟩
theorem beginO {n z : Int} {fs : List Fe} {vs : List Va} (h : EvI W0 B0 vb rb base m L w ⟨n,z,fs,vs⟩ fv fc gv gc rs) (hs : Sm L ⟨n,z,fs,vs⟩) {x : Xp} {eb eo pb : Nat} {p : ByteArray} {v : Vl} (hx : XpA W0 B0 eb eo x) (hpl : PlA (CdW W0 B0) w (Dd vb rb fv gv rs) pb p v) :
    Calls Tryz.prog 60 #[.pointer (some ⟨vb,0,none⟩),.pointer (some ⟨eb,eo,none⟩),.pointer (some ⟨pb,0,none⟩)] w fun e w' => e = .returned (.tuple #[]) ∧ EvK W0 B0 vb rb base m L fv gv rs w w' ⟨n,z,⟨x,0,p,v⟩ :: fs,vs⟩ ∧ Oth (fun k => k = vb ∨ fv.ownBlock = some k) w w':=by
  have hsf : fs.length ≤ 1000000000:=hs.f
  refine (evBegin_any vb base m n L z _ fv fs.length fc gv vs.length gc (some ⟨eb,eo,none⟩) (some ⟨pb,0,none⟩) w h.ev (by omega)).mono ?_
  rintro e w' ⟨rfl,ho,fv',hE,hf,_⟩
  have hp : ∀ k,(k = vb ∨ fv.ownBlock = some k) → k = vb ∨ fv.ownBlock = some k ∨ gv.ownBlock = some k:=fun _ e => e.imp id .inl
  have hk:=h.kp (fv':=fv') (gv':=gv) ho hp hf (NewB.refl _ _)
  exact ⟨rfl,⟨fv',_,gv,gc,rs,h.next (s':=⟨n,z,⟨x,0,p,v⟩ :: fs,vs⟩) ho hp hf (NewB.refl _ _) hE ⟨fc,eb,eo,pb,rfl,hx,hpl.keep hk,h.fr.keep hk⟩ (h.va.keep hk),hk,ho.st⟩,ho⟩
theorem beginI {n z : Int} {fs : List Fe} {vs : List Va} (h : EvI W0 B0 vb rb base m L w ⟨n,z,fs,vs⟩ fv fc gv gc rs) (hs : Sm L ⟨n,z,fs,vs⟩) {x : Xp} {eb eo pb : Nat} {p : ByteArray} {v : Vl} (hx : XpA W0 B0 eb eo x) (hpl : PlA (CdW W0 B0) w (Dd vb rb fv gv rs) pb p v) :
    Calls Tryz.prog 60 #[.pointer (some ⟨vb,0,none⟩),.pointer (some ⟨eb,eo,none⟩),.pointer (some ⟨pb,0,none⟩)] w fun e w' => e = .returned (.tuple #[]) ∧ EvK W0 B0 vb rb base m L fv gv rs w w' ⟨n,z,⟨x,0,p,v⟩ :: fs,vs⟩:=by
  refine (beginO h hs hx hpl).mono ?_
  rintro e w' ⟨rfl,h1,_⟩
  exact ⟨rfl,h1⟩
theorem partO {n z : Int} {f : Fe} {fs : List Fe} {vs : List Va} {g cap : Nat} (h : EvI W0 B0 vb rb base m L w ⟨n,z,f :: fs,vs⟩ (.slice (some ⟨g,0,none⟩) (fs.length + 1) cap) fc gv gc rs) (hs : Sm L ⟨n,z,f :: fs,vs⟩) {j a : Nat} {x : Xp} (hx : f.e.s.at j = some x) (hsz : f.e.s.len ≤ 3)
    {pb : Nat} {v : Vl} (hpl : PlA (CdW W0 B0) w (Dd vb rb (.slice (some ⟨g,0,none⟩) (fs.length + 1) cap) gv rs) pb f.p v) :
    Calls Tryz.prog 128 #[.pointer (some ⟨vb,0,none⟩),.pointer (some ⟨g,fs.length * 3,none⟩),.int .i64 j,.int .i64 a,.pointer (some ⟨pb,0,none⟩)] w fun e w' => e = .returned (.tuple #[]) ∧ EvK W0 B0 vb rb base m L (.slice (some ⟨g,0,none⟩) (fs.length + 1) cap) gv rs w w' ⟨n,z,⟨x,0,f.p,v⟩ :: f.put a :: fs,vs⟩ ∧ Oth (fun k => k = vb ∨ k = g) w w' ∧ ∀ o,o < (fs.length + 1) * 3 → o ≠ fs.length * 3 + 1 → w'.cell? ⟨g,o,none⟩ = w.cell? ⟨g,o,none⟩:=by
  obtain ⟨g',cap',fc',eb,eo,pb',e',rfl,h1,h2,h3,hl⟩:=h.top
  cases e'
  obtain ⟨A,c,hA,hcd⟩:=h1.c5
  obtain ⟨sb,so,rfl,hx2⟩:=hcd.at hx
  have hsf : fs.length + 1 ≤ 1000000000:=hs.f
  have hjl : j < f.e.s.len:=by
    by_cases hh : j < f.e.s.len
    · exact hh
    · exfalso
      have : ∀ (s : Sk) (j : Nat),¬ j < s.len → s.at j = none:=fun s => by
        induction s with
        | nil => intro j _;rfl
        | cons k n m i d s r _ ih =>
          intro j hj
          cases j with
          | zero => simp [Sk.len] at hj
          | succ j => exact ih j (by simp [Sk.len] at hj;omega)
      rw [this _ _ hh] at hx
      cases hx
  refine (evPart_any vb base m n L z _ g cap fs.length fc' gv vs.length gc eb eo f.at_ _ (some ⟨pb,0,none⟩) sb so f.e.s.len c j a w h.ev hl ((h.code h1.lt).trans hA) (by have:=h1.lt;have:=h.lr;have:=h.rlt;omega) hjl (by omega) (by omega)).mono ?_
  rintro e w' ⟨rfl,ho,fv',hE,hf,hkc⟩
  have hp : ∀ k,(k = vb ∨ k = g) → k = vb ∨ (Value.slice (some ⟨g,0,none⟩) (fs.length + 1) cap).ownBlock = some k ∨ gv.ownBlock = some k:=fun k e => e.imp id fun e => .inl (by rw [e];rfl)
  have hk:=h.kp (fv':=fv') (gv':=gv) ho hp hf (NewB.refl _ _)
  refine ⟨rfl,⟨fv',_,gv,gc,rs,h.next (s':=⟨n,z,⟨x,0,f.p,v⟩ :: f.put a :: fs,vs⟩) ho hp hf (NewB.refl _ _) hE ⟨_,sb,so + j * 6,pb,rfl,hx2,hpl.keep hk,fc',eb,eo,pb',rfl,h1,h2.keep hk,h3.keep hk⟩ (h.va.keep hk),hk,ho.st⟩,ho,hkc⟩
theorem partI {n z : Int} {f : Fe} {fs : List Fe} {vs : List Va} {g cap : Nat} (h : EvI W0 B0 vb rb base m L w ⟨n,z,f :: fs,vs⟩ (.slice (some ⟨g,0,none⟩) (fs.length + 1) cap) fc gv gc rs) (hs : Sm L ⟨n,z,f :: fs,vs⟩) {j a : Nat} {x : Xp} (hx : f.e.s.at j = some x) (hsz : f.e.s.len ≤ 3)
    {pb : Nat} {v : Vl} (hpl : PlA (CdW W0 B0) w (Dd vb rb (.slice (some ⟨g,0,none⟩) (fs.length + 1) cap) gv rs) pb f.p v) :
    Calls Tryz.prog 128 #[.pointer (some ⟨vb,0,none⟩),.pointer (some ⟨g,fs.length * 3,none⟩),.int .i64 j,.int .i64 a,.pointer (some ⟨pb,0,none⟩)] w fun e w' => e = .returned (.tuple #[]) ∧ EvK W0 B0 vb rb base m L (.slice (some ⟨g,0,none⟩) (fs.length + 1) cap) gv rs w w' ⟨n,z,⟨x,0,f.p,v⟩ :: f.put a :: fs,vs⟩:=by
  refine (partO h hs hx hsz hpl).mono ?_
  rintro e w' ⟨rfl,h1,_⟩
  exact ⟨rfl,h1⟩
theorem insteadI {n z : Int} {f : Fe} {fs : List Fe} {vs : List Va} {g cap : Nat} (h : EvI W0 B0 vb rb base m L w ⟨n,z,f :: fs,vs⟩ (.slice (some ⟨g,0,none⟩) (fs.length + 1) cap) fc gv gc rs) {j : Nat} {x : Xp} (hx : f.e.s.at j = some x) (hj : j < f.e.s.len) (hsz : f.e.s.len ≤ 3) :
    Calls Tryz.prog 130 #[.pointer (some ⟨vb,0,none⟩),.pointer (some ⟨g,fs.length * 3,none⟩),.int .i64 j] w fun e w' => e = .returned (.tuple #[]) ∧ EvK W0 B0 vb rb base m L (.slice (some ⟨g,0,none⟩) (fs.length + 1) cap) gv rs w w' ⟨n,z,⟨x,0,f.p,f.v⟩ :: fs,vs⟩:=by
  obtain ⟨g',cap',fc',eb,eo,pb',e',rfl,h1,h2,h3,hl⟩:=h.top
  cases e'
  obtain ⟨A,c,hA,hcd⟩:=h1.c5
  obtain ⟨sb,so,rfl,hx2⟩:=hcd.at hx
  refine (evInstead_any vb base m n L z _ g cap fs.length fc' gv vs.length gc eb eo f.at_ _ sb so f.e.s.len c j w h.ev hl ((h.code h1.lt).trans hA) hj (by omega)).mono ?_
  rintro e w' ⟨rfl,ho,hE⟩
  have hp : ∀ k,k = g → k = vb ∨ (Value.slice (some ⟨g,0,none⟩) (fs.length + 1) cap).ownBlock = some k ∨ gv.ownBlock = some k:=fun k e => .inr (.inl (by rw [e];rfl))
  have hk:=h.kp (fv':=.slice (some ⟨g,0,none⟩) (fs.length + 1) cap) (gv':=gv) ho hp (NewB.refl _ _) (NewB.refl _ _)
  exact ⟨rfl,_,_,gv,gc,rs,h.next (s':=⟨n,z,⟨x,0,f.p,f.v⟩ :: fs,vs⟩) ho hp (NewB.refl _ _) (NewB.refl _ _) hE ⟨fc',sb,so + j * 6,pb',rfl,hx2,h2.keep hk,h3.keep hk⟩ (h.va.keep hk),hk,ho.st⟩
end
end Go.Proofs.YtnfndgmlnoeelaaGreatDoor
/- eval: constants, functions, names without a place, conflicts -/
namespace Go.Proofs.YtnfndgmlnoeelaaGreatDoor
open Go Go.RowKit Go.Proofs
structure TopF (W0 : World) (B0 : Nat) (w : World) (D : Dead) (g q : Nat) (f : Fe) (eb eo pb : Nat) (sA : Option Addr) (sc : Nat) (vA : Option Addr) (vc : Nat) : Prop where
  p0 : w.cell? ⟨g,q * 3,none⟩ = some (.pointer (some ⟨eb,eo,none⟩))
  p1 : w.cell? ⟨g,q * 3 + 1,none⟩ = some (.int .i64 f.at_)
  p2 : w.cell? ⟨g,q * 3 + 2,none⟩ = some (.pointer (some ⟨pb,0,none⟩))
  k0 : w.cell? ⟨eb,eo,none⟩ = some (.int .i64 f.e.k)
  k1 : w.cell? ⟨eb,eo + 1,none⟩ = some (.string f.e.n)
  k2 : w.cell? ⟨eb,eo + 2,none⟩ = some (.string f.e.m)
  k3 : w.cell? ⟨eb,eo + 3,none⟩ = some (.int .i64 f.e.i)
  k4 : w.cell? ⟨eb,eo + 4,none⟩ = some (.int .i64 f.e.d)
  k5 : w.cell? ⟨eb,eo + 5,none⟩ = some (.slice sA f.e.s.len sc)
  cd : CdW W0 B0 sA sc f.e.s
  v0 : w.cell? ⟨pb,0,none⟩ = some (.string f.p)
  v1 : w.cell? ⟨pb,1,none⟩ = some (.slice vA f.v.len vc)
  vs : f.v.Sl (CdW W0 B0) w D true vA vc
  xp : XpA W0 B0 eb eo f.e
  pl : PlA (CdW W0 B0) w D pb f.p f.v
def MethR (W0 : World) (B0 vb rb base : Nat) (m : Value) (L : Int) (fv gv : Value) (rs : List Rm) (w : World) (r : Rs) (e : Ending) (w' : World) : Prop:=match r with
  | .go s => e = .returned (.tuple #[]) ∧ EvK W0 B0 vb rb base m L fv gv rs w w' s
  | .bad err k => e = failed err ∧ ∃ s fv' fc' gv' gc' rs',EvI W0 B0 vb rb base m L w' s fv' fc' gv' gc' rs' ∧ s.n = k ∧ St w w'
section
variable {W0 : World} {B0 vb rb base : Nat} {m : Value} {L : Int} {w : World} {fv : Value} {fc : List Value} {gv : Value} {gc : List Value} {rs : List Rm}
theorem EvI.facts {n z : Int} {f : Fe} {fs : List Fe} {vs : List Va} {g cap : Nat} (h : EvI W0 B0 vb rb base m L w ⟨n,z,f :: fs,vs⟩ (.slice (some ⟨g,0,none⟩) (fs.length + 1) cap) fc gv gc rs) :
    ∃ eb eo pb sA sc vA vc,TopF W0 B0 w (Dd vb rb (.slice (some ⟨g,0,none⟩) (fs.length + 1) cap) gv rs) g fs.length f eb eo pb sA sc vA vc:=by
  obtain ⟨g',cap',fc',eb,eo,pb,e',rfl,h1,h2,h3,hl⟩:=h.top
  cases e'
  obtain ⟨x0,x1,x2,_,_,_⟩:=rowF h.ev.fr
  obtain ⟨A,c,hA,hcd⟩:=h1.c5
  obtain ⟨vA,vc,hv,hvs⟩:=h2.c1
  exact ⟨eb,eo,pb,A,c,vA,vc,x0,x1,x2,(h.code h1.lt).trans h1.c0,(h.code h1.lt).trans h1.c1,(h.code h1.lt).trans h1.c2,(h.code h1.lt).trans h1.c3,(h.code h1.lt).trans h1.c4,(h.code h1.lt).trans hA,hcd,h2.c0,hv,hvs,h1,h2⟩
theorem EvK.next {s : Es} {w1 w2 : World} {fv1 gv1 : Value} {rs1 : List Rm} (hk : Kp (Dd vb rb fv gv rs) w (Dd vb rb fv1 gv1 rs1) w1) (hs : St w w1) (h : EvK W0 B0 vb rb base m L fv1 gv1 rs1 w1 w2 s) : EvK W0 B0 vb rb base m L fv gv rs w w2 s:=by
  obtain ⟨a,b,c,d,e,h1,h2,h3⟩:=h
  exact ⟨a,b,c,d,e,h1,hk.trans h2,hs.trans h3⟩
theorem VaR.plain (Cd : Code) (w : World) (D : Dead) (hC : Cd none 0 .nil) (k i : Int) : VaR Cd w D (vaI k i) none 0 none 0 none 0:=⟨Vl.Sl.nil _ _ _ _ _,hC,Vl.Sl.nil _ _ _ _ _⟩
set_option maxRecDepth 100000 in
set_option maxHeartbeats 2000000 in
theorem evCon_any {n z : Int} {f : Fe} {fs : List Fe} {vs : List Va} {g cap : Nat} (h : EvI W0 B0 vb rb base m L w ⟨n,z,f :: fs,vs⟩ (.slice (some ⟨g,0,none⟩) (fs.length + 1) cap) fc gv gc rs) (hs : Sm L ⟨n,z,f :: fs,vs⟩) (hk : f.e.k = 1 ∨ f.e.k = 2 ∨ f.e.k = 11) :
    Calls Tryz.prog 86 #[.pointer (some ⟨vb,0,none⟩),.pointer (some ⟨g,fs.length * 3,none⟩)] w (MethR W0 B0 vb rb base m L (.slice (some ⟨g,0,none⟩) (fs.length + 1) cap) gv rs w (sCon L n z f fs vs)):=by
  obtain ⟨R,HR⟩ : ∃ R,Hid (sCon L n z f fs vs = R):=⟨_,Lib.hid rfl⟩
  rw [HR.out]
  have HK:=Lib.hid hk
  clear hk
  by_cases hl : L ≤ n
  · have HN:=Lib.hid (show R = .bad 27 n by rw [← HR.out];exact if_pos hl)
    have HS:=Lib.hid (stepI_no h hl)
    clear h hl hs
    go_enter Tryz.func86,Tryz.ntmps86
    go_wp2_with fail
    refine HS.out.mono ?_
    rintro e w1 ⟨he,hE,hst⟩
    have HE:=Lib.hid (And.intro hE hst)
    clear hE hst
    unfold failed at he
    subst he
    go_wp2
    rw [HN.out]
    exact ⟨rfl,rfl,_,_,_,_,_,_,HE.out.1,rfl,HE.out.2⟩
  · have HS:=Lib.hid (stepI_ok h hs (by show n < L;omega))
    have HM:=Lib.hid (show Sm L ⟨n + 1,z,f :: fs,vs⟩ from ⟨by have:=hs.n0;show 0 ≤ n + 1;simp only at this;omega,hs.l,hs.f,hs.v⟩)
    have HL:=Lib.hid (show n < L by omega)
    clear h hl hs
    go_enter Tryz.func86,Tryz.ntmps86
    go_wp2_with fail
    refine HS.out.mono ?_
    rintro e w1 ⟨rfl,hE,hkp,hst⟩
    obtain ⟨eb,eo,pb,sA,sc,vA,vc,hT⟩:=hE.facts
    have HW:=fun (k i : Int) => resultI hE HM.out (VaR.plain _ w1 _ (CdW.nil _ _ _) k i)
    have HE:=Lib.hid (And.intro hkp hst)
    clear hE hkp hst
    have p0:=hT.p0
    have k0:=hT.k0
    have k3:=hT.k3
    clear hT HS
    rcases HK.out with hk | hk | hk <;> rw [hk] at k0
    · have HV:=Lib.hid (HW 1 f.e.i)
      have HN:=Lib.hid (show R = .go ⟨n + 1,z,fs,vaI 1 f.e.i :: vs⟩ by rw [← HR.out];unfold sCon tick;rw [if_neg (Int.not_le.2 HL.out),if_pos hk])
      clear hk HW
      go_wp2_with fail
      refine HV.out.mono ?_
      rintro e w2 ⟨rfl,hE2⟩
      have HE2:=Lib.hid hE2
      clear hE2
      go_wp2
      go_end0
      rw [HN.out]
      exact ⟨rfl,HE2.out.next HE.out.1 HE.out.2⟩
    · have HV:=Lib.hid (HW 2 f.e.i)
      have HN:=Lib.hid (show R = .go ⟨n + 1,z,fs,vaI 2 f.e.i :: vs⟩ by rw [← HR.out];unfold sCon tick;rw [if_neg (Int.not_le.2 HL.out),if_neg (by omega),if_pos hk])
      clear hk HW
      go_wp2_with fail
      refine HV.out.mono ?_
      rintro e w2 ⟨rfl,hE2⟩
      have HE2:=Lib.hid hE2
      clear hE2
      go_wp2
      go_end0
      rw [HN.out]
      exact ⟨rfl,HE2.out.next HE.out.1 HE.out.2⟩
    · have HV:=Lib.hid (HW 3 0)
      have HN:=Lib.hid (show R = .go ⟨n + 1,z,fs,vaI 3 0 :: vs⟩ by rw [← HR.out];unfold sCon tick;rw [if_neg (Int.not_le.2 HL.out),if_neg (by omega),if_neg (by omega)])
      clear hk HW
      go_wp2_with fail
      refine HV.out.mono ?_
      rintro e w2 ⟨rfl,hE2⟩
      have HE2:=Lib.hid hE2
      clear hE2
      go_wp2
      go_end0
      rw [HN.out]
      exact ⟨rfl,HE2.out.next HE.out.1 HE.out.2⟩
end
end Go.Proofs.YtnfndgmlnoeelaaGreatDoor
/- eval: names without a place, conflicts, functions -/
namespace Go.Proofs.YtnfndgmlnoeelaaGreatDoor
open Go Go.RowKit Go.Proofs
section
variable {W0 : World} {B0 vb rb base : Nat} {m : Value} {L : Int} {w : World} {fv : Value} {fc : List Value} {gv : Value} {gc : List Value} {rs : List Rm}
theorem EvI.same {s : Es} {w' : World} (h : EvI W0 B0 vb rb base m L w s fv fc gv gc rs) (ho : Oth (fun _ => False) w w') : EvI W0 B0 vb rb base m L w' s fv fc gv gc rs ∧ Kp (Dd vb rb fv gv rs) w (Dd vb rb fv gv rs) w' ∧ St w w':=by
  have hk:=h.kp ho (fun _ e => e.elim) (NewB.refl _ _) (NewB.refl _ _)
  exact ⟨h.next ho (fun _ e => e.elim) (NewB.refl _ _) (NewB.refl _ _) (h.ev.oth ho (fun e => e) (fun _ _ e => e) (fun _ _ e => e)) (h.fr.keep hk) (h.va.keep hk),hk,ho.st⟩
set_option maxRecDepth 100000 in
set_option maxHeartbeats 2000000 in
theorem evDot_any {n z : Int} {f : Fe} {fs : List Fe} {vs : List Va} {g cap : Nat} (h : EvI W0 B0 vb rb base m L w ⟨n,z,f :: fs,vs⟩ (.slice (some ⟨g,0,none⟩) (fs.length + 1) cap) fc gv gc rs) (hs : Sm L ⟨n,z,f :: fs,vs⟩) :
    Calls Tryz.prog 88 #[.pointer (some ⟨vb,0,none⟩),.pointer (some ⟨g,fs.length * 3,none⟩)] w (MethR W0 B0 vb rb base m L (.slice (some ⟨g,0,none⟩) (fs.length + 1) cap) gv rs w (tick L n (Rs.bad 21 (n + 1)))):=by
  obtain ⟨R,HR⟩ : ∃ R,Hid (tick L n (Rs.bad 21 (n + 1)) = R):=⟨_,Lib.hid rfl⟩
  rw [HR.out]
  by_cases hl : L ≤ n
  · have HN:=Lib.hid (show R = .bad 27 n by rw [← HR.out];exact if_pos hl)
    have HS:=Lib.hid (stepI_no h hl)
    clear h hl hs
    go_enter Tryz.func88,Tryz.ntmps88
    go_wp2_with fail
    refine HS.out.mono ?_
    rintro e w1 ⟨he,hE,hst⟩
    have HE:=Lib.hid (And.intro hE hst)
    clear hE hst
    unfold failed at he
    subst he
    go_wp2
    rw [HN.out]
    exact ⟨rfl,rfl,_,_,_,_,_,_,HE.out.1,rfl,HE.out.2⟩
  · have HS:=Lib.hid (stepI_ok h hs (by show n < L;omega))
    have HM:=Lib.hid (show Sm L ⟨n + 1,z,f :: fs,vs⟩ from ⟨by have:=hs.n0;show 0 ≤ n + 1;simp only at this;omega,hs.l,hs.f,hs.v⟩)
    have HL:=Lib.hid (show n < L by omega)
    clear h hl hs
    go_enter Tryz.func88,Tryz.ntmps88
    go_wp2_with fail
    refine HS.out.mono ?_
    rintro e w1 ⟨rfl,hE,hkp,hst⟩
    obtain ⟨eb,eo,pb,sA,sc,vA,vc,hT⟩:=hE.facts
    have HF:=Lib.hid (show R = .bad 21 (n + 1) by rw [← HR.out];exact if_neg (Int.not_le.2 HL.out))
    have HE:=Lib.hid (And.intro hE hst)
    clear hE hkp hst hT HS
    have HFl:=Lib.hid (fun X => evFail_any (.pointer (some ⟨vb,0,none⟩)) 21 X)
    go_wp2_with fail
    refine (HFl.out _).mono ?_
    rintro e w2 ⟨he,rfl⟩
    unfold failed at he
    subst he
    go_wp2
    rw [HF.out]
    exact ⟨rfl,rfl,_,_,_,_,_,_,HE.out.1,rfl,HE.out.2⟩
set_option maxRecDepth 100000 in
set_option maxHeartbeats 2000000 in
theorem evSum_any {n z : Int} {f : Fe} {fs : List Fe} {vs : List Va} {g cap : Nat} (h : EvI W0 B0 vb rb base m L w ⟨n,z,f :: fs,vs⟩ (.slice (some ⟨g,0,none⟩) (fs.length + 1) cap) fc gv gc rs) (_hs : Sm L ⟨n,z,f :: fs,vs⟩) :
    Calls Tryz.prog 98 #[.pointer (some ⟨vb,0,none⟩),.pointer (some ⟨g,fs.length * 3,none⟩)] w (MethR W0 B0 vb rb base m L (.slice (some ⟨g,0,none⟩) (fs.length + 1) cap) gv rs w (Rs.bad 17 n)):=by
  obtain ⟨R,HR⟩ : ∃ R,Hid (Rs.bad 17 n = R):=⟨_,Lib.hid rfl⟩
  rw [HR.out]
  have HF:=Lib.hid HR.out.symm
  have HE:=Lib.hid h
  clear h _hs
  go_enter Tryz.func98,Tryz.ntmps98
  have HFl:=Lib.hid (fun X => evFail_any (.pointer (some ⟨vb,0,none⟩)) 17 X)
  go_wp2_with fail
  refine (HFl.out _).mono ?_
  rintro e w2 ⟨he,rfl⟩
  unfold failed at he
  subst he
  go_wp2
  rw [HF.out]
  exact ⟨rfl,rfl,_,_,_,_,_,_,HE.out,rfl,St.refl _⟩
set_option maxRecDepth 100000 in
set_option maxHeartbeats 2000000 in
theorem evFun_any {n z : Int} {f : Fe} {fs : List Fe} {vs : List Va} {g cap : Nat} (h : EvI W0 B0 vb rb base m L w ⟨n,z,f :: fs,vs⟩ (.slice (some ⟨g,0,none⟩) (fs.length + 1) cap) fc gv gc rs) (hs : Sm L ⟨n,z,f :: fs,vs⟩) :
    Calls Tryz.prog 90 #[.pointer (some ⟨vb,0,none⟩),.pointer (some ⟨g,fs.length * 3,none⟩)] w (MethR W0 B0 vb rb base m L (.slice (some ⟨g,0,none⟩) (fs.length + 1) cap) gv rs w (sFun L n z f fs vs)):=by
  obtain ⟨R,HR⟩ : ∃ R,Hid (sFun L n z f fs vs = R):=⟨_,Lib.hid rfl⟩
  rw [HR.out]
  by_cases hl : L ≤ n
  · have HN:=Lib.hid (show R = .bad 27 n by rw [← HR.out];exact if_pos hl)
    have HS:=Lib.hid (stepI_no h hl)
    clear h hl hs
    go_enter Tryz.func90,Tryz.ntmps90
    go_wp2_with fail
    refine HS.out.mono ?_
    rintro e w1 ⟨he,hE,hst⟩
    have HE:=Lib.hid (And.intro hE hst)
    clear hE hst
    unfold failed at he
    subst he
    go_wp2
    rw [HN.out]
    exact ⟨rfl,rfl,_,_,_,_,_,_,HE.out.1,rfl,HE.out.2⟩
  · have HS:=Lib.hid (stepI_ok h hs (by show n < L;omega))
    have HM:=Lib.hid (show Sm L ⟨n + 1,z,f :: fs,vs⟩ from ⟨by have:=hs.n0;show 0 ≤ n + 1;simp only at this;omega,hs.l,hs.f,hs.v⟩)
    have HL:=Lib.hid (show n < L by omega)
    clear h hl hs
    go_enter Tryz.func90,Tryz.ntmps90
    go_wp2_with fail
    refine HS.out.mono ?_
    rintro e w1 ⟨rfl,hE,hkp,hst⟩
    obtain ⟨eb,eo,pb,sA,sc,vA,vc,hT⟩:=hE.facts
    have HF:=Lib.hid (show R = .go ⟨n + 1,z,fs,⟨4,0,.nil,f.p,f.e.n,f.e.s,f.v⟩ :: vs⟩ by rw [← HR.out];exact if_neg (Int.not_le.2 HL.out))
    have HV:=Lib.hid (show ∀ X,Oth (fun _ => False) w1 X → _ from fun X ho => resultI (hE.same ho).1 HM.out (v:=⟨4,0,.nil,f.p,f.e.n,f.e.s,f.v⟩) ⟨Vl.Sl.nil _ _ _ _ none,hT.cd,hT.vs.keep (hE.same ho).2.1⟩)
    have HE:=Lib.hid (And.intro hE (And.intro hkp hst))
    have p0:=hT.p0
    have p2:=hT.p2
    have k1:=hT.k1
    have k5:=hT.k5
    have v0:=hT.v0
    have v1:=hT.v1
    clear hT HS hE hkp hst
    go_wp2
    go_still_tail 30,(by kernel_rfl)
    change wpList _ _ _ _ _ w1.drew
    have HQ:=Lib.hid (HV.out w1.drew (Oth.refl _ _).drew)
    have HD:=Lib.hid (HE.out.1.same (w':=w1.drew) (Oth.refl _ _).drew).2
    generalize w1.drew = w2 at HQ HD ⊢
    clear p0 p2 k1 k5 v0 v1 HV
    go_wp2_with fail
    refine HQ.out.mono ?_
    rintro e w3 ⟨rfl,hE2⟩
    have HE2:=Lib.hid hE2
    clear hE2
    go_wp2
    go_end0
    rw [HF.out]
    exact ⟨rfl,(HE2.out.next HD.out.1 HD.out.2).next HE.out.2.1 HE.out.2.2⟩
end
end Go.Proofs.YtnfndgmlnoeelaaGreatDoor
