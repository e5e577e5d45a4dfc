/- compile.Module: words -/
import Derived.Test.YtlpipoihinceiaaGreatDoorGkt
import Derived.Test.YtlpipoihinceiaaGreatDoorGkv
import Derived.Test.YtlpipoihinceiaaGreatDoorGkk
namespace Go.Proofs.YtlpipoihinceiaaGreatDoor
open Go.RowKit Go.Proofs Go.Shelf

theorem fnsOf_append : ∀ (a b : List FnE) (l : List Ins) (ix : Nat), fnsOf (a ++ b) l ix = ((fnsOf b (fnsOf a l ix).1 (ix + (fnsOf a l ix).2.length)).1, (fnsOf a l ix).2 ++ (fnsOf b (fnsOf a l ix).1 (ix + (fnsOf a l ix).2.length)).2)
  | [], b, l, ix => by simp [fnsOf]
  | f :: a, b, l, ix => by
    simp only [List.cons_append, fnsOf, fnsOf_append a b, List.append_assoc, List.length_append, Nat.add_assoc]
def FB (P : Comp) (N : Nat) : Prop := ∀ vars st l ix, (fnsOf (P vars st).2 l ix).2.length ≤ N
theorem FB.two {a b : List FnE} {A B : Nat} (ha : ∀ l ix, (fnsOf a l ix).2.length ≤ A) (hb : ∀ l ix, (fnsOf b l ix).2.length ≤ B) : ∀ l ix, (fnsOf (a ++ b) l ix).2.length ≤ A + B := by
  intro l ix
  rw [fnsOf_append, List.length_append]
  exact Nat.add_le_add (ha _ _) (hb _ _)
theorem nodeC_fb (label : ByteArray) (k : Int) (n m : ByteArray) (i d : Int) (A : Option Addr) (c : Nat) (s : Fo) (h : ∀ j, FB ((s.comp label).getD j noComp) (s.cnt j)) : FB (nodeC label k n m i d A c s (s.comp label)) (1 + s.count) := by
  have c3 := s.cnt_three
  intro vars st
  unfold nodeC
  split
  · intro l ix
    simp only [fnsOf, List.append_nil, blkOf, List.length_cons]
    have := h 0 (vars ++ [n]) 0 (((s.comp label).getD 0 noComp (vars ++ [n]) 0).1 ++ [retI]) (ix + 1)
    omega
  split
  · intro l ix; have := FB.two (h 0 vars st) (h 1 vars (st + ((s.comp label).getD 0 noComp vars st).1.length)) l ix; simp only [twoC]; omega
  split
  · intro l ix; have := FB.two (h 0 vars st) (h 1 vars (st + ((s.comp label).getD 0 noComp vars st).1.length)) l ix; simp only [twoC]; omega
  split
  · intro l ix; have := FB.two (h 0 vars st) (h 1 vars (st + ((s.comp label).getD 0 noComp vars st).1.length)) l ix; simp only [twoC]; omega
  split
  · intro l ix; have := FB.two (h 0 vars st) (h 1 (vars ++ [n]) (st + ((s.comp label).getD 0 noComp vars st).1.length + 1)) l ix; simp only [letC]; omega
  split
  · intro l ix
    simp only [ifC]
    exact Nat.le_trans (FB.two (FB.two (h 0 _ _) (h 1 _ _)) (h 2 _ _) l ix) (by omega)
  split
  · intro l ix
    simp only [caseC]
    exact Nat.le_trans (FB.two (FB.two (h 0 _ _) (h 2 _ _)) (h 1 _ _) l ix) (by omega)
  · intro l ix; simp [fnsOf]
theorem Fo.comp_fb (label : ByteArray) : ∀ (s : Fo) (j : Nat), FB ((s.comp label).getD j noComp) (s.cnt j)
  | .nil, j => by simp only [Fo.comp, List.getD_nil]; intro vars st l ix; simp [noComp, fnsOf]
  | .cons k n m i d A c s r, 0 => by
    rw [(Fo.cnt_cons k n m i d A c s r).1]
    exact nodeC_fb label k n m i d A c s (Fo.comp_fb label s)
  | .cons k n m i d A c s r, j + 1 => by
    rw [(Fo.cnt_cons k n m i d A c s r).2]
    have := Fo.comp_fb label r j
    simpa [Fo.comp] using this

def Dc.comp (label : ByteArray) (x : Dc) : Comp := nodeC label x.k x.n x.m x.i x.d x.A x.c x.s (x.s.comp label)
/-- The blocks of declarations, from an index on; each declaration's id, kind and block. -/
def modGo (label : ByteArray) : Nat → List Dc → List Blk × List (Int × Int × Nat)
  | _, [] => ([], [])
  | ix, x :: r => (blkOf (x.comp label) [] 0 false ix ++ (modGo label (ix + (blkOf (x.comp label) [] 0 false ix).length) r).1, (x.id, x.kind, ix) :: (modGo label (ix + (blkOf (x.comp label) [] 0 false ix).length) r).2)
theorem blkOf_len (label : ByteArray) (x : Dc) (vars : List ByteArray) (cap : Int) (par : Bool) (ix : Nat) : (blkOf (x.comp label) vars cap par ix).length ≤ 2 + x.s.count := by
  have := nodeC_fb label x.k x.n x.m x.i x.d x.A x.c x.s (Fo.comp_fb label x.s) vars 0 ((x.comp label vars 0).1 ++ [retI]) (ix + 1)
  simp only [blkOf, List.length_cons]
  unfold Dc.comp at *
  omega
theorem modGo_len (label : ByteArray) : ∀ (l : List Dc) (ix : Nat), (∀ x ∈ l, x.s.count ≤ 1000) → (modGo label ix l).1.length ≤ 1002 * l.length
  | [], _, _ => by simp [modGo]
  | x :: r, ix, h => by
    have h1 := blkOf_len label x [] 0 false ix
    have h2 := h x (List.mem_cons_self ..)
    have h3 := modGo_len label r (ix + (blkOf (x.comp label) [] 0 false ix).length) fun y hy => h y (List.mem_cons_of_mem _ hy)
    simp only [modGo, List.length_append, List.length_cons]
    omega
theorem modGo_ds (label : ByteArray) : ∀ (l : List Dc) (ix : Nat), (modGo label ix l).2.length = l.length
  | [], _ => rfl
  | x :: r, ix => by simp [modGo, modGo_ds label r]
def cdC : List (Int × Int × Nat) → List Value
  | [] => []
  | x :: r => [.int .i64 x.1, .int .i64 x.2.1, .int .i64 x.2.2] ++ cdC r
theorem cdC_append (l m : List (Int × Int × Nat)) : cdC (l ++ m) = cdC l ++ cdC m := by
  induction l with
  | nil => rfl
  | cons x l ih => simp [cdC, ih]
/-- The error of compile.Module. -/
def modE (label : ByteArray) (uses : List ByteArray) (decls : List Dc) : Int :=
  if checkE label uses decls ≠ 0 then checkE label uses decls else if confB [] decls = true then 17 else if leadsB (decls.map Dc.id) uses decls = true then 0 else 21
/-- Code in memory. -/
def CodeAt (B : Nat) (w : World) (bv dv : Value) (bl : List Blk) (ds : List (Int × Int × Nat)) : Prop :=
  (∃ BS, w.ownsRow B 133 3 bv BS.length (bgC BS) ∧ BlksAt B w BS bl) ∧ w.ownsRow B 135 3 dv ds.length (cdC ds)
def ModP (label : ByteArray) (uses : List ByteArray) (decls : List Dc) (w : World) (e : Ending) (w' : World) : Prop :=
  ∃ lb bv dv, e = .returned (.tuple #[.agg #[.string lb, bv, dv], .int .i64 (modE label uses decls)]) ∧ Below w.heap.size w w' ∧
    ((modE label uses decls = 0 ∧ lb = label ∧ CodeAt w.heap.size w' bv dv (modGo label 0 decls).1 (modGo label 0 decls).2) ∨ (modE label uses decls ≠ 0 ∧ lb = ⟨#[]⟩ ∧ bv = .slice none 0 0 ∧ dv = .slice none 0 0))
end Go.Proofs.YtlpipoihinceiaaGreatDoor
/- compile.Module: the maker and the code under way -/
namespace Go.Proofs.YtlpipoihinceiaaGreatDoor
open Go.RowKit Go.Proofs Go.Shelf

theorem own_keep {B size n : Nat} {e : TypeId} {v : Value} {xs : List Value} {X Y : World} (h : X.ownsRow B e size v n xs) (hk : ∀ (k : Nat) (cur : Array Value) (fz : Nat × Nat), X.heap[k]? = some (.cells cur e fz) → Y.heap[k]? = X.heap[k]?) : Y.ownsRow B e size v n xs := by
  refine ⟨h.1, ?_⟩
  rcases h.2 with h | ⟨g, cap, cur, h1, h2, h3, h4⟩
  · exact .inl h
  · exact .inr ⟨g, cap, cur, h1, h2, (hk g _ _ h3).trans h3, h4⟩
/-- The maker and the code under way. -/
def MdB (n₀ mb cb : Nat) (label : ByteArray) (BS : List Bg) (bl : List Blk) (ds : List (Int × Int × Nat)) (dv : Value) (X : World) : Prop :=
  MK n₀ mb label BS X ∧ BlksAt n₀ X BS bl ∧ X.heap[cb]? = some (.cells #[.string label, .slice none 0 0, dv] 62 (0, 0)) ∧ X.ownsRow n₀ 135 3 dv ds.length (cdC ds)
theorem MdB.below {n₀ mb cb : Nat} {label : ByteArray} {BS : List Bg} {bl : List Blk} {ds : List (Int × Int × Nat)} {dv : Value} {X Y : World} (h : MdB n₀ mb cb label BS bl ds dv X) (hb : Below X.heap.size X Y) : MdB n₀ mb cb label BS bl ds dv Y :=
  ⟨h.1.below hb, h.2.1.keep fun k _ _ _ hk => hb.block k (lt_of_block hk), (hb.block _ (lt_of_block h.2.2.1)).trans h.2.2.1, own_keep h.2.2.2 fun k _ _ hk => hb.block k (lt_of_block hk)⟩
theorem md_kb {n₀ mb cb : Nat} {label : ByteArray} {BS NB : List Bg} {bl blf : List Blk} {ds : List (Int × Int × Nat)} {dv : Value} {X Y : World} (h : MdB n₀ mb cb label BS bl ds dv X) (hn : n₀ ≤ X.heap.size) (h1 : MK n₀ mb label (BS ++ NB) Y) (h2 : BlksAt X.heap.size Y NB blf) (hk : Kb n₀ X Y) : MdB n₀ mb cb label (BS ++ NB) (bl ++ blf) ds dv Y :=
  ⟨h1, BlksAt.append (h2.mono hn) (BlksAt.keep hk.ins h.2.1), (hk.box h.2.2.1 (by decide)).trans h.2.2.1, own_keep h.2.2.2 fun _ _ _ hc => hk.box hc (by decide)⟩
theorem Kb.low {n₀ : Nat} {A X Y : World} (h : Below n₀ A X) (g : Kb n₀ X Y) (hn : n₀ ≤ X.heap.size) : Below n₀ A Y :=
  ⟨g.os.trans h.os, g.tape.trans h.tape, g.output.trans h.output, Nat.le_trans h.size g.size, fun k hk => (g.block k (by omega) (.inl hk)).trans (h.block k hk)⟩
theorem md_app {n₀ mb cb : Nat} {label : ByteArray} {BS : List Bg} {bl : List Blk} {ds : List (Int × Int × Nat)} {dv v : Value} {X Z : World} (h : MdB n₀ mb cb label BS bl ds dv X) (hg : X.grownBy Z dv.ownBlock) {x : Int × Int × Nat} {N : Nat} (hN : ds.length + 1 = N)
    (hw : Z.ownsRow n₀ 135 3 v N (cdC ds ++ [.int .i64 x.1, .int .i64 x.2.1, .int .i64 x.2.2])) : MdB n₀ mb cb label BS bl (ds ++ [x]) v (Z.setCell ⟨cb, 2, none⟩ v) := by
  obtain ⟨h1, h2, h3, h4⟩ := h
  have hne : ∀ (k : Nat) (cur : Array Value) (t : TypeId) (fz : Nat × Nat), X.heap[k]? = some (.cells cur t fz) → 135 ≠ t → Z.heap[k]? = X.heap[k]? := fun k cur t fz hk ht => hg.block k (lt_of_block hk) fun e => own_ne h4 hk ht e.symm
  have h5 := (hne cb _ _ _ h3 (by decide)).trans h3
  have hset : ∀ k, k ≠ cb → (Z.setCell ⟨cb, 2, none⟩ v).heap[k]? = Z.heap[k]? := fun k hk => Below.heap_setCell _ _ _ _ hk
  refine ⟨h1.keep fun k cur t fz hc ht _ => ?_, h2.keep fun k cur fz _ hc => ?_, ?_, ?_⟩
  · refine (hset k (tag_ne hc h3 ?_)).trans (hne k _ _ _ hc ?_)
    · rcases ht with rfl | rfl <;> decide
    · rcases ht with rfl | rfl <;> decide
  · exact (hset k (tag_ne hc h3 (by decide))).trans (hne k _ _ _ hc (by decide))
  · have h6 := heap_setCell_same Z cb 2 _ 62 v h5
    rw [h6]
    rfl
  · rw [List.length_append, cdC_append, show ds.length + [x].length = N from hN]
    exact own_keep hw fun k cur fz hc => hset k (tag_ne hc h5 (by decide))
theorem md_own {n₀ mb cb j : Nat} {label : ByteArray} {BS : List Bg} {bl : List Blk} {ds : List (Int × Int × Nat)} {dv : Value} {X : World} {o : Obj} (h : MdB n₀ mb cb label BS bl ds dv X) (hj : ds.length = j) : (X.alloc o).ownsRow n₀ 135 3 dv j (cdC ds) := by
  subst hj
  exact h.2.2.2.alloc _
theorem md_cb {n₀ mb cb : Nat} {label : ByteArray} {BS : List Bg} {bl : List Blk} {ds : List (Int × Int × Nat)} {dv : Value} {X Z : World} {o : Obj} (h : MdB n₀ mb cb label BS bl ds dv X) (hg : (X.alloc o).grownBy Z dv.ownBlock) : Z.heap[cb]? = some (.cells #[.string label, .slice none 0 0, dv] 62 (0, 0)) := by
  have ha := (Below.heap_alloc X o cb (lt_of_block h.2.2.1)).trans h.2.2.1
  exact (hg.block cb (lt_of_block ha) fun e => own_ne (h.2.2.2.alloc _) ha (by decide) e.symm).trans ha
/-- The round over one declaration: what it needs and leaves. -/
def MdR (n₀ mb cb : Nat) (label : ByteArray) (decls : List Dc) (w : World) (N g : Nat) (ct : Value) (wr : World) : Prop :=
  ∃ (j : Nat) (BS : List Bg) (bl : List Blk) (ds : List (Int × Int × Nat)) (dv : Value), g = N - j ∧ j ≤ N ∧ ct = .int .i64 j ∧ ds.length = j ∧
    modGo label 0 decls = (bl ++ (modGo label bl.length (decls.drop j)).1, ds ++ (modGo label bl.length (decls.drop j)).2) ∧
    MdB n₀ mb cb label BS bl ds dv wr ∧ Below n₀ w wr ∧ n₀ ≤ wr.heap.size
theorem md_rel {n₀ mb cb N j nb : Nat} {label : ByteArray} {BS NB : List Bg} {bl blf : List Blk} {ds : List (Int × Int × Nat)} {dv v ct : Value} {w w6 w7 : World} {o : Obj} {decls : List Dc} {x : Dc} (h : MdB n₀ mb cb label (BS ++ NB) (bl ++ blf) ds dv w6) (hB : Below n₀ w w6) (hn : n₀ ≤ w6.heap.size) (hcb : n₀ ≤ cb) (hj : ds.length = j) (hlt : j < N)
    (hg : (w6.alloc o).grownBy w7 dv.ownBlock) (hw : w7.ownsRow n₀ 135 3 v (j + 1) (cdC ds ++ [.int .i64 x.id, .int .i64 x.kind, .int .i64 nb])) (hbl : BS.length = bl.length) (hnb : BS.length = nb) (hf : blkOf (x.comp label) [] 0 false nb = blf)
    (hgo : modGo label 0 decls = (bl ++ (modGo label nb (x :: decls.drop (j + 1))).1, ds ++ (modGo label nb (x :: decls.drop (j + 1))).2)) (hct : ct = .int .i64 ((j + 1 : Nat) : Int)) :
    MdR n₀ mb cb label decls w N (N - (j + 1)) ct (w7.setCell ⟨cb, 2, none⟩ v) := by
  have hz := hg.size
  simp at hz
  refine ⟨j + 1, BS ++ NB, bl ++ blf, ds ++ [(x.id, x.kind, nb)], v, rfl, hlt, hct, by simp [hj], ?_, md_app (h.below ((Below.refl _ _).alloc (Nat.le_refl _) _)) hg (by rw [hj]) hw, ?_, ?_⟩
  · rw [hgo, List.length_append, ← hbl, hnb]
    simp only [modGo, hf, List.append_assoc, List.singleton_append]
  · exact ((hB.alloc hn o).grown hg (by simp; omega) (fun q hq => (h.2.2.2.lt q hq).1)).setCell hcb _
  · simp [World.setCell]; omega
theorem md_end {n₀ mb cb B rb : Nat} {label : ByteArray} {BS : List Bg} {bl : List Blk} {ds : List (Int × Int × Nat)} {dv bv a b c u : Value} {cur : Array Value} {fz : Nat × Nat} {X : World} (h : MdB n₀ mb cb label BS bl ds dv X) (hb : X.ownsRow n₀ 133 3 bv BS.length (bgC BS)) (hr : X.heap[rb]? = some (.cells cur 62 fz)) (hB : B ≤ n₀) :
    CodeAt B ((((X.setCell ⟨cb, 1, none⟩ u).setCell ⟨rb, 0, none⟩ a).setCell ⟨rb, 1, none⟩ b).setCell ⟨rb, 2, none⟩ c) bv dv bl ds := by
  have hk : ∀ (k : Nat) (cu : Array Value) (t : TypeId) (f : Nat × Nat), X.heap[k]? = some (.cells cu t f) → t ≠ 62 → ((((X.setCell ⟨cb, 1, none⟩ u).setCell ⟨rb, 0, none⟩ a).setCell ⟨rb, 1, none⟩ b).setCell ⟨rb, 2, none⟩ c).heap[k]? = X.heap[k]? := fun k cu t f hc ht => by
    have h1 := tag_ne hc h.2.2.1 ht
    have h2 := tag_ne hc hr ht
    rw [Below.heap_setCell _ _ _ _ h2, Below.heap_setCell _ _ _ _ h2, Below.heap_setCell _ _ _ _ h2, Below.heap_setCell _ _ _ _ h1]
  exact ⟨⟨BS, (own_keep hb fun k cu f hc => hk k cu _ f hc (by decide)).mono hB, (h.2.1.keep fun k cu f _ hc => hk k cu _ f hc (by decide)).mono hB⟩, (own_keep h.2.2.2 fun k cu f hc => hk k cu _ f hc (by decide)).mono hB⟩
end Go.Proofs.YtlpipoihinceiaaGreatDoor
