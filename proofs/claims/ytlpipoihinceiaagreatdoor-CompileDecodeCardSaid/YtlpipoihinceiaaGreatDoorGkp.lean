/- compile: what the code of an expression is, in plain functions -/
import Derived.Test.YtlpipoihinceiaaGreatDoorGkg
import Derived.Test.YtlpipoihinceiaaGreatDoorGkf
import Derived.Test.YtlpipoihinceiaaGreatDoorGkm
import Derived.Lib.OwnKind
import Derived.Deep.RegionHeld3
namespace Go.Proofs.YtlpipoihinceiaaGreatDoor
open Go.RowKit Go.Proofs

structure Ins where
  op : Int
  a : Int
  b : Int
  nm : ByteArray
structure Blk where
  cap : Int
  par : Bool
  l : List Ins
/-- A function whose block is still to be made; mks: the blocks, by the first one's index. -/
structure FnE where
  k : Int
  n : ByteArray
  m : ByteArray
  i : Int
  d : Int
  A : Option Addr
  c : Nat
  s : Fo
  place : Nat
  vars : List ByteArray
  mks : Nat → List Blk

def Comp : Type := List ByteArray → Nat → List Ins × List FnE
def noComp : Comp := fun _ _ => ([], [])

def setA (l : List Ins) (j : Nat) (v : Int) : List Ins := l.modify j fun x => { x with a := v }
/-- The functions' blocks, and the instructions with their indexes. -/
def fnsOf : List FnE → List Ins → Nat → List Ins × List Blk
  | [], l, _ => (l, [])
  | f :: r, l, ix => ((fnsOf r (setA l f.place ix) (ix + (f.mks ix).length)).1, f.mks ix ++ (fnsOf r (setA l f.place ix) (ix + (f.mks ix).length)).2)
def retI : Ins := ⟨7, 0, 0, ⟨#[]⟩⟩
def blkOf (P : Comp) (vars : List ByteArray) (cap : Int) (par : Bool) (ix : Nat) : List Blk :=
  ⟨cap, par, (fnsOf (P vars 0).2 ((P vars 0).1 ++ [retI]) (ix + 1)).1⟩ :: (fnsOf (P vars 0).2 ((P vars 0).1 ++ [retI]) (ix + 1)).2

/-- The index of the last variable with a name. -/
def lastV (n : ByteArray) : List ByteArray → Option Nat
  | [] => none
  | x :: r => match lastV n r with
    | some j => some (j + 1)
    | none => if (x.toList == n.toList) = true then some 0 else none
def simpleI (label : ByteArray) (k : Int) (n : ByteArray) (i d : Int) (vars : List ByteArray) : Ins :=
  if k = 1 then ⟨1, i, 0, ⟨#[]⟩⟩ else if k = 2 then ⟨2, i, 0, ⟨#[]⟩⟩ else if k = 14 then ⟨16, i, d, ⟨#[]⟩⟩ else
  if k = 5 then (if n.toList.isEmpty = true then ⟨4, i, 0, label⟩ else ⟨4, i, 0, n⟩) else
  if k = 3 then (match lastV n vars with | some j => ⟨3, j, 0, ⟨#[]⟩⟩ | none => ⟨11, 0, 0, ⟨#[]⟩⟩) else ⟨11, 0, 0, ⟨#[]⟩⟩

/-- Two parts, and an instruction. -/
def twoC (P Q : Comp) (x : Ins) : Comp := fun vars st =>
  ((P vars st).1 ++ (Q vars (st + (P vars st).1.length)).1 ++ [x], (P vars st).2 ++ (Q vars (st + (P vars st).1.length)).2)
def letC (P Q : Comp) (n : ByteArray) : Comp := fun vars st =>
  ((P vars st).1 ++ [⟨14, 0, 0, ⟨#[]⟩⟩] ++ (Q (vars ++ [n]) (st + (P vars st).1.length + 1)).1 ++ [⟨15, 1, 0, ⟨#[]⟩⟩], (P vars st).2 ++ (Q (vars ++ [n]) (st + (P vars st).1.length + 1)).2)
def ifC (P Q R : Comp) : Comp := fun vars st =>
  let a := st + (P vars st).1.length
  let b := a + 1 + (Q vars (a + 1)).1.length
  ((P vars st).1 ++ [⟨9, (b + 1 : Nat), 0, ⟨#[]⟩⟩] ++ (Q vars (a + 1)).1 ++ [⟨8, (b + 1 + (R vars (b + 1)).1.length : Nat), 0, ⟨#[]⟩⟩] ++ (R vars (b + 1)).1, (P vars st).2 ++ (Q vars (a + 1)).2 ++ (R vars (b + 1)).2)
def caseC (P Q R : Comp) (n m : ByteArray) : Comp := fun vars st =>
  let a := st + (P vars st).1.length
  let j := a + 2 + (R (vars ++ [n, m]) (a + 1)).1.length
  ((P vars st).1 ++ [⟨13, (j + 1 : Nat), 0, ⟨#[]⟩⟩] ++ (R (vars ++ [n, m]) (a + 1)).1 ++ [⟨15, 2, 0, ⟨#[]⟩⟩, ⟨8, (j + 1 + (Q vars (j + 1)).1.length : Nat), 0, ⟨#[]⟩⟩] ++ (Q vars (j + 1)).1,
    (P vars st).2 ++ (R (vars ++ [n, m]) (a + 1)).2 ++ (Q vars (j + 1)).2)
/-- The code of a node. -/
def nodeC (label : ByteArray) (k : Int) (n m : ByteArray) (i d : Int) (A : Option Addr) (c : Nat) (s : Fo) (cs : List Comp) : Comp := fun vars st =>
  if k = 6 then ([⟨5, 0, 0, ⟨#[]⟩⟩], [⟨k, n, m, i, d, A, c, s, st, vars, blkOf (cs.getD 0 noComp) (vars ++ [n]) vars.length true⟩]) else
  if k = 7 then twoC (cs.getD 0 noComp) (cs.getD 1 noComp) ⟨6, 0, 0, ⟨#[]⟩⟩ vars st else
  if k = 10 then twoC (cs.getD 0 noComp) (cs.getD 1 noComp) ⟨10, 0, 0, n⟩ vars st else
  if k = 12 then twoC (cs.getD 0 noComp) (cs.getD 1 noComp) ⟨12, 0, 0, ⟨#[]⟩⟩ vars st else
  if k = 8 then letC (cs.getD 0 noComp) (cs.getD 1 noComp) n vars st else
  if k = 9 then ifC (cs.getD 0 noComp) (cs.getD 1 noComp) (cs.getD 2 noComp) vars st else
  if k = 13 then caseC (cs.getD 0 noComp) (cs.getD 1 noComp) (cs.getD 2 noComp) n m vars st else
  ([simpleI label k n i d vars], [])
/-- The code of each tree. -/
def Fo.comp (label : ByteArray) : Fo → List Comp
  | .nil => []
  | .cons k n m i d A c s r => nodeC label k n m i d A c s (s.comp label) :: r.comp label

/-- How many parts a node has for its code to be made. -/
def okC (k : Int) (len : Nat) : Prop := (k = 6 → 1 ≤ len) ∧ (k = 7 ∨ k = 10 ∨ k = 12 ∨ k = 8 → 2 ≤ len) ∧ (k = 9 ∨ k = 13 → 3 ≤ len)
def Fo.Cok : Fo → Prop
  | .nil => True
  | .cons k _ _ _ _ _ _ s r => okC k s.len ∧ s.Cok ∧ r.Cok
/-- Each function's blocks are those of its body. -/
def FnE.Ok (label : ByteArray) (f : FnE) : Prop := f.k = 6 ∧ f.mks = blkOf ((f.s.comp label).getD 0 noComp) (f.vars ++ [f.n]) f.vars.length true
def AllOk (label : ByteArray) (P : Comp) : Prop := ∀ vars st, ∀ f ∈ (P vars st).2, f.Ok label
theorem noComp_ok (label : ByteArray) : AllOk label noComp := by intro vars st f hf; simp [noComp] at hf
theorem nodeC_ok (label : ByteArray) (k : Int) (n m : ByteArray) (i d : Int) (A : Option Addr) (c : Nat) (s : Fo) (h : ∀ P ∈ s.comp label, AllOk label P) : AllOk label (nodeC label k n m i d A c s (s.comp label)) := by
  have hg : ∀ j, AllOk label ((s.comp label).getD j noComp) := by
    intro j
    rw [List.getD_eq_getElem?_getD]
    cases hj : (s.comp label)[j]? with
    | none => exact noComp_ok label
    | some P => exact h P (List.mem_of_getElem? hj)
  intro vars st f hf
  unfold nodeC at hf
  split at hf
  · simp only [List.mem_singleton] at hf
    subst hf
    exact ⟨by assumption, rfl⟩
  all_goals (repeat' (split at hf))
  all_goals (simp only [twoC, letC, ifC, caseC, List.mem_append, List.not_mem_nil] at hf)
  all_goals (rcases hf with hf | hf)
  all_goals (first | exact hg _ _ _ f hf | (rcases hf with hf | hf <;> exact hg _ _ _ f hf))
theorem Fo.comp_ok (label : ByteArray) : ∀ s : Fo, ∀ P ∈ s.comp label, AllOk label P
  | .nil, _, h => by simp [Fo.comp] at h
  | .cons k n m i d A c s r, P, h => by
    simp only [Fo.comp, List.mem_cons] at h
    rcases h with rfl | h
    · exact nodeC_ok label k n m i d A c s (Fo.comp_ok label s)
    · exact Fo.comp_ok label r P h

/-- The functions are nodes of the forest: their parts are no more than its own. -/
def Small (N : Nat) (P : Comp) : Prop := ∀ vars st, (∀ f ∈ (P vars st).2, f.s.count ≤ N ∧ f.s.Cok ∧ okC f.k f.s.len) ∧ (P vars st).1.length ≤ 3 * (N + 1) ∧ (P vars st).2.length ≤ N + 1
end Go.Proofs.YtlpipoihinceiaaGreatDoor
/- compile: the closures of maker.block, and what they leave alone -/
namespace Go.Proofs.YtlpipoihinceiaaGreatDoor
open Go.RowKit Go.Proofs Go.Shelf

theorem Tryz.infoInstr : (Tryz.prog.info? 130).map (fun i => (i.zero, i.size, i.bytes)) = some (some (.agg #[.int .i64 0, .int .i64 0, .int .i64 0, .string ⟨#[]⟩]), 4, 40) := by kernel_rfl
theorem Tryz.infoFunction : (Tryz.prog.info? 233).map (fun i => (i.zero, i.size, i.bytes)) = some (some (.agg #[.int .i64 0, .string ⟨#[]⟩, .string ⟨#[]⟩, .int .i64 0, .int .i64 0, .slice none 0 0, .int .i64 0, .slice none 0 0]), 8, 112) := by kernel_rfl

def Ins.cells (x : Ins) : List Value := [.int .i64 x.op, .int .i64 x.a, .int .i64 x.b, .string x.nm]
def insC : List Ins → List Value
  | [] => []
  | x :: r => x.cells ++ insC r
theorem insC_append (l m : List Ins) : insC (l ++ m) = insC l ++ insC m := by
  induction l with
  | nil => rfl
  | cons x l ih => simp [insC, ih]
theorem insC_length (l : List Ins) : (insC l).length = l.length * 4 := by
  induction l with
  | nil => rfl
  | cons x l ih => simp [insC, Ins.cells, ih]; omega
theorem insC_setA (v : Int) : ∀ (l : List Ins) (j : Nat), j < l.length → insC (setA l j v) = (insC l).set (j * 4 + 1) (.int .i64 v)
  | [], j, h => by simp at h
  | x :: l, 0, _ => by simp [setA, insC, Ins.cells]
  | x :: l, j + 1, h => by
    have ih := insC_setA v l j (by simpa using h)
    have e : setA (x :: l) (j + 1) v = x :: setA l j v := rfl
    rw [e]
    simp only [insC, ih, Ins.cells]
    rw [show (j + 1) * 4 + 1 = (j * 4 + 1) + 1 + 1 + 1 + 1 by omega]
    rfl
theorem setA_length (l : List Ins) (j : Nat) (v : Int) : (setA l j v).length = l.length := by simp [setA]

/-- Variables' names in memory. -/
def VarsAt (X : World) (A : Option Addr) (c : Nat) (l : List ByteArray) : Prop := X.ownsRow 0 9 1 (.slice A l.length c) l.length (l.map .string)
theorem VarsAt.keep {X Y : World} {A : Option Addr} {c : Nat} {l : List ByteArray} (h : VarsAt X A c l) (hk : ∀ (k : Nat) (cur : Array Value) (fz : Nat × Nat), X.heap[k]? = some (.cells cur 9 fz) → Y.heap[k]? = X.heap[k]?) : VarsAt Y A c l := by
  refine ⟨h.1, ?_⟩
  rcases h.2 with h | ⟨g, cap, cur, h1, h2, h3, h4⟩
  · exact .inl h
  · exact .inr ⟨g, cap, cur, h1, h2, (hk g _ _ h3).trans h3, h4⟩
theorem VarsAt.sls {X : World} {A : Option Addr} {c : Nat} {l : List ByteArray} (h : VarsAt X A c l) : SlS X X.heap.size A c l ∧ (A = none → c = 0) := by
  rcases h.2 with ⟨h1, h2⟩ | ⟨g, cap, cur, h1, h2, h3, h4, h5, h6, h7⟩
  · simp only [Value.slice.injEq] at h1
    obtain ⟨rfl, h1, rfl⟩ := h1
    obtain rfl : l = [] := List.length_eq_zero_iff.1 h1
    exact ⟨SlS.nil _ _ _ _ (by simp [maxLen]), fun _ => rfl⟩
  · simp only [Value.slice.injEq, true_and] at h1
    obtain ⟨rfl, rfl⟩ := h1
    refine ⟨⟨h4, h5, fun _ => ⟨g, 0, rfl, lt_of_block h3, fun j s hj => ?_⟩⟩, fun h => by cases h⟩
    rw [cell_of_row _ _ _ _ _ _ h3]
    have hjl := (List.getElem?_eq_some_iff.1 hj).1
    have e : (cur.toList.take (l.length * 1))[j]? = some (.string s) := by rw [h7]; simp [hj]
    rw [List.getElem?_take, if_pos (by omega)] at e
    simpa using e
theorem VarsAt.nil (X : World) : VarsAt X none 0 [] := World.ownsRow_nil X 0 9 1
theorem VarsAt.of {X : World} {base : Nat} {v : Value} {l : List ByteArray} (h : X.ownsRow base 9 1 v l.length (l.map .string)) : ∃ A c, v = .slice A l.length c ∧ VarsAt X A c l := by
  rcases h.2 with ⟨h1, h2⟩ | ⟨g, cap, cur, h1, h2, h3, h4⟩
  · refine ⟨none, 0, by rw [h1, h2], ?_⟩
    obtain rfl : l = [] := List.length_eq_zero_iff.1 h2
    exact VarsAt.nil X
  · exact ⟨some ⟨g, 0, none⟩, cap, h1, h.1, .inr ⟨g, cap, cur, rfl, Nat.zero_le _, h3, h4⟩⟩

/-- Functions in memory. -/
def FnsC (X : World) : List FnE → List Value → Prop
  | [], cs => cs = []
  | f :: r, cs => ∃ vA vc cs', cs = [.int .i64 f.k, .string f.n, .string f.m, .int .i64 f.i, .int .i64 f.d, .slice f.A f.s.len f.c, .int .i64 f.place, .slice vA f.vars.length vc] ++ cs' ∧ VarsAt X vA vc f.vars ∧ FnsC X r cs'
theorem FnsC.keep {X Y : World} (hk : ∀ (k : Nat) (cur : Array Value) (fz : Nat × Nat), X.heap[k]? = some (.cells cur 9 fz) → Y.heap[k]? = X.heap[k]?) : ∀ {F : List FnE} {cs : List Value}, FnsC X F cs → FnsC Y F cs
  | [], _, h => h
  | _ :: _, _, ⟨vA, vc, cs', h1, h2, h3⟩ => ⟨vA, vc, cs', h1, h2.keep hk, FnsC.keep hk h3⟩
theorem FnsC.snoc {X : World} {f : FnE} {vA : Option Addr} {vc : Nat} (hv : VarsAt X vA vc f.vars) : ∀ {F : List FnE} {cs : List Value}, FnsC X F cs →
    FnsC X (F ++ [f]) (cs ++ [.int .i64 f.k, .string f.n, .string f.m, .int .i64 f.i, .int .i64 f.d, .slice f.A f.s.len f.c, .int .i64 f.place, .slice vA f.vars.length vc])
  | [], _, h => by subst h; exact ⟨vA, vc, [], by simp, hv, rfl⟩
  | _ :: _, _, ⟨vA', vc', cs', h1, h2, h3⟩ => ⟨vA', vc', _, by rw [h1, List.append_assoc], h2, FnsC.snoc hv h3⟩

/-- Blocks that the making of instructions may turn. -/
def Tg (X : World) (k : Nat) : Prop := ∃ cur t fz, X.heap[k]? = some (.cells cur t fz) ∧ (t = 130 ∨ t = 233 ∨ t = 131 ∨ t = 230)
def Kc (n₀ : Nat) (X Y : World) : Prop := Keeps (fun k => k < n₀ ∨ ¬ Tg X k) X Y
theorem Kc.refl (n₀ : Nat) (X : World) : Kc n₀ X X := Keeps.refl _ _
theorem Tg.congr {X Y : World} {k : Nat} (h : Y.heap[k]? = X.heap[k]?) : Tg Y k ↔ Tg X k := by unfold Tg; rw [h]
theorem Kc.trans {n₀ : Nat} {X Y Z : World} (h : Kc n₀ X Y) (g : Kc n₀ Y Z) : Kc n₀ X Z :=
  ⟨g.os.trans h.os, g.tape.trans h.tape, g.output.trans h.output, Nat.le_trans h.size g.size, fun k hk hp => by
    have e := h.block k hk hp
    exact (g.block k (Nat.lt_of_lt_of_le hk h.size) (hp.elim .inl fun ht => .inr (by rw [Tg.congr e]; exact ht))).trans e⟩
theorem Kc.below {n₀ : Nat} {X Y : World} (h : Below X.heap.size X Y) : Kc n₀ X Y := Keeps.whole h _
theorem Kc.to_below {n₀ : Nat} {X Y : World} (h : Kc n₀ X Y) (hn : n₀ ≤ X.heap.size) : Below n₀ X Y := Keeps.to_below h hn fun _ hk => .inl hk
theorem Kc.vars {n₀ : Nat} {X Y : World} (h : Kc n₀ X Y) : ∀ (k : Nat) (cur : Array Value) (fz : Nat × Nat), X.heap[k]? = some (.cells cur 9 fz) → Y.heap[k]? = X.heap[k]? := by
  intro k cur fz hk
  refine h.block k (lt_of_block hk) (.inr ?_)
  rintro ⟨cur', t, fz', h1, h2⟩
  rw [hk] at h1
  simp only [Option.some.injEq, Obj.cells.injEq] at h1
  obtain ⟨_, rfl, _⟩ := h1
  revert h2
  decide
theorem Kc.box {n₀ : Nat} {X Y : World} (h : Kc n₀ X Y) {k : Nat} {cur : Array Value} {t : TypeId} {fz : Nat × Nat} (hk : X.heap[k]? = some (.cells cur t fz)) (ht : t ≠ 130 ∧ t ≠ 233 ∧ t ≠ 131 ∧ t ≠ 230) : Y.heap[k]? = some (.cells cur t fz) := by
  refine (h.block k (lt_of_block hk) (.inr ?_)).trans hk
  rintro ⟨cur', t', fz', h1, h2⟩
  rw [hk] at h1
  simp only [Option.some.injEq, Obj.cells.injEq] at h1
  obtain ⟨_, rfl, _⟩ := h1
  rcases h2 with h2 | h2 | h2 | h2
  · exact ht.1 h2
  · exact ht.2.1 h2
  · exact ht.2.2.1 h2
  · exact ht.2.2.2 h2

/-- What maker.block has made: instructions (block lb) and functions (block fb). -/
def CS (n₀ lb fb : Nat) (L : List Ins) (F : List FnE) (X : World) : Prop :=
  n₀ ≤ lb ∧ n₀ ≤ fb ∧ ∃ vl vf Fc, X.heap[lb]? = some (.cells #[vl] 131 (0, 0)) ∧ X.ownsRow n₀ 130 4 vl L.length (insC L) ∧
    X.heap[fb]? = some (.cells #[vf] 230 (0, 0)) ∧ X.ownsRow n₀ 233 8 vf F.length Fc ∧ FnsC X F Fc
theorem CS.below {n₀ lb fb : Nat} {L : List Ins} {F : List FnE} {X Y : World} (h : CS n₀ lb fb L F X) (hb : Below X.heap.size X Y) : CS n₀ lb fb L F Y := by
  obtain ⟨h1, h2, vl, vf, Fc, h3, h4, h5, h6, h7⟩ := h
  have hk : ∀ k, k < X.heap.size → Y.heap[k]? = X.heap[k]? := fun k hk => hb.block k hk
  exact ⟨h1, h2, vl, vf, Fc, (hk _ (lt_of_block h3)).trans h3, (Keeps.whole hb (fun _ => True)).ownsRow h4 (fun _ _ => trivial), (hk _ (lt_of_block h5)).trans h5,
    (Keeps.whole hb (fun _ => True)).ownsRow h6 (fun _ _ => trivial), h7.keep fun k cur fz hc => hk k (lt_of_block hc)⟩
theorem CS.lt {n₀ lb fb : Nat} {L : List Ins} {F : List FnE} {X : World} (h : CS n₀ lb fb L F X) : n₀ < X.heap.size := by
  obtain ⟨h1, h2, vl, vf, Fc, h3, _⟩ := h
  have := lt_of_block h3
  omega
theorem CS.fr {n₀ lb fb : Nat} {L : List Ins} {F : List FnE} {X : World} (h : CS n₀ lb fb L F X) : ∃ vl, X.heap[lb]? = some (.cells #[vl] 131 (0, 0)) ∧ X.ownsRow n₀ 130 4 vl L.length (insC L) := by
  obtain ⟨_, _, vl, _, _, h3, h4, _⟩ := h
  exact ⟨vl, h3, h4⟩

theorem tag_ne {X : World} {a b : Nat} {c1 c2 : Array Value} {t1 t2 : TypeId} {f1 f2 : Nat × Nat} (ha : X.heap[a]? = some (.cells c1 t1 f1)) (hb : X.heap[b]? = some (.cells c2 t2 f2)) (ht : t1 ≠ t2) : a ≠ b := by
  rintro rfl
  rw [ha] at hb
  simp only [Option.some.injEq, Obj.cells.injEq] at hb
  exact ht hb.2.1
theorem own_ne {X : World} {base : Nat} {e : TypeId} {size : Nat} {v : Value} {n : Nat} {xs : List Value} (h : X.ownsRow base e size v n xs) {b : Nat} {c2 : Array Value} {t2 : TypeId} {f2 : Nat × Nat} (hb : X.heap[b]? = some (.cells c2 t2 f2)) (ht : e ≠ t2) : v.ownBlock ≠ some b := by
  intro hv
  obtain ⟨c, fz, hg⟩ := Lib.ownsRow_kind h b hv
  exact tag_ne hg hb ht rfl
theorem cells_new (w : World) (cs : List Value) (t : TypeId) : ∀ j u, cs[j]? = some u → (w.alloc (.cells cs.toArray t)).cell? ((⟨w.heap.size, 0, none⟩ : Addr).add j) = some u := by
  intro j u hu
  have h := heap_alloc_new w (.cells cs.toArray t)
  have hadd : (⟨w.heap.size, 0, none⟩ : Addr).add j = ⟨w.heap.size, j, none⟩ := by unfold Addr.add; split <;> simp_all
  rw [hadd, cell_of_row _ _ _ _ _ _ h]
  simpa using hu

set_option maxRecDepth 100000 in
set_option maxHeartbeats 1000000 in
theorem emit_any (op a b : Int) (nm : ByteArray) (n₀ lb fb : Nat) (L : List Ins) (F : List FnE) (X : World) (h : CS n₀ lb fb L F X) (hL : L.length ≤ 1000000) :
    Calls Tryz.prog 186 #[.agg #[.int .i64 op, .int .i64 a, .int .i64 b, .string nm], .pointer (some ⟨lb, 0, none⟩)] X fun e Y => e = .returned (.int .i64 L.length) ∧ CS n₀ lb fb (L ++ [⟨op, a, b, nm⟩]) F Y ∧ Kc n₀ X Y := by
  obtain ⟨i0, hi, hz0, hz1, hz2⟩ := info_parts Tryz.infoInstr
  obtain ⟨hn1, hn2, vl, vf, Fc, h3, h4, h5, h6, h7⟩ := h
  have hlb := lt_of_block h3
  obtain ⟨W0, hW0⟩ : ∃ W0, X.alloc (.cells #[.int .i64 op, .int .i64 a, .int .i64 b, .string nm] 130) = W0 := ⟨_, rfl⟩
  have hzw : X.heap.size < W0.heap.size := by subst hW0; simp
  have q0 : W0.cell? ⟨X.heap.size, 0, none⟩ = some (.int .i64 op) := by subst hW0; go_simp
  have q1 : W0.cell? ⟨X.heap.size, 1, none⟩ = some (.int .i64 a) := by subst hW0; go_simp
  have q2 : W0.cell? ⟨X.heap.size, 2, none⟩ = some (.int .i64 b) := by subst hW0; go_simp
  have q3 : W0.cell? ⟨X.heap.size, 3, none⟩ = some (.string nm) := by subst hW0; go_simp
  have HK0 := Lib.hid (show Keeps (fun _ => True) X W0 by subst hW0; exact (Keeps.refl _ X).alloc _)
  have hb0 : W0.heap[lb]? = some (.cells #[vl] 131 (0, 0)) := (HK0.out.block lb (by omega) trivial).trans h3
  have hown0 := Lib.hid (show W0.ownsRow n₀ 130 4 vl L.length (insC L) by subst hW0; exact h4.alloc _)
  have hlc := cell_of_one hb0
  have HB0 := Lib.hid hb0
  have hne : ∀ q, vl.ownBlock = some q → lb ≠ q := fun q hq e => own_ne h4 h3 (by decide) (by rw [hq, e])
  have HNE := Lib.hid hne
  have HX := Lib.hid (And.intro h3 (And.intro h4 (And.intro h5 (And.intro h6 h7))))
  clear hne hb0 h3 h4 h5 h6 h7
  go_enter Tryz.func186, Tryz.ntmps186
  go_wp2_with (at_builtin; refine wpList_append_own _ rfl _ _ 131 rfl n₀ 130 i0 _ 4 40 Tryz.underlying131 hi hz0 hz1 hz2 rfl (by decide) _ _ _ rfl (hown0.out.alloc _) ⟨W0.heap.size, 0, none⟩ 1 1 [.int .i64 op, .int .i64 a, .int .i64 b, .string nm] rfl rfl (cells_new _ _ _) (by simp [Value.oneCell']) (by unfold maxLen; omega) (by omega) (by simp; omega) ?_; intro v' w1 hown1 hg1 _; have hb1 : w1.heap[lb]? = some (.cells #[vl] 131 (0, 0)) := (hg1.block lb (by simp; omega) (fun e => HNE.out lb e.symm rfl)).trans ((Below.heap_alloc _ _ _ (by omega)).trans HB0.out); have hc1 := cell_of_one hb1; have hf1 := free_of_one hb1; obtain ⟨gg, cc, rfl⟩ := ownsRow_succ hown1; have hc2 := cell_of_one (one_setCell (u := .slice (some ⟨gg, 0, none⟩) (L.length + 1) cc) hb1))
  go_ret
  have HK : Keeps (fun k => k ≠ lb ∧ vl.ownBlock ≠ some k) X (w1.setCell ⟨lb, 0, none⟩ (.slice (some ⟨gg, 0, none⟩) (L.length + 1) cc)) :=
    (((HK0.out.mono fun _ _ => trivial).alloc _).grown hg1 (by rintro k hk ⟨_, h⟩; exact h hk)).setCell (by simp) _
  obtain ⟨h3, h4, h5, h6, h7⟩ := HX.out
  refine ⟨by simp, ⟨hn1, hn2, _, vf, Fc, one_setCell hb1, ?_, ?_, ?_, ?_⟩, HK.mono ?_⟩
  · rw [insC_append, List.length_append]
    refine ownsRow_setCell_other hown1 ?_ _
    exact own_ne hown1 hb1 (by decide)
  · exact (HK.block fb (lt_of_block h5) ⟨tag_ne h5 h3 (by decide), own_ne h4 h5 (by decide)⟩).trans h5
  · refine HK.ownsRow h6 fun g hg => ?_
    obtain ⟨c, fz, hc⟩ := Lib.ownsRow_kind h6 g hg
    exact ⟨tag_ne hc h3 (by decide), own_ne h4 hc (by decide)⟩
  · exact h7.keep fun k cur fz hc => HK.block k (lt_of_block hc) ⟨tag_ne hc h3 (by decide), own_ne h4 hc (by decide)⟩
  · rintro k (hk | hk)
    · exact ⟨by omega, fun e => by have := (h4.lt k e).1; omega⟩
    · refine ⟨fun e => hk ⟨_, _, _, by rw [e]; exact h3, .inr (.inr (.inl rfl))⟩, fun e => ?_⟩
      obtain ⟨c, fz, hc⟩ := Lib.ownsRow_kind h4 k e
      exact hk ⟨_, _, _, hc, .inl rfl⟩
end Go.Proofs.YtlpipoihinceiaaGreatDoor
/- compile: the closures later and target of maker.block; with -/
namespace Go.Proofs.YtlpipoihinceiaaGreatDoor
open Go.RowKit Go.Proofs Go.Shelf

set_option maxRecDepth 100000 in
set_option maxHeartbeats 1000000 in
theorem later_any (f : FnE) (vA : Option Addr) (vc : Nat) (n₀ lb fb : Nat) (L : List Ins) (F : List FnE) (X : World) (h : CS n₀ lb fb L F X) (hv : VarsAt X vA vc f.vars) (hF : F.length ≤ 1000000) :
    Calls Tryz.prog 187 #[.agg #[.int .i64 f.k, .string f.n, .string f.m, .int .i64 f.i, .int .i64 f.d, .slice f.A f.s.len f.c, .int .i64 f.place, .slice vA f.vars.length vc], .pointer (some ⟨fb, 0, none⟩)] X fun e Y => (∃ v, e = .returned v) ∧ CS n₀ lb fb L (F ++ [f]) Y ∧ Kc n₀ X Y := by
  obtain ⟨i0, hi, hz0, hz1, hz2⟩ := info_parts Tryz.infoFunction
  obtain ⟨hn1, hn2, vl, vf, Fc, h3, h4, h5, h6, h7⟩ := h
  have hfb := lt_of_block h5
  have HSN := Lib.hid (fun Y (h7 : FnsC Y F Fc) (hv : VarsAt Y vA vc f.vars) => FnsC.snoc hv h7)
  have HF := Lib.hid hv
  clear hv
  obtain ⟨k, n, m, i, d, A, c, s, place, vars, mks⟩ := f
  obtain ⟨W0, hW0⟩ : ∃ W0, X.alloc (.cells #[.int .i64 k, .string n, .string m, .int .i64 i, .int .i64 d, .slice A s.len c, .int .i64 place, .slice vA vars.length vc] 233) = W0 := ⟨_, rfl⟩
  have hzw : X.heap.size < W0.heap.size := by subst hW0; simp
  have q0 : W0.cell? ⟨X.heap.size, 0, none⟩ = some (.int .i64 k) := by subst hW0; go_simp
  have q1 : W0.cell? ⟨X.heap.size, 1, none⟩ = some (.string n) := by subst hW0; go_simp
  have q2 : W0.cell? ⟨X.heap.size, 2, none⟩ = some (.string m) := by subst hW0; go_simp
  have q3 : W0.cell? ⟨X.heap.size, 3, none⟩ = some (.int .i64 i) := by subst hW0; go_simp
  have q4 : W0.cell? ⟨X.heap.size, 4, none⟩ = some (.int .i64 d) := by subst hW0; go_simp
  have q5 : W0.cell? ⟨X.heap.size, 5, none⟩ = some (.slice A s.len c) := by subst hW0; go_simp
  have q6 : W0.cell? ⟨X.heap.size, 6, none⟩ = some (.int .i64 place) := by subst hW0; go_simp
  have q7 : W0.cell? ⟨X.heap.size, 7, none⟩ = some (.slice vA vars.length vc) := by subst hW0; go_simp
  have HK0 := Lib.hid (show Keeps (fun _ => True) X W0 by subst hW0; exact (Keeps.refl _ X).alloc _)
  have hb0 : W0.heap[fb]? = some (.cells #[vf] 230 (0, 0)) := (HK0.out.block fb (by omega) trivial).trans h5
  have hown0 := Lib.hid (show W0.ownsRow n₀ 233 8 vf F.length Fc by subst hW0; exact h6.alloc _)
  have hlc := cell_of_one hb0
  have HB0 := Lib.hid hb0
  have hne : ∀ q, vf.ownBlock = some q → fb ≠ q := fun q hq e => own_ne h6 h5 (by decide) (by rw [hq, e])
  have HNE := Lib.hid hne
  have HX := Lib.hid (And.intro h3 (And.intro h4 (And.intro h5 (And.intro h6 h7))))
  clear hne hb0 h3 h4 h5 h6 h7
  go_enter Tryz.func187, Tryz.ntmps187
  go_wp2_with (at_builtin; refine wpList_append_own _ rfl _ _ 230 rfl n₀ 233 i0 _ 8 112 Tryz.underlying230 hi hz0 hz1 hz2 rfl (by decide) _ _ _ rfl (hown0.out.alloc _) ⟨W0.heap.size, 0, none⟩ 1 1 [.int .i64 k, .string n, .string m, .int .i64 i, .int .i64 d, .slice A s.len c, .int .i64 place, .slice vA vars.length vc] rfl rfl (cells_new _ _ _) (by simp [Value.oneCell']) (by unfold maxLen; omega) (by omega) (by simp; omega) ?_; intro v' w1 hown1 hg1 _; have hb1 : w1.heap[fb]? = some (.cells #[vf] 230 (0, 0)) := (hg1.block fb (by simp; omega) (fun e => HNE.out fb e.symm rfl)).trans ((Below.heap_alloc _ _ _ (by omega)).trans HB0.out); have hc1 := cell_of_one hb1; have hf1 := free_of_one hb1; obtain ⟨gg, cc, rfl⟩ := ownsRow_succ hown1)
  go_end0
  have HK : Keeps (fun k => k ≠ fb ∧ vf.ownBlock ≠ some k) X (w1.setCell ⟨fb, 0, none⟩ (.slice (some ⟨gg, 0, none⟩) (F.length + 1) cc)) :=
    (((HK0.out.mono fun _ _ => trivial).alloc _).grown hg1 (by rintro k hk ⟨_, h⟩; exact h hk)).setCell (by simp) _
  obtain ⟨h3, h4, h5, h6, h7⟩ := HX.out
  have hkv : ∀ (k : Nat) (cur : Array Value) (fz : Nat × Nat), X.heap[k]? = some (.cells cur 9 fz) → (w1.setCell ⟨fb, 0, none⟩ (.slice (some ⟨gg, 0, none⟩) (F.length + 1) cc)).heap[k]? = X.heap[k]? :=
    fun k cur fz hc => HK.block k (lt_of_block hc) ⟨tag_ne hc h5 (by decide), own_ne h6 hc (by decide)⟩
  refine ⟨⟨_, rfl⟩, ⟨hn1, hn2, vl, _, Fc ++ [.int .i64 k, .string n, .string m, .int .i64 i, .int .i64 d, .slice A s.len c, .int .i64 place, .slice vA vars.length vc], ?_, ?_, one_setCell hb1, ?_, ?_⟩, HK.mono ?_⟩
  · exact (HK.block lb (lt_of_block h3) ⟨tag_ne h3 h5 (by decide), own_ne h6 h3 (by decide)⟩).trans h3
  · refine HK.ownsRow h4 fun g hg => ?_
    obtain ⟨c, fz, hc⟩ := Lib.ownsRow_kind h4 g hg
    exact ⟨tag_ne hc h5 (by decide), own_ne h6 hc (by decide)⟩
  · rw [List.length_append]
    refine ownsRow_setCell_other hown1 ?_ _
    exact own_ne hown1 hb1 (by decide)
  · exact HSN.out _ (h7.keep hkv) (HF.out.keep hkv)
  · rintro k (hk | hk)
    · exact ⟨by omega, fun e => by have := (h6.lt k e).1; omega⟩
    · refine ⟨fun e => hk ⟨_, _, _, by rw [e]; exact h5, .inr (.inr (.inr rfl))⟩, fun e => ?_⟩
      obtain ⟨c, fz, hc⟩ := Lib.ownsRow_kind h6 k e
      exact hk ⟨_, _, _, hc, .inr (.inl rfl)⟩

set_option maxRecDepth 100000 in
set_option maxHeartbeats 1000000 in
theorem target_any (j : Nat) (n₀ lb fb : Nat) (L : List Ins) (F : List FnE) (X : World) (h : CS n₀ lb fb L F X) (hj : j < L.length) (hL : L.length ≤ 1000000) :
    Calls Tryz.prog 188 #[.int .i64 j, .pointer (some ⟨lb, 0, none⟩)] X fun e Y => (∃ v, e = .returned v) ∧ CS n₀ lb fb (setA L j L.length) F Y ∧ Kc n₀ X Y := by
  obtain ⟨hn1, hn2, vl, vf, Fc, h3, h4, h5, h6, h7⟩ := h
  have hlc := cell_of_one h3
  obtain ⟨q, hq⟩ : ∃ q, L.length = q + 1 := ⟨L.length - 1, by omega⟩
  have hform : ∃ g cap, vl = .slice (some ⟨g, 0, none⟩) L.length cap ∧ L.length ≤ cap ∧ cap ≤ 9223372036854775807 := by
    rcases h4.2 with ⟨_, h0⟩ | ⟨g', cap', cur, h, _, _, hle, hmx, _⟩
    · omega
    · unfold maxLen at hmx; exact ⟨g', cap', h, hle, hmx⟩
  clear hq q
  obtain ⟨g, cap, rfl, hcap1, hcap2⟩ := hform
  have hc := h4.cellAt (j * 4 + 1) (by omega)
  have hl4 := insC_length L
  rw [List.getElem?_eq_getElem (by omega)] at hc
  obtain ⟨u, hu⟩ : ∃ u, (insC L)[j * 4 + 1]'(by omega) = u := ⟨_, rfl⟩
  rw [hu] at hc
  clear hu hl4
  have hf := h4.frozenAt (j * 4 + 1)
  have hst := h4.stored (j * 4 + 1) (.int .i64 L.length)
  have HX := Lib.hid (And.intro h3 (And.intro h4 (And.intro h5 (And.intro h6 (And.intro h7 hst)))))
  clear h3 h4 h5 h6 h7 hst
  obtain ⟨N, HN⟩ : ∃ N, Hid (L.length = N) := ⟨_, rfl⟩
  rw [HN.out] at hlc hj hL hcap1
  go_enter Tryz.func188, Tryz.ntmps188
  go_wp2
  go_end0
  obtain ⟨h3, h4, h5, h6, h7, hst, hg⟩ := HX.out
  rw [← HN.out]
  have HK : Keeps (fun k => k ≠ g) X (X.setCell ⟨g, j * 4 + 1, none⟩ (.int .i64 L.length)) := (Keeps.refl _ X).setCell (by simp) _
  obtain ⟨cg, fzg, hgg⟩ := Lib.ownsRow_kind h4 g rfl
  refine ⟨⟨_, rfl⟩, ⟨hn1, hn2, _, vf, Fc, (HK.block lb (lt_of_block h3) (tag_ne h3 hgg (by decide))).trans h3, ?_, (HK.block fb (lt_of_block h5) (tag_ne h5 hgg (by decide))).trans h5, ?_, ?_⟩, HK.mono ?_⟩
  · rw [insC_setA _ _ _ (by rw [HN.out]; exact hj), setA_length]
    exact hst
  · refine HK.ownsRow h6 fun g' hg' => ?_
    obtain ⟨c, fz, hc⟩ := Lib.ownsRow_kind h6 g' hg'
    exact tag_ne hc hgg (by decide)
  · exact h7.keep fun k cur fz hc => HK.block k (lt_of_block hc) (tag_ne hc hgg (by decide))
  · rintro k (hk | hk) e
    · have := (h4.lt g rfl).1; omega
    · subst e; exact hk ⟨_, _, _, hgg, .inl rfl⟩
end Go.Proofs.YtlpipoihinceiaaGreatDoor
/- compile: with, and maker.expr's closure part -/
namespace Go.Proofs.YtlpipoihinceiaaGreatDoor
open Go.RowKit Go.Proofs Go.Shelf

/-- What with hands back: the variables, with more. -/
def WithP (l : List ByteArray) (X : World) (e : Ending) (Y : World) : Prop := ∃ A c, e = .returned (.slice A l.length c) ∧ VarsAt Y A c l ∧ Below X.heap.size X Y

set_option maxRecDepth 100000 in
set_option maxHeartbeats 1000000 in
theorem with_any (vars more : List ByteArray) (vA mA : Option Addr) (vc mc : Nat) (X : World) (hv : VarsAt X vA vc vars) (hm : SlS X X.heap.size mA mc more) (hl : vars.length + more.length ≤ 1000000) :
    Calls Tryz.prog 190 #[.slice vA vars.length vc, .slice mA more.length mc] X (WithP (vars ++ more) X) := by
  obtain ⟨i0, hi, hz0, hz1, hz2⟩ := info_parts Tryz.infoString
  have HC := Lib.hid (slcClone_any vars vA vc X hv.sls.1 hv.sls.2 (by omega))
  have HM := Lib.hid hm
  clear hv hm
  go_enter Tryz.func190, Tryz.ntmps190
  go_wp2_with fail
  refine HC.out.mono ?_
  rintro e w1 ⟨v, rfl, hown, hb1⟩
  have hz := hb1.size
  have hnone : mA = none → more.length = 0 := by
    intro h
    cases more with
    | nil => rfl
    | cons x r => obtain ⟨b, o, e, _⟩ := HM.out.2.2 (by simp); rw [h] at e; cases e
  have hnews : ∀ ad, mA = some ad → ∀ j u, (more.map Value.string)[j]? = some u → w1.cell? (ad.add j) = some u := by
    intro a' e j u hu
    rw [List.getElem?_map] at hu
    obtain ⟨s, hs1, rfl⟩ := Option.map_eq_some_iff.1 hu
    obtain ⟨b, o, e', hb, hcell⟩ := HM.out.2.2 (by intro e; subst e; simp at hs1)
    rw [e] at e'
    cases e'
    have := (hb1.cell (p := ⟨b, o + j, none⟩) hb).trans (hcell j s hs1)
    cases j <;> simpa [Addr.add] using this
  have HN := Lib.hid (And.intro hnone hnews)
  have HB := Lib.hid (And.intro hb1 hown)
  clear hnone hnews hb1 hown
  go_wp2_with (at_builtin; refine wpList_append_own_any _ rfl _ _ 22 rfl X.heap.size 9 i0 _ 1 16 Tryz.underlying22 hi hz0 hz1 hz2 rfl (by decide) _ _ _ rfl HB.out.2 mA more.length mc (more.map Value.string) rfl (by simp) HN.out.1 HN.out.2 (by simp [Value.oneCell']) (by unfold maxLen; omega) (by omega) (by omega) ?_; intro v' w2 hown2 hg2)
  go_ret
  have h2 : w2.ownsRow X.heap.size 9 1 v' (vars ++ more).length ((vars ++ more).map .string) := by simpa using hown2
  obtain ⟨A, c, rfl, hva⟩ := VarsAt.of h2
  exact ⟨A, c, rfl, hva, HB.out.1.grown hg2 hz (fun j hj => (HB.out.2.lt j hj).1)⟩

structure Tr where
  k : Int
  n : ByteArray
  m : ByteArray
  i : Int
  d : Int
  A : Option Addr
  c : Nat
  s : Fo
def Fo.tree : Fo → Nat → Option Tr
  | .nil, _ => none
  | .cons k n m i d A c s _, 0 => some ⟨k, n, m, i, d, A, c, s⟩
  | .cons _ _ _ _ _ _ _ _ r, j + 1 => r.tree j
theorem Fo.tree_lt : ∀ {s : Fo} {j : Nat} {t : Tr}, s.tree j = some t → j < s.len
  | .nil, _, _, h => by cases h
  | .cons .., 0, _, _ => by simp [Fo.len]
  | .cons _ _ _ _ _ _ _ _ r, j + 1, t, h => by have := Fo.tree_lt (s := r) h; simp [Fo.len]; omega
theorem Fo.At.tree {w : World} {B : Nat} : ∀ {s : Fo} {b o j : Nat} {t : Tr}, s.At w B b o → s.tree j = some t →
    w.cell? ⟨b, o + j * 6, none⟩ = some (.int .i64 t.k) ∧ w.cell? ⟨b, o + j * 6 + 1, none⟩ = some (.string t.n) ∧ w.cell? ⟨b, o + j * 6 + 2, none⟩ = some (.string t.m) ∧
    w.cell? ⟨b, o + j * 6 + 3, none⟩ = some (.int .i64 t.i) ∧ w.cell? ⟨b, o + j * 6 + 4, none⟩ = some (.int .i64 t.d) ∧ w.cell? ⟨b, o + j * 6 + 5, none⟩ = some (.slice t.A t.s.len t.c) ∧ t.s.Sl w B t.A t.c
  | .nil, _, _, _, _, _, h => by cases h
  | .cons k n m i d A c s r, b, o, 0, t, ⟨h0, h1, h2, h3, h4, ⟨h5, hs⟩, _⟩, h => by
    cases h
    simp only [Nat.zero_mul, Nat.add_zero]
    exact ⟨h0, h1, h2, h3, h4, h5, hs⟩
  | .cons k n m i d A c s r, b, o, j + 1, t, ⟨_, _, _, _, _, _, hr⟩, h => by
    have := Fo.At.tree hr (j := j) h
    rw [show o + 6 + j * 6 = o + (j + 1) * 6 by omega] at this
    exact this
def Tr.comp (label : ByteArray) (t : Tr) : Comp := nodeC label t.k t.n t.m t.i t.d t.A t.c t.s (t.s.comp label)
theorem Fo.comp_tree (label : ByteArray) : ∀ {s : Fo} {j : Nat} {t : Tr}, s.tree j = some t → (s.comp label).getD j noComp = t.comp label
  | .nil, _, _, h => by cases h
  | .cons .., 0, _, h => by cases h; rfl
  | .cons _ _ _ _ _ _ _ _ r, j + 1, t, h => by have := Fo.comp_tree label (s := r) h; simpa [Fo.comp] using this
theorem Fo.Cok.tree : ∀ {s : Fo} {j : Nat} {t : Tr}, s.Cok → s.tree j = some t → okC t.k t.s.len ∧ t.s.Cok
  | .nil, _, _, _, h => by cases h
  | .cons .., 0, _, ⟨h1, h2, _⟩, h => by cases h; exact ⟨h1, h2⟩
  | .cons _ _ _ _ _ _ _ _ r, j + 1, t, ⟨_, _, h3⟩, h => Fo.Cok.tree (s := r) h3 h
theorem Fo.All.tree {p : Fo → Prop} : ∀ {s : Fo} {j : Nat} {t : Tr}, s.All p → s.tree j = some t → p t.s
  | .nil, _, _, _, h => by cases h
  | .cons .., 0, _, ⟨h1, _⟩, h => by cases h; exact h1
  | .cons _ _ _ _ _ _ _ _ r, j + 1, t, ⟨_, h3⟩, h => Fo.All.tree (s := r) h3 h

def emitV (lb : Nat) : Value := .func (.func 186) #[] #[.pointer (some ⟨lb, 0, none⟩)]
def laterV (fb : Nat) : Value := .func (.func 187) #[] #[.pointer (some ⟨fb, 0, none⟩)]
def targetV (lb : Nat) : Value := .func (.func 188) #[] #[.pointer (some ⟨lb, 0, none⟩)]

/-- The contract of maker.expr at a node with these parts. -/
def ExprOK (label : ByteArray) (s : Fo) : Prop := ∀ (k : Int) (n m : ByteArray) (i d : Int) (A : Option Addr) (c : Nat) (vars : List ByteArray) (vA : Option Addr) (vc mb n₀ lb fb : Nat) (L : List Ins) (F : List FnE) (X : World),
    s.Sl X n₀ A c → okC k s.len → s.Cok → VarsAt X vA vc vars → X.cell? ⟨mb, 0, none⟩ = some (.string label) → mb < n₀ → CS n₀ lb fb L F X →
    L.length + 3 * (1 + s.count) ≤ 1000000 → F.length + 1 + s.count ≤ 1000000 → vars.length + 2 * (1 + s.count) ≤ 1000000 →
    Calls Tryz.prog 189 #[.pointer (some ⟨mb, 0, none⟩), .agg #[.int .i64 k, .string n, .string m, .int .i64 i, .int .i64 d, .slice A s.len c], .slice vA vars.length vc, .func (.func 186) #[] #[.pointer (some ⟨lb, 0, none⟩)], .func (.func 187) #[] #[.pointer (some ⟨fb, 0, none⟩)], .func (.func 188) #[] #[.pointer (some ⟨lb, 0, none⟩)]] X
      fun e Y => (∃ v, e = .returned v) ∧ CS n₀ lb fb (L ++ (nodeC label k n m i d A c s (s.comp label) vars L.length).1) (F ++ (nodeC label k n m i d A c s (s.comp label) vars L.length).2) Y ∧ Kc n₀ X Y

/-- The boxes of maker.expr. -/
structure Bxs (mb lb fb : Nat) (k : Int) (n m : ByteArray) (i d : Int) (A : Option Addr) (len c : Nat) (vA : Option Addr) (vl vc : Nat) (bk be bv b1 b2 b3 : Nat) (X : World) : Prop where
  xk : X.heap[bk]? = some (.cells #[.pointer (some ⟨mb, 0, none⟩)] 188 (0, 0))
  xe : X.heap[be]? = some (.cells #[.int .i64 k, .string n, .string m, .int .i64 i, .int .i64 d, .slice A len c] 28 (0, 0))
  xv : X.heap[bv]? = some (.cells #[.slice vA vl vc] 22 (0, 0))
  x1 : X.heap[b1]? = some (.cells #[.func (.func 186) #[] #[.pointer (some ⟨lb, 0, none⟩)]] 231 (0, 0))
  x2 : X.heap[b2]? = some (.cells #[.func (.func 187) #[] #[.pointer (some ⟨fb, 0, none⟩)]] 234 (0, 0))
  x3 : X.heap[b3]? = some (.cells #[.func (.func 188) #[] #[.pointer (some ⟨lb, 0, none⟩)]] 159 (0, 0))
theorem Bxs.kc {mb lb fb : Nat} {k : Int} {n m : ByteArray} {i d : Int} {A : Option Addr} {len c : Nat} {vA : Option Addr} {vl vc : Nat} {bk be bv b1 b2 b3 : Nat} {X Y : World} {n₀ : Nat} (h : Bxs mb lb fb k n m i d A len c vA vl vc bk be bv b1 b2 b3 X) (hk : Kc n₀ X Y) : Bxs mb lb fb k n m i d A len c vA vl vc bk be bv b1 b2 b3 Y :=
  ⟨hk.box h.xk (by decide), hk.box h.xe (by decide), hk.box h.xv (by decide), hk.box h.x1 (by decide), hk.box h.x2 (by decide), hk.box h.x3 (by decide)⟩

theorem kcb {n₀ : Nat} {X Y : World} (h : Below X.heap.size X.drew Y) : Kc n₀ X Y := ⟨h.os, h.tape, h.output, h.size, fun k hk _ => h.block k hk⟩
theorem dbel {X Y : World} (h : Below X.heap.size X.drew Y) : Below X.heap.size X Y := ⟨h.os, h.tape, h.output, h.size, h.block⟩
theorem kcs {n₀ : Nat} {X Y Z : World} (h : Kc n₀ X Y) (e : Y.drew = Z) : Kc n₀ X Z := by subst e; exact ⟨h.os, h.tape, h.output, h.size, h.block⟩

set_option maxRecDepth 100000 in
set_option maxHeartbeats 1000000 in
theorem part_any (label : ByteArray) (s : Fo) (j : Nat) (t : Tr) (ht : s.tree j = some t) (ih : ExprOK label t.s) (k : Int) (n m : ByteArray) (i d : Int) (A : Option Addr) (c : Nat) (vars more : List ByteArray) (vA mA : Option Addr) (vc mc mb n₀ lb fb : Nat) (L : List Ins) (F : List FnE) (bk be bv b1 b2 b3 : Nat) (X : World)
    (hbx : Bxs mb lb fb k n m i d A s.len c vA vars.length vc bk be bv b1 b2 b3 X) (hs : s.Sl X n₀ A c) (hck : s.Cok) (hv : VarsAt X vA vc vars) (hm : SlS X X.heap.size mA mc more) (hmc : X.cell? ⟨mb, 0, none⟩ = some (.string label)) (hmb : mb < n₀) (hcs : CS n₀ lb fb L F X)
    (hL : L.length + 3 * (1 + t.s.count) ≤ 1000000) (hF : F.length + 1 + t.s.count ≤ 1000000) (hvl : vars.length + more.length + 2 * (1 + t.s.count) ≤ 1000000) :
    Calls Tryz.prog 222 #[.int .i64 j, .slice mA more.length mc, .pointer (some ⟨bk, 0, none⟩), .pointer (some ⟨be, 0, none⟩), .pointer (some ⟨bv, 0, none⟩), .pointer (some ⟨b1, 0, none⟩), .pointer (some ⟨b2, 0, none⟩), .pointer (some ⟨b3, 0, none⟩)] X
      fun e Y => (∃ v, e = .returned v) ∧ CS n₀ lb fb (L ++ (t.comp label (vars ++ more) L.length).1) (F ++ (t.comp label (vars ++ more) L.length).2) Y ∧ Kc n₀ X Y := by
  have hjl := Fo.tree_lt ht
  obtain ⟨b, o, hA, hbn, hat⟩ := hs.2.2 (by intro e; subst e; cases ht)
  have hc1 := hs.1
  have hc2 := hs.2.1
  unfold maxLen at hc2
  obtain ⟨t0, t1, t2, t3, t4, t5, tsl⟩ := hat.tree ht
  obtain ⟨ok1, ok2⟩ := hck.tree ht
  obtain ⟨tk, tn, tm, ti, td, tA, tc, ts⟩ := t
  simp only at t0 t1 t2 t3 t4 t5 tsl ok1 ok2 ih hL hF hvl
  subst hA
  have hn0 := hcs.lt
  obtain ⟨N, hN⟩ : ∃ N, s.len = N := ⟨_, rfl⟩
  have HCk : Hid (∀ W, Kc n₀ X W → W.cell? ⟨bk, 0, none⟩ = some (.pointer (some ⟨mb, 0, none⟩)) ∧ W.cell? ⟨be, 5, none⟩ = some (.slice (some ⟨b, o, none⟩) N c) ∧ W.cell? ⟨bv, 0, none⟩ = some (.slice vA vars.length vc) ∧
      W.cell? ⟨b1, 0, none⟩ = some (.func (.func 186) #[] #[.pointer (some ⟨lb, 0, none⟩)]) ∧ W.cell? ⟨b2, 0, none⟩ = some (.func (.func 187) #[] #[.pointer (some ⟨fb, 0, none⟩)]) ∧ W.cell? ⟨b3, 0, none⟩ = some (.func (.func 188) #[] #[.pointer (some ⟨lb, 0, none⟩)]) ∧
      W.cell? ⟨b, o + j * 6, none⟩ = some (.int .i64 tk) ∧ W.cell? ⟨b, o + j * 6 + 1, none⟩ = some (.string tn) ∧ W.cell? ⟨b, o + j * 6 + 2, none⟩ = some (.string tm) ∧ W.cell? ⟨b, o + j * 6 + 3, none⟩ = some (.int .i64 ti) ∧ W.cell? ⟨b, o + j * 6 + 4, none⟩ = some (.int .i64 td) ∧ W.cell? ⟨b, o + j * 6 + 5, none⟩ = some (.slice tA ts.len tc)) := by
    intro W hW
    have hb' := hbx.kc hW
    have q : ∀ p v, X.cell? ⟨b, p, none⟩ = some v → W.cell? ⟨b, p, none⟩ = some v := fun p v h => hW.cell (p := ⟨b, p, none⟩) (.inl hbn) h
    refine ⟨cell_of_one hb'.xk, ?_, cell_of_one hb'.xv, cell_of_one hb'.x1, cell_of_one hb'.x2, cell_of_one hb'.x3, q _ _ t0, q _ _ t1, q _ _ t2, q _ _ t3, q _ _ t4, q _ _ t5⟩
    have r2 := cell_of_row W be 5 _ _ (0, 0) hb'.xe
    rw [hN] at r2
    exact r2
  obtain ⟨vm, Hvm⟩ : ∃ vm, Hid (vars ++ more = vm) := ⟨_, rfl⟩
  have hvm : vm.length + 2 * (1 + ts.count) ≤ 1000000 := by rw [← Hvm.out, List.length_append]; exact hvl
  have HWc := Lib.hid (fun (W : World) (h1 : VarsAt W vA vc vars) (h2 : SlS W W.heap.size mA mc more) => with_any vars more vA mA vc mc W h1 h2 (by omega))
  rw [Hvm.out] at HWc ⊢
  have HW := Lib.hid (And.intro hv hm)
  have HI := Lib.hid (fun (W : World) (hW : Kc n₀ X W) => And.intro (tsl.keep (Nat.le_refl _) fun p hp => World.cell?_of_block (hW.block p.block (by omega) (.inl hp))) (hW.cell (p := ⟨mb, 0, none⟩) (.inl hmb) hmc))
  have HX := Lib.hid (And.intro ih (And.intro ok1 (And.intro ok2 hcs)))
  have hl0 : (0 : Int) ≤ (j : Int) := by omega
  have hl1 : (j : Int) < (N : Int) := by omega
  obtain ⟨r1, r2, r3, r4, r5, r6, q0, q1, q2, q3, q4, q5⟩ := HCk.out X (Kc.refl _ _)
  clear hbx hs hck hv hm hmc hcs tsl ok1 ok2 ih ht hat t0 t1 t2 t3 t4 t5 hN hjl hc1
  go_enter Tryz.func222, Tryz.ntmps222
  go_wp2_with fail
  go_region_held3 (fun W => W.cell? ⟨bk, 0, none⟩ = some (.pointer (some ⟨mb, 0, none⟩)) ∧ W.cell? ⟨be, 5, none⟩ = some (.slice (some ⟨b, o, none⟩) N c) ∧ W.cell? ⟨bv, 0, none⟩ = some (.slice vA vars.length vc) ∧
      W.cell? ⟨b1, 0, none⟩ = some (.func (.func 186) #[] #[.pointer (some ⟨lb, 0, none⟩)]) ∧ W.cell? ⟨b2, 0, none⟩ = some (.func (.func 187) #[] #[.pointer (some ⟨fb, 0, none⟩)]) ∧ W.cell? ⟨b3, 0, none⟩ = some (.func (.func 188) #[] #[.pointer (some ⟨lb, 0, none⟩)]) ∧
      W.cell? ⟨b, o + j * 6, none⟩ = some (.int .i64 tk) ∧ W.cell? ⟨b, o + j * 6 + 1, none⟩ = some (.string tn) ∧ W.cell? ⟨b, o + j * 6 + 2, none⟩ = some (.string tm) ∧ W.cell? ⟨b, o + j * 6 + 3, none⟩ = some (.int .i64 ti) ∧ W.cell? ⟨b, o + j * 6 + 4, none⟩ = some (.int .i64 td) ∧ W.cell? ⟨b, o + j * 6 + 5, none⟩ = some (.slice tA ts.len tc))
    (first | exact HCk.out _ (kcs (Kc.refl _ _) rfl) | exact HCk.out _ hkk | exact HCk.out _ (hkk.trans hk2))
    (first
      | (go_at_call 190; refine (HWc.out _ (by exact HW.out.1) (by exact HW.out.2)).mono ?_; rintro e w1 ⟨wA, wc, rfl, hva, hb1⟩; have hkk : Kc n₀ X w1 := kcb hb1)
      | (go_at_call 189; refine (HX.out.1 tk tn tm ti td tA tc vm wA wc mb n₀ lb fb L F _ (HI.out _ hkk).1 HX.out.2.1 HX.out.2.2.1 hva (HI.out _ hkk).2 hmb (by exact HX.out.2.2.2.below (dbel hb1)) (by omega) (by omega) (by omega)).mono ?_; rintro e Y ⟨⟨v, rfl⟩, hcs2, hk2⟩))
  all_goals (
    go_wp2
    go_end0
    exact ⟨⟨_, rfl⟩, hcs2, hkk.trans hk2⟩)
end Go.Proofs.YtlpipoihinceiaaGreatDoor
/- compile: how long the code of a node is -/
namespace Go.Proofs.YtlpipoihinceiaaGreatDoor
open Go.RowKit Go.Proofs

def Fo.cnt (s : Fo) (j : Nat) : Nat := match s.tree j with
  | some t => 1 + t.s.count
  | none => 0
theorem Fo.cnt_cons (k : Int) (n m : ByteArray) (i d : Int) (A : Option Addr) (c : Nat) (s r : Fo) : (Fo.cons k n m i d A c s r).cnt 0 = 1 + s.count ∧ ∀ j, (Fo.cons k n m i d A c s r).cnt (j + 1) = r.cnt j := ⟨rfl, fun _ => rfl⟩
theorem Fo.cnt_one : ∀ s : Fo, s.cnt 0 ≤ s.count
  | .nil => Nat.zero_le _
  | .cons k n m i d A c s r => by rw [(Fo.cnt_cons k n m i d A c s r).1, Fo.count]; omega
theorem Fo.cnt_two : ∀ s : Fo, s.cnt 0 + s.cnt 1 ≤ s.count
  | .nil => Nat.zero_le _
  | .cons k n m i d A c s r => by rw [(Fo.cnt_cons k n m i d A c s r).1, (Fo.cnt_cons k n m i d A c s r).2, Fo.count]; have := r.cnt_one; omega
theorem Fo.cnt_three : ∀ s : Fo, s.cnt 0 + s.cnt 1 + s.cnt 2 ≤ s.count
  | .nil => Nat.zero_le _
  | .cons k n m i d A c s r => by rw [(Fo.cnt_cons k n m i d A c s r).1, (Fo.cnt_cons k n m i d A c s r).2, (Fo.cnt_cons k n m i d A c s r).2, Fo.count]; have := r.cnt_two; omega

def LenOK (P : Comp) (N : Nat) : Prop := ∀ vars st, (P vars st).1.length ≤ 3 * N ∧ (P vars st).2.length ≤ N ∧ ∀ f ∈ (P vars st).2, f.s.count < N ∧ f.vars.length + 2 * f.s.count + 2 ≤ vars.length + 2 * N
theorem LenOK.no (N : Nat) : LenOK noComp N := fun _ _ => ⟨by simp [noComp], by simp [noComp], by simp [noComp]⟩

theorem nodeC_len (label : ByteArray) (k : Int) (n m : ByteArray) (i d : Int) (A : Option Addr) (c : Nat) (s : Fo) (h : ∀ j, LenOK ((s.comp label).getD j noComp) (s.cnt j)) : LenOK (nodeC label k n m i d A c s (s.comp label)) (1 + s.count) := by
  have c3 := s.cnt_three
  intro vars st
  unfold nodeC
  split
  · refine ⟨by simp only [List.length_singleton]; omega, by simp only [List.length_singleton]; omega, ?_⟩
    intro f hf
    simp only [List.mem_singleton] at hf
    subst hf
    exact ⟨by show s.count < 1 + s.count; omega, by show vars.length + 2 * s.count + 2 ≤ vars.length + 2 * (1 + s.count); omega⟩
  have two : ∀ (x : Ins), LenOK (twoC ((s.comp label).getD 0 noComp) ((s.comp label).getD 1 noComp) x) (1 + s.count) := by
    intro x vars st
    obtain ⟨a1, a2, a3⟩ := h 0 vars st
    obtain ⟨b1, b2, b3⟩ := h 1 vars (st + ((s.comp label).getD 0 noComp vars st).1.length)
    refine ⟨by simp only [twoC, List.length_append, List.length_singleton]; omega, by simp only [twoC, List.length_append]; omega, ?_⟩
    intro f hf
    simp only [twoC, List.mem_append] at hf
    rcases hf with hf | hf
    · have := a3 f hf; omega
    · have := b3 f hf; omega
  split
  · exact two _ vars st
  split
  · exact two _ vars st
  split
  · exact two _ vars st
  split
  · obtain ⟨a1, a2, a3⟩ := h 0 vars st
    obtain ⟨b1, b2, b3⟩ := h 1 (vars ++ [n]) (st + ((s.comp label).getD 0 noComp vars st).1.length + 1)
    refine ⟨by simp only [letC, List.length_append, List.length_singleton]; omega, by simp only [letC, List.length_append]; omega, ?_⟩
    intro f hf
    simp only [letC, List.mem_append] at hf
    rcases hf with hf | hf
    · have := a3 f hf; omega
    · have := b3 f hf; simp at this; omega
  split
  · obtain ⟨a1, a2, a3⟩ := h 0 vars st
    obtain ⟨p, hp⟩ : ∃ p, st + ((s.comp label).getD 0 noComp vars st).1.length = p := ⟨_, rfl⟩
    obtain ⟨b1, b2, b3⟩ := h 1 vars (p + 1)
    obtain ⟨q, hq⟩ : ∃ q, p + 1 + ((s.comp label).getD 1 noComp vars (p + 1)).1.length = q := ⟨_, rfl⟩
    obtain ⟨e1, e2, e3⟩ := h 2 vars (q + 1)
    simp only [ifC, hp, hq]
    refine ⟨by simp only [List.length_append, List.length_singleton]; omega, by simp only [List.length_append]; omega, ?_⟩
    intro f hf
    simp only [List.mem_append] at hf
    rcases hf with (hf | hf) | hf
    · have := a3 f hf; omega
    · have := b3 f hf; omega
    · have := e3 f hf; omega
  split
  · obtain ⟨a1, a2, a3⟩ := h 0 vars st
    obtain ⟨p, hp⟩ : ∃ p, st + ((s.comp label).getD 0 noComp vars st).1.length = p := ⟨_, rfl⟩
    obtain ⟨b1, b2, b3⟩ := h 2 (vars ++ [n, m]) (p + 1)
    obtain ⟨q, hq⟩ : ∃ q, p + 2 + ((s.comp label).getD 2 noComp (vars ++ [n, m]) (p + 1)).1.length = q := ⟨_, rfl⟩
    obtain ⟨e1, e2, e3⟩ := h 1 vars (q + 1)
    simp only [caseC, hp, hq]
    refine ⟨by simp only [List.length_append, List.length_cons, List.length_nil]; omega, by simp only [List.length_append]; omega, ?_⟩
    intro f hf
    simp only [List.mem_append] at hf
    rcases hf with (hf | hf) | hf
    · have := a3 f hf; omega
    · have := b3 f hf; simp at this; omega
    · have := e3 f hf; omega
  · refine ⟨by simp; omega, by simp, by simp⟩
theorem Fo.comp_len (label : ByteArray) : ∀ (s : Fo) (j : Nat), LenOK ((s.comp label).getD j noComp) (s.cnt j)
  | .nil, j => by simp only [Fo.comp, List.getD_nil]; exact LenOK.no _
  | .cons k n m i d A c s r, 0 => by
    rw [(Fo.cnt_cons k n m i d A c s r).1]
    exact nodeC_len label k n m i d A c s (Fo.comp_len label s)
  | .cons k n m i d A c s r, j + 1 => by
    rw [(Fo.cnt_cons k n m i d A c s r).2]
    have := Fo.comp_len label r j
    simpa [Fo.comp] using this
theorem Tr.comp_len (label : ByteArray) (t : Tr) : LenOK (t.comp label) (1 + t.s.count) := nodeC_len label t.k t.n t.m t.i t.d t.A t.c t.s (Fo.comp_len label t.s)

/-- The functions of a node have parts for which code can be made. -/
def CokF (P : Comp) : Prop := ∀ vars st, ∀ f ∈ (P vars st).2, f.s.Cok ∧ okC f.k f.s.len
theorem nodeC_cok (label : ByteArray) (k : Int) (n m : ByteArray) (i d : Int) (A : Option Addr) (c : Nat) (s : Fo) (hk : okC k s.len) (hs : s.Cok) (h : ∀ P ∈ s.comp label, CokF P) : CokF (nodeC label k n m i d A c s (s.comp label)) := by
  have hg : ∀ j, CokF ((s.comp label).getD j noComp) := by
    intro j
    rw [List.getD_eq_getElem?_getD]
    cases hj : (s.comp label)[j]? with
    | none => intro vars st f hf; simp [noComp] at hf
    | some P => exact h P (List.mem_of_getElem? hj)
  intro vars st f hf
  unfold nodeC at hf
  split at hf
  · simp only [List.mem_singleton] at hf
    subst hf
    exact ⟨hs, hk⟩
  all_goals (repeat' (split at hf))
  all_goals (simp only [twoC, letC, ifC, caseC, List.mem_append, List.not_mem_nil] at hf)
  all_goals (rcases hf with hf | hf)
  all_goals (first | exact hg _ _ _ f hf | (rcases hf with hf | hf <;> exact hg _ _ _ f hf))
theorem Fo.comp_cok (label : ByteArray) : ∀ s : Fo, s.Cok → ∀ P ∈ s.comp label, CokF P
  | .nil, _, _, h => by simp [Fo.comp] at h
  | .cons k n m i d A c s r, ⟨h1, h2, h3⟩, P, h => by
    simp only [Fo.comp, List.mem_cons] at h
    rcases h with rfl | h
    · exact nodeC_cok label k n m i d A c s h1 h2 (Fo.comp_cok label s h2)
    · exact Fo.comp_cok label r h3 P h
end Go.Proofs.YtlpipoihinceiaaGreatDoor
