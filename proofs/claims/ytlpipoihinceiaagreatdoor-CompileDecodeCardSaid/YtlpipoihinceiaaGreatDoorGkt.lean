/- maker.block: words -/
import Derived.Test.YtlpipoihinceiaaGreatDoorGks
import Derived.Deep.Onto
import Derived.Deep.RegionLaw
import Derived.Deep.AppendLies
import Derived.Deep.DrawnRows
import Derived.Deep.DeepCutAuto
namespace Go.Proofs.YtlpipoihinceiaaGreatDoor
open Go.RowKit Go.Proofs Go.Shelf

theorem Tryz.infoBlock : (Tryz.prog.info? 133).map (fun i => (i.zero, i.size, i.bytes)) = some (some (.agg #[.int .i64 0, .bool false, .slice none 0 0]), 3, 40) := by kernel_rfl

/-- A block in memory: its fields, its instructions' slice. -/
structure Bg where
  cap : Int
  par : Bool
  v : Value
def Bg.cells (b : Bg) : List Value := [.int .i64 b.cap, .bool b.par, b.v]
def bgC : List Bg → List Value
  | [] => []
  | b :: r => b.cells ++ bgC r
theorem bgC_append (l m : List Bg) : bgC (l ++ m) = bgC l ++ bgC m := by
  induction l with
  | nil => rfl
  | cons x l ih => simp [bgC, ih]
theorem bgC_length (l : List Bg) : (bgC l).length = l.length * 3 := by
  induction l with
  | nil => rfl
  | cons x l ih => simp [bgC, Bg.cells, ih]; omega
theorem bgC_mid (l r : List Bg) (b : Bg) (v : Value) : (bgC (l ++ b :: r)).set (l.length * 3 + 2) v = bgC (l ++ { b with v := v } :: r) := by
  induction l with
  | nil => rfl
  | cons x l ih =>
    simp only [List.cons_append, bgC, Bg.cells, List.length_cons]
    rw [show (l.length + 1) * 3 + 2 = (l.length * 3 + 2) + 1 + 1 + 1 by omega]
    simp only [List.nil_append, List.set_cons_succ, ih]

/-- Instructions in memory, in a row from block B on. -/
def InsAt (B : Nat) (X : World) (v : Value) (l : List Ins) : Prop := X.ownsRow B 130 4 v l.length (insC l)
theorem InsAt.keep {B : Nat} {X Y : World} {v : Value} {l : List Ins} (h : InsAt B X v l) (hk : ∀ (k : Nat) (cur : Array Value) (fz : Nat × Nat), B ≤ k → X.heap[k]? = some (.cells cur 130 fz) → Y.heap[k]? = X.heap[k]?) : InsAt B Y v l := by
  refine ⟨h.1, ?_⟩
  rcases h.2 with h | ⟨g, cap, cur, h1, h2, h3, h4⟩
  · exact .inl h
  · exact .inr ⟨g, cap, cur, h1, h2, (hk g _ _ h2 h3).trans h3, h4⟩
def BlksAt (B : Nat) (X : World) : List Bg → List Blk → Prop
  | [], [] => True
  | g :: r, b :: s => g.cap = b.cap ∧ g.par = b.par ∧ InsAt B X g.v b.l ∧ BlksAt B X r s
  | _, _ => False
theorem BlksAt.keep {B : Nat} {X Y : World} (hk : ∀ (k : Nat) (cur : Array Value) (fz : Nat × Nat), B ≤ k → X.heap[k]? = some (.cells cur 130 fz) → Y.heap[k]? = X.heap[k]?) : ∀ {l : List Bg} {m : List Blk}, BlksAt B X l m → BlksAt B Y l m
  | [], [], _ => trivial
  | _ :: _, _ :: _, ⟨h1, h2, h3, h4⟩ => ⟨h1, h2, h3.keep hk, BlksAt.keep hk h4⟩
  | [], _ :: _, h => h.elim
  | _ :: _, [], h => h.elim
theorem BlksAt.mono {B B' : Nat} (hB : B' ≤ B) {X : World} : ∀ {l : List Bg} {m : List Blk}, BlksAt B X l m → BlksAt B' X l m
  | [], [], _ => trivial
  | _ :: _, _ :: _, ⟨h1, h2, h3, h4⟩ => ⟨h1, h2, World.ownsRow.mono h3 hB, BlksAt.mono hB h4⟩
  | [], _ :: _, h => h.elim
  | _ :: _, [], h => h.elim
theorem BlksAt.append {B : Nat} {X : World} {l' : List Bg} {m' : List Blk} (h' : BlksAt B X l' m') : ∀ {l : List Bg} {m : List Blk}, BlksAt B X l m → BlksAt B X (l ++ l') (m ++ m')
  | [], [], _ => h'
  | _ :: _, _ :: _, ⟨h1, h2, h3, h4⟩ => ⟨h1, h2, h3, BlksAt.append h' h4⟩
  | [], _ :: _, h => h.elim
  | _ :: _, [], h => h.elim
theorem BlksAt.length {B : Nat} {X : World} : ∀ {l : List Bg} {m : List Blk}, BlksAt B X l m → l.length = m.length
  | [], [], _ => rfl
  | _ :: _, _ :: _, ⟨_, _, _, h4⟩ => by simp [h4.length]
  | [], _ :: _, h => h.elim
  | _ :: _, [], h => h.elim

/-- The maker in block mb. -/
def MK (n₀ mb : Nat) (label : ByteArray) (BS : List Bg) (X : World) : Prop :=
  n₀ ≤ mb ∧ ∃ v, X.heap[mb]? = some (.cells #[.string label, v] 190 (0, 0)) ∧ X.ownsRow n₀ 133 3 v BS.length (bgC BS)
theorem MK.keep {n₀ mb : Nat} {label : ByteArray} {BS : List Bg} {X Y : World} (h : MK n₀ mb label BS X) (hk : ∀ (k : Nat) (cur : Array Value) (t : TypeId) (fz : Nat × Nat), X.heap[k]? = some (.cells cur t fz) → (t = 190 ∨ t = 133) → k < X.heap.size → Y.heap[k]? = X.heap[k]?) : MK n₀ mb label BS Y := by
  obtain ⟨h1, v, h2, h3⟩ := h
  refine ⟨h1, v, (hk mb _ _ _ h2 (.inl rfl) (lt_of_block h2)).trans h2, h3.1, ?_⟩
  rcases h3.2 with h | ⟨g, cap, cur, e1, e2, e3, e4⟩
  · exact .inl h
  · exact .inr ⟨g, cap, cur, e1, e2, (hk g _ _ _ e3 (.inr rfl) (lt_of_block e3)).trans e3, e4⟩
theorem MK.below {n₀ mb : Nat} {label : ByteArray} {BS : List Bg} {X Y : World} (h : MK n₀ mb label BS X) (hb : Below X.heap.size X Y) : MK n₀ mb label BS Y := h.keep fun k _ _ _ _ _ hk => hb.block k hk
theorem MK.kc {n₀ n₁ mb : Nat} {label : ByteArray} {BS : List Bg} {X Y : World} (h : MK n₀ mb label BS X) (hk : Kc n₁ X Y) : MK n₀ mb label BS Y := h.keep fun k cur t fz hc ht hl => by
  refine hk.block k hl (.inr ?_)
  rintro ⟨cur', t', fz', e1, e2⟩
  rw [hc] at e1
  simp only [Option.some.injEq, Obj.cells.injEq] at e1
  obtain ⟨_, rfl, _⟩ := e1
  rcases ht with rfl | rfl <;> revert e2 <;> decide

/-- Blocks that the making of blocks may turn. -/
def TgB (X : World) (k : Nat) : Prop := ∃ cur t fz, X.heap[k]? = some (.cells cur t fz) ∧ (t = 133 ∨ t = 190)
def Kb (n₀ : Nat) (X Y : World) : Prop := Keeps (fun k => k < n₀ ∨ ¬ TgB X k) X Y
theorem Kb.refl (n₀ : Nat) (X : World) : Kb n₀ X X := Keeps.refl _ _
theorem TgB.congr {X Y : World} {k : Nat} (h : Y.heap[k]? = X.heap[k]?) : TgB Y k ↔ TgB X k := by unfold TgB; rw [h]
theorem Kb.trans {n₀ : Nat} {X Y Z : World} (h : Kb n₀ X Y) (g : Kb n₀ Y Z) : Kb n₀ X Z :=
  ⟨g.os.trans h.os, g.tape.trans h.tape, g.output.trans h.output, Nat.le_trans h.size g.size, fun k hk hp => by
    have e := h.block k hk hp
    exact (g.block k (Nat.lt_of_lt_of_le hk h.size) (hp.elim .inl fun ht => .inr (by rw [TgB.congr e]; exact ht))).trans e⟩
theorem Kb.below {n₀ : Nat} {X Y : World} (h : Below X.heap.size X Y) : Kb n₀ X Y := Keeps.whole h _
theorem Kb.box {n₀ : Nat} {X Y : World} (h : Kb n₀ X Y) {k : Nat} {cur : Array Value} {t : TypeId} {fz : Nat × Nat} (hk : X.heap[k]? = some (.cells cur t fz)) (ht : t ≠ 133 ∧ t ≠ 190) : Y.heap[k]? = X.heap[k]? := by
  refine h.block k (lt_of_block hk) (.inr ?_)
  rintro ⟨cur', t', fz', h1, h2⟩
  rw [hk] at h1
  simp only [Option.some.injEq, Obj.cells.injEq] at h1
  obtain ⟨_, rfl, _⟩ := h1
  exact h2.elim ht.1 ht.2
theorem CS.kb {n₀ n₁ lb fb : Nat} {L : List Ins} {F : List FnE} {X Y : World} (h : CS n₁ lb fb L F X) (hk : Kb n₀ X Y) : CS n₁ lb fb L F Y := by
  obtain ⟨h1, h2, vl, vf, Fc, h3, h4, h5, h6, h7⟩ := h
  refine ⟨h1, h2, vl, vf, Fc, (hk.box h3 (by decide)).trans h3, ⟨h4.1, ?_⟩, (hk.box h5 (by decide)).trans h5, ⟨h6.1, ?_⟩, h7.keep fun k cur fz hc => hk.box hc (by decide)⟩
  · rcases h4.2 with h | ⟨g, cap, cur, e1, e2, e3, e4⟩
    · exact .inl h
    · exact .inr ⟨g, cap, cur, e1, e2, (hk.box e3 (by decide)).trans e3, e4⟩
  · rcases h6.2 with h | ⟨g, cap, cur, e1, e2, e3, e4⟩
    · exact .inl h
    · exact .inr ⟨g, cap, cur, e1, e2, (hk.box e3 (by decide)).trans e3, e4⟩
theorem Kb.vars {n₀ : Nat} {X Y : World} (h : Kb n₀ X Y) : ∀ (k : Nat) (cur : Array Value) (fz : Nat × Nat), X.heap[k]? = some (.cells cur 9 fz) → Y.heap[k]? = X.heap[k]? := fun _ _ _ hc => h.box hc (by decide)
theorem Kb.ins {n₀ B : Nat} {X Y : World} (h : Kb n₀ X Y) : ∀ (k : Nat) (cur : Array Value) (fz : Nat × Nat), B ≤ k → X.heap[k]? = some (.cells cur 130 fz) → Y.heap[k]? = X.heap[k]? := fun _ _ _ _ hc => h.box hc (by decide)

theorem Kb.set {n₀ : Nat} {X Y : World} (h : Kb n₀ X Y) {p : Addr} (hp : X.heap.size ≤ p.block) (u : Value) : Kb n₀ X (Y.setCell p u) :=
  ⟨h.os, h.tape, h.output, by simpa [World.setCell] using h.size, fun k hk hq => (Below.heap_setCell _ _ _ _ (by omega)).trans (h.block k hk hq)⟩
theorem Kb.kc {n₀ n₁ : Nat} {X Y Z : World} (h : Kb n₀ X Y) (hk : Kc n₁ Y Z) (hn : X.heap.size ≤ n₁) : Kb n₀ X Z :=
  ⟨hk.os.trans h.os, hk.tape.trans h.tape, hk.output.trans h.output, Nat.le_trans h.size hk.size, fun k hl hq => (hk.block k (Nat.lt_of_lt_of_le hl h.size) (.inl (by omega))).trans (h.block k hl hq)⟩
theorem Kb.setB {n₀ : Nat} {X Y : World} (h : Kb n₀ X Y) {p : Addr} (hn : n₀ ≤ p.block) (ht : TgB Y p.block) (u : Value) : Kb n₀ X (Y.setCell p u) :=
  ⟨h.os, h.tape, h.output, by simpa [World.setCell] using h.size, fun k hk hq => by
    have e := h.block k hk hq
    refine (Below.heap_setCell _ _ _ _ ?_).trans e
    rintro rfl
    rcases hq with hq | hq
    · omega
    · exact hq ((TgB.congr e).1 ht)⟩
theorem Kb.grown {n₀ : Nat} {X Y Z : World} {row : Option Nat} (h : Kb n₀ X Y) (hg : Y.grownBy Z row) (hr : ∀ k, row = some k → n₀ ≤ k ∧ TgB Y k) : Kb n₀ X Z :=
  ⟨hg.os.trans h.os, hg.tape.trans h.tape, hg.output.trans h.output, Nat.le_trans h.size hg.size, fun k hk hq => by
    have e := h.block k hk hq
    refine (hg.block k (Nat.lt_of_lt_of_le hk h.size) ?_).trans e
    intro e2
    obtain ⟨h1, h2⟩ := hr k e2.symm
    rcases hq with hq | hq
    · omega
    · exact hq ((TgB.congr e).1 h2)⟩
theorem CS.set {n₁ lb fb : Nat} {L : List Ins} {F : List FnE} {X : World} (h : CS n₁ lb fb L F X) {j g c : Nat} (hj : j < L.length) (hl : X.heap[lb]? = some (.cells #[.slice (some ⟨g, 0, none⟩) L.length c] 131 (0, 0))) (v : Int) : CS n₁ lb fb (setA L j v) F (X.setCell ⟨g, j * 4 + 1, none⟩ (.int .i64 v)) := by
  obtain ⟨hn1, hn2, vl, vf, Fc, h3, h4, h5, h6, h7⟩ := h
  rw [hl] at h3
  simp only [Option.some.injEq, Obj.cells.injEq, and_true, Array.mk.injEq, List.cons.injEq] at h3
  subst h3
  have hst := (h4.stored (j * 4 + 1) (.int .i64 v)).1
  have HK : Keeps (fun k => k ≠ g) X (X.setCell ⟨g, j * 4 + 1, none⟩ (.int .i64 v)) := (Keeps.refl _ X).setCell (by simp) _
  obtain ⟨cg, fzg, hgg⟩ := Lib.ownsRow_kind h4 g rfl
  refine ⟨hn1, hn2, _, vf, Fc, (HK.block lb (lt_of_block hl) (tag_ne hl hgg (by decide))).trans hl, ?_, (HK.block fb (lt_of_block h5) (tag_ne h5 hgg (by decide))).trans h5, ?_, ?_⟩
  · rw [insC_setA _ _ _ hj, setA_length]
    exact hst
  · refine HK.ownsRow h6 fun g' hg' => ?_
    obtain ⟨c, fz, hc⟩ := Lib.ownsRow_kind h6 g' hg'
    exact tag_ne hc hgg (by decide)
  · exact h7.keep fun k cur fz hc => HK.block k (lt_of_block hc) (tag_ne hc hgg (by decide))

/-- The contract of maker.block at a node with these parts. -/
def BlockOK (label : ByteArray) (s : Fo) : Prop := ∀ (k : Int) (n m : ByteArray) (i d : Int) (A : Option Addr) (c : Nat) (vars : List ByteArray) (vA : Option Addr) (vc : Nat) (cap : Int) (par : Bool) (mb n₀ : Nat) (BS : List Bg) (X : World),
    s.Sl X n₀ A c → okC k s.len → s.Cok → VarsAt X vA vc vars → MK n₀ mb label BS X → s.count ≤ 100000 → vars.length + 2 * (1 + s.count) ≤ 900000 →
    BS.length + (blkOf (nodeC label k n m i d A c s (s.comp label)) vars cap par BS.length).length ≤ 1000000 →
    Calls Tryz.prog 143 #[.pointer (some ⟨mb, 0, none⟩), .agg #[.int .i64 k, .string n, .string m, .int .i64 i, .int .i64 d, .slice A s.len c], .slice vA vars.length vc, .agg #[.int .i64 cap, .bool par, .slice none 0 0]] X
      fun e Y => e = .returned (.int .i64 BS.length) ∧ ∃ NB, MK n₀ mb label (BS ++ NB) Y ∧ BlksAt X.heap.size Y NB (blkOf (nodeC label k n m i d A c s (s.comp label)) vars cap par BS.length) ∧ Kb n₀ X Y

theorem block_at {label : ByteArray} {s : Fo} (h : BlockOK label s) (k : Int) (n m : ByteArray) (i d : Int) (A : Option Addr) (c : Nat) (vars : List ByteArray) (vA : Option Addr) (vc : Nat) (cap : Int) (par : Bool) (mb n₀ : Nat) (BS : List Bg) (X : World) (N : Nat) (hN : BS.length = N) (bl : List Blk) (hbl : blkOf (nodeC label k n m i d A c s (s.comp label)) vars cap par BS.length = bl)
    (h1 : s.Sl X n₀ A c) (h2 : okC k s.len) (h3 : s.Cok) (h4 : VarsAt X vA vc vars) (h5 : MK n₀ mb label BS X) (h6 : s.count ≤ 100000) (h7 : vars.length + 2 * (1 + s.count) ≤ 900000) (h8 : N + bl.length ≤ 1000000) :
    Calls Tryz.prog 143 #[.pointer (some ⟨mb, 0, none⟩), .agg #[.int .i64 k, .string n, .string m, .int .i64 i, .int .i64 d, .slice A s.len c], .slice vA vars.length vc, .agg #[.int .i64 cap, .bool par, .slice none 0 0]] X
      fun e Y => e = .returned (.int .i64 N) ∧ ∃ NB, MK n₀ mb label (BS ++ NB) Y ∧ BlksAt X.heap.size Y NB bl ∧ Kb n₀ X Y := by
  subst hN hbl
  exact h k n m i d A c vars vA vc cap par mb n₀ BS X h1 h2 h3 h4 h5 h6 h7 h8

/-- A function's cells. -/
theorem FnsC.at_ {X : World} : ∀ {F : List FnE} {cs : List Value}, FnsC X F cs → ∀ {j : Nat} {f : FnE}, F[j]? = some f → ∃ vA vc, VarsAt X vA vc f.vars ∧
    ∀ q v, ([.int .i64 f.k, .string f.n, .string f.m, .int .i64 f.i, .int .i64 f.d, .slice f.A f.s.len f.c, .int .i64 f.place, .slice vA f.vars.length vc] : List Value)[q]? = some v → cs[j * 8 + q]? = some v
  | [], _, _, _, _, h => by simp at h
  | g :: F, cs, ⟨vA, vc, cs', h1, h2, h3⟩, 0, f, h => by
    simp only [List.getElem?_cons_zero, Option.some.injEq] at h
    subst h
    refine ⟨vA, vc, h2, fun q v hq => ?_⟩
    rw [h1, Nat.zero_mul, Nat.zero_add, List.getElem?_append_left (List.getElem?_eq_some_iff.1 hq).1]
    exact hq
  | g :: F, cs, ⟨vA, vc, cs', h1, h2, h3⟩, j + 1, f, h => by
    obtain ⟨wA, wc, h4, h5⟩ := FnsC.at_ h3 (j := j) (by simpa using h)
    refine ⟨wA, wc, h4, fun q v hq => ?_⟩
    rw [h1, show (j + 1) * 8 + q = 8 + (j * 8 + q) by omega, List.getElem?_append_right (by simp)]
    simpa using h5 q v hq

/-- The functions of a node: where their parts lie, and where their instruction stands. -/
def SlF (X : World) (n₀ : Nat) (P : Comp) : Prop := ∀ vars st, ∀ f ∈ (P vars st).2, f.s.Sl X n₀ f.A f.c
theorem nodeC_sl (label : ByteArray) (X : World) (n₀ : Nat) (k : Int) (n m : ByteArray) (i d : Int) (A : Option Addr) (c : Nat) (s : Fo) (hs : s.Sl X n₀ A c) (h : ∀ P ∈ s.comp label, SlF X n₀ P) : SlF X n₀ (nodeC label k n m i d A c s (s.comp label)) := by
  have hg : ∀ j, SlF X n₀ ((s.comp label).getD j noComp) := by
    intro j
    rw [List.getD_eq_getElem?_getD]
    cases hj : (s.comp label)[j]? with
    | none => intro vars st f hf; simp [noComp] at hf
    | some P => exact h P (List.mem_of_getElem? hj)
  intro vars st f hf
  unfold nodeC at hf
  split at hf
  · simp only [List.mem_singleton] at hf
    subst hf
    exact hs
  all_goals (repeat' (split at hf))
  all_goals (simp only [twoC, letC, ifC, caseC, List.mem_append, List.not_mem_nil] at hf)
  all_goals (rcases hf with hf | hf)
  all_goals (first | exact hg _ _ _ f hf | (rcases hf with hf | hf <;> exact hg _ _ _ f hf))
theorem Fo.comp_sl (label : ByteArray) (X : World) (n₀ : Nat) : ∀ s : Fo, s.Subs X n₀ → ∀ P ∈ s.comp label, SlF X n₀ P
  | .nil, _, _, h => by simp [Fo.comp] at h
  | .cons k n m i d A c s r, ⟨h1, h3⟩, P, h => by
    simp only [Fo.comp, List.mem_cons] at h
    rcases h with rfl | h
    · exact nodeC_sl label X n₀ k n m i d A c s h1 (Fo.comp_sl label X n₀ s h1.subs)
    · exact Fo.comp_sl label X n₀ r h3 P h
def PlaceOK (P : Comp) : Prop := ∀ vars st, ∀ f ∈ (P vars st).2, st ≤ f.place ∧ f.place < st + (P vars st).1.length
theorem nodeC_place (label : ByteArray) (k : Int) (n m : ByteArray) (i d : Int) (A : Option Addr) (c : Nat) (s : Fo) (h : ∀ P ∈ s.comp label, PlaceOK P) : PlaceOK (nodeC label k n m i d A c s (s.comp label)) := by
  have hg : ∀ j, PlaceOK ((s.comp label).getD j noComp) := by
    intro j
    rw [List.getD_eq_getElem?_getD]
    cases hj : (s.comp label)[j]? with
    | none => intro vars st f hf; simp [noComp] at hf
    | some P => exact h P (List.mem_of_getElem? hj)
  have two : ∀ x, PlaceOK (twoC ((s.comp label).getD 0 noComp) ((s.comp label).getD 1 noComp) x) := by
    intro x vars st f hf
    simp only [twoC, List.mem_append, List.length_append, List.length_singleton] at hf ⊢
    rcases hf with hf | hf
    · have := hg 0 _ _ f hf; omega
    · have := hg 1 _ _ f hf; omega
  intro vars st f hf
  unfold nodeC at hf ⊢
  split at hf
  · rename_i h6
    rw [if_pos h6]
    simp only [List.mem_singleton] at hf
    subst hf
    exact ⟨Nat.le_refl _, by simp⟩
  rename_i h6
  rw [if_neg h6]
  split at hf
  · rename_i h; rw [if_pos h]; exact two _ _ _ f hf
  rename_i h; rw [if_neg h]
  split at hf
  · rename_i h; rw [if_pos h]; exact two _ _ _ f hf
  rename_i h; rw [if_neg h]
  split at hf
  · rename_i h; rw [if_pos h]; exact two _ _ _ f hf
  rename_i h; rw [if_neg h]
  split at hf
  · rename_i h
    rw [if_pos h]
    simp only [letC, List.mem_append, List.length_append, List.length_singleton] at hf ⊢
    rcases hf with hf | hf
    · have := hg 0 _ _ f hf; omega
    · have := hg 1 _ _ f hf; omega
  rename_i h; rw [if_neg h]
  split at hf
  · rename_i h
    rw [if_pos h]
    simp only [ifC, List.mem_append, List.length_append, List.length_singleton] at hf ⊢
    rcases hf with (hf | hf) | hf
    · have := hg 0 _ _ f hf; omega
    · have := hg 1 _ _ f hf; omega
    · have := hg 2 _ _ f hf; omega
  rename_i h; rw [if_neg h]
  split at hf
  · rename_i h
    rw [if_pos h]
    simp only [caseC, List.mem_append, List.length_append, List.length_cons, List.length_nil] at hf ⊢
    rcases hf with (hf | hf) | hf
    · have := hg 0 _ _ f hf; omega
    · have := hg 2 _ _ f hf; omega
    · have := hg 1 _ _ f hf; omega
  · simp at hf
theorem Fo.comp_place (label : ByteArray) : ∀ s : Fo, ∀ P ∈ s.comp label, PlaceOK P
  | .nil, _, h => by simp [Fo.comp] at h
  | .cons k n m i d A c s r, P, h => by
    simp only [Fo.comp, List.mem_cons] at h
    rcases h with rfl | h
    · exact nodeC_place label k n m i d A c s (Fo.comp_place label s)
    · exact Fo.comp_place label r P h
end Go.Proofs.YtlpipoihinceiaaGreatDoor
/- maker.block -/
namespace Go.Proofs.YtlpipoihinceiaaGreatDoor
open Go.RowKit Go.Proofs Go.Shelf

attribute [local go_sem ↓] Go.wp_at_zero Go.wp_at_succ

theorem own_form {X : World} {base : Nat} {e : TypeId} {size : Nat} {v : Value} {n : Nat} {xs : List Value} (h : X.ownsRow base e size v n xs) : ∃ A c, v = .slice A n c := by
  rcases h.2 with ⟨h1, h2⟩ | ⟨g, cap, cur, h1, _⟩
  · exact ⟨none, 0, by rw [h1, h2]⟩
  · exact ⟨_, _, h1⟩

/-- What holds at the head of the rounds over the functions. -/
def BkR (n₀ n₁ mb lb fb : Nat) (label : ByteArray) (BS : List Bg) (own : Bg) (F : List FnE) (L0 : List Ins) (X : World) (B : Nat) (fA : Option Addr) (fc : Nat) (vl0 : Value) (g : Nat) (ct : Value) (wr : World) : Prop :=
  ∃ (j : Nat) (R : List FnE) (Lc : List Ins) (NB : List Bg) (bl : List Blk), g = R.length ∧ j + R.length = F.length ∧ R = F.drop j ∧ ct = .int .i64 j ∧
    fnsOf F L0 (BS.length + 1) = ((fnsOf R Lc (BS.length + 1 + bl.length)).1, bl ++ (fnsOf R Lc (BS.length + 1 + bl.length)).2) ∧ Lc.length = L0.length ∧
    CS n₁ lb fb Lc F wr ∧ wr.heap[fb]? = some (.cells #[.slice fA F.length fc] 230 (0, 0)) ∧ MK n₀ mb label (BS ++ own :: NB) wr ∧ BlksAt B wr NB bl ∧ Kb n₀ X wr ∧ B ≤ wr.heap.size ∧ wr.heap[lb]? = some (.cells #[vl0] 131 (0, 0))

theorem two_set {W : World} {b : Nat} {a0 a1 : Value} {t : TypeId} (h : W.heap[b]? = some (.cells #[a0, a1] t (0, 0))) (u : Value) : (W.setCell ⟨b, 1, none⟩ u).heap[b]? = some (.cells #[a0, u] t (0, 0)) := by
  rw [heap_setCell_same W b 1 _ t u h]
  rfl
theorem own_pos {X : World} {base : Nat} {e : TypeId} {size : Nat} {v : Value} {n : Nat} {xs : List Value} (h : X.ownsRow base e size v n xs) (hn : 0 < n) : ∃ g c, v = .slice (some ⟨g, 0, none⟩) n c ∧ n ≤ c ∧ c ≤ 9223372036854775807 := by
  rcases h.2 with ⟨_, h0⟩ | ⟨g, cap, cur, h1, _, _, hle, hmx, _⟩
  · omega
  · unfold maxLen at hmx; exact ⟨g, cap, h1, hle, hmx⟩
theorem kb_drew (n₀ : Nat) (W : World) : Kb n₀ W W.drew := ⟨rfl, rfl, rfl, Nat.le_refl _, fun _ _ _ => rfl⟩
theorem kb_alloc (n₀ : Nat) (W : World) (o : Obj) : Kb n₀ W (W.alloc o) := Kb.below ((Below.refl _ _).alloc (Nat.le_refl _) o)
theorem kb_drew_alloc (n₀ : Nat) (W : World) (o : Obj) : Kb n₀ W (W.drew.alloc o) := (kb_drew n₀ W).trans (kb_alloc n₀ W.drew o)
theorem kb_alloc_drew (n₀ : Nat) (W : World) (o : Obj) : Kb n₀ W (W.alloc o).drew := (kb_alloc n₀ W o).trans (kb_drew n₀ _)
theorem blw {W Y : World} {o : Obj} (h : Below (W.alloc o).heap.size (W.alloc o).drew Y) : Below W.heap.size W Y :=
  ((Below.refl _ W).alloc (Nat.le_refl _) o).trans (Below.mono (show Below (W.alloc o).heap.size (W.alloc o) Y from ⟨h.os, h.tape, h.output, h.size, h.block⟩) (by simp))
theorem CS.row {n₁ lb fb : Nat} {L : List Ins} {F : List FnE} {X : World} (h : CS n₁ lb fb L F X) {g c : Nat} (hl : X.heap[lb]? = some (.cells #[.slice (some ⟨g, 0, none⟩) L.length c] 131 (0, 0))) : ∃ cur fz, X.heap[g]? = some (.cells cur 130 fz) := by
  obtain ⟨_, _, vl, vf, Fc, h3, h4, _⟩ := h
  rw [hl] at h3
  simp only [Option.some.injEq, Obj.cells.injEq, and_true, Array.mk.injEq, List.cons.injEq] at h3
  subst h3
  exact Lib.ownsRow_kind h4 g rfl
theorem cs_start (n₁ : Nat) (W : World) (h : n₁ ≤ W.heap.size) : CS n₁ W.heap.size (W.heap.size + 1) [] [] ((W.alloc (.cells #[.slice none 0 0] 131)).alloc (.cells #[.slice none 0 0] 230)) := by
  refine ⟨h, by omega, .slice none 0 0, .slice none 0 0, [], ?_, World.ownsRow_nil _ _ _ _, ?_, World.ownsRow_nil _ _ _ _, rfl⟩
  · exact (Below.heap_alloc _ _ _ (by simp)).trans (World.alloc_heap_new W _)
  · have := World.alloc_heap_new (W.alloc (.cells #[.slice none 0 0] 131)) (.cells #[.slice none 0 0] 230)
    simpa using this

/-- What the block's own entry leaves. -/
def BkA (n₀ mb : Nat) (label : ByteArray) (BS : List Bg) (own : Bg) (ecs : Array Value) (X wx : World) : Prop :=
  MK n₀ mb label (BS ++ [own]) wx ∧ Kb n₀ X wx ∧ X.heap.size + 2 ≤ wx.heap.size ∧ wx.heap[X.heap.size]? = some (.cells ecs 28 (0, 0))

set_option maxRecDepth 100000 in
set_option maxHeartbeats 2000000 in
theorem block_step (label : ByteArray) (s : Fo) (ih : ∀ s' : Fo, s'.count < s.count → BlockOK label s') : BlockOK label s := by
  intro k n m i d A c vars vA vc cap par mb n₀ BS X hs hok hck hv hmk hcnt hvl hbl
  obtain ⟨i0, hi, hz0, hz1, hz2⟩ := info_parts Tryz.infoBlock
  have hX0 : n₀ < X.heap.size := by
    obtain ⟨h1, v, h2, _⟩ := hmk
    have := lt_of_block h2
    omega
  obtain ⟨P, HP⟩ : ∃ Q, Hid (nodeC label k n m i d A c s (s.comp label) = Q) := ⟨_, Lib.hid rfl⟩
  have HLen : Hid (LenOK P (1 + s.count)) := by rw [← HP.out]; exact Lib.hid (nodeC_len label k n m i d A c s (Fo.comp_len label s))
  have HCok : Hid (CokF P) := by rw [← HP.out]; exact Lib.hid (nodeC_cok label k n m i d A c s hok hck (Fo.comp_cok label s hck))
  have HOk : Hid (AllOk label P) := by rw [← HP.out]; exact Lib.hid (nodeC_ok label k n m i d A c s (Fo.comp_ok label s))
  have HX := Lib.hid (expr_any label s k n m i d A c vars vA vc mb)
  rw [HP.out] at HX hbl ⊢
  have HI := Lib.hid ih
  have HH := Lib.hid (And.intro hs (And.intro hok (And.intro hck (And.intro hv hbl))))
  clear ih hs hok hck hv hbl
  obtain ⟨hmn, v, hm1, hm2⟩ := hmk
  obtain ⟨bA, bc, rfl⟩ := own_form hm2
  obtain ⟨NB, HNB⟩ : ∃ Q, Hid (BS.length = Q) := ⟨_, Lib.hid rfl⟩
  have hNB : NB ≤ 1000000 := by have := HH.out.2.2.2.2; rw [← HNB.out]; omega
  rw [HNB.out] at hm1 hm2 ⊢
  have hmb := lt_of_block hm1
  obtain ⟨W0, hW0⟩ : ∃ W0, (X.alloc (.cells #[.int .i64 k, .string n, .string m, .int .i64 i, .int .i64 d, .slice A s.len c] 28)).alloc (.cells #[.int .i64 cap, .bool par, .slice none 0 0] 133) = W0 := ⟨_, rfl⟩
  have hz : X.heap.size + 1 < W0.heap.size := by subst hW0; simp
  have hB0 : Below X.heap.size X W0 := by subst hW0; exact ((Below.refl _ _).alloc (Nat.le_refl _) _).alloc (by simp) _
  have hm0 : W0.heap[mb]? = some (.cells #[.string label, .slice bA NB bc] 190 (0, 0)) := (hB0.block mb hmb).trans hm1
  have hx1 := cell_of_row W0 mb 1 _ _ (0, 0) hm0
  have hf1 := frozen_of_row W0 mb 1 _ _ hm0
  have e0 : W0.cell? ⟨X.heap.size, 0, none⟩ = some (.int .i64 k) := by subst hW0; go_simp
  have e1 : W0.cell? ⟨X.heap.size, 1, none⟩ = some (.string n) := by subst hW0; go_simp
  have e2 : W0.cell? ⟨X.heap.size, 2, none⟩ = some (.string m) := by subst hW0; go_simp
  have e3 : W0.cell? ⟨X.heap.size, 3, none⟩ = some (.int .i64 i) := by subst hW0; go_simp
  have e4 : W0.cell? ⟨X.heap.size, 4, none⟩ = some (.int .i64 d) := by subst hW0; go_simp
  have e5 : W0.cell? ⟨X.heap.size, 5, none⟩ = some (.slice A s.len c) := by subst hW0; go_simp
  have g0 : W0.cell? ⟨X.heap.size + 1, 0, none⟩ = some (.int .i64 cap) := by subst hW0; go_simp
  have g1 : W0.cell? ⟨X.heap.size + 1, 1, none⟩ = some (.bool par) := by subst hW0; go_simp
  have g2 : W0.cell? ⟨X.heap.size + 1, 2, none⟩ = some (.slice none 0 0) := by subst hW0; go_simp
  have HO := Lib.hid (show W0.ownsRow n₀ 133 3 (.slice bA NB bc) NB (bgC BS) from (Keeps.whole hB0 (fun _ => True)).ownsRow hm2 fun _ _ => trivial)
  have HM := Lib.hid (And.intro hm0 (And.intro hm1 hm2))
  have HB0 := Lib.hid (And.intro hB0 hW0)
  simp at hx1
  have hx1a : (W0.alloc (.cells #[.int .i64 cap, .bool par, .slice none 0 0] 133)).cell? ⟨mb, 1, none⟩ = some (.slice bA NB bc) := (World.cell?_alloc_lt W0 _ ⟨mb, 1, none⟩ (by simp; omega)).trans hx1
  have HMN := Lib.hid hmn
  clear hm0 hm1 hm2 hB0
  have hE0 : W0.heap[X.heap.size]? = some (.cells #[.int .i64 k, .string n, .string m, .int .i64 i, .int .i64 d, .slice A s.len c] 28 (0, 0)) := by
    rw [← HB0.out.2]; exact (Below.heap_alloc _ _ _ (by simp)).trans (World.alloc_heap_new X _)
  have HE0 := Lib.hid hE0
  clear hE0
  go_enter Tryz.func143, Tryz.ntmps143
  go_upto_region 2 with fail
  go_cut [9] (fun s9 wx => s9 = .int .i64 NB ∧ BkA n₀ mb label BS ⟨cap, par, .slice none 0 0⟩ #[.int .i64 k, .string n, .string m, .int .i64 i, .int .i64 d, .slice A s.len c] X wx)
  case first =>
    go_region_law ((refine step_append_lies _ rfl (.tmp 26) (.tmp 28) 59 rfl n₀ 133 i0 _ 3 40 Tryz.underlying59 hi hz0 hz1 hz2 rfl (by omega) (.slice bA NB bc) NB (bgC BS) rfl (HO.out.alloc _) ⟨W0.heap.size, 0, none⟩ 1 1 [.int .i64 cap, .bool par, .slice none 0 0] rfl rfl (World.news_of_block (cs := #[.int .i64 cap, .bool par, .slice none 0 0]) (t := 133) (fr := (0, 0)) (heap_alloc_new _ _)) (by simp [Value.oneCell']) (by omega) (by unfold maxLen; omega) (by omega) (by simp; omega) _ rfl ?_; intro gg bcap w1 hown1 hgrow1 hat1 hlt1; have hmw : w1.heap[mb]? = some (.cells #[.string label, .slice bA NB bc] 190 (0, 0)) := (hgrow1.block mb (by simp; omega) (fun e => own_ne HO.out HM.out.1 (by decide) e.symm)).trans ((Below.heap_alloc _ _ _ (by omega)).trans HM.out.1); have hmc := cell_of_row w1 mb 1 _ _ (0, 0) hmw; have hmf := frozen_of_row w1 mb 1 _ _ hmw))
    all_goals (
      go_wp2_with fail
      go_meet
      refine ⟨rfl, ⟨HMN.out, _, two_set hmw _, ?_⟩, ?_, ?_, ?_⟩
      · rw [List.length_append, bgC_append, HNB.out]
        refine ownsRow_setCell_other hown1 ?_ _
        exact own_ne hown1 hmw (by decide)
      · refine ((Kb.below (below_drew (HB0.out.1.alloc (by omega) _))).grown hgrow1 fun q hq => ⟨(HO.out.lt q hq).1, ?_⟩).setB HMN.out ⟨_, _, _, hmw, .inr rfl⟩ _
        obtain ⟨cq, fq, hcq⟩ := Lib.ownsRow_kind (HO.out.alloc _) q hq
        exact ⟨_, _, _, hcq, .inl rfl⟩
      · have := hgrow1.size
        simp at this
        simp [World.setCell]
        omega
      · have hEa := (Below.heap_alloc W0 (.cells #[.int .i64 cap, .bool par, .slice none 0 0] 133) X.heap.size (by omega)).trans HE0.out
        rw [Below.heap_setCell _ _ _ _ (by simp; omega), hgrow1.block X.heap.size (by simp; omega) (fun e => own_ne (HO.out.alloc _) hEa (by decide) e.symm)]
        exact hEa)
  case rest =>
    obtain ⟨rfl, hMA, hKA, hzA, hEA⟩ := hcut
    clear hi hz0 hz1 hz2 i0 hx1 hf1 e0 e1 e2 e3 e4 e5 g0 g1 g2 HO HM HB0 hx1a HE0 hz hmb
    obtain ⟨w1, rfl⟩ : ∃ w1 : World, w1 = wc := ⟨_, rfl⟩
    obtain ⟨W2, hW2⟩ : ∃ W2, (w1.alloc (.cells #[.slice none 0 0] 131)).alloc (.cells #[.slice none 0 0] 230) = W2 := ⟨_, rfl⟩
    have hB2 : Below w1.heap.size w1 W2 := by rw [← hW2]; exact ((Below.refl _ _).alloc (Nat.le_refl _) _).alloc (by simp) _
    have cs2 : CS w1.heap.size w1.heap.size (w1.heap.size + 1) [] [] W2 := by rw [← hW2]; exact cs_start _ _ (Nat.le_refl _)
    have hE2 := (hB2.block X.heap.size (by omega)).trans hEA
    have e0 := cell_of_row W2 X.heap.size 0 _ _ (0, 0) hE2
    have e1 := cell_of_row W2 X.heap.size 1 _ _ (0, 0) hE2
    have e2 := cell_of_row W2 X.heap.size 2 _ _ (0, 0) hE2
    have e3 := cell_of_row W2 X.heap.size 3 _ _ (0, 0) hE2
    have e4 := cell_of_row W2 X.heap.size 4 _ _ (0, 0) hE2
    have e5 := cell_of_row W2 X.heap.size 5 _ _ (0, 0) hE2
    simp at e0 e1 e2 e3 e4 e5
    have hM2 := hMA.below hB2
    have hK2 := hKA.trans (Kb.below hB2)
    have hmb1 : mb < w1.heap.size := by obtain ⟨_, v, h, _⟩ := hMA; exact lt_of_block h
    have hmc2 : W2.cell? ⟨mb, 0, none⟩ = some (.string label) := by obtain ⟨_, v, h, _⟩ := hM2; exact cell_of_row W2 mb 0 _ _ (0, 0) h
    have HSl : Hid (∀ W, Kb n₀ X W → s.Sl W n₀ A c ∧ SlF W n₀ P) := by
      intro W hW
      have h1 : s.Sl W n₀ A c := HH.out.1.keep (Nat.le_refl _) fun p hp => World.cell?_of_block (hW.block p.block (by omega) (.inl hp))
      refine ⟨h1, ?_⟩
      rw [← HP.out]
      exact nodeC_sl label W n₀ k n m i d A c s h1 (Fo.comp_sl label W n₀ s h1.subs)
    have HPl : Hid (PlaceOK P) := by rw [← HP.out]; exact Lib.hid (nodeC_place label k n m i d A c s (Fo.comp_place label s))
    have hv2 : VarsAt W2 vA vc vars := HH.out.2.2.2.1.keep hK2.vars
    have HXc := Lib.hid (HX.out w1.heap.size w1.heap.size (w1.heap.size + 1) [] [] W2 ((HSl.out _ hK2).1.keep (by omega) (fun _ _ => rfl)) HH.out.2.1 HH.out.2.2.1 hv2 hmc2 hmb1 cs2 (by simp; omega) (by simp; omega) (by omega))
    obtain ⟨LP, HLP⟩ : ∃ Q, Hid ((P vars 0).1 = Q) := ⟨_, Lib.hid rfl⟩
    obtain ⟨F, HF⟩ : ∃ Q, Hid ((P vars 0).2 = Q) := ⟨_, Lib.hid rfl⟩
    have hLPl : LP.length ≤ 3 * (1 + s.count) := by rw [← HLP.out]; exact (HLen.out vars 0).1
    have hFl : F.length ≤ 1 + s.count := by rw [← HF.out]; exact (HLen.out vars 0).2.1
    obtain ⟨L0, HL0⟩ : ∃ Q, Hid (LP ++ [(⟨7, 0, 0, ⟨#[]⟩⟩ : Ins)] = Q) := ⟨_, Lib.hid rfl⟩
    have HKM := Lib.hid (And.intro hM2 hK2)
    clear hv2 hmc2 cs2 HX hM2 hK2 hMA hKA hEA hE2 hB2 hW0
    go_wp2_with fail
    refine HXc.out.mono ?_
    rintro e w3 ⟨⟨v3, rfl⟩, cs3', hk3⟩
    have cs3 : CS w1.heap.size w1.heap.size (w1.heap.size + 1) LP F w3 := by rw [← HLP.out, ← HF.out]; exact cs3'
    clear cs3' HXc e0 e1 e2 e3 e4 e5 hW2
    have HK3 := Lib.hid (And.intro (HKM.out.1.kc hk3) (HKM.out.2.kc hk3 (by omega)))
    clear HKM hk3
    go_wp2_with fail
    refine (emit_at cs3 7 0 0 ⟨#[]⟩ (by omega) _ rfl L0 HL0.out).mono ?_
    rintro e w4 ⟨rfl, cs4, hk4⟩
    have HK4 := Lib.hid (And.intro (HK3.out.1.kc hk4) (HK3.out.2.kc hk4 (by omega)))
    clear HK3 hk4 cs3
    have hform : ∃ fA fc, w4.heap[w1.heap.size + 1]? = some (.cells #[.slice fA F.length fc] 230 (0, 0)) := by
      obtain ⟨_, _, vl, vf, Fc, _, _, h5, h6, _⟩ := cs4
      obtain ⟨fA, fc, rfl⟩ := own_form h6
      exact ⟨fA, fc, h5⟩
    obtain ⟨fA, fc, hfb⟩ := hform
    obtain ⟨vl0, hlb0, hlo0⟩ : ∃ vl0, w4.heap[w1.heap.size]? = some (.cells #[vl0] 131 (0, 0)) ∧ ∀ q, vl0.ownBlock = some q → q < w4.heap.size := by
      obtain ⟨_, _, vl, vf, Fc, h3, h4, _⟩ := cs4
      exact ⟨vl, h3, fun q hq => (h4.lt q hq).2⟩
    have HLO := Lib.hid (And.intro hlb0 hlo0)
    clear hlb0 hlo0
    have hfc := cell_of_one hfb
    have HC4 := Lib.hid (And.intro cs4 hfb)
    clear cs4 hfb
    go_wp2
    go_loopg [16, 47] F.length (fun g _ ct wr => BkR n₀ w1.heap.size mb w1.heap.size (w1.heap.size + 1) label BS ⟨cap, par, .slice none 0 0⟩ F L0 X w4.heap.size fA fc vl0 g ct wr)
    case atStart => exact ⟨0, F, L0, [], [], rfl, by omega, rfl, rfl, rfl, rfl, HC4.out.1, HC4.out.2, HK4.out.1, trivial, HK4.out.2, Nat.le_refl _, HLO.out.1⟩
    case round =>
      obtain ⟨j, R, Lc, NBs, bl, HG, hjr, HR, rfl, HFN, hLc, hcs, hfb, hMK, hbl, hKb, hBz, hlb⟩ := hrel
      cases R with
      | nil =>
        simp only [List.length_nil, Nat.add_zero] at hjr
        subst hjr
        obtain ⟨_, v, hm1, hm2⟩ := hMK
        obtain ⟨M, HM⟩ : ∃ Q, Hid ((BS ++ (⟨cap, par, .slice none 0 0⟩ : Bg) :: NBs).length = Q) := ⟨_, Lib.hid rfl⟩
        have hM : NB < M := by rw [← HM.out, ← HNB.out]; simp
        have hM0 : 0 < M := by omega
        rw [HM.out] at hm2
        obtain ⟨gb, gc, rfl, hgc1, hgc2⟩ := own_pos hm2 hM0
        obtain ⟨hn1, hn2, vl, vf, Fc, h3, h4, h5, h6, h7⟩ := hcs
        obtain ⟨lA, lc, rfl⟩ := own_form h4
        have HLl := Lib.hid hLc
        obtain ⟨NL, HNL⟩ : ∃ Q, Hid (Lc.length = Q) := ⟨_, Lib.hid rfl⟩
        rw [HNL.out] at h3 h4
        have r1 := cell_of_row wr mb 1 _ _ (0, 0) hm1
        have r2 := cell_of_one h3
        have hcl := bgC_length (BS ++ (⟨cap, par, .slice none 0 0⟩ : Bg) :: NBs)
        rw [HM.out] at hcl
        have r3 := hm2.cellAt (NB * 3 + 2) (by omega)
        rw [List.getElem?_eq_getElem (by omega)] at r3
        obtain ⟨u3, hu3⟩ : ∃ u, (bgC (BS ++ (⟨cap, par, .slice none 0 0⟩ : Bg) :: NBs))[NB * 3 + 2]'(by omega) = u := ⟨_, rfl⟩
        rw [hu3] at r3
        have r4 := hm2.frozenAt (NB * 3 + 2)
        have hst := (hm2.stored (NB * 3 + 2) (.slice lA NL lc)).1
        simp at r1
        have hi0 : (0 : Int) ≤ (NB : Int) := by omega
        have hi1 : (NB : Int) < (M : Int) := by omega
        have hgb := hm2.lt gb rfl
        obtain ⟨cgb, fgb, hgbt⟩ := Lib.ownsRow_kind hm2 gb rfl
        have HFIN : Hid (blkOf P vars cap par NB = ⟨cap, par, Lc⟩ :: bl) := by
          show _ = _
          have := HFN
          simp only [fnsOf, List.append_nil] at this
          unfold blkOf
          rw [HF.out, HLP.out, show LP ++ [retI] = L0 from HL0.out, ← HNB.out, this]
        have HE := Lib.hid (And.intro hm1 (And.intro hst (And.intro h4 (And.intro hbl (And.intro hKb (And.intro hgbt hgb))))))
        have HFB := Lib.hid (And.intro h3 (And.intro hBz hLc))
        clear hlb hm1 hm2 h3 h4 h5 h6 h7 hst hbl hKb hgbt hfb HFN hu3 hcl hLc HG HR HLl hgb hBz hfc
        go_wp2_with fail
        go_region
        all_goals (
          go_wp2
          go_ret
          refine ⟨rfl, (⟨cap, par, .slice lA NL lc⟩ : Bg) :: NBs, ⟨HMN.out, .slice (some ⟨gb, 0, none⟩) M gc, ?_, ?_⟩, ?_, ?_⟩
          · refine Eq.trans ?_ HE.out.1
            exact Below.heap_setCell _ _ _ _ (tag_ne HE.out.1 HE.out.2.2.2.2.2.1 (by decide))
          · have h := bgC_mid BS NBs (⟨cap, par, .slice none 0 0⟩ : Bg) (.slice lA NL lc)
            rw [HNB.out] at h
            rw [← h, show (BS ++ (⟨cap, par, .slice lA NL lc⟩ : Bg) :: NBs).length = M by rw [← HM.out]; simp]
            exact HE.out.2.1
          · rw [HFIN.out]
            have hset : ∀ (q : Nat) (cur : Array Value) (fz : Nat × Nat), wr.heap[q]? = some (.cells cur 130 fz) → (wr.setCell ⟨gb, NB * 3 + 2, none⟩ (.slice lA NL lc)).drew.heap[q]? = wr.heap[q]? := fun q cur fz hq => Below.heap_setCell _ _ _ _ (tag_ne hq HE.out.2.2.2.2.2.1 (by decide))
            refine ⟨rfl, rfl, ?_, ?_⟩
            · refine InsAt.keep (X := wr) ?_ fun q cur fz _ hq => hset q cur fz hq
              rw [← HNL.out] at *
              exact World.ownsRow.mono HE.out.2.2.1 (by omega)
            · exact (HE.out.2.2.2.1.mono (by have := HK4.out.2.size; omega)).keep fun q cur fz _ hq => hset q cur fz hq
          · refine (HE.out.2.2.2.2.1.setB ?_ ⟨_, _, _, HE.out.2.2.2.2.2.1, .inl rfl⟩ _).trans (kb_drew _ _)
            exact HE.out.2.2.2.2.2.2.1)
      | cons f R =>
        have hjl : j < F.length := by simp only [List.length_cons] at hjr; omega
        have hfj : F[j]? = some f := by
          have := congrArg (fun l : List FnE => l[0]?) HR
          simp only [List.getElem?_cons_zero, List.getElem?_drop, Nat.add_zero] at this
          exact this.symm
        have hfm : f ∈ (P vars 0).2 := by rw [HF.out]; exact List.mem_of_getElem? hfj
        obtain ⟨_, hfl, hfmx⟩ : True ∧ f.s.count < 1 + s.count ∧ f.vars.length + 2 * f.s.count + 2 ≤ vars.length + 2 * (1 + s.count) := ⟨trivial, (HLen.out vars 0).2.2 f hfm⟩
        obtain ⟨hfck, hfok⟩ := HCok.out vars 0 f hfm
        obtain ⟨hfk6, hfmk⟩ := HOk.out vars 0 f hfm
        have hpl := (HPl.out vars 0 f hfm).2
        rw [Nat.zero_add, HLP.out] at hpl
        have hL0l : L0.length = LP.length + 1 := by rw [← HL0.out]; simp
        obtain ⟨bk, bn, bm, bi, bd, bbA, bbc, bs, br, hfs⟩ : ∃ bk bn bm bi bd bbA bbc bs br, f.s = Fo.cons bk bn bm bi bd bbA bbc bs br := by
          cases h : f.s with
          | nil => have := hfok.1 hfk6; rw [h] at this; simp [Fo.len] at this
          | cons k n m i d A c s r => exact ⟨_, _, _, _, _, _, _, _, _, rfl⟩
        have hfcount : bs.count + 1 ≤ f.s.count := by rw [hfs]; simp [Fo.count]
        have hbok : okC bk bs.len ∧ bs.Cok := by rw [hfs] at hfck; exact ⟨hfck.1, hfck.2.1⟩
        have hfsl := (HSl.out wr hKb).2 vars 0 f hfm
        obtain ⟨b, o, hfA, hbn, hat⟩ := hfsl.2.2 (by rw [hfs]; simp)
        have hfc2 := hfsl.2.1
        have hfc1 := hfsl.1
        rw [hfs] at hat
        obtain ⟨t0, t1, t2, t3, t4, ⟨t5, tsl⟩, _⟩ := hat
        have hcs0 := hcs
        obtain ⟨hn1, hn2, vl, vf, Fc, h3, h4, h5, h6, h7⟩ := hcs
        have hvf : vf = .slice fA F.length fc := by rw [hfb] at h5; simpa using h5.symm
        subst hvf
        obtain ⟨gf, gfc, hgf, hgf1, hgf2⟩ := own_pos h6 (by omega)
        simp only [Value.slice.injEq, true_and] at hgf
        obtain ⟨rfl, rfl⟩ := hgf
        obtain ⟨fvA, fvc, hfva, hfcs⟩ := h7.at_ hfj
        have hFcl : Fc.length = F.length * 8 := h6.1
        have hfcell : ∀ q u, q < 8 → ([.int .i64 f.k, .string f.n, .string f.m, .int .i64 f.i, .int .i64 f.d, .slice f.A f.s.len f.c, .int .i64 f.place, .slice fvA f.vars.length fvc] : List Value)[q]? = some u → wr.cell? ⟨gf, j * 8 + q, none⟩ = some u := by
          intro q u hq hu
          rw [h6.cellAt (j * 8 + q) (by omega)]
          exact hfcs q u hu
        have c0 : wr.cell? ⟨gf, j * 8, none⟩ = _ := hfcell 0 _ (by omega) rfl
        have c1 : wr.cell? ⟨gf, j * 8 + 1, none⟩ = _ := hfcell 1 _ (by omega) rfl
        have c2 : wr.cell? ⟨gf, j * 8 + 2, none⟩ = _ := hfcell 2 _ (by omega) rfl
        have c3 : wr.cell? ⟨gf, j * 8 + 3, none⟩ = _ := hfcell 3 _ (by omega) rfl
        have c4 : wr.cell? ⟨gf, j * 8 + 4, none⟩ = _ := hfcell 4 _ (by omega) rfl
        have c5 : wr.cell? ⟨gf, j * 8 + 5, none⟩ = _ := hfcell 5 _ (by omega) rfl
        have c6 : wr.cell? ⟨gf, j * 8 + 6, none⟩ = _ := hfcell 6 _ (by omega) rfl
        have c7 : wr.cell? ⟨gf, j * 8 + 7, none⟩ = _ := hfcell 7 _ (by omega) rfl
        obtain ⟨gl, lc, rfl, hlc1, hlc2⟩ := own_pos h4 (by omega)
        have HVL : Hid (Value.slice (some ⟨gl, 0, none⟩) Lc.length lc = vl0) := by
          rw [hlb] at h3
          simp only [Option.some.injEq, Obj.cells.injEq, and_true, Array.mk.injEq, List.cons.injEq] at h3
          exact h3.symm
        have hgl4 : gl < w4.heap.size := HLO.out.2 gl (by rw [← HVL.out]; rfl)
        obtain ⟨NL, HNL⟩ : ∃ Q, Hid (Lc.length = Q) := ⟨_, Lib.hid rfl⟩
        have hNL : f.place < NL := by rw [← HNL.out, hLc, hL0l]; omega
        have HLF : Hid (LP.length + 1 = NL) := by rw [← HNL.out, hLc, hL0l]; exact Lib.hid rfl
        have HFT := Lib.hid (And.intro hcs0 (And.intro hfb (And.intro hMK (And.intro hbl (And.intro hKb (And.intro hBz (And.intro HFN (And.intro hLc (And.intro h3 h4)))))))))
        have HFM := Lib.hid (And.intro hfmk hfs)
        have HCN := Lib.hid (And.intro HG (And.intro hjr HR))
        have HBO := Lib.hid (And.intro hbok tsl)
        have hbcnt : bs.count < s.count ∧ bs.count ≤ 100000 := by omega
        have hvb : f.vars.length + 1 + 2 * (1 + bs.count) ≤ 900000 := by omega
        obtain ⟨fk, fn, fm, fi, fd, fA', fcc, fs, place, fvars, fmks⟩ := f
        simp only at hfA hfl hfmx hfck hfok hfk6 hpl hfcount hfc1 hfc2 hfva c0 c1 c2 c3 c4 c5 c6 c7 hNL HFM hvb hfmk
        subst hfA
        have hflen : 0 < fs.len := by rw [HFM.out.2]; simp [Fo.len]
        unfold maxLen at hfc2
        obtain ⟨vm, Hvm⟩ : ∃ Q, Hid (fvars ++ [fn] = Q) := ⟨_, Lib.hid rfl⟩
        have hvm : vm.length + 2 * (1 + bs.count) ≤ 900000 := by rw [← Hvm.out, List.length_append]; simpa using hvb
        obtain ⟨NI, HNI⟩ : ∃ Q, Hid ((BS ++ (⟨cap, par, .slice none 0 0⟩ : Bg) :: NBs).length = Q) := ⟨_, Lib.hid rfl⟩
        obtain ⟨blf, HBLF⟩ : ∃ Q, Hid (blkOf (nodeC label bk bn bm bi bd bbA bbc bs (bs.comp label)) vm fvars.length true (BS ++ (⟨cap, par, .slice none 0 0⟩ : Bg) :: NBs).length = Q) := ⟨_, Lib.hid rfl⟩
        have HMKF : Hid (fmks NI = blf) := by
          show _ = _
          rw [← HBLF.out, ← Hvm.out, HNI.out, HFM.out.1, HFM.out.2]
          rfl
        have HNI2 : Hid (NI = BS.length + 1 + bl.length) := by
          show _ = _
          rw [← HNI.out, ← hbl.length]
          simp
          omega
        have hTOT : NI + blf.length ≤ 1000000 := by
          have h1 := HH.out.2.2.2.2
          have h2 := HFN
          simp only [fnsOf, ← HNI2.out, HMKF.out] at h2
          unfold blkOf at h1
          rw [HF.out, HLP.out, show LP ++ [retI] = L0 from HL0.out, h2] at h1
          simp only [List.length_cons, List.length_append] at h1
          have h3 := HNI2.out
          omega
        obtain ⟨W5, hW5⟩ : ∃ W5, wr.alloc (.cells #[.int .i64 fk, .string fn, .string fm, .int .i64 fi, .int .i64 fd, .slice (some ⟨b, o, none⟩) fs.len fcc, .int .i64 place, .slice fvA fvars.length fvc] 233) = W5 := ⟨_, rfl⟩
        have hB5 : Below wr.heap.size wr W5 := by rw [← hW5]; exact (Below.refl _ _).alloc (Nat.le_refl _) _
        have hz5 : wr.heap.size < W5.heap.size := by rw [← hW5]; simp
        have hx5 : W5.heap[wr.heap.size]? = some (.cells #[.int .i64 fk, .string fn, .string fm, .int .i64 fi, .int .i64 fd, .slice (some ⟨b, o, none⟩) fs.len fcc, .int .i64 place, .slice fvA fvars.length fvc] 233 (0, 0)) := by rw [← hW5]; exact heap_alloc_new wr _
        have h35 := (hB5.block w1.heap.size (lt_of_block h3)).trans h3
        rw [HNL.out] at h35
        have HS : Hid (∀ W, Kb n₀ W5 W → W.cell? ⟨w1.heap.size, 0, none⟩ = some (.slice (some ⟨gl, 0, none⟩) NL lc) ∧ W.cell? ⟨wr.heap.size, 1, none⟩ = some (.string fn) ∧ W.cell? ⟨wr.heap.size, 5, none⟩ = some (.slice (some ⟨b, o, none⟩) fs.len fcc) ∧ W.cell? ⟨wr.heap.size, 6, none⟩ = some (.int .i64 place) ∧ W.cell? ⟨wr.heap.size, 7, none⟩ = some (.slice fvA fvars.length fvc) ∧
            W.cell? ⟨b, o, none⟩ = some (.int .i64 bk) ∧ W.cell? ⟨b, o + 1, none⟩ = some (.string bn) ∧ W.cell? ⟨b, o + 2, none⟩ = some (.string bm) ∧ W.cell? ⟨b, o + 3, none⟩ = some (.int .i64 bi) ∧ W.cell? ⟨b, o + 4, none⟩ = some (.int .i64 bd) ∧ W.cell? ⟨b, o + 5, none⟩ = some (.slice bbA bs.len bbc)) := by
          intro W hW
          have hb' := (hW.box hx5 (by decide)).trans hx5
          have q : ∀ p v, wr.cell? ⟨b, p, none⟩ = some v → W.cell? ⟨b, p, none⟩ = some v := fun p v h => hW.cell (p := ⟨b, p, none⟩) (.inl hbn) ((hB5.cell (p := ⟨b, p, none⟩) (World.block_lt_of_cell? wr ⟨b, p, none⟩ h)).trans h)
          exact ⟨cell_of_one ((hW.box h35 (by decide)).trans h35), cell_of_row W wr.heap.size 1 _ _ (0, 0) hb', cell_of_row W wr.heap.size 5 _ _ (0, 0) hb', cell_of_row W wr.heap.size 6 _ _ (0, 0) hb', cell_of_row W wr.heap.size 7 _ _ (0, 0) hb', q _ _ t0, q _ _ t1, q _ _ t2, q _ _ t3, q _ _ t4, q _ _ t5⟩
        have hgl1 : gl ≠ w1.heap.size := fun e => own_ne h4 h3 (by decide) (by rw [e]; rfl)
        have hgl2 := (h4.lt gl rfl)
        have HSX : Hid (∀ W u, Kb n₀ W5 W → (W.setCell ⟨gl, place * 4 + 1, none⟩ u).cell? ⟨w1.heap.size, 0, none⟩ = some (.slice (some ⟨gl, 0, none⟩) NL lc) ∧ (W.setCell ⟨gl, place * 4 + 1, none⟩ u).cell? ⟨wr.heap.size, 1, none⟩ = some (.string fn) ∧ (W.setCell ⟨gl, place * 4 + 1, none⟩ u).cell? ⟨wr.heap.size, 5, none⟩ = some (.slice (some ⟨b, o, none⟩) fs.len fcc) ∧ (W.setCell ⟨gl, place * 4 + 1, none⟩ u).cell? ⟨wr.heap.size, 6, none⟩ = some (.int .i64 place) ∧ (W.setCell ⟨gl, place * 4 + 1, none⟩ u).cell? ⟨wr.heap.size, 7, none⟩ = some (.slice fvA fvars.length fvc) ∧
            (W.setCell ⟨gl, place * 4 + 1, none⟩ u).cell? ⟨b, o, none⟩ = some (.int .i64 bk) ∧ (W.setCell ⟨gl, place * 4 + 1, none⟩ u).cell? ⟨b, o + 1, none⟩ = some (.string bn) ∧ (W.setCell ⟨gl, place * 4 + 1, none⟩ u).cell? ⟨b, o + 2, none⟩ = some (.string bm) ∧ (W.setCell ⟨gl, place * 4 + 1, none⟩ u).cell? ⟨b, o + 3, none⟩ = some (.int .i64 bi) ∧ (W.setCell ⟨gl, place * 4 + 1, none⟩ u).cell? ⟨b, o + 4, none⟩ = some (.int .i64 bd) ∧ (W.setCell ⟨gl, place * 4 + 1, none⟩ u).cell? ⟨b, o + 5, none⟩ = some (.slice bbA bs.len bbc)) := by
          intro W u hW
          have hset : ∀ (p : Addr) v, p.block ≠ gl → W.cell? p = some v → (W.setCell ⟨gl, place * 4 + 1, none⟩ u).cell? p = some v := fun p v hp h => (World.cell?_setCell_other _ _ _ _ (fun e => hp (by rw [← e]))).trans h
          obtain ⟨a1, a2, a3, a4, a5, a6, a7, a8, a9, a10, a11⟩ := HS.out W hW
          exact ⟨hset _ _ (Ne.symm hgl1) a1, hset _ _ (by simp; omega) a2, hset _ _ (by simp; omega) a3, hset _ _ (by simp; omega) a4, hset _ _ (by simp; omega) a5, hset _ _ (by simp; omega) a6, hset _ _ (by simp; omega) a7, hset _ _ (by simp; omega) a8, hset _ _ (by simp; omega) a9, hset _ _ (by simp; omega) a10, hset _ _ (by simp; omega) a11⟩
        have HCS : Hid (∀ W, Kb n₀ W5 W → CS w1.heap.size w1.heap.size (w1.heap.size + 1) Lc F W ∧ W.heap[w1.heap.size]? = some (.cells #[.slice (some ⟨gl, 0, none⟩) Lc.length lc] 131 (0, 0)) ∧ W.heap[w1.heap.size + 1]? = some (.cells #[.slice (some ⟨gf, 0, none⟩) F.length fc] 230 (0, 0)) ∧ (∃ u, W.cell? ⟨gl, place * 4 + 1, none⟩ = some u) ∧ W.frozen? ⟨gl, place * 4 + 1, none⟩ = false) := by
          intro W hW
          have hcW := (hcs0.below hB5).kb hW
          have h3W := (hW.box h35 (by decide)).trans h35
          have h5W : W.heap[w1.heap.size + 1]? = some (.cells #[.slice (some ⟨gf, 0, none⟩) F.length fc] 230 (0, 0)) := by
            have h55 := (hB5.block _ (lt_of_block hfb)).trans hfb
            exact (hW.box h55 (by decide)).trans h55
          rw [← HNL.out] at h3W
          obtain ⟨_, _, vl, _, _, g3, g4, _⟩ := id hcW
          rw [h3W] at g3
          simp only [Option.some.injEq, Obj.cells.injEq, and_true, Array.mk.injEq, List.cons.injEq] at g3
          subst g3
          have hl4 := insC_length Lc
          have hNL' := hNL
          rw [← HNL.out] at hNL'
          have hc := g4.cellAt (place * 4 + 1) (by omega)
          rw [List.getElem?_eq_getElem (by omega)] at hc
          exact ⟨hcW, h3W, h5W, ⟨_, hc⟩, g4.frozenAt _⟩
        have HVA : Hid (∀ W, Kb n₀ W5 W → VarsAt W fvA fvc fvars) := fun W hW => (hfva.keep fun q cur fz hq => hB5.block q (lt_of_block hq)).keep hW.vars
        have HBS : Hid (∀ W, Kb n₀ W5 W → bs.Sl W n₀ bbA bbc) := fun W hW => Fo.Sl.keep HBO.out.2 (Nat.le_refl _) fun p hp => (World.cell?_of_block (hW.block p.block (by have := hKb.size; omega) (.inl hp))).trans (hB5.cell (by have := hKb.size; omega))
        have HM5 := Lib.hid (And.intro (hMK.below hB5) (hKb.trans (Kb.below hB5)))
        have HBK := Lib.hid (HI.out bs hbcnt.1)
        have HWc := Lib.hid (fun (W : World) (h1 : VarsAt W fvA fvc fvars) (h2 : SlS W W.heap.size (some ⟨W5.heap.size, 0, none⟩) 1 [fn]) => with_any fvars [fn] fvA (some ⟨W5.heap.size, 0, none⟩) fvc 1 W h1 h2 (by simp; omega))
        rw [Hvm.out] at HWc
        have HGL := Lib.hid (And.intro (show w1.heap.size ≤ gl from (h4.lt gl rfl).1) (And.intro hz5 hB5))
        obtain ⟨s1, s2, s3, s4, s5, s6, s7, s8, s9, s10, s11⟩ := HS.out W5 (Kb.refl _ _)
        have hi0 : (0 : Int) ≤ (place : Int) := by omega
        have hi1 : (place : Int) < (NL : Int) := by omega
        have hi2 : (0 : Int) < (fs.len : Int) := by omega
        have hjz : (0 : Int) ≤ (j : Int) := by omega
        clear hlb h3 h4 h5 h6 h7 hcs0 hfb hMK hbl hKb hBz HFN hLc HG HR hfva hfcs hfcell hFcl t0 t1 t2 t3 t4 t5 tsl hx5 h35 hfsl hfj hfm hfck hfok hfk6 hpl hfcount hbok hL0l hB5 hfmk hfc hfl hfmx hfs hn1 hn2
        go_wp2_with fail
        go_region_held3 (fun W => W.cell? ⟨w1.heap.size, 0, none⟩ = some (.slice (some ⟨gl, 0, none⟩) NL lc) ∧ W.cell? ⟨wr.heap.size, 1, none⟩ = some (.string fn) ∧ W.cell? ⟨wr.heap.size, 5, none⟩ = some (.slice (some ⟨b, o, none⟩) fs.len fcc) ∧ W.cell? ⟨wr.heap.size, 6, none⟩ = some (.int .i64 place) ∧ W.cell? ⟨wr.heap.size, 7, none⟩ = some (.slice fvA fvars.length fvc) ∧
            W.cell? ⟨b, o, none⟩ = some (.int .i64 bk) ∧ W.cell? ⟨b, o + 1, none⟩ = some (.string bn) ∧ W.cell? ⟨b, o + 2, none⟩ = some (.string bm) ∧ W.cell? ⟨b, o + 3, none⟩ = some (.int .i64 bi) ∧ W.cell? ⟨b, o + 4, none⟩ = some (.int .i64 bd) ∧ W.cell? ⟨b, o + 5, none⟩ = some (.slice bbA bs.len bbc))
          (first | exact HS.out _ (kb_drew _ _) | exact HS.out _ (kb_alloc_drew _ _ _) | exact HS.out _ (kb_drew_alloc _ _ _) | exact HS.out _ hk6 | exact HS.out _ (hk6.trans hk7) | exact HSX.out _ _ (hk6.trans hk7))
          (first
            | (go_at_call 190; refine (HWc.out _ (by exact HVA.out _ (kb_alloc_drew _ _ _)) (by exact more_new1 W5 fn)).mono ?_; rintro e w6 ⟨wA, wcc, rfl, hva, hb6⟩; have hb56 : Below W5.heap.size W5 w6 := blw hb6; have hk6 : Kb n₀ W5 w6 := Kb.below hb56)
            | (go_at_call 143; refine (block_at HBK.out bk bn bm bi bd bbA bbc vm wA wcc fvars.length true mb n₀ (BS ++ (⟨cap, par, .slice none 0 0⟩ : Bg) :: NBs) _ NI HNI.out blf HBLF.out (HBS.out _ hk6) HBO.out.1.1 HBO.out.1.2 hva (HM5.out.1.below hb56) hbcnt.2 hvm hTOT).mono ?_; rintro e w7 ⟨rfl, NB2, hM7, hb7, hk7⟩; have hk57 := hk6.trans hk7; obtain ⟨hcs7, hl7, hf7, ⟨u7, hc7⟩, hfz7⟩ := HCS.out _ hk57; obtain ⟨cg7, fg7, hgt7⟩ := hcs7.row hl7))
        all_goals (
          go_wp2
          go_roundg R.length
          case measure => rw [HCN.out.1]; simp
          case rel =>
            obtain ⟨g1, g2, g3⟩ := HCN.out
            refine ⟨j + 1, R, setA Lc place NI, NBs ++ NB2, bl ++ blf, rfl, by simp only [List.length_cons] at g2; omega, ?_, by go_num, ?_, ?_, ?_, ?_, ?_, ?_, ?_, ?_, ?_⟩
            · have := congrArg List.tail g3
              simpa [List.tail_drop] using this
            · rw [HFT.out.2.2.2.2.2.2.1]
              simp only [fnsOf, ← HNI2.out, HMKF.out]
              rw [show BS.length + 1 + (bl ++ blf).length = NI + blf.length by rw [List.length_append, HNI2.out]; omega]
              simp
            · rw [setA_length]; exact HFT.out.2.2.2.2.2.2.2.1
            · exact hcs7.set (by rw [HNL.out]; exact hNL) hl7 _
            · exact (Below.heap_setCell _ _ _ _ (tag_ne hf7 hgt7 (by decide))).trans hf7
            · have e : BS ++ (⟨cap, par, .slice none 0 0⟩ : Bg) :: (NBs ++ NB2) = (BS ++ (⟨cap, par, .slice none 0 0⟩ : Bg) :: NBs) ++ NB2 := by simp
              rw [e]
              refine hM7.keep fun q cur tt fz hq ht _ => Below.heap_setCell _ _ _ _ (tag_ne hq hgt7 ?_)
              rcases ht with rfl | rfl <;> decide
            · have hs7 := hk57.size
              have hs6 := hb56.size
              have hsB := HFT.out.2.2.2.2.2.1
              refine BlksAt.append (BlksAt.keep (X := w7) ?_ (hb7.mono (by omega))) (BlksAt.keep (X := w7) ?_ (BlksAt.keep (X := wr) ?_ HFT.out.2.2.2.1))
              · exact fun q cur fz hq _ => Below.heap_setCell _ _ _ _ (by simp; omega)
              · exact fun q cur fz hq _ => Below.heap_setCell _ _ _ _ (by simp; omega)
              · exact ((Kb.below (n₀ := n₀) HGL.out.2.2).trans hk57).ins
            · exact (HM5.out.2.trans hk57).set (by have := HGL.out.1; simp; omega) _
            · have hs7 := hk57.size
              have hsB := HFT.out.2.2.2.2.2.1
              simp [World.setCell]
              omega
            · refine (Below.heap_setCell _ _ _ _ (tag_ne hl7 hgt7 (by decide))).trans ?_
              rw [hl7, HVL.out])

theorem block_any (label : ByteArray) (s : Fo) : BlockOK label s := by
  have h : ∀ N, ∀ s : Fo, s.count < N → BlockOK label s := by
    intro N
    induction N with
    | zero => intro s h; omega
    | succ N ih => intro s h; exact block_step label s fun s' h' => ih s' (by omega)
  exact h _ s (Nat.lt_succ_self _)
end Go.Proofs.YtlpipoihinceiaaGreatDoor
