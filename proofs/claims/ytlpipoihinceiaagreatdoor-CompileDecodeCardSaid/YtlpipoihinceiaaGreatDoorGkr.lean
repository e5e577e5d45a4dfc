/- maker.expr: the calls of its parts and closures, in one form -/
import Derived.Test.YtlpipoihinceiaaGreatDoorGkp
import Derived.Test.YtlpipoihinceiaaGreatDoorGkq
namespace Go.Proofs.YtlpipoihinceiaaGreatDoor
open Go.RowKit Go.Proofs Go.Shelf

theorem heap_foldl_lt : ∀ (os : List Obj) (w : World) (k : Nat), k < w.heap.size → (os.foldl World.alloc w).heap[k]? = w.heap[k]?
  | [], _, _, _ => rfl
  | o :: os, w, k, h => (heap_foldl_lt os (w.alloc o) k (by simp; omega)).trans (Below.heap_alloc w o k h)
theorem heap_allocs : ∀ (os : List Obj) (w : World) (j : Nat) (o : Obj), os[j]? = some o → (os.foldl World.alloc w).heap[w.heap.size + j]? = some o
  | [], _, _, _, h => by simp at h
  | o :: os, w, 0, o', h => by
    simp only [List.getElem?_cons_zero, Option.some.injEq] at h
    subst h
    exact (heap_foldl_lt os (w.alloc o) _ (by simp)).trans (World.alloc_heap_new w o)
  | o :: os, w, j + 1, o', h => by
    have := heap_allocs os (w.alloc o) j o' (by simpa using h)
    rw [World.size_alloc] at this
    rw [show w.heap.size + (j + 1) = w.heap.size + 1 + j by omega]
    exact this
theorem below_allocs : ∀ (os : List Obj) (w : World), Below w.heap.size w (os.foldl World.alloc w)
  | [], w => Below.refl _ _
  | o :: os, w => ((Below.refl _ w).alloc (Nat.le_refl _) o).trans ((below_allocs os (w.alloc o)).mono (by simp))

/-- What maker.expr has at hand. -/
structure Env (label : ByteArray) (s : Fo) (k : Int) (n m : ByteArray) (i d : Int) (A : Option Addr) (c : Nat) (vars : List ByteArray) (vA : Option Addr) (vc mb n₀ lb fb : Nat) (bk be bv b1 b2 b3 : Nat) (W : World) : Prop where
  bx : Bxs mb lb fb k n m i d A s.len c vA vars.length vc bk be bv b1 b2 b3 W
  sl : s.Sl W n₀ A c
  va : VarsAt W vA vc vars
  mc : W.cell? ⟨mb, 0, none⟩ = some (.string label)
  mb : mb < n₀
  sz : n₀ ≤ W.heap.size
section
variable {label : ByteArray} {s : Fo} {k : Int} {n m : ByteArray} {i d : Int} {A : Option Addr} {c : Nat} {vars : List ByteArray} {vA : Option Addr} {vc mb n₀ lb fb : Nat} {bk be bv b1 b2 b3 : Nat} {W Y : World}
theorem Env.kc (h : Env label s k n m i d A c vars vA vc mb n₀ lb fb bk be bv b1 b2 b3 W) (hk : Kc n₀ W Y) : Env label s k n m i d A c vars vA vc mb n₀ lb fb bk be bv b1 b2 b3 Y :=
  ⟨h.bx.kc hk, h.sl.keep (Nat.le_refl _) fun p hp => World.cell?_of_block (hk.block p.block (by have := h.sz; omega) (.inl hp)), h.va.keep hk.vars, hk.cell (p := ⟨mb, 0, none⟩) (.inl h.mb) h.mc, h.mb, Nat.le_trans h.sz hk.size⟩
theorem Env.cells (h : Env label s k n m i d A c vars vA vc mb n₀ lb fb bk be bv b1 b2 b3 W) :
    W.cell? ⟨be, 0, none⟩ = some (.int .i64 k) ∧ W.cell? ⟨be, 1, none⟩ = some (.string n) ∧ W.cell? ⟨be, 2, none⟩ = some (.string m) ∧
    W.cell? ⟨b1, 0, none⟩ = some (.func (.func 186) #[] #[.pointer (some ⟨lb, 0, none⟩)]) ∧ W.cell? ⟨b3, 0, none⟩ = some (.func (.func 188) #[] #[.pointer (some ⟨lb, 0, none⟩)]) :=
  ⟨cell_of_row W be 0 _ _ (0, 0) h.bx.xe, cell_of_row W be 1 _ _ (0, 0) h.bx.xe, cell_of_row W be 2 _ _ (0, 0) h.bx.xe, cell_of_one h.bx.x1, cell_of_one h.bx.x3⟩
theorem Env.cells2 (h : Env label s k n m i d A c vars vA vc mb n₀ lb fb bk be bv b1 b2 b3 W) :
    W.cell? ⟨bk, 0, none⟩ = some (.pointer (some ⟨mb, 0, none⟩)) ∧ W.cell? ⟨be, 0, none⟩ = some (.int .i64 k) ∧ W.cell? ⟨be, 1, none⟩ = some (.string n) ∧ W.cell? ⟨be, 2, none⟩ = some (.string m) ∧ W.cell? ⟨be, 3, none⟩ = some (.int .i64 i) ∧ W.cell? ⟨be, 4, none⟩ = some (.int .i64 d) ∧ W.cell? ⟨be, 5, none⟩ = some (.slice A s.len c) ∧
    W.cell? ⟨bv, 0, none⟩ = some (.slice vA vars.length vc) ∧ W.cell? ⟨b1, 0, none⟩ = some (.func (.func 186) #[] #[.pointer (some ⟨lb, 0, none⟩)]) ∧ W.cell? ⟨b2, 0, none⟩ = some (.func (.func 187) #[] #[.pointer (some ⟨fb, 0, none⟩)]) :=
  ⟨cell_of_one h.bx.xk, cell_of_row W be 0 _ _ (0, 0) h.bx.xe, cell_of_row W be 1 _ _ (0, 0) h.bx.xe, cell_of_row W be 2 _ _ (0, 0) h.bx.xe, cell_of_row W be 3 _ _ (0, 0) h.bx.xe, cell_of_row W be 4 _ _ (0, 0) h.bx.xe, cell_of_row W be 5 _ _ (0, 0) h.bx.xe, cell_of_one h.bx.xv, cell_of_one h.bx.x1, cell_of_one h.bx.x2⟩

def PartP (n₀ lb fb : Nat) (L : List Ins) (F : List FnE) (W : World) (e : Ending) (Y : World) : Prop := (∃ v, e = .returned v) ∧ CS n₀ lb fb L F Y ∧ Kc n₀ W Y
theorem part_at (h : Env label s k n m i d A c vars vA vc mb n₀ lb fb bk be bv b1 b2 b3 W) {L : List Ins} {F : List FnE} (hcs : CS n₀ lb fb L F W) {j : Nat} {t : Tr} (ht : s.tree j = some t) (ih : ExprOK label t.s) (hck : s.Cok) (jz : Int) (hj : jz = j) (more : List ByteArray) (mA : Option Addr) (ml mc : Nat) (hml : ml = more.length) (hm : SlS W W.heap.size mA mc more)
    (L' : List Ins) (F' : List FnE) (hL' : L ++ (t.comp label (vars ++ more) L.length).1 = L') (hF' : F ++ (t.comp label (vars ++ more) L.length).2 = F')
    (hL : L.length + 3 * (1 + t.s.count) ≤ 1000000) (hF : F.length + 1 + t.s.count ≤ 1000000) (hvl : vars.length + ml + 2 * (1 + t.s.count) ≤ 1000000) :
    Calls Tryz.prog 222 #[.int .i64 jz, .slice mA ml mc, .pointer (some ⟨bk, 0, none⟩), .pointer (some ⟨be, 0, none⟩), .pointer (some ⟨bv, 0, none⟩), .pointer (some ⟨b1, 0, none⟩), .pointer (some ⟨b2, 0, none⟩), .pointer (some ⟨b3, 0, none⟩)] W (PartP n₀ lb fb L' F' W) := by
  subst hj hml hL' hF'
  exact part_any label s j t ht ih k n m i d A c vars more vA mA vc mc mb n₀ lb fb L F bk be bv b1 b2 b3 W h.bx h.sl hck h.va hm h.mc h.mb hcs hL hF hvl
end
def EmitP (n₀ lb fb : Nat) (N : Nat) (L : List Ins) (F : List FnE) (W : World) (e : Ending) (Y : World) : Prop := e = .returned (.int .i64 N) ∧ CS n₀ lb fb L F Y ∧ Kc n₀ W Y
theorem emit_at {n₀ lb fb : Nat} {L : List Ins} {F : List FnE} {W : World} (h : CS n₀ lb fb L F W) (op a b : Int) (nm : ByteArray) (hL : L.length ≤ 1000000) (N : Nat) (hN : L.length = N) (L' : List Ins) (hL' : L ++ [⟨op, a, b, nm⟩] = L') :
    Calls Tryz.prog 186 #[.agg #[.int .i64 op, .int .i64 a, .int .i64 b, .string nm], .pointer (some ⟨lb, 0, none⟩)] W (EmitP n₀ lb fb N L' F W) := by
  subst hN hL'
  exact emit_any op a b nm n₀ lb fb L F W h hL
theorem target_at {n₀ lb fb : Nat} {L : List Ins} {F : List FnE} {W : World} (h : CS n₀ lb fb L F W) (j : Nat) (hj : j < L.length) (hL : L.length ≤ 1000000) (L' : List Ins) (hL' : setA L j L.length = L') :
    Calls Tryz.prog 188 #[.int .i64 j, .pointer (some ⟨lb, 0, none⟩)] W (PartP n₀ lb fb L' F W) := by
  subst hL'
  exact target_any j n₀ lb fb L F W h hj hL

/-- The contract at one kind of node. -/
def ExprAt (label : ByteArray) (k : Int) (s : Fo) : Prop := ∀ (n m : ByteArray) (i d : Int) (A : Option Addr) (c : Nat) (vars : List ByteArray) (vA : Option Addr) (vc mb n₀ lb fb : Nat) (L : List Ins) (F : List FnE) (X : World),
    s.Sl X n₀ A c → okC k s.len → s.Cok → VarsAt X vA vc vars → X.cell? ⟨mb, 0, none⟩ = some (.string label) → mb < n₀ → CS n₀ lb fb L F X →
    L.length + 3 * (1 + s.count) ≤ 1000000 → F.length + 1 + s.count ≤ 1000000 → vars.length + 2 * (1 + s.count) ≤ 1000000 →
    Calls Tryz.prog 189 #[.pointer (some ⟨mb, 0, none⟩), .agg #[.int .i64 k, .string n, .string m, .int .i64 i, .int .i64 d, .slice A s.len c], .slice vA vars.length vc, .func (.func 186) #[] #[.pointer (some ⟨lb, 0, none⟩)], .func (.func 187) #[] #[.pointer (some ⟨fb, 0, none⟩)], .func (.func 188) #[] #[.pointer (some ⟨lb, 0, none⟩)]] X
      (PartP n₀ lb fb (L ++ (nodeC label k n m i d A c s (s.comp label) vars L.length).1) (F ++ (nodeC label k n m i d A c s (s.comp label) vars L.length).2) X)

theorem env_start (label : ByteArray) (s : Fo) (k : Int) (n m : ByteArray) (i d : Int) (A : Option Addr) (c : Nat) (vars : List ByteArray) (vA : Option Addr) (vc mb n₀ lb fb : Nat) (L : List Ins) (F : List FnE) (X W0 : World) (hs : s.Sl X n₀ A c) (hv : VarsAt X vA vc vars) (hmc : X.cell? ⟨mb, 0, none⟩ = some (.string label)) (hmb : mb < n₀) (hcs : CS n₀ lb fb L F X)
    (hW0 : (((((X.alloc (.cells #[.pointer (some ⟨mb, 0, none⟩)] 188)).alloc (.cells #[.int .i64 k, .string n, .string m, .int .i64 i, .int .i64 d, .slice A s.len c] 28)).alloc (.cells #[.slice vA vars.length vc] 22)).alloc (.cells #[.func (.func 186) #[] #[.pointer (some ⟨lb, 0, none⟩)]] 231)).alloc (.cells #[.func (.func 187) #[] #[.pointer (some ⟨fb, 0, none⟩)]] 234)).alloc (.cells #[.func (.func 188) #[] #[.pointer (some ⟨lb, 0, none⟩)]] 159) = W0) :
    Env label s k n m i d A c vars vA vc mb n₀ lb fb X.heap.size (X.heap.size + 1) (X.heap.size + 1 + 1) (X.heap.size + 1 + 1 + 1) (X.heap.size + 1 + 1 + 1 + 1) (X.heap.size + 1 + 1 + 1 + 1 + 1) W0 ∧ CS n₀ lb fb L F W0 ∧ Kc n₀ X W0 := by
  obtain ⟨os, hos⟩ : ∃ os : List Obj, [.cells #[.pointer (some ⟨mb, 0, none⟩)] 188, .cells #[.int .i64 k, .string n, .string m, .int .i64 i, .int .i64 d, .slice A s.len c] 28, .cells #[.slice vA vars.length vc] 22, .cells #[.func (.func 186) #[] #[.pointer (some ⟨lb, 0, none⟩)]] 231, .cells #[.func (.func 187) #[] #[.pointer (some ⟨fb, 0, none⟩)]] 234, .cells #[.func (.func 188) #[] #[.pointer (some ⟨lb, 0, none⟩)]] 159] = os := ⟨_, rfl⟩
  have hW : os.foldl World.alloc X = W0 := by rw [← hos]; exact hW0
  have hat : ∀ j o, os[j]? = some o → W0.heap[X.heap.size + j]? = some o := fun j o h => by rw [← hW]; exact heap_allocs os X j o h
  have hB : Below X.heap.size X W0 := by rw [← hW]; exact below_allocs os X
  have hn := hcs.lt
  subst hos
  refine ⟨⟨⟨hat 0 _ rfl, hat 1 _ rfl, hat 2 _ rfl, hat 3 _ rfl, hat 4 _ rfl, hat 5 _ rfl⟩, hs.keep (Nat.le_refl _) fun p hp => hB.cell (by omega), hv.keep fun q cur fz hq => hB.block q (lt_of_block hq), (hB.cell (p := ⟨mb, 0, none⟩) (by simp; omega)).trans hmc, hmb, by have := hB.size; omega⟩, hcs.below hB, Kc.below hB⟩
end Go.Proofs.YtlpipoihinceiaaGreatDoor
/- maker.expr at calls, operators and lists -/
namespace Go.Proofs.YtlpipoihinceiaaGreatDoor
open Go.RowKit Go.Proofs Go.Shelf

theorem Fo.tree_some : ∀ {s : Fo} {j : Nat}, j < s.len → ∃ t, s.tree j = some t
  | .nil, _, h => by simp [Fo.len] at h
  | .cons .., 0, _ => ⟨_, rfl⟩
  | .cons _ _ _ _ _ _ _ _ r, j + 1, h => Fo.tree_some (s := r) (by simp [Fo.len] at h; omega)

set_option maxRecDepth 100000 in
set_option maxHeartbeats 2000000 in
theorem expr_7 (label : ByteArray) (s : Fo) (ih : s.All (ExprOK label)) : ExprAt label 7 s := by
  intro n m i d A c vars vA vc mb n₀ lb fb L F X hs hok hck hv hmc hmb hcs hL hF hvl
  have hlen : 2 ≤ s.len := hok.2.1 (by omega)
  obtain ⟨t0, ht0⟩ := Fo.tree_some (s := s) (j := 0) (by omega)
  obtain ⟨t1, ht1⟩ := Fo.tree_some (s := s) (j := 1) (by omega)
  have g0 := Lib.hid (Fo.comp_tree label ht0)
  have c0 : s.cnt 0 = 1 + t0.s.count := by unfold Fo.cnt; rw [ht0]
  have l0 := Lib.hid (t0.comp_len label)
  have g1 := Lib.hid (Fo.comp_tree label ht1)
  have c1 : s.cnt 1 = 1 + t1.s.count := by unfold Fo.cnt; rw [ht1]
  have l1 := Lib.hid (t1.comp_len label)
  have cc := s.cnt_two
  rw [c0, c1] at cc
  clear c0 c1
  have HT := Lib.hid (And.intro hck (And.intro (And.intro ht0 (ih.tree ht0)) (And.intro ht1 (ih.tree ht1))))
  clear hck ht0 ht1 ih hlen hok
  obtain ⟨W0, hW0⟩ : ∃ W0, (((((X.alloc (.cells #[.pointer (some ⟨mb, 0, none⟩)] 188)).alloc (.cells #[.int .i64 7, .string n, .string m, .int .i64 i, .int .i64 d, .slice A s.len c] 28)).alloc (.cells #[.slice vA vars.length vc] 22)).alloc (.cells #[.func (.func 186) #[] #[.pointer (some ⟨lb, 0, none⟩)]] 231)).alloc (.cells #[.func (.func 187) #[] #[.pointer (some ⟨fb, 0, none⟩)]] 234)).alloc (.cells #[.func (.func 188) #[] #[.pointer (some ⟨lb, 0, none⟩)]] 159) = W0 := ⟨_, rfl⟩
  obtain ⟨E0, cs0, hk0⟩ := env_start label s 7 n m i d A c vars vA vc mb n₀ lb fb L F X W0 hs hv hmc hmb hcs hW0
  clear hs hv hmc hcs
  obtain ⟨L1, HL1⟩ : ∃ L1, Hid (L ++ (t0.comp label (vars ++ []) L.length).1 = L1) := ⟨_, Lib.hid rfl⟩
  obtain ⟨F1, HF1⟩ : ∃ F1, Hid (F ++ (t0.comp label (vars ++ []) L.length).2 = F1) := ⟨_, Lib.hid rfl⟩
  obtain ⟨L2, HL2⟩ : ∃ L2, Hid (L1 ++ (t1.comp label (vars ++ []) L1.length).1 = L2) := ⟨_, Lib.hid rfl⟩
  obtain ⟨F2, HF2⟩ : ∃ F2, Hid (F1 ++ (t1.comp label (vars ++ []) L1.length).2 = F2) := ⟨_, Lib.hid rfl⟩
  obtain ⟨L3, HL3⟩ : ∃ L3, Hid (L2 ++ [(⟨6, 0, 0, ⟨#[]⟩⟩ : Ins)] = L3) := ⟨_, Lib.hid rfl⟩
  have HR1 : Hid (L ++ (nodeC label 7 n m i d A c s (s.comp label) vars L.length).1 = L3) := by
    show _ = _
    have e : (nodeC label 7 n m i d A c s (s.comp label) vars L.length).1 = (twoC (t0.comp label) (t1.comp label) (⟨6, 0, 0, ⟨#[]⟩⟩ : Ins) vars L.length).1 := by rw [← g0.out, ← g1.out]; rfl
    rw [e, ← HL3.out, ← HL2.out, ← HL1.out]
    simp [twoC]
  have HR2 : Hid (F ++ (nodeC label 7 n m i d A c s (s.comp label) vars L.length).2 = F2) := by
    show _ = _
    have e : (nodeC label 7 n m i d A c s (s.comp label) vars L.length).2 = (twoC (t0.comp label) (t1.comp label) (⟨6, 0, 0, ⟨#[]⟩⟩ : Ins) vars L.length).2 := by rw [← g0.out, ← g1.out]; rfl
    rw [e, ← HF2.out, ← HF1.out, ← HL1.out]
    simp [twoC]
  have q1 : L1.length ≤ L.length + 3 * (1 + t0.s.count) := by rw [← HL1.out, List.length_append]; have := (l0.out (vars ++ []) L.length).1; omega
  have q2 : F1.length ≤ F.length + (1 + t0.s.count) := by rw [← HF1.out, List.length_append]; have := (l0.out (vars ++ []) L.length).2.1; omega
  have q3 : L2.length ≤ L1.length + 3 * (1 + t1.s.count) := by rw [← HL2.out, List.length_append]; have := (l1.out (vars ++ []) L1.length).1; omega
  rw [HR1.out, HR2.out]
  obtain ⟨r0, r1, r2, r3, r4⟩ := E0.cells
  go_enter Tryz.func189, Tryz.ntmps189
  go_wp2_with fail
  refine (part_at E0 cs0 HT.out.2.1.1 HT.out.2.1.2 HT.out.1 0 rfl [] none 0 0 rfl (SlS.nil _ _ _ _ (by simp [maxLen])) L1 F1 HL1.out HF1.out (by omega) (by omega) (by omega)).mono ?_
  rintro e w1 ⟨⟨v1, rfl⟩, cs1, hk1⟩
  have E1 := E0.kc hk1
  have K1 := Lib.hid (hk0.trans hk1)
  clear cs0 hk0 hk1 E0 r0 r1 r2 r3 r4 hW0
  obtain ⟨r0, r1, r2, r3, r4⟩ := E1.cells
  go_wp2_with fail
  refine (part_at E1 cs1 HT.out.2.2.1 HT.out.2.2.2 HT.out.1 1 rfl [] none 0 0 rfl (SlS.nil _ _ _ _ (by simp [maxLen])) L2 F2 HL2.out HF2.out (by omega) (by omega) (by omega)).mono ?_
  rintro e w2 ⟨⟨v2, rfl⟩, cs2, hk2⟩
  have E2 := E1.kc hk2
  have K2 := Lib.hid (K1.out.trans hk2)
  clear cs1 hk2 E1 r0 r1 r2 r3 r4
  obtain ⟨r0, r1, r2, r3, r4⟩ := E2.cells
  go_wp2_with fail
  refine (emit_at cs2 6 0 0 ⟨#[]⟩ (by omega) _ rfl L3 HL3.out).mono ?_
  rintro e w3 ⟨rfl, cs3, hk3⟩
  go_wp2
  go_end0
  exact ⟨⟨_, rfl⟩, cs3, K2.out.trans hk3⟩

set_option maxRecDepth 100000 in
set_option maxHeartbeats 2000000 in
theorem expr_10 (label : ByteArray) (s : Fo) (ih : s.All (ExprOK label)) : ExprAt label 10 s := by
  intro n m i d A c vars vA vc mb n₀ lb fb L F X hs hok hck hv hmc hmb hcs hL hF hvl
  have hlen : 2 ≤ s.len := hok.2.1 (by omega)
  obtain ⟨t0, ht0⟩ := Fo.tree_some (s := s) (j := 0) (by omega)
  obtain ⟨t1, ht1⟩ := Fo.tree_some (s := s) (j := 1) (by omega)
  have g0 := Lib.hid (Fo.comp_tree label ht0)
  have c0 : s.cnt 0 = 1 + t0.s.count := by unfold Fo.cnt; rw [ht0]
  have l0 := Lib.hid (t0.comp_len label)
  have g1 := Lib.hid (Fo.comp_tree label ht1)
  have c1 : s.cnt 1 = 1 + t1.s.count := by unfold Fo.cnt; rw [ht1]
  have l1 := Lib.hid (t1.comp_len label)
  have cc := s.cnt_two
  rw [c0, c1] at cc
  clear c0 c1
  have HT := Lib.hid (And.intro hck (And.intro (And.intro ht0 (ih.tree ht0)) (And.intro ht1 (ih.tree ht1))))
  clear hck ht0 ht1 ih hlen hok
  obtain ⟨W0, hW0⟩ : ∃ W0, (((((X.alloc (.cells #[.pointer (some ⟨mb, 0, none⟩)] 188)).alloc (.cells #[.int .i64 10, .string n, .string m, .int .i64 i, .int .i64 d, .slice A s.len c] 28)).alloc (.cells #[.slice vA vars.length vc] 22)).alloc (.cells #[.func (.func 186) #[] #[.pointer (some ⟨lb, 0, none⟩)]] 231)).alloc (.cells #[.func (.func 187) #[] #[.pointer (some ⟨fb, 0, none⟩)]] 234)).alloc (.cells #[.func (.func 188) #[] #[.pointer (some ⟨lb, 0, none⟩)]] 159) = W0 := ⟨_, rfl⟩
  obtain ⟨E0, cs0, hk0⟩ := env_start label s 10 n m i d A c vars vA vc mb n₀ lb fb L F X W0 hs hv hmc hmb hcs hW0
  clear hs hv hmc hcs
  obtain ⟨L1, HL1⟩ : ∃ L1, Hid (L ++ (t0.comp label (vars ++ []) L.length).1 = L1) := ⟨_, Lib.hid rfl⟩
  obtain ⟨F1, HF1⟩ : ∃ F1, Hid (F ++ (t0.comp label (vars ++ []) L.length).2 = F1) := ⟨_, Lib.hid rfl⟩
  obtain ⟨L2, HL2⟩ : ∃ L2, Hid (L1 ++ (t1.comp label (vars ++ []) L1.length).1 = L2) := ⟨_, Lib.hid rfl⟩
  obtain ⟨F2, HF2⟩ : ∃ F2, Hid (F1 ++ (t1.comp label (vars ++ []) L1.length).2 = F2) := ⟨_, Lib.hid rfl⟩
  obtain ⟨L3, HL3⟩ : ∃ L3, Hid (L2 ++ [(⟨10, 0, 0, n⟩ : Ins)] = L3) := ⟨_, Lib.hid rfl⟩
  have HR1 : Hid (L ++ (nodeC label 10 n m i d A c s (s.comp label) vars L.length).1 = L3) := by
    show _ = _
    have e : (nodeC label 10 n m i d A c s (s.comp label) vars L.length).1 = (twoC (t0.comp label) (t1.comp label) (⟨10, 0, 0, n⟩ : Ins) vars L.length).1 := by rw [← g0.out, ← g1.out]; rfl
    rw [e, ← HL3.out, ← HL2.out, ← HL1.out]
    simp [twoC]
  have HR2 : Hid (F ++ (nodeC label 10 n m i d A c s (s.comp label) vars L.length).2 = F2) := by
    show _ = _
    have e : (nodeC label 10 n m i d A c s (s.comp label) vars L.length).2 = (twoC (t0.comp label) (t1.comp label) (⟨10, 0, 0, n⟩ : Ins) vars L.length).2 := by rw [← g0.out, ← g1.out]; rfl
    rw [e, ← HF2.out, ← HF1.out, ← HL1.out]
    simp [twoC]
  have q1 : L1.length ≤ L.length + 3 * (1 + t0.s.count) := by rw [← HL1.out, List.length_append]; have := (l0.out (vars ++ []) L.length).1; omega
  have q2 : F1.length ≤ F.length + (1 + t0.s.count) := by rw [← HF1.out, List.length_append]; have := (l0.out (vars ++ []) L.length).2.1; omega
  have q3 : L2.length ≤ L1.length + 3 * (1 + t1.s.count) := by rw [← HL2.out, List.length_append]; have := (l1.out (vars ++ []) L1.length).1; omega
  rw [HR1.out, HR2.out]
  obtain ⟨r0, r1, r2, r3, r4⟩ := E0.cells
  go_enter Tryz.func189, Tryz.ntmps189
  go_wp2_with fail
  refine (part_at E0 cs0 HT.out.2.1.1 HT.out.2.1.2 HT.out.1 0 rfl [] none 0 0 rfl (SlS.nil _ _ _ _ (by simp [maxLen])) L1 F1 HL1.out HF1.out (by omega) (by omega) (by omega)).mono ?_
  rintro e w1 ⟨⟨v1, rfl⟩, cs1, hk1⟩
  have E1 := E0.kc hk1
  have K1 := Lib.hid (hk0.trans hk1)
  clear cs0 hk0 hk1 E0 r0 r1 r2 r3 r4 hW0
  obtain ⟨r0, r1, r2, r3, r4⟩ := E1.cells
  go_wp2_with fail
  refine (part_at E1 cs1 HT.out.2.2.1 HT.out.2.2.2 HT.out.1 1 rfl [] none 0 0 rfl (SlS.nil _ _ _ _ (by simp [maxLen])) L2 F2 HL2.out HF2.out (by omega) (by omega) (by omega)).mono ?_
  rintro e w2 ⟨⟨v2, rfl⟩, cs2, hk2⟩
  have E2 := E1.kc hk2
  have K2 := Lib.hid (K1.out.trans hk2)
  clear cs1 hk2 E1 r0 r1 r2 r3 r4
  obtain ⟨r0, r1, r2, r3, r4⟩ := E2.cells
  go_wp2_with fail
  refine (emit_at cs2 10 0 0 n (by omega) _ rfl L3 HL3.out).mono ?_
  rintro e w3 ⟨rfl, cs3, hk3⟩
  go_wp2
  go_end0
  exact ⟨⟨_, rfl⟩, cs3, K2.out.trans hk3⟩

set_option maxRecDepth 100000 in
set_option maxHeartbeats 2000000 in
theorem expr_12 (label : ByteArray) (s : Fo) (ih : s.All (ExprOK label)) : ExprAt label 12 s := by
  intro n m i d A c vars vA vc mb n₀ lb fb L F X hs hok hck hv hmc hmb hcs hL hF hvl
  have hlen : 2 ≤ s.len := hok.2.1 (by omega)
  obtain ⟨t0, ht0⟩ := Fo.tree_some (s := s) (j := 0) (by omega)
  obtain ⟨t1, ht1⟩ := Fo.tree_some (s := s) (j := 1) (by omega)
  have g0 := Lib.hid (Fo.comp_tree label ht0)
  have c0 : s.cnt 0 = 1 + t0.s.count := by unfold Fo.cnt; rw [ht0]
  have l0 := Lib.hid (t0.comp_len label)
  have g1 := Lib.hid (Fo.comp_tree label ht1)
  have c1 : s.cnt 1 = 1 + t1.s.count := by unfold Fo.cnt; rw [ht1]
  have l1 := Lib.hid (t1.comp_len label)
  have cc := s.cnt_two
  rw [c0, c1] at cc
  clear c0 c1
  have HT := Lib.hid (And.intro hck (And.intro (And.intro ht0 (ih.tree ht0)) (And.intro ht1 (ih.tree ht1))))
  clear hck ht0 ht1 ih hlen hok
  obtain ⟨W0, hW0⟩ : ∃ W0, (((((X.alloc (.cells #[.pointer (some ⟨mb, 0, none⟩)] 188)).alloc (.cells #[.int .i64 12, .string n, .string m, .int .i64 i, .int .i64 d, .slice A s.len c] 28)).alloc (.cells #[.slice vA vars.length vc] 22)).alloc (.cells #[.func (.func 186) #[] #[.pointer (some ⟨lb, 0, none⟩)]] 231)).alloc (.cells #[.func (.func 187) #[] #[.pointer (some ⟨fb, 0, none⟩)]] 234)).alloc (.cells #[.func (.func 188) #[] #[.pointer (some ⟨lb, 0, none⟩)]] 159) = W0 := ⟨_, rfl⟩
  obtain ⟨E0, cs0, hk0⟩ := env_start label s 12 n m i d A c vars vA vc mb n₀ lb fb L F X W0 hs hv hmc hmb hcs hW0
  clear hs hv hmc hcs
  obtain ⟨L1, HL1⟩ : ∃ L1, Hid (L ++ (t0.comp label (vars ++ []) L.length).1 = L1) := ⟨_, Lib.hid rfl⟩
  obtain ⟨F1, HF1⟩ : ∃ F1, Hid (F ++ (t0.comp label (vars ++ []) L.length).2 = F1) := ⟨_, Lib.hid rfl⟩
  obtain ⟨L2, HL2⟩ : ∃ L2, Hid (L1 ++ (t1.comp label (vars ++ []) L1.length).1 = L2) := ⟨_, Lib.hid rfl⟩
  obtain ⟨F2, HF2⟩ : ∃ F2, Hid (F1 ++ (t1.comp label (vars ++ []) L1.length).2 = F2) := ⟨_, Lib.hid rfl⟩
  obtain ⟨L3, HL3⟩ : ∃ L3, Hid (L2 ++ [(⟨12, 0, 0, ⟨#[]⟩⟩ : Ins)] = L3) := ⟨_, Lib.hid rfl⟩
  have HR1 : Hid (L ++ (nodeC label 12 n m i d A c s (s.comp label) vars L.length).1 = L3) := by
    show _ = _
    have e : (nodeC label 12 n m i d A c s (s.comp label) vars L.length).1 = (twoC (t0.comp label) (t1.comp label) (⟨12, 0, 0, ⟨#[]⟩⟩ : Ins) vars L.length).1 := by rw [← g0.out, ← g1.out]; rfl
    rw [e, ← HL3.out, ← HL2.out, ← HL1.out]
    simp [twoC]
  have HR2 : Hid (F ++ (nodeC label 12 n m i d A c s (s.comp label) vars L.length).2 = F2) := by
    show _ = _
    have e : (nodeC label 12 n m i d A c s (s.comp label) vars L.length).2 = (twoC (t0.comp label) (t1.comp label) (⟨12, 0, 0, ⟨#[]⟩⟩ : Ins) vars L.length).2 := by rw [← g0.out, ← g1.out]; rfl
    rw [e, ← HF2.out, ← HF1.out, ← HL1.out]
    simp [twoC]
  have q1 : L1.length ≤ L.length + 3 * (1 + t0.s.count) := by rw [← HL1.out, List.length_append]; have := (l0.out (vars ++ []) L.length).1; omega
  have q2 : F1.length ≤ F.length + (1 + t0.s.count) := by rw [← HF1.out, List.length_append]; have := (l0.out (vars ++ []) L.length).2.1; omega
  have q3 : L2.length ≤ L1.length + 3 * (1 + t1.s.count) := by rw [← HL2.out, List.length_append]; have := (l1.out (vars ++ []) L1.length).1; omega
  rw [HR1.out, HR2.out]
  obtain ⟨r0, r1, r2, r3, r4⟩ := E0.cells
  go_enter Tryz.func189, Tryz.ntmps189
  go_wp2_with fail
  refine (part_at E0 cs0 HT.out.2.1.1 HT.out.2.1.2 HT.out.1 0 rfl [] none 0 0 rfl (SlS.nil _ _ _ _ (by simp [maxLen])) L1 F1 HL1.out HF1.out (by omega) (by omega) (by omega)).mono ?_
  rintro e w1 ⟨⟨v1, rfl⟩, cs1, hk1⟩
  have E1 := E0.kc hk1
  have K1 := Lib.hid (hk0.trans hk1)
  clear cs0 hk0 hk1 E0 r0 r1 r2 r3 r4 hW0
  obtain ⟨r0, r1, r2, r3, r4⟩ := E1.cells
  go_wp2_with fail
  refine (part_at E1 cs1 HT.out.2.2.1 HT.out.2.2.2 HT.out.1 1 rfl [] none 0 0 rfl (SlS.nil _ _ _ _ (by simp [maxLen])) L2 F2 HL2.out HF2.out (by omega) (by omega) (by omega)).mono ?_
  rintro e w2 ⟨⟨v2, rfl⟩, cs2, hk2⟩
  have E2 := E1.kc hk2
  have K2 := Lib.hid (K1.out.trans hk2)
  clear cs1 hk2 E1 r0 r1 r2 r3 r4
  obtain ⟨r0, r1, r2, r3, r4⟩ := E2.cells
  go_wp2_with fail
  refine (emit_at cs2 12 0 0 ⟨#[]⟩ (by omega) _ rfl L3 HL3.out).mono ?_
  rintro e w3 ⟨rfl, cs3, hk3⟩
  go_wp2
  go_end0
  exact ⟨⟨_, rfl⟩, cs3, K2.out.trans hk3⟩

end Go.Proofs.YtlpipoihinceiaaGreatDoor
/- maker.expr at let -/
namespace Go.Proofs.YtlpipoihinceiaaGreatDoor
open Go.RowKit Go.Proofs Go.Shelf

theorem more_new1 (w : World) (a : ByteArray) : SlS (w.alloc (.cells #[.string a] 9)) (w.alloc (.cells #[.string a] 9)).heap.size (some ⟨w.heap.size, 0, none⟩) 1 [a] := by
  refine ⟨by simp, by simp [maxLen], fun _ => ⟨w.heap.size, 0, rfl, by simp, fun j s hj => ?_⟩⟩
  rw [cell_of_row _ _ _ _ _ _ (heap_alloc_new w _)]
  match j with
  | 0 => simp at hj; simp [hj]
  | j + 1 => simp at hj
theorem more_new2 (w : World) (a b : ByteArray) : SlS (w.alloc (.cells #[.string a, .string b] 9)) (w.alloc (.cells #[.string a, .string b] 9)).heap.size (some ⟨w.heap.size, 0, none⟩) 2 [a, b] := by
  refine ⟨by simp, by simp [maxLen], fun _ => ⟨w.heap.size, 0, rfl, by simp, fun j s hj => ?_⟩⟩
  rw [cell_of_row _ _ _ _ _ _ (heap_alloc_new w _)]
  match j with
  | 0 => simp at hj; simp [hj]
  | 1 => simp at hj; simp [hj]
  | j + 2 => simp at hj
theorem setA_at (A B : List Ins) (x : Ins) (j : Nat) (hj : j = A.length) (v : Int) : setA (A ++ x :: B) j v = A ++ { x with a := v } :: B := by
  subst hj
  unfold setA
  induction A with
  | nil => rfl
  | cons y A ih => simp [ih]

set_option maxRecDepth 100000 in
set_option maxHeartbeats 2000000 in
theorem expr_8 (label : ByteArray) (s : Fo) (ih : s.All (ExprOK label)) : ExprAt label 8 s := by
  intro n m i d A c vars vA vc mb n₀ lb fb L F X hs hok hck hv hmc hmb hcs hL hF hvl
  have hlen : 2 ≤ s.len := hok.2.1 (by omega)
  obtain ⟨t0, ht0⟩ := Fo.tree_some (s := s) (j := 0) (by omega)
  obtain ⟨t1, ht1⟩ := Fo.tree_some (s := s) (j := 1) (by omega)
  have g0 := Lib.hid (Fo.comp_tree label ht0)
  have c0 : s.cnt 0 = 1 + t0.s.count := by unfold Fo.cnt; rw [ht0]
  have l0 := Lib.hid (t0.comp_len label)
  have g1 := Lib.hid (Fo.comp_tree label ht1)
  have c1 : s.cnt 1 = 1 + t1.s.count := by unfold Fo.cnt; rw [ht1]
  have l1 := Lib.hid (t1.comp_len label)
  have cc := s.cnt_two
  rw [c0, c1] at cc
  clear c0 c1
  have HT := Lib.hid (And.intro hck (And.intro (And.intro ht0 (ih.tree ht0)) (And.intro ht1 (ih.tree ht1))))
  clear hck ht0 ht1 ih hlen hok
  obtain ⟨W0, hW0⟩ : ∃ W0, (((((X.alloc (.cells #[.pointer (some ⟨mb, 0, none⟩)] 188)).alloc (.cells #[.int .i64 8, .string n, .string m, .int .i64 i, .int .i64 d, .slice A s.len c] 28)).alloc (.cells #[.slice vA vars.length vc] 22)).alloc (.cells #[.func (.func 186) #[] #[.pointer (some ⟨lb, 0, none⟩)]] 231)).alloc (.cells #[.func (.func 187) #[] #[.pointer (some ⟨fb, 0, none⟩)]] 234)).alloc (.cells #[.func (.func 188) #[] #[.pointer (some ⟨lb, 0, none⟩)]] 159) = W0 := ⟨_, rfl⟩
  obtain ⟨E0, cs0, hk0⟩ := env_start label s 8 n m i d A c vars vA vc mb n₀ lb fb L F X W0 hs hv hmc hmb hcs hW0
  clear hs hv hmc hcs
  obtain ⟨L1, HL1⟩ : ∃ Q, Hid (L ++ (t0.comp label (vars ++ []) L.length).1 = Q) := ⟨_, Lib.hid rfl⟩
  obtain ⟨F1, HF1⟩ : ∃ Q, Hid (F ++ (t0.comp label (vars ++ []) L.length).2 = Q) := ⟨_, Lib.hid rfl⟩
  have qL1 : L1.length ≤ L.length + 3 * (1 + t0.s.count) ∧ L.length ≤ L1.length := by rw [← HL1.out, List.length_append]; have := (l0.out (vars ++ []) L.length).1; omega
  have qF1 : F1.length ≤ F.length + (1 + t0.s.count) := by rw [← HF1.out, List.length_append]; have := (l0.out (vars ++ []) L.length).2.1; omega
  obtain ⟨L2, HL2⟩ : ∃ Q, Hid (L1 ++ [(⟨14, 0, 0, ⟨#[]⟩⟩ : Ins)] = Q) := ⟨_, Lib.hid rfl⟩
  have qL2 : L2.length ≤ L1.length + 1 ∧ L1.length < L2.length := by rw [← HL2.out, List.length_append]; simp
  obtain ⟨N1, HN1⟩ : ∃ Q, Hid (L1.length = Q) := ⟨_, Lib.hid rfl⟩
  have qN1 : N1 ≤ L1.length ∧ L1.length ≤ N1 := by rw [HN1.out]; omega
  obtain ⟨L3, HL3⟩ : ∃ Q, Hid (L2 ++ (t1.comp label (vars ++ [n]) L2.length).1 = Q) := ⟨_, Lib.hid rfl⟩
  obtain ⟨F2, HF2⟩ : ∃ Q, Hid (F1 ++ (t1.comp label (vars ++ [n]) L2.length).2 = Q) := ⟨_, Lib.hid rfl⟩
  have qL3 : L3.length ≤ L2.length + 3 * (1 + t1.s.count) ∧ L2.length ≤ L3.length := by rw [← HL3.out, List.length_append]; have := (l1.out (vars ++ [n]) L2.length).1; omega
  have qF2 : F2.length ≤ F1.length + (1 + t1.s.count) := by rw [← HF2.out, List.length_append]; have := (l1.out (vars ++ [n]) L2.length).2.1; omega
  obtain ⟨L4, HL4⟩ : ∃ Q, Hid (L3 ++ [(⟨15, 1, 0, ⟨#[]⟩⟩ : Ins)] = Q) := ⟨_, Lib.hid rfl⟩
  have qL4 : L4.length ≤ L3.length + 1 ∧ L3.length < L4.length := by rw [← HL4.out, List.length_append]; simp
  obtain ⟨N3, HN3⟩ : ∃ Q, Hid (L3.length = Q) := ⟨_, Lib.hid rfl⟩
  have qN3 : N3 ≤ L3.length ∧ L3.length ≤ N3 := by rw [HN3.out]; omega
  have HR1 : Hid (L ++ (nodeC label 8 n m i d A c s (s.comp label) vars L.length).1 = L4) := by
    show _ = _
    have e : (nodeC label 8 n m i d A c s (s.comp label) vars L.length).1 = (letC (t0.comp label) (t1.comp label) n vars L.length).1 := by rw [← g0.out, ← g1.out]; rfl
    rw [e, ← HL4.out, ← HL3.out, ← HL2.out, ← HL1.out]
    simp [letC, Nat.add_assoc]
  have HR2 : Hid (F ++ (nodeC label 8 n m i d A c s (s.comp label) vars L.length).2 = F2) := by
    show _ = _
    have e : (nodeC label 8 n m i d A c s (s.comp label) vars L.length).2 = (letC (t0.comp label) (t1.comp label) n vars L.length).2 := by rw [← g0.out, ← g1.out]; rfl
    rw [e, ← HF2.out, ← HF1.out, ← HL2.out, ← HL1.out]
    simp [letC, Nat.add_assoc]
  rw [HR1.out, HR2.out]
  obtain ⟨r0, r1, r2, r3, r4⟩ := E0.cells
  go_enter Tryz.func189, Tryz.ntmps189
  go_wp2_with fail
  refine (part_at E0 cs0 HT.out.2.1.1 HT.out.2.1.2 HT.out.1 0 rfl [] none 0 0 rfl (SlS.nil _ _ _ _ (by simp [maxLen])) L1 F1 HL1.out HF1.out (by omega) (by omega) (by omega)).mono ?_
  rintro e w1 ⟨⟨v1, rfl⟩, cs1, hk1⟩
  have E1 := E0.kc hk1
  have K1 := Lib.hid (hk0.trans hk1)
  clear cs0 hk0 hk1 E0 r0 r1 r2 r3 r4 hW0
  obtain ⟨r0, r1, r2, r3, r4⟩ := E1.cells
  go_wp2_with fail
  refine (emit_at cs1 14 0 0 ⟨#[]⟩ (by omega) N1 HN1.out L2 HL2.out).mono ?_
  rintro e w2 ⟨rfl, cs2, hk2⟩
  have E2 := E1.kc hk2
  have K2 := Lib.hid (K1.out.trans hk2)
  clear cs1 hk2 E1 r0 r1 r2 r3 r4
  obtain ⟨r0, r1, r2, r3, r4⟩ := E2.cells
  go_wp2_with fail
  have hba2 := (Below.refl w2.heap.size w2).alloc (Nat.le_refl _) (.cells #[.string n] 9)
  refine (part_at (E2.kc (Kc.below hba2)) (cs2.below hba2) HT.out.2.2.1 HT.out.2.2.2 HT.out.1 1 rfl [n] (some ⟨w2.heap.size, 0, none⟩) 1 1 rfl (more_new1 w2 n) L3 F2 HL3.out HF2.out (by omega) (by omega) (by omega)).mono ?_
  rintro e w3 ⟨⟨v3, rfl⟩, cs3, hk3⟩
  replace hk3 := (Kc.below hba2).trans hk3
  clear hba2
  have E3 := E2.kc hk3
  have K3 := Lib.hid (K2.out.trans hk3)
  clear cs2 hk3 E2 r0 r1 r2 r3 r4
  obtain ⟨r0, r1, r2, r3, r4⟩ := E3.cells
  go_wp2_with fail
  refine (emit_at cs3 15 1 0 ⟨#[]⟩ (by omega) N3 HN3.out L4 HL4.out).mono ?_
  rintro e w4 ⟨rfl, cs4, hk4⟩
  have E4 := E3.kc hk4
  have K4 := Lib.hid (K3.out.trans hk4)
  clear cs3 hk4 E3 r0 r1 r2 r3 r4
  obtain ⟨r0, r1, r2, r3, r4⟩ := E4.cells
  go_wp2
  go_end0
  exact ⟨⟨_, rfl⟩, cs4, K4.out⟩

end Go.Proofs.YtlpipoihinceiaaGreatDoor
