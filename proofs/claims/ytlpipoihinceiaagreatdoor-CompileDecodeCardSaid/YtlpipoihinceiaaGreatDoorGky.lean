/- ref28.SameBlocks and Same, for equal code -/
import Derived.Test.YtlpipoihinceiaaGreatDoorGkw
namespace Go.Proofs.YtlpipoihinceiaaGreatDoor
open Go.RowKit Go.Proofs Go.Shelf

theorem run_neqI (a b c : Int) (n : ByteArray) (w : World) : (binOp .neq 130 (.agg #[.int .i64 a, .int .i64 b, .int .i64 c, .string n]) (.agg #[.int .i64 a, .int .i64 b, .int .i64 c, .string n])).run Tryz.prog w = .ok (.bool false) w := by
  have hm : Tryz.prog.stoodInHeld 130 = false := by kernel_rfl
  rw [run_neq_struct, run_equalIn_struct w 9999 130 _ _ (by kernel_rfl) hm]
  have hf := Tryz.underlying130
  simp [Op.eqFields, Program.fieldsOf, hf, go_sem]
theorem run_neqD (a b c : Int) (w : World) : (binOp .neq 135 (.agg #[.int .i64 a, .int .i64 b, .int .i64 c]) (.agg #[.int .i64 a, .int .i64 b, .int .i64 c])).run Tryz.prog w = .ok (.bool false) w := by
  have hm : Tryz.prog.stoodInHeld 135 = false := by kernel_rfl
  rw [run_neq_struct, run_equalIn_struct w 9999 135 _ _ (by kernel_rfl) hm]
  have hf := Tryz.underlying135
  simp [Op.eqFields, Program.fieldsOf, hf, go_sem]

/-- Blocks in memory. -/
def BlocksAt (W : World) (v : Value) (bl : List Blk) : Prop := ∃ B BS, W.ownsRow B 133 3 v BS.length (bgC BS) ∧ BlksAt B W BS bl
theorem bgC_at (g : Bg) : ∀ (l : List Bg) (j : Nat), l[j]? = some g → ∀ q u, g.cells[q]? = some u → (bgC l)[j * 3 + q]? = some u
  | [], j, h => by simp at h
  | y :: l, 0, h => by
    simp at h
    subst h
    intro q u hq
    rw [bgC, Nat.zero_mul, Nat.zero_add, List.getElem?_append_left (List.getElem?_eq_some_iff.1 hq).1]
    exact hq
  | y :: l, j + 1, h => by
    intro q u hq
    have ih := bgC_at g l j (by simpa using h) q u hq
    rw [bgC, show (j + 1) * 3 + q = 3 + (j * 3 + q) by omega, List.getElem?_append_right (by simp [Bg.cells])]
    simpa [Bg.cells] using ih
theorem insC_at (x : Ins) : ∀ (l : List Ins) (j : Nat), l[j]? = some x → ∀ q u, x.cells[q]? = some u → (insC l)[j * 4 + q]? = some u
  | [], j, h => by simp at h
  | y :: l, 0, h => by
    simp at h
    subst h
    intro q u hq
    rw [insC, Nat.zero_mul, Nat.zero_add, List.getElem?_append_left (List.getElem?_eq_some_iff.1 hq).1]
    exact hq
  | y :: l, j + 1, h => by
    intro q u hq
    have ih := insC_at x l j (by simpa using h) q u hq
    rw [insC, show (j + 1) * 4 + q = 4 + (j * 4 + q) by omega, List.getElem?_append_right (by simp [Ins.cells])]
    simpa [Ins.cells] using ih
theorem BlksAt.at_ {B : Nat} {X : World} : ∀ {l : List Bg} {m : List Blk}, BlksAt B X l m → ∀ {j : Nat} {b : Blk}, m[j]? = some b → ∃ g : Bg, l[j]? = some g ∧ g.cap = b.cap ∧ g.par = b.par ∧ InsAt B X g.v b.l
  | [], [], _, j, b, h => by simp at h
  | g :: l, b :: m, ⟨h1, h2, h3, h4⟩, 0, b', h => by simp at h; subst h; exact ⟨g, rfl, h1, h2, h3⟩
  | g :: l, b :: m, ⟨h1, h2, h3, h4⟩, j + 1, b', h => by
    obtain ⟨g', e, r⟩ := BlksAt.at_ h4 (j := j) (b := b') (by simpa using h)
    exact ⟨g', by simpa using e, r⟩
  | [], _ :: _, h, _, _, _ => h.elim
  | _ :: _, [], h, _, _, _ => h.elim
/-- What a walk reads of a block. -/
theorem BlocksAt.at_ {W : World} {v : Value} {bl : List Blk} (h : BlocksAt W v bl) {j : Nat} {b : Blk} (hj : bl[j]? = some b) :
    ∃ g c lA lc, v = .slice (some ⟨g, 0, none⟩) bl.length c ∧ bl.length ≤ c ∧ c ≤ 9223372036854775807 ∧ W.cell? ⟨g, j * 3, none⟩ = some (.int .i64 b.cap) ∧ W.cell? ⟨g, j * 3 + 1, none⟩ = some (.bool b.par) ∧ W.cell? ⟨g, j * 3 + 2, none⟩ = some (.slice lA b.l.length lc) ∧ b.l.length ≤ 9223372036854775807 ∧
      ∀ k x, b.l[k]? = some x → ∃ lg, lA = some ⟨lg, 0, none⟩ ∧ b.l.length ≤ lc ∧ lc ≤ 9223372036854775807 ∧ W.cell? ⟨lg, k * 4, none⟩ = some (.int .i64 x.op) ∧ W.cell? ⟨lg, k * 4 + 1, none⟩ = some (.int .i64 x.a) ∧ W.cell? ⟨lg, k * 4 + 2, none⟩ = some (.int .i64 x.b) ∧ W.cell? ⟨lg, k * 4 + 3, none⟩ = some (.string x.nm) := by
  obtain ⟨B, BS, h1, h2⟩ := h
  have hl := h2.length
  obtain ⟨hjl, _⟩ := List.getElem?_eq_some_iff.1 hj
  rw [hl] at h1
  obtain ⟨g, c, rfl, hc1, hc2⟩ := own_pos h1 (by omega)
  obtain ⟨y, hy, e1, e2, hi⟩ := h2.at_ hj
  have hcell : ∀ q u, q < 3 → y.cells[q]? = some u → W.cell? ⟨g, j * 3 + q, none⟩ = some u := fun q u hq hu => (h1.cellAt _ (by omega)).trans (bgC_at y BS j hy q u hu)
  obtain ⟨lA, lc, hv⟩ := own_form hi
  refine ⟨g, c, lA, lc, rfl, hc1, hc2, ?_, ?_, ?_, ?_, ?_⟩
  · rw [← e1]; exact hcell 0 _ (by omega) rfl
  · rw [← e2]; exact hcell 1 _ (by omega) rfl
  · rw [← hv]; exact hcell 2 _ (by omega) rfl
  · rcases hi.2 with ⟨_, h0⟩ | ⟨_, _, _, _, _, _, h1, h2, _⟩
    · omega
    · unfold maxLen at h2; omega
  · intro k x hx
    obtain ⟨hkl, _⟩ := List.getElem?_eq_some_iff.1 hx
    obtain ⟨lg, lc', hv', hl1, hl2⟩ := own_pos hi (by omega)
    rw [hv] at hv'
    simp only [Value.slice.injEq, true_and] at hv'
    obtain ⟨rfl, rfl⟩ := hv'
    unfold InsAt at hi
    rw [hv] at hi
    have hic : ∀ q u, q < 4 → x.cells[q]? = some u → W.cell? ⟨lg, k * 4 + q, none⟩ = some u := fun q u hq hu => (hi.cellAt _ (by omega)).trans (insC_at x b.l k hx q u hu)
    exact ⟨lg, rfl, hl1, hl2, hic 0 _ (by omega) rfl, hic 1 _ (by omega) rfl, hic 2 _ (by omega) rfl, hic 3 _ (by omega) rfl⟩
theorem BlocksAt.form {W : World} {v : Value} {bl : List Blk} (h : BlocksAt W v bl) : ∃ A c, v = .slice A bl.length c ∧ bl.length ≤ 9223372036854775807 := by
  obtain ⟨B, BS, h1, h2⟩ := h
  rw [h2.length] at h1
  obtain ⟨A, c, rfl⟩ := own_form h1
  refine ⟨A, c, rfl, ?_⟩
  rcases h1.2 with ⟨_, h0⟩ | ⟨_, _, _, _, _, _, h1, h2, _⟩
  · omega
  · unfold maxLen at h2; omega

def DrewP (v : Value) (w : World) (e : Ending) (w' : World) : Prop := e = .returned v ∧ ∃ q, w' = w.drewN q

set_option maxRecDepth 100000 in
set_option maxHeartbeats 4000000 in
theorem sameBlocks_eq (bl : List Blk) (v1 v2 : Value) (w : World) (h1 : BlocksAt w v1 bl) (h2 : BlocksAt w v2 bl) : Calls Tryz.prog 96 #[v1, v2] w (DrewP (.bool true) w) := by
  have HA := Lib.hid (And.intro h1 h2)
  obtain ⟨A1, c1, rfl, hl⟩ := h1.form
  obtain ⟨A2, c2, rfl, _⟩ := h2.form
  clear h1 h2
  go_enter Tryz.func96, Tryz.ntmps96
  go_wp2
  go_loopg [5, 6] bl.length (fun g iv _ wr => ∃ j : Nat, g = bl.length - j ∧ j ≤ bl.length ∧ iv = .int .i64 j ∧ ∃ q, wr = w.drewN q)
  case atStart => exact ⟨0, rfl, by omega, rfl, 0, rfl⟩
  case round =>
    obtain ⟨j, HG, hj, rfl, q, rfl⟩ := hrel
    have HG' := Lib.hid HG
    clear HG
    by_cases hlt : j < bl.length
    · obtain ⟨b, hb⟩ : ∃ b, bl[j]? = some b := ⟨_, List.getElem?_eq_getElem hlt⟩
      obtain ⟨g1, gc1, l1, lc1, e1, p1, p2, a1, a2, a3, p3, HI1⟩ := HA.out.1.at_ hb
      obtain ⟨g2, gc2, l2, lc2, e2, p4, p5, b1, b2, b3, _, HI2⟩ := HA.out.2.at_ hb
      simp only [Value.slice.injEq, true_and] at e1 e2
      obtain ⟨rfl, rfl⟩ := e1
      obtain ⟨rfl, rfl⟩ := e2
      have HI := Lib.hid (And.intro HI1 HI2)
      clear HI1 HI2 hb
      have i0 : (0 : Int) ≤ (j : Int) := by omega
      have i1 : (j : Int) < (bl.length : Int) := by omega
      obtain ⟨cap, par, l⟩ := b
      simp only at a1 a2 a3 b1 b2 b3 p3 HI
      go_wp2_with fail
      go_quiet (fail)
      go_wp2_with fail
      go_loopg [6] l.length (fun g kv wr => ∃ k : Nat, g = l.length - k ∧ k ≤ l.length ∧ kv = .int .i64 k ∧ ∃ q, wr = w.drewN q)
      case atStart => exact ⟨0, rfl, by omega, rfl, q + nq, by simp [World.drewN, Nat.add_assoc]⟩
      case round =>
        obtain ⟨k, HG2, hk, rfl, q2, rfl⟩ := hrel
        have HG2' := Lib.hid HG2
        clear HG2
        by_cases hlt2 : k < l.length
        · obtain ⟨x, hx⟩ : ∃ x, l[k]? = some x := ⟨_, List.getElem?_eq_getElem hlt2⟩
          obtain ⟨lg1, rfl, r1, r2, x0, x1, x2, x3⟩ := HI.out.1 k x hx
          obtain ⟨lg2, rfl, r3, r4, y0, y1, y2, y3⟩ := HI.out.2 k x hx
          have hE := run_neqI x.op x.a x.b x.nm
          have k0 : (0 : Int) ≤ (k : Int) := by omega
          have k1 : (k : Int) < (l.length : Int) := by omega
          clear hx
          go_wp2_with fail
          go_quiet (fail)
          go_wp2_with fail
          go_roundg (l.length - (k + 1))
          case measure => rw [HG2'.out]; omega
          case rel => exact ⟨k + 1, rfl, by omega, by go_num, q2 + nq, by simp [World.drewN]⟩
        · have k1 : decide ((k : Int) < (l.length : Int)) = false := by simp; omega
          go_wp2_with fail
          go_roundg (bl.length - (j + 1))
          case measure => rw [HG'.out]; omega
          case rel => exact ⟨j + 1, rfl, by omega, by go_num, _, rfl⟩
    · have k1 : decide ((j : Int) < (bl.length : Int)) = false := by simp; omega
      go_wp2
      go_ret
      exact ⟨rfl, _, rfl⟩
end Go.Proofs.YtlpipoihinceiaaGreatDoor
/- ref28.Same, for equal code -/
namespace Go.Proofs.YtlpipoihinceiaaGreatDoor
open Go.RowKit Go.Proofs Go.Shelf

theorem cdC_at (x : Int × Int × Nat) : ∀ (l : List (Int × Int × Nat)) (j : Nat), l[j]? = some x → ∀ q u, ([.int .i64 x.1, .int .i64 x.2.1, .int .i64 x.2.2] : List Value)[q]? = some u → (cdC l)[j * 3 + q]? = some u
  | [], j, h => by simp at h
  | y :: l, 0, h => by
    simp at h
    subst h
    intro q u hq
    rw [cdC, Nat.zero_mul, Nat.zero_add, List.getElem?_append_left (List.getElem?_eq_some_iff.1 hq).1]
    exact hq
  | y :: l, j + 1, h => by
    intro q u hq
    have ih := cdC_at x l j (by simpa using h) q u hq
    rw [cdC, show (j + 1) * 3 + q = 3 + (j * 3 + q) by omega, List.getElem?_append_right (by simp)]
    simpa using ih
/-- Declarations of code in memory. -/
def CdAt (W : World) (v : Value) (ds : List (Int × Int × Nat)) : Prop := ∃ B, W.ownsRow B 135 3 v ds.length (cdC ds)
theorem CdAt.below {W X : World} {v : Value} {ds : List (Int × Int × Nat)} (h : CdAt W v ds) (hb : Below W.heap.size W X) : CdAt X v ds := by
  obtain ⟨B, h⟩ := h
  refine ⟨B, h.1, ?_⟩
  rcases h.2 with h | ⟨g, cap, cur, h1, h2, h3, h4⟩
  · exact .inl h
  · exact .inr ⟨g, cap, cur, h1, h2, (hb.block g (lt_of_block h3)).trans h3, h4⟩
theorem CdAt.form {W : World} {v : Value} {ds : List (Int × Int × Nat)} (h : CdAt W v ds) : ∃ A c, v = .slice A ds.length c ∧ ds.length ≤ 9223372036854775807 := by
  obtain ⟨B, h1⟩ := h
  obtain ⟨A, c, rfl⟩ := own_form h1
  refine ⟨A, c, rfl, ?_⟩
  rcases h1.2 with ⟨_, h0⟩ | ⟨_, _, _, _, _, _, h1, h2, _⟩
  · omega
  · unfold maxLen at h2; omega
theorem CdAt.at_ {W : World} {v : Value} {ds : List (Int × Int × Nat)} (h : CdAt W v ds) {j : Nat} {x : Int × Int × Nat} (hj : ds[j]? = some x) :
    ∃ g c, v = .slice (some ⟨g, 0, none⟩) ds.length c ∧ ds.length ≤ c ∧ c ≤ 9223372036854775807 ∧ W.cell? ⟨g, j * 3, none⟩ = some (.int .i64 x.1) ∧ W.cell? ⟨g, j * 3 + 1, none⟩ = some (.int .i64 x.2.1) ∧ W.cell? ⟨g, j * 3 + 2, none⟩ = some (.int .i64 x.2.2) := by
  obtain ⟨B, h1⟩ := h
  obtain ⟨hjl, _⟩ := List.getElem?_eq_some_iff.1 hj
  obtain ⟨g, c, rfl, hc1, hc2⟩ := own_pos h1 (by omega)
  have hcell : ∀ q u, q < 3 → ([.int .i64 x.1, .int .i64 x.2.1, .int .i64 x.2.2] : List Value)[q]? = some u → W.cell? ⟨g, j * 3 + q, none⟩ = some u := fun q u hq hu => (h1.cellAt _ (by omega)).trans (cdC_at x ds j hj q u hu)
  exact ⟨g, c, rfl, hc1, hc2, hcell 0 _ (by omega) rfl, hcell 1 _ (by omega) rfl, hcell 2 _ (by omega) rfl⟩
theorem BlocksAt.below {W X : World} {v : Value} {bl : List Blk} (h : BlocksAt W v bl) (hb : Below W.heap.size W X) : BlocksAt X v bl := by
  obtain ⟨B, BS, h, h'⟩ := h
  refine ⟨B, BS, ⟨h.1, ?_⟩, h'.keep fun k _ _ _ hk => hb.block k (lt_of_block hk)⟩
  rcases h.2 with h | ⟨g, cap, cur, h1, h2, h3, h4⟩
  · exact .inl h
  · exact .inr ⟨g, cap, cur, h1, h2, (hb.block g (lt_of_block h3)).trans h3, h4⟩

set_option maxRecDepth 100000 in
set_option maxHeartbeats 4000000 in
theorem same_eq (label : ByteArray) (bl : List Blk) (ds : List (Int × Int × Nat)) (v1 v2 d1 d2 : Value) (w : World) (h1 : BlocksAt w v1 bl) (h2 : BlocksAt w v2 bl) (h3 : CdAt w d1 ds) (h4 : CdAt w d2 ds) :
    Calls Tryz.prog 37 #[.agg #[.string label, v1, d1], .agg #[.string label, v2, d2]] w fun e w' => e = .returned (.bool true) ∧ Below w.heap.size w w' := by
  obtain ⟨A1, c1, rfl, hl⟩ := h1.form
  obtain ⟨A2, c2, rfl, _⟩ := h2.form
  obtain ⟨D1, e1, rfl, hdl⟩ := h3.form
  obtain ⟨D2, e2, rfl, _⟩ := h4.form
  obtain ⟨N, HN⟩ : ∃ Q, Hid (ds.length = Q) := ⟨_, Lib.hid rfl⟩
  rw [HN.out] at hdl ⊢
  obtain ⟨W0, hW0⟩ : ∃ W0, (w.alloc (.cells #[.string label, .slice A1 bl.length c1, .slice D1 N e1] 62)).alloc (.cells #[.string label, .slice A2 bl.length c2, .slice D2 N e2] 62) = W0 := ⟨_, rfl⟩
  have hB0 : Below w.heap.size w W0 := by rw [← hW0]; exact ((Below.refl _ _).alloc (Nat.le_refl _) _).alloc (by simp) _
  have hx0 : W0.heap[w.heap.size]? = some (.cells #[.string label, .slice A1 bl.length c1, .slice D1 N e1] 62 (0, 0)) := by rw [← hW0]; exact (Below.heap_alloc _ _ _ (by simp)).trans (heap_alloc_new w _)
  have hy0 : W0.heap[w.heap.size + 1]? = some (.cells #[.string label, .slice A2 bl.length c2, .slice D2 N e2] 62 (0, 0)) := by
    have h := heap_alloc_new (w.alloc (.cells #[.string label, .slice A1 bl.length c1, .slice D1 N e1] 62)) (.cells #[.string label, .slice A2 bl.length c2, .slice D2 N e2] 62)
    rw [hW0] at h
    simpa using h
  have x0 := cell_of_row W0 w.heap.size 0 _ _ (0, 0) hx0
  have x1 := cell_of_row W0 w.heap.size 1 _ _ (0, 0) hx0
  have x2 := cell_of_row W0 w.heap.size 2 _ _ (0, 0) hx0
  have y0 := cell_of_row W0 (w.heap.size + 1) 0 _ _ (0, 0) hy0
  have y1 := cell_of_row W0 (w.heap.size + 1) 1 _ _ (0, 0) hy0
  have y2 := cell_of_row W0 (w.heap.size + 1) 2 _ _ (0, 0) hy0
  simp at x0 x1 x2 y0 y1 y2
  have HSB := Lib.hid (sameBlocks_eq bl _ _ W0 (h1.below hB0) (h2.below hB0))
  have HD := Lib.hid (And.intro (h3.below hB0) (h4.below hB0))
  have HB0 := Lib.hid hB0
  rw [HN.out] at HD
  clear h1 h2 h3 h4 hx0 hy0 hB0
  go_enter Tryz.func37, Tryz.ntmps37
  go_wp2_with fail
  refine HSB.out.mono ?_
  rintro e w1 ⟨rfl, q0, rfl⟩
  clear hW0 x0 y0 x1 y1
  go_wp2_with fail
  go_loopg [5] N (fun g iv wr => ∃ j : Nat, g = N - j ∧ j ≤ N ∧ iv = .int .i64 j ∧ ∃ q, wr = W0.drewN q)
  case atStart => exact ⟨0, rfl, by omega, rfl, q0, rfl⟩
  case round =>
    obtain ⟨j, HG, hj, rfl, q, rfl⟩ := hrel
    have HG' := Lib.hid HG
    clear HG
    by_cases hlt : j < N
    · obtain ⟨x, hx⟩ : ∃ x, ds[j]? = some x := ⟨_, List.getElem?_eq_getElem (by rw [HN.out]; exact hlt)⟩
      obtain ⟨a1, a2⟩ := HD.out
      rw [← HN.out] at a1 a2
      obtain ⟨g1, gc1, r1, p1, p2, a10, a11, a12⟩ := a1.at_ hx
      obtain ⟨g2, gc2, r2, p3, p4, b10, b11, b12⟩ := a2.at_ hx
      rw [HN.out] at p1 p3
      simp only [Value.slice.injEq, true_and] at r1 r2
      obtain ⟨rfl, rfl⟩ := r1
      obtain ⟨rfl, rfl⟩ := r2
      have hE := run_neqD x.1 x.2.1 x.2.2
      have i0 : (0 : Int) ≤ (j : Int) := by omega
      have i1 : (j : Int) < (N : Int) := by omega
      clear hx a1 a2
      go_wp2_with fail
      go_quiet (fail)
      go_wp2_with fail
      go_roundg (N - (j + 1))
      case measure => rw [HG'.out]; omega
      case rel => exact ⟨j + 1, rfl, by omega, by go_num, q + nq, by simp [World.drewN]⟩
    · have k1 : decide ((j : Int) < (N : Int)) = false := by simp; omega
      go_wp2
      go_ret
      exact ⟨rfl, HB0.out.trans ⟨rfl, rfl, rfl, Nat.le_refl _, fun _ _ => rfl⟩⟩
end Go.Proofs.YtlpipoihinceiaaGreatDoor
/- law28.awake: its module and its code, plainly -/
namespace Go.Proofs.YtlpipoihinceiaaGreatDoor
open Go.RowKit Go.Proofs Go.Shelf

def awF (h : Nat) : Fo := .cons 10 ⟨#[43]⟩ ⟨#[]⟩ 0 0 (some ⟨h, 0, none⟩) 2 (.cons 3 ⟨#[120]⟩ ⟨#[]⟩ 0 0 none 0 .nil (.cons 1 ⟨#[]⟩ ⟨#[]⟩ 1 0 none 0 .nil .nil)) .nil
def awD (h : Nat) : Dc := ⟨4, 1, false, some ⟨h + 1 + 1 + 1, 0, none⟩, 1, [⟨#[102]⟩], false, 6, ⟨#[120]⟩, ⟨#[]⟩, 0, 0, some ⟨h + 1, 0, none⟩, 1, awF h⟩
def awB : List Blk := [⟨0, false, [⟨5, 1, 0, ⟨#[]⟩⟩, ⟨7, 0, 0, ⟨#[]⟩⟩]⟩, ⟨0, true, [⟨3, 0, 0, ⟨#[]⟩⟩, ⟨1, 1, 0, ⟨#[]⟩⟩, ⟨10, 0, 0, ⟨#[43]⟩⟩, ⟨7, 0, 0, ⟨#[]⟩⟩]⟩]
theorem aw_go (h : Nat) : modGo ⟨#[109]⟩ 0 [awD h] = (awB, [(4, 1, 0)]) := by kernel_rfl
theorem aw_err (h : Nat) : modE ⟨#[109]⟩ [] [awD h] = 0 := by kernel_rfl
end Go.Proofs.YtlpipoihinceiaaGreatDoor
/- law28.awake -/
namespace Go.Proofs.YtlpipoihinceiaaGreatDoor
open Go.RowKit Go.Proofs Go.Shelf

theorem aw_sl {X : World} {h : Nat} (h0 : X.heap[h]? = some (.cells #[.int .i64 3, .string ⟨#[120]⟩, .string ⟨#[]⟩, .int .i64 0, .int .i64 0, .slice none 0 0, .int .i64 1, .string ⟨#[]⟩, .string ⟨#[]⟩, .int .i64 1, .int .i64 0, .slice none 0 0] 28 (0, 0)))
    (h1 : X.heap[h + 1]? = some (.cells #[.int .i64 10, .string ⟨#[43]⟩, .string ⟨#[]⟩, .int .i64 0, .int .i64 0, .slice (some ⟨h, 0, none⟩) 2 2] 28 (0, 0)))
    (h3 : X.heap[h + 1 + 1 + 1]? = some (.cells #[.string ⟨#[102]⟩] 9 (0, 0)))
    (h4 : X.heap[h + 1 + 1 + 1 + 1]? = some (.cells #[.int .i64 4, .int .i64 1, .bool false, .slice (some ⟨h + 1 + 1 + 1, 0, none⟩) 1 1, .bool false, .int .i64 6, .string ⟨#[120]⟩, .string ⟨#[]⟩, .int .i64 0, .int .i64 0, .slice (some ⟨h + 1, 0, none⟩) 1 1] 76 (0, 0))) :
    SlD X X.heap.size (some ⟨h + 1 + 1 + 1 + 1, 0, none⟩) 1 [awD h] := by
  have l0 := lt_of_block h0
  have l1 := lt_of_block h1
  have l3 := lt_of_block h3
  have l4 := lt_of_block h4
  refine ⟨by simp, by simp [maxLen], fun _ => ⟨_, _, rfl, l4, fun j x hx => ?_⟩⟩
  cases j with
  | succ j => simp at hx
  | zero =>
    simp only [List.getElem?_cons_zero, Option.some.injEq] at hx
    subst hx
    refine ⟨fun q v hq => ?_, ⟨by simp [awD], by simp [awD, maxLen], fun _ => ⟨_, _, rfl, l3, fun j s hs => ?_⟩⟩, ?_⟩
    · have := cell_of_row X (h + 1 + 1 + 1 + 1) q _ _ (0, 0) h4
      rw [Nat.zero_mul, Nat.zero_add, this]
      exact hq
    · cases j with
      | succ j => simp [awD] at hs
      | zero =>
        simp only [awD, List.getElem?_cons_zero, Option.some.injEq] at hs
        subst hs
        exact cell_of_row X (h + 1 + 1 + 1) 0 _ _ (0, 0) h3
    · have r1 := fun q => cell_of_row X (h + 1) q _ _ (0, 0) h1
      have r0 := fun q => cell_of_row X h q _ _ (0, 0) h0
      refine ⟨by simp [awD, awF, Fo.len], by simp [awD, maxLen], fun _ => ⟨_, _, rfl, l1, ?_⟩⟩
      refine ⟨r1 0, r1 1, r1 2, r1 3, r1 4, ⟨r1 5, by simp [Fo.len], by simp [maxLen], fun _ => ⟨_, _, rfl, l0, ?_⟩⟩, trivial⟩
      exact ⟨r0 0, r0 1, r0 2, r0 3, r0 4, ⟨r0 5, by simp [Fo.len], by simp [maxLen], fun e => absurd rfl e⟩, r0 6, r0 7, r0 8, r0 9, r0 10, ⟨r0 11, by simp [Fo.len], by simp [maxLen], fun e => absurd rfl e⟩, trivial⟩

theorem heap_push (w : World) (o : Obj) (k : Nat) : (w.alloc o).heap[k]? = if k = w.heap.size then some o else w.heap[k]? := by
  by_cases h : k = w.heap.size
  · subst h
    rw [if_pos rfl]
    exact heap_alloc_new w o
  · rw [if_neg h]
    by_cases h2 : k < w.heap.size
    · exact Below.heap_alloc _ _ _ h2
    · rw [Array.getElem?_eq_none (by simp; omega), Array.getElem?_eq_none (by omega)]
theorem alloc_size (w : World) (o : Obj) : (w.alloc o).heap.size = w.heap.size + 1 := by simp
theorem own_lit {W : World} {g n size : Nat} {cur : Array Value} {e : TypeId} (h : W.heap[g]? = some (.cells cur e (0, 0))) (hn : n ≤ maxLen) (hs : cur.size = n * size) : W.ownsRow 0 e size (.slice (some ⟨g, 0, none⟩) n n) n cur.toList :=
  ⟨by simpa using hs, .inr ⟨g, n, cur, rfl, Nat.zero_le _, h, Nat.le_refl _, hn, hs, List.take_of_length_le (by simp [hs])⟩⟩
theorem aw_want {X : World} {a b c : Nat} (ha : X.heap[a]? = some (.cells #[.int .i64 5, .int .i64 1, .int .i64 0, .string ⟨#[]⟩, .int .i64 7, .int .i64 0, .int .i64 0, .string ⟨#[]⟩] 130 (0, 0)))
    (hb : X.heap[b]? = some (.cells #[.int .i64 3, .int .i64 0, .int .i64 0, .string ⟨#[]⟩, .int .i64 1, .int .i64 1, .int .i64 0, .string ⟨#[]⟩, .int .i64 10, .int .i64 0, .int .i64 0, .string ⟨#[43]⟩, .int .i64 7, .int .i64 0, .int .i64 0, .string ⟨#[]⟩] 130 (0, 0)))
    (hc : X.heap[c]? = some (.cells #[.int .i64 0, .bool false, .slice (some ⟨a, 0, none⟩) 2 2, .int .i64 0, .bool true, .slice (some ⟨b, 0, none⟩) 4 4] 133 (0, 0))) : BlocksAt X (.slice (some ⟨c, 0, none⟩) 2 2) awB :=
  ⟨0, [⟨0, false, .slice (some ⟨a, 0, none⟩) 2 2⟩, ⟨0, true, .slice (some ⟨b, 0, none⟩) 4 4⟩], own_lit (n := 2) (size := 3) hc (by simp [maxLen]) rfl, rfl, rfl, own_lit (n := 2) (size := 4) ha (by simp [maxLen]) rfl, rfl, rfl, own_lit (n := 4) (size := 4) hb (by simp [maxLen]) rfl, trivial⟩
theorem aw_dec {X : World} {d : Nat} (hd : X.heap[d]? = some (.cells #[.int .i64 4, .int .i64 1, .int .i64 0] 135 (0, 0))) : CdAt X (.slice (some ⟨d, 0, none⟩) 1 1) [(4, 1, 0)] :=
  ⟨0, own_lit (n := 1) (size := 3) hd (by simp [maxLen]) rfl⟩
theorem CodeAt.at_ {B : Nat} {X : World} {bv dv : Value} {bl : List Blk} {ds : List (Int × Int × Nat)} (h : CodeAt B X bv dv bl ds) : BlocksAt X bv bl ∧ CdAt X dv ds := ⟨⟨B, h.1⟩, ⟨B, h.2⟩⟩

set_option maxRecDepth 100000 in
set_option maxHeartbeats 4000000 in
theorem awake28_of (hmod : ∀ (w : World) (x : Dc) (dA : Option Addr), SlD w w.heap.size dA 1 [x] → Calls Tryz.prog 90 #[.agg #[.string ⟨#[109]⟩, .slice none 0 0, .slice dA 1 1]] w (ModP ⟨#[109]⟩ [] [x] w)) (w : World) : Calls Tryz.prog 34 #[] w fun e w' => e = .returned (.bool true) ∧ Below w.heap.size w w' := by
  have HM := Lib.hid hmod
  clear hmod
  go_enter Tryz.func34, Tryz.ntmps34
  go_wp2_with fail
  refine (HM.out _ (awD w.heap.size) _ (aw_sl ?_ ?_ ?_ ?_)).mono ?_
  · simp only [heap_push, alloc_size]; rw [if_neg (by omega), if_neg (by omega), if_neg (by omega), if_neg (by omega), if_pos trivial]
  · simp only [heap_push, alloc_size]; simp
  · simp only [heap_push, alloc_size]; simp
  · simp only [heap_push, alloc_size]; simp
  rintro e w1 ⟨lb, bv, dv, rfl, hb1, hc1⟩
  rw [aw_err, aw_go] at hc1
  rw [aw_err]
  rcases hc1 with ⟨_, rfl, hc1⟩ | ⟨h0, _⟩
  rotate_left
  · exact absurd rfl h0
  obtain ⟨hc2, hc3⟩ := hc1.at_
  obtain ⟨A1, c1, rfl, hl⟩ := hc2.form
  obtain ⟨D1, e1, rfl, hdl⟩ := hc3.form
  have HC := Lib.hid (And.intro hb1 (And.intro hc2 hc3))
  clear hb1 hc1 hc2 hc3 hl hdl
  go_wp2_with fail
  obtain ⟨w9, hw9⟩ : ∃ w9, ((((w1.alloc (.cells #[.string ⟨#[109]⟩, .slice A1 awB.length c1, .slice D1 1 e1] 62)).alloc (.cells #[.int .i64 5, .int .i64 1, .int .i64 0, .string ⟨#[]⟩, .int .i64 7, .int .i64 0, .int .i64 0, .string ⟨#[]⟩] 130)).alloc
      (.cells #[.int .i64 3, .int .i64 0, .int .i64 0, .string ⟨#[]⟩, .int .i64 1, .int .i64 1, .int .i64 0, .string ⟨#[]⟩, .int .i64 10, .int .i64 0, .int .i64 0, .string ⟨#[43]⟩, .int .i64 7, .int .i64 0, .int .i64 0, .string ⟨#[]⟩] 130)).alloc
      (.cells #[.int .i64 0, .bool false, .slice (some ⟨w1.heap.size + 1, 0, none⟩) 2 2, .int .i64 0, .bool true, .slice (some ⟨w1.heap.size + 1 + 1, 0, none⟩) 4 4] 133)).alloc (.cells #[.int .i64 4, .int .i64 1, .int .i64 0] 135) = w9 := ⟨_, rfl⟩
  have hb9 : Below w1.heap.size w1 w9 := by
    rw [← hw9]
    exact (((((Below.refl _ _).alloc (by simp) _).alloc (by simp <;> omega) _).alloc (by simp <;> omega) _).alloc (by simp <;> omega) _).alloc (by simp <;> omega) _
  have hs := same_eq ⟨#[109]⟩ awB [(4, 1, 0)] (.slice A1 awB.length c1) (.slice (some ⟨w1.heap.size + 1 + 1 + 1, 0, none⟩) 2 2) (.slice D1 1 e1) (.slice (some ⟨w1.heap.size + 1 + 1 + 1 + 1, 0, none⟩) 1 1) w9 (HC.out.2.1.below hb9) (aw_want (a := w1.heap.size + 1) (b := w1.heap.size + 1 + 1) ?_ ?_ ?_) (HC.out.2.2.below hb9) (aw_dec ?_)
  · rw [hw9]
    have HS := Lib.hid hs
    have HB := Lib.hid (HC.out.1.trans (hb9.mono HC.out.1.size))
    clear hs hb9 hw9
    refine HS.out.mono ?_
    rintro e w2 ⟨rfl, hb2⟩
    have HB2 := Lib.hid (HB.out.trans (hb2.mono HB.out.size))
    clear hb2
    go_wp2
    go_ret
    refine ⟨rfl, ?_⟩
    have h := HB2.out
    exact ((((((Below.refl w.heap.size w).alloc (by simp) _).alloc (by simp <;> omega) _).alloc (by simp <;> omega) _).alloc (by simp <;> omega) _).alloc (by simp <;> omega) _).trans (h.mono (by simp <;> omega))
  · rw [← hw9]; simp only [heap_push, alloc_size]; simp
  · rw [← hw9]; simp only [heap_push, alloc_size]; simp
  · rw [← hw9]; simp only [heap_push, alloc_size]; simp
  · rw [← hw9]; simp only [heap_push, alloc_size]; simp
end Go.Proofs.YtlpipoihinceiaaGreatDoor
