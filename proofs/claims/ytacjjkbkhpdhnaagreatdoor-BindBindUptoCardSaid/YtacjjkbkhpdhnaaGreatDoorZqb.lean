/- ref24.Inner -/
import Derived.Test.YtacjjkbkhpdhnaaGreatDoorZmg
import Derived.Test.YtacjjkbkhpdhnaaGreatDoorZpc
import Derived.Test.YtacjjkbkhpdhnaaGreatDoorZqa
import Derived.Test.YtacjjkbkhpdhnaaGreatDoorZpd
namespace Go.Proofs.YtacjjkbkhpdhnaaGreatDoor
open Go.RowKit Go.Proofs Go.Shelf
def InnP (l : List ByteArray) (w : World) (e : Ending) (w' : World) : Prop := ∃ A c, e = .returned (.slice A l.length c) ∧ VarsAt w' A c l ∧ Below w.heap.size w w'
set_option maxRecDepth 100000 in
set_option maxHeartbeats 4000000 in
theorem inner24_any (k : Int) (n m : ByteArray) (i d : Int) (sA : Option Addr) (sn sc : Nat) (j : Int) (bd : List ByteArray) (bA : Option Addr) (bc : Nat) (w : World) (hbd : VarsAt w bA bc bd) (hbl : bd.length ≤ 1000000) :
    Calls Tryz.prog 115 #[.agg #[.int .i64 k, .string n, .string m, .int .i64 i, .int .i64 d, .slice sA sn sc], .int .i64 j, .slice bA bd.length bc] w (InnP (bd ++ bndB k n m j) w) := by
  obtain ⟨i0, hi, hz0, hz1, hz2⟩ := info_parts Tryz.infoString
  obtain ⟨W0, hW0⟩ : ∃ W0, w.alloc (.cells #[.int .i64 k, .string n, .string m, .int .i64 i, .int .i64 d, .slice sA sn sc] 28) = W0 := ⟨_, rfl⟩
  have hzw : w.heap.size < W0.heap.size := by subst hW0; simp
  have hB0 : Below w.heap.size w W0 := by subst hW0; exact (Below.refl _ _).alloc (Nat.le_refl _) _
  have hx0 : W0.heap[w.heap.size]? = some (.cells #[.int .i64 k, .string n, .string m, .int .i64 i, .int .i64 d, .slice sA sn sc] 28 (0, 0)) := by rw [← hW0]; exact heap_alloc_new w _
  have HC : Hid (∀ X, Below W0.heap.size W0 X → Below w.heap.size w X ∧ X.cell? ⟨w.heap.size, 0, none⟩ = some (.int .i64 k) ∧ X.cell? ⟨w.heap.size, 1, none⟩ = some (.string n) ∧ X.cell? ⟨w.heap.size, 2, none⟩ = some (.string m)) := fun X hX => by
    have h0 := (hX.block w.heap.size hzw).trans hx0
    exact ⟨hB0.trans (hX.mono (Nat.le_of_lt hzw)), cell_of_row X _ 0 _ _ (0, 0) h0, cell_of_row X _ 1 _ _ (0, 0) h0, cell_of_row X _ 2 _ _ (0, 0) h0⟩
  have HR1 := Lib.hid (World.ownsRow_lit (base := W0.heap.size) (e := 9) (size := 1) W0 #[] 0 (Nat.le_refl _) (by simp) rfl)
  have HB1 := Lib.hid ((Below.refl W0.heap.size W0).alloc (Nat.le_refl _) (.cells #[] 9))
  have HSB := Lib.hid (((hbd.below hB0 (Nat.le_refl _)).below HB1.out (Nat.le_refl _)).sls.1.news)
  clear hbd hB0 hx0
  have hsp : k = 6 ∨ (k = 8 ∧ j = 1) ∨ (k = 13 ∧ j = 2) ∨ (k ≠ 6 ∧ ¬ (k = 8 ∧ j = 1) ∧ ¬ (k = 13 ∧ j = 2)) := by omega
  rcases hsp with rfl | ⟨rfl, rfl⟩ | ⟨rfl, rfl⟩ | ⟨hk6, hk8, hk13⟩
  · rw [show bndB 6 n m j = [n] by simp [bndB]]
    go_enter Tryz.func115, Tryz.ntmps115
    go_wp2_with (first
      | (at_builtin; refine wpList_append_own_any _ rfl (.tmp 8) (.tmp 9) 22 rfl W0.heap.size 9 i0 _ 1 16 Tryz.underlying22 hi hz0 hz1 hz2 rfl (by decide) _ 0 [] rfl HR1.out bA bd.length bc (bd.map Value.string) rfl (by simp) HSB.out.1 HSB.out.2 (strs_one _) (by unfold maxLen; omega) (by omega) (by simp) ?_; intro v1 w1 hown1 hg1; have hb1 := HB1.out.grown hg1 (by simp) (fun q hq => (HR1.out.lt q hq).1); have hz1' := hb1.size; obtain ⟨hbw, x0, x1, x2⟩ := HC.out w1 hb1; clear hbw)
      | (at_builtin; refine wpList_append_own _ rfl (.tmp 23) (.tmp 26) 22 rfl W0.heap.size 9 i0 _ 1 16 Tryz.underlying22 hi hz0 hz1 hz2 rfl (by decide) v1 _ _ rfl (hown1.alloc _) ⟨w1.heap.size, 0, none⟩ 1 1 [.string n] rfl rfl (cell_one_new _ _ _) (strs_one [n]) (by unfold maxLen; omega) (by omega) (by simp; omega) ?_; intro v2 w2 hown2 hg2 _; have hb2 := (hb1.alloc hz1' (.cells #[.string n] 9)).grown hg2 (by simp; omega) (fun q hq => (hown1.lt q hq).1)))
    have hf : w2.ownsRow W0.heap.size 9 1 v2 (bd ++ [n]).length ((bd ++ [n]).map .string) := by
      simpa using hown2
    obtain ⟨A2, c2, rfl, hva⟩ := VarsAt.of hf
    have HR := Lib.hid (show InnP (bd ++ [n]) w (.returned (.slice A2 (bd ++ [n]).length c2)) w2 from ⟨A2, c2, rfl, hva, (HC.out w2 hb2).1⟩)
    clear hva hf
    go_wp2
    go_ret
    exact HR.out
  · rw [show bndB 8 n m 1 = [n] by simp [bndB]]
    go_enter Tryz.func115, Tryz.ntmps115
    go_wp2_with (first
      | (at_builtin; refine wpList_append_own_any _ rfl (.tmp 8) (.tmp 9) 22 rfl W0.heap.size 9 i0 _ 1 16 Tryz.underlying22 hi hz0 hz1 hz2 rfl (by decide) _ 0 [] rfl HR1.out bA bd.length bc (bd.map Value.string) rfl (by simp) HSB.out.1 HSB.out.2 (strs_one _) (by unfold maxLen; omega) (by omega) (by simp) ?_; intro v1 w1 hown1 hg1; have hb1 := HB1.out.grown hg1 (by simp) (fun q hq => (HR1.out.lt q hq).1); have hz1' := hb1.size; obtain ⟨hbw, x0, x1, x2⟩ := HC.out w1 hb1; clear hbw)
      | (at_builtin; refine wpList_append_own _ rfl (.tmp 23) (.tmp 26) 22 rfl W0.heap.size 9 i0 _ 1 16 Tryz.underlying22 hi hz0 hz1 hz2 rfl (by decide) v1 _ _ rfl (hown1.alloc _) ⟨w1.heap.size, 0, none⟩ 1 1 [.string n] rfl rfl (cell_one_new _ _ _) (strs_one [n]) (by unfold maxLen; omega) (by omega) (by simp; omega) ?_; intro v2 w2 hown2 hg2 _; have hb2 := (hb1.alloc hz1' (.cells #[.string n] 9)).grown hg2 (by simp; omega) (fun q hq => (hown1.lt q hq).1)))
    have hf : w2.ownsRow W0.heap.size 9 1 v2 (bd ++ [n]).length ((bd ++ [n]).map .string) := by
      simpa using hown2
    obtain ⟨A2, c2, rfl, hva⟩ := VarsAt.of hf
    have HR := Lib.hid (show InnP (bd ++ [n]) w (.returned (.slice A2 (bd ++ [n]).length c2)) w2 from ⟨A2, c2, rfl, hva, (HC.out w2 hb2).1⟩)
    clear hva hf
    go_wp2
    go_ret
    exact HR.out
  · rw [show bndB 13 n m 2 = [n, m] by simp [bndB]]
    go_enter Tryz.func115, Tryz.ntmps115
    go_wp2_with (first
      | (at_builtin; refine wpList_append_own_any _ rfl (.tmp 8) (.tmp 9) 22 rfl W0.heap.size 9 i0 _ 1 16 Tryz.underlying22 hi hz0 hz1 hz2 rfl (by decide) _ 0 [] rfl HR1.out bA bd.length bc (bd.map Value.string) rfl (by simp) HSB.out.1 HSB.out.2 (strs_one _) (by unfold maxLen; omega) (by omega) (by simp) ?_; intro v1 w1 hown1 hg1; have hb1 := HB1.out.grown hg1 (by simp) (fun q hq => (HR1.out.lt q hq).1); have hz1' := hb1.size; obtain ⟨hbw, x0, x1, x2⟩ := HC.out w1 hb1; clear hbw)
      | (at_builtin; refine wpList_append_own _ rfl (.tmp 35) (.tmp 40) 22 rfl W0.heap.size 9 i0 _ 1 16 Tryz.underlying22 hi hz0 hz1 hz2 rfl (by decide) v1 _ _ rfl (hown1.alloc _) ⟨w1.heap.size, 0, none⟩ 2 2 [.string n, .string m] rfl rfl (cell_pair_new _ _ _ _) (strs_one [n, m]) (by unfold maxLen; omega) (by omega) (by simp; omega) ?_; intro v2 w2 hown2 hg2 _; have hb2 := (hb1.alloc hz1' (.cells #[.string n, .string m] 9)).grown hg2 (by simp; omega) (fun q hq => (hown1.lt q hq).1)))
    have hf : w2.ownsRow W0.heap.size 9 1 v2 (bd ++ [n, m]).length ((bd ++ [n, m]).map .string) := by
      simpa using hown2
    obtain ⟨A2, c2, rfl, hva⟩ := VarsAt.of hf
    have HR := Lib.hid (show InnP (bd ++ [n, m]) w (.returned (.slice A2 (bd ++ [n, m]).length c2)) w2 from ⟨A2, c2, rfl, hva, (HC.out w2 hb2).1⟩)
    clear hva hf
    go_wp2
    go_ret
    exact HR.out
  · have k6 : (k == 6) = false := by simpa using hk6
    have k8 : (k == 8) = false ∨ ((k == 8) = true ∧ (j == 1) = false) := by
      by_cases h : k = 8
      · right; exact ⟨by simpa using h, by simp; omega⟩
      · left; simpa using h
    have k13 : (k == 13) = false ∨ ((k == 13) = true ∧ (j == 2) = false) := by
      by_cases h : k = 13
      · right; exact ⟨by simpa using h, by simp; omega⟩
      · left; simpa using h
    rw [show bd ++ bndB k n m j = bd by unfold bndB; rw [if_neg (by omega), if_neg hk13]; simp]
    clear hk6 hk8 hk13
    rcases k8 with k8 | ⟨k8, j8⟩
    all_goals rcases k13 with k13 | ⟨k13, j13⟩
    all_goals (
      go_enter Tryz.func115, Tryz.ntmps115
      go_wp2_with (first
        | (at_builtin; refine wpList_append_own_any _ rfl (.tmp 8) (.tmp 9) 22 rfl W0.heap.size 9 i0 _ 1 16 Tryz.underlying22 hi hz0 hz1 hz2 rfl (by decide) _ 0 [] rfl HR1.out bA bd.length bc (bd.map Value.string) rfl (by simp) HSB.out.1 HSB.out.2 (strs_one _) (by unfold maxLen; omega) (by omega) (by simp) ?_; intro v1 w1 hown1 hg1; have hb1 := HB1.out.grown hg1 (by simp) (fun q hq => (HR1.out.lt q hq).1); have hz1' := hb1.size; obtain ⟨hbw, x0, x1, x2⟩ := HC.out w1 hb1; clear hbw))
      have hf : w1.ownsRow W0.heap.size 9 1 v1 (bd).length ((bd).map .string) := by
        simpa using hown1
      obtain ⟨A2, c2, rfl, hva⟩ := VarsAt.of hf
      have HR := Lib.hid (show InnP (bd) w (.returned (.slice A2 (bd).length c2)) w1 from ⟨A2, c2, rfl, hva, (HC.out w1 hb1).1⟩)
      clear hva hf
      go_wp2
      go_ret
      exact HR.out)
end Go.Proofs.YtacjjkbkhpdhnaaGreatDoor
/- A node whose parts are rebuilt one after the other: its memory -/
namespace Go.Proofs.YtacjjkbkhpdhnaaGreatDoor
open Go Go.RowKit Go.Proofs Go.Shelf
theorem blk_lt {X : World} {b : Nat} {o : Obj} (h : X.heap[b]? = some o) : b < X.heap.size := (Array.getElem?_eq_some_iff.1 h).1
structure RBu (W1 : World) (B : Nat) (k : Int) (n m : ByteArray) (i d : Int) (v : Value) (st : Fo) (X : World) : Prop where
  nb : X.heap[B]? = some (.cells #[.int .i64 k, .string n, .string m, .int .i64 i, .int .i64 d, v] 28 (0, 0))
  own : X.ownsRow (B + 1) 28 6 v st.len st.cells
  sub : st.SubsP X (fun q => B < q ∧ q < X.heap.size ∧ v.ownBlock ≠ some q)
  bw : Below B W1 X
section
variable {W1 : World} {B : Nat} {k : Int} {n m : ByteArray} {i d : Int} {v : Value} {st : Fo} {X : World}
theorem RBu.keep (h : RBu W1 B k n m i d v st X) {Y : World} (hb : Below X.heap.size X Y) : RBu W1 B k n m i d v st Y :=
  ⟨(hb.block _ (blk_lt h.nb)).trans h.nb, row_keepE h.own fun _ _ _ _ hc => hb.block _ (blk_lt hc),
    Fo.SubsP.keep (fun _ hq => ⟨hq.1, Nat.lt_of_lt_of_le hq.2.1 hb.size, hq.2.2⟩) (fun _ hp => hb.cell hp.2.1) h.sub, h.bw.trans (hb.mono (Nat.le_of_lt (blk_lt h.nb)))⟩
theorem RBu.push (h : RBu W1 B k n m i d v st X) {Y : World} (hg : X.grownBy Y v.ownBlock) {v' : Value} {pk : Int} {pn pm : ByteArray} {pi pd : Int} {A : Option Addr} {c : Nat} {s : Fo}
    (hs : s.SlP X (fun q => B < q ∧ q < X.heap.size ∧ v.ownBlock ≠ some q) A c)
    (hown : Y.ownsRow (B + 1) 28 6 v' (st.len + 1) (st.cells ++ [.int .i64 pk, .string pn, .string pm, .int .i64 pi, .int .i64 pd, .slice A s.len c]))
    (hat : v'.ownBlock = v.ownBlock ∨ v'.ownBlock = some X.heap.size) :
    RBu W1 B k n m i d v' (st.app (.cons pk pn pm pi pd A c s .nil)) (Y.setCell ⟨B, 5, none⟩ v') := by
  have hlo : ∀ q, q ≤ B → some q ≠ v.ownBlock := fun q hq e => by have := (World.ownsRow.lt h.own q e.symm).1; omega
  have hlt := blk_lt h.nb
  have hkeep : ∀ q, q < B → (Y.setCell ⟨B, 5, none⟩ v').heap[q]? = X.heap[q]? := fun q hq => (Below.heap_setCell _ _ _ _ (by simp <;> omega)).trans (hg.block q (by omega) (hlo q (by omega)))
  have hnbY : Y.heap[B]? = _ := (hg.block B hlt (hlo B (Nat.le_refl _))).trans h.nb
  have hcell : ∀ p : Addr, (B < p.block ∧ p.block < X.heap.size ∧ v.ownBlock ≠ some p.block) → (Y.setCell ⟨B, 5, none⟩ v').cell? p = X.cell? p := fun p hp =>
    World.cell?_of_block ((Below.heap_setCell _ _ _ _ (by have := hp.1; simp <;> omega)).trans (hg.block p.block hp.2.1 (fun e => hp.2.2 e.symm)))
  have hP : ∀ q, (B < q ∧ q < X.heap.size ∧ v.ownBlock ≠ some q) → (B < q ∧ q < (Y.setCell ⟨B, 5, none⟩ v').heap.size ∧ v'.ownBlock ≠ some q) := fun q hq => by
    have h1 := hg.size
    refine ⟨hq.1, by simp [World.setCell] at h1 ⊢; omega, fun e => ?_⟩
    rcases hat with h2 | h2
    · exact hq.2.2 (h2.symm.trans e)
    · rw [h2] at e
      have := Option.some.inj e
      omega
  refine ⟨by simp [World.setCell, Array.getElem?_modify, hnbY], ?_, ?_, ⟨hg.os.trans h.bw.os, hg.tape.trans h.bw.tape, hg.output.trans h.bw.output, ?_, fun q hq => (hkeep q hq).trans (h.bw.block q hq)⟩⟩
  · rw [Fo.len_app, Fo.cells_app]
    refine ownsRow_setCell_other (by simpa [Fo.len, Fo.cells] using hown) (fun e => ?_) _
    have := (World.ownsRow.lt hown B e).1
    omega
  · have h1 := hs.keep hP hcell
    exact Fo.SubsP.app (g := .cons pk pn pm pi pd A c s .nil) ⟨h1, trivial⟩ (h.sub.keep hP hcell)
  · have h1 := hg.size
    have h2 := h.bw.size
    simp [World.setCell] at h1 ⊢
    omega
end
def UbE (uses : List ByteArray) (ds : List Dc) (known : List If) (uA : Option Addr) (uc : Nat) (dA : Option Addr) (dc : Nat) (kA : Option Addr) (kc : Nat) (w : World) : Prop :=
  SlS w w.heap.size uA uc uses ∧ SlD w w.heap.size dA dc ds ∧ SlI w w.heap.size kA kc known
theorem UbE.below {uses : List ByteArray} {ds : List Dc} {known : List If} {uA : Option Addr} {uc : Nat} {dA : Option Addr} {dc : Nat} {kA : Option Addr} {kc : Nat} {w X : World} (h : UbE uses ds known uA uc dA dc kA kc w) (hX : Below w.heap.size w X) : UbE uses ds known uA uc dA dc kA kc X :=
  ⟨h.1.keep hX.size fun _ hp => hX.cell hp, h.2.1.keep hX.size fun _ hp => hX.cell hp, h.2.2.below hX⟩
def UbC (q : Int × Nx × Pt) (X : World) (p : Nat) (Y : World) : Prop := Below X.heap.size X Y ∧ X.heap.size ≤ p ∧
  (q.1 = 0 → ∃ (t : Fo) (A : Option Addr) (c : Nat), t.pt = q.2.2 ∧ t.SlP Y (fun k => X.heap.size ≤ k ∧ k < Y.heap.size) A c ∧ Y.heap[p]? = some (.cells #[.int .i64 q.2.1.k, .string q.2.1.n, .string q.2.1.m, .int .i64 q.2.1.i, .int .i64 q.2.1.d, .slice A t.len c] 28 (0, 0)))
theorem UbC.congr {q : Int × Nx × Pt} {X : World} {p : Nat} {Y Y' : World} (h : UbC q X p Y) (hh : Y'.heap = Y.heap) (ho : Y'.os = Y.os) (ht : Y'.tape = Y.tape) (hu : Y'.output = Y.output) : UbC q X p Y' := by
  obtain ⟨h1, h2, h3⟩ := h
  refine ⟨⟨ho.trans h1.os, ht.trans h1.tape, hu.trans h1.output, by rw [hh]; exact h1.size, fun k hk => by rw [hh]; exact h1.block k hk⟩, h2, fun h0 => ?_⟩
  obtain ⟨t, A, c, h4, h5, h6⟩ := h3 h0
  refine ⟨t, A, c, h4, h5.keep (fun k hk => by rw [hh]; exact hk) (fun _ _ => World.cell?_of_block (by rw [hh])), by rw [hh]; exact h6⟩
theorem UbC.late {q : Int × Nx × Pt} {X Xc w5 : World} {k : Int} {n m : ByteArray} {i d : Int} {A : Option Addr} {l c : Nat} (hX : Below X.heap.size X Xc) (hb : Below Xc.heap.size Xc w5)
    (hq : q.1 = 0 → k = q.2.1.k ∧ n = q.2.1.n ∧ m = q.2.1.m ∧ i = q.2.1.i ∧ d = q.2.1.d ∧ ∃ t : Fo, t.pt = q.2.2 ∧ l = t.len ∧ t.SlP w5 (fun k => Xc.heap.size ≤ k ∧ k < w5.heap.size) A c) :
    UbC q X w5.heap.size (w5.alloc (.cells #[.int .i64 k, .string n, .string m, .int .i64 i, .int .i64 d, .slice A l c] 28)) := by
  have h1 := hX.trans (hb.mono hX.size)
  refine ⟨h1.alloc h1.size _, h1.size, fun h0 => ?_⟩
  obtain ⟨rfl, rfl, rfl, rfl, rfl, t, ht, rfl, hs⟩ := hq h0
  refine ⟨t, A, c, ht, hs.keep (fun k hk => ⟨by have := hX.size; omega, by simp; omega⟩) (fun p hp => World.cell?_alloc_lt w5 _ p hp.2), heap_alloc_new _ _⟩
theorem UbC.early {q : Int × Nx × Pt} {X Xc w5 : World} {p : Nat} {k : Int} {n m : ByteArray} {i d : Int} {A : Option Addr} {l c : Nat} {c0 c1 c2 c3 c4 c5 : Value} (hX : Below X.heap.size X Xc) (hb : Below Xc.heap.size Xc w5) (hXp : X.heap.size ≤ p) (hp : Xc.heap[p]? = some (.cells #[c0, c1, c2, c3, c4, c5] 28 (0, 0)))
    (hq : q.1 = 0 → k = q.2.1.k ∧ n = q.2.1.n ∧ m = q.2.1.m ∧ i = q.2.1.i ∧ d = q.2.1.d ∧ ∃ t : Fo, t.pt = q.2.2 ∧ l = t.len ∧ t.SlP w5 (fun k => Xc.heap.size ≤ k ∧ k < w5.heap.size) A c) :
    UbC q X p ((((((w5.setCell ⟨p, 0, none⟩ (.int .i64 k)).setCell ⟨p, 1, none⟩ (.string n)).setCell ⟨p, 2, none⟩ (.string m)).setCell ⟨p, 3, none⟩ (.int .i64 i)).setCell ⟨p, 4, none⟩ (.int .i64 d)).setCell ⟨p, 5, none⟩ (.slice A l c)) := by
  have h1 := hX.trans (hb.mono hX.size)
  have hpl := blk_lt hp
  have hp5 := (hb.block p hpl).trans hp
  have hset := six_set hp5 (.int .i64 k) (.string n) (.string m) (.int .i64 i) (.int .i64 d) (.slice A l c)
  refine ⟨(((((h1.setCell (by simpa using hXp) _).setCell (by simpa using hXp) _).setCell (by simpa using hXp) _).setCell (by simpa using hXp) _).setCell (by simpa using hXp) _).setCell (by simpa using hXp) _, hXp, fun h0 => ?_⟩
  obtain ⟨rfl, rfl, rfl, rfl, rfl, t, ht, rfl, hs⟩ := hq h0
  refine ⟨t, A, c, ht, hs.keep (fun k hk => ⟨by have := hX.size; omega, by simp; omega⟩) (fun z hz => World.cell?_of_block ?_), hset⟩
  have hne : z.block ≠ p := by omega
  refine (heap_setCell_other _ _ _ _ (by simpa using hne)).trans ((heap_setCell_other _ _ _ _ (by simpa using hne)).trans ((heap_setCell_other _ _ _ _ (by simpa using hne)).trans ((heap_setCell_other _ _ _ _ (by simpa using hne)).trans ((heap_setCell_other _ _ _ _ (by simpa using hne)).trans (heap_setCell_other _ _ _ _ (by simpa using hne))))))
end Go.Proofs.YtacjjkbkhpdhnaaGreatDoor
