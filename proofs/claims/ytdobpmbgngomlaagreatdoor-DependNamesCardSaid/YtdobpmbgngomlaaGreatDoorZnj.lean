/- bind.Rename: the closure, slices.IndexFunc and slices.Clone at declarations -/
import Derived.Test.YtdobpmbgngomlaaGreatDoorZls
import Derived.Test.YtdobpmbgngomlaaGreatDoorZlf
import Derived.Test.YtdobpmbgngomlaaGreatDoorChk
import Derived.Test.YtdobpmbgngomlaaGreatDoorZlv
namespace Go.Proofs.YtdobpmbgngomlaaGreatDoor
open Go.RowKit Go.Proofs Go.Shelf

theorem rename1_any (x : Dc) (id : Int) (p : Nat) (w : World) (hp : w.cell? ⟨p, 0, none⟩ = some (.int .i64 id)) :
    Calls Tryz.prog 60 #[.agg #[.int .i64 x.id, .int .i64 x.kind, .bool x.pub, .slice x.nA x.names.length x.nc, .bool x.doubt, .int .i64 x.k, .string x.n, .string x.m, .int .i64 x.i, .int .i64 x.d, .slice x.A x.s.len x.c], .pointer (some ⟨p, 0, none⟩)] w fun e w' => e = .returned (.bool (x.id == id)) ∧ Below w.heap.size w w' := by
  obtain ⟨W0, hW0⟩ : ∃ W0, w.alloc (.cells #[.int .i64 x.id, .int .i64 x.kind, .bool x.pub, .slice x.nA x.names.length x.nc, .bool x.doubt, .int .i64 x.k, .string x.n, .string x.m, .int .i64 x.i, .int .i64 x.d, .slice x.A x.s.len x.c] 44) = W0 := ⟨_, rfl⟩
  have hB0 : Below w.heap.size w W0 := by subst hW0; exact (Below.refl _ _).alloc (Nat.le_refl _) _
  have h0 : W0.cell? ⟨w.heap.size, 0, none⟩ = some (.int .i64 x.id) := by subst hW0; go_simp
  have hp0 : W0.cell? ⟨p, 0, none⟩ = some (.int .i64 id) := (hB0.cell (World.block_lt_of_cell? w ⟨p, 0, none⟩ hp)).trans hp
  have HB := Lib.hid hB0
  clear hB0 hp
  go_enter Tryz.func60, Tryz.ntmps60
  go_wp2
  go_ret
  exact ⟨rfl, HB.out⟩

/-- What IndexFunc answers: nothing, or a place. -/
def IdxDP (n : Nat) (w : World) (e : Ending) (w' : World) : Prop := ∃ j : Int, e = .returned (.int .i64 j) ∧ Below w.heap.size w w' ∧ (j = -1 ∨ ∃ q : Nat, j = q ∧ q < n)

set_option maxHeartbeats 1000000 in
theorem indexFnD_any (l : List Dc) (id : Int) (p : Nat) (A : Option Addr) (c : Nat) (w : World) (hs : SlD w w.heap.size A c l) (hp : w.cell? ⟨p, 0, none⟩ = some (.int .i64 id)) :
    Calls Tryz.prog 59 #[.slice A l.length c, .func (.func 60) #[] #[.pointer (some ⟨p, 0, none⟩)]] w (IdxDP l.length w) := by
  obtain ⟨N, HN⟩ : ∃ Q, Hid (l.length = Q) := ⟨_, Lib.hid rfl⟩
  have hcap : l.length ≤ 9223372036854775807 := by have := hs.1; have := hs.2.1; unfold maxLen at this; omega
  rw [HN.out] at hcap ⊢
  have HS := Lib.hid (And.intro hs hp)
  clear hs hp
  go_enter Tryz.func59, Tryz.ntmps59
  go_wp2
  go_loopg [5, 8] N (fun g _ ct wr => ∃ j : Nat, g = N - j ∧ j ≤ N ∧ ct = .int .i64 j ∧ Below w.heap.size w wr)
  case atStart => exact ⟨0, rfl, by omega, rfl, Below.refl _ _⟩
  case round =>
    obtain ⟨j, HG, hj, rfl, hBr⟩ := hrel
    have hz := hBr.size
    by_cases hlt : j < N
    · have hj3 : l[j]? = some (l[j]'(by rw [HN.out]; exact hlt)) := List.getElem?_eq_getElem _
      obtain ⟨b, o, rfl, hb, d0, d1, d2, d3, d4, d5, d6, d7, d8, d9, d10, _⟩ := HS.out.1.cells_at (fun p hp => hBr.cell hp) hj3
      have HE := Lib.hid (And.intro HG hBr)
      have hpr := (hBr.cell (World.block_lt_of_cell? w ⟨p, 0, none⟩ HS.out.2)).trans HS.out.2
      clear HG hBr hj3
      generalize (l[j]'(by rw [HN.out]; exact hlt)) = x at d0 d1 d2 d3 d4 d5 d6 d7 d8 d9 d10
      have HR := Lib.hid (rename1_any x id p wr hpr)
      clear hpr
      go_wp2_with fail
      refine HR.out.mono ?_
      rintro e w1 ⟨rfl, hb1⟩
      have HB1 := Lib.hid (HE.out.2.trans (hb1.mono hz))
      clear hb1 HR d0 d1 d2 d3 d4 d5 d6 d7 d8 d9 d10
      cases hq : (x.id == id)
      · go_wp2
        go_roundg (N - (j + 1))
        case measure => rw [HE.out.1]; omega
        case rel => exact ⟨j + 1, rfl, by omega, by go_num, HB1.out⟩
      · go_wp2
        go_ret
        exact ⟨j, rfl, HB1.out, .inr ⟨j, rfl, hlt⟩⟩
    · obtain rfl : j = N := by omega
      clear HG
      go_wp2
      go_ret
      exact ⟨-1, rfl, hBr, .inl rfl⟩

theorem Tryz.infoDecl : (Tryz.prog.info? 44).map (fun i => (i.zero, i.size, i.bytes)) = some (some (.agg #[.int .i64 0, .int .i64 0, .bool false, .slice none 0 0, .bool false, .int .i64 0, .string ⟨#[]⟩, .string ⟨#[]⟩, .int .i64 0, .int .i64 0, .slice none 0 0]), 11, 136) := by kernel_rfl
/-- The cells of declarations. -/
def dcC : List Dc → List Value
  | [] => []
  | x :: r => x.cells.toList ++ dcC r
theorem dcC_length : ∀ l : List Dc, (dcC l).length = l.length * 11
  | [] => rfl
  | x :: r => by
    simp only [dcC, List.length_append, dcC_length r, List.length_cons]
    have : x.cells.toList.length = 11 := rfl
    omega
theorem dcC_at : ∀ (l : List Dc) (j : Nat) (x : Dc), l[j]? = some x → ∀ q v, x.cells[q]? = some v → (dcC l)[j * 11 + q]? = some v
  | [], j, x, h, _, _, _ => by simp at h
  | y :: r, 0, x, h, q, v, hq => by
    simp only [List.getElem?_cons_zero, Option.some.injEq] at h
    subst h
    have hlt : q < 11 := (Array.getElem?_eq_some_iff.1 hq).1
    rw [dcC, Nat.zero_mul, Nat.zero_add, List.getElem?_append_left (by exact hlt), Array.getElem?_toList]
    exact hq
  | y :: r, j + 1, x, h, q, v, hq => by
    simp only [List.getElem?_cons_succ] at h
    have h11 : y.cells.toList.length = 11 := rfl
    rw [dcC, List.getElem?_append_right (by omega), h11, show (j + 1) * 11 + q - 11 = j * 11 + q by omega]
    exact dcC_at r j x h q v hq
theorem dcC_back : ∀ (l : List Dc) (k : Nat) (u : Value), (dcC l)[k]? = some u → ∃ j x q, l[j]? = some x ∧ x.cells[q]? = some u ∧ k = j * 11 + q
  | [], k, u, h => by simp [dcC] at h
  | y :: r, k, u, h => by
    have h11 : y.cells.toList.length = 11 := rfl
    rw [dcC] at h
    by_cases hk : k < 11
    · rw [List.getElem?_append_left (by omega), Array.getElem?_toList] at h
      exact ⟨0, y, k, rfl, h, by omega⟩
    · rw [List.getElem?_append_right (by omega), h11] at h
      obtain ⟨j, x, q, h1, h2, h3⟩ := dcC_back r _ u h
      exact ⟨j + 1, x, q, by simpa using h1, h2, by omega⟩
theorem dcC_one : ∀ l : List Dc, ∀ u ∈ dcC l, u.oneCell' = true := fun l u hu => by
  obtain ⟨k, hk⟩ := List.getElem?_of_mem hu
  obtain ⟨j, x, q, _, h2, _⟩ := dcC_back l k u hk
  have hlt : q < 11 := (Array.getElem?_eq_some_iff.1 h2).1
  match q, hlt with
  | 0, _ => simp [Dc.cells] at h2; subst h2; rfl
  | 1, _ => simp [Dc.cells] at h2; subst h2; rfl
  | 2, _ => simp [Dc.cells] at h2; subst h2; rfl
  | 3, _ => simp [Dc.cells] at h2; subst h2; rfl
  | 4, _ => simp [Dc.cells] at h2; subst h2; rfl
  | 5, _ => simp [Dc.cells] at h2; subst h2; rfl
  | 6, _ => simp [Dc.cells] at h2; subst h2; rfl
  | 7, _ => simp [Dc.cells] at h2; subst h2; rfl
  | 8, _ => simp [Dc.cells] at h2; subst h2; rfl
  | 9, _ => simp [Dc.cells] at h2; subst h2; rfl
  | 10, _ => simp [Dc.cells] at h2; subst h2; rfl

def CloneDP (l : List Dc) (w : World) (e : Ending) (w' : World) : Prop :=
  ∃ v, e = .returned v ∧ w'.ownsRow w.heap.size 44 11 v l.length (dcC l) ∧ Below w.heap.size w w'
set_option maxRecDepth 100000 in
set_option maxHeartbeats 1000000 in
theorem slcCloneD_any (l : List Dc) (ad : Addr) (c : Nat) (w : World) (hs : SlD w w.heap.size (some ad) c l) (hl : l.length ≤ 100) :
    Calls Tryz.prog 16 #[.slice (some ad) l.length c] w (CloneDP l w) := by
  obtain ⟨i0, hi, hz0, hz1, hz2⟩ := info_parts Tryz.infoDecl
  have hc1 := hs.1
  have q22 : ∀ (w : World) (a : Option Addr) (n c n' c' : Nat), (binOp .eql 39 (.slice a n c) (.slice none n' c')).run Tryz.prog w = .ok (.bool a.isNone) w := fun w a n c n' c' => Lib.run_eql_slice_nil w _ _ a n c n' c' Tryz.underlying39
  have hnews : ∀ a', some ad = some a' → ∀ j u, (dcC l)[j]? = some u → (w.alloc (.cells #[] 44)).cell? (a'.add j) = some u := by
    intro a' e j u hu
    cases e
    obtain ⟨k, x, q, h1, h2, rfl⟩ := dcC_back l j u hu
    obtain ⟨b, o, e, hb, hcell⟩ := hs.2.2 (by intro e; subst e; simp at h1)
    cases e
    have h3 := (World.cell?_alloc_lt w (.cells #[] 44) ⟨b, o + k * 11 + q, none⟩ hb).trans ((hcell k x h1).1 q u h2)
    unfold Addr.add
    by_cases h0 : k * 11 + q = 0
    · rw [if_pos h0]
      rw [Nat.add_assoc, h0] at h3
      simpa using h3
    · rw [if_neg h0]
      rw [Nat.add_assoc] at h3
      exact h3
  have HN := Lib.hid hnews
  clear hnews hs
  have hrow := World.ownsRow_lit (base := w.heap.size) (e := 44) (size := 11) w #[] 0 (Nat.le_refl _) (by simp) rfl
  have HW := Lib.hid hrow
  clear hrow
  go_enter Tryz.func16, Tryz.ntmps16
  go_wp2_with (at_builtin; refine wpList_append_own_any _ rfl _ _ 39 rfl w.heap.size 44 i0 _ 11 136 Tryz.underlying39 hi hz0 hz1 hz2 rfl (by decide) _ 0 [] rfl HW.out (some ad) l.length c (dcC l) rfl (dcC_length l) (by simp) HN.out (dcC_one l) (by unfold maxLen; omega) (by omega) (by simp) ?_; intro v' w1 hown' hgrow)
  go_ret
  refine ⟨_, rfl, ?_, ?_⟩
  · simpa using hown'
  · exact ((Below.refl _ _).alloc (Nat.le_refl _) _).trans (Keeps.to_below ((Keeps.refl (fun k => k < w.heap.size) _).grown hgrow (by rintro k hk; cases hk; simp)) (by simp) (by simp))
end Go.Proofs.YtdobpmbgngomlaaGreatDoor
/- Clones of declarations, and cells of modules: what the laws that turn modules share -/
namespace Go.Proofs.YtdobpmbgngomlaaGreatDoor
open Go.RowKit Go.Proofs Go.Shelf

theorem Tryz.infoModule : (Tryz.prog.info? 41).map (fun i => (i.zero, i.size, i.bytes)) = some (some (.agg #[.string ⟨#[]⟩, .slice none 0 0, .slice none 0 0]), 3, 64) := by kernel_rfl
theorem cloneD_all (l : List Dc) (A : Option Addr) (c : Nat) (w : World) (hs : SlD w w.heap.size A c l) (hl : l.length ≤ 100) :
    Calls Tryz.prog 16 #[.slice A l.length c] w (CloneDP l w) := by
  cases A with
  | some ad => exact slcCloneD_any l ad c w hs hl
  | none =>
    have h0 : l = [] := by
      cases l with
      | nil => rfl
      | cons x r => obtain ⟨b, o, e, _⟩ := hs.2.2 (by simp); cases e
    subst h0
    have q22 : ∀ (w : World) (a : Option Addr) (n c n' c' : Nat), (binOp .eql 39 (.slice a n c) (.slice none n' c')).run Tryz.prog w = .ok (.bool a.isNone) w := fun w a n c n' c' => Lib.run_eql_slice_nil w _ _ a n c n' c' Tryz.underlying39
    clear hs
    go_enter Tryz.func16, Tryz.ntmps16
    go_wp2
    go_ret
    exact ⟨_, rfl, World.ownsRow_nil _ _ _ _, Below.refl _ _⟩

/-- The cells of modules. -/
def moC : List Mo → List Value
  | [] => []
  | x :: r => x.cells.toList ++ moC r
theorem moC_length : ∀ l : List Mo, (moC l).length = l.length * 3
  | [] => rfl
  | x :: r => by
    simp only [moC, List.length_append, moC_length r, List.length_cons]
    have : x.cells.toList.length = 3 := rfl
    omega
theorem moC_at : ∀ (l : List Mo) (j : Nat) (x : Mo), l[j]? = some x → ∀ q v, x.cells[q]? = some v → (moC l)[j * 3 + q]? = some v
  | [], j, x, h, _, _, _ => by simp at h
  | y :: r, 0, x, h, q, v, hq => by
    simp only [List.getElem?_cons_zero, Option.some.injEq] at h
    subst h
    have hlt : q < 3 := (Array.getElem?_eq_some_iff.1 hq).1
    rw [moC, Nat.zero_mul, Nat.zero_add, List.getElem?_append_left (by exact hlt), Array.getElem?_toList]
    exact hq
  | y :: r, j + 1, x, h, q, v, hq => by
    simp only [List.getElem?_cons_succ] at h
    have h3 : y.cells.toList.length = 3 := rfl
    rw [moC, List.getElem?_append_right (by omega), h3, show (j + 1) * 3 + q - 3 = j * 3 + q by omega]
    exact moC_at r j x h q v hq
theorem moC_append : ∀ (l r : List Mo), moC (l ++ r) = moC l ++ moC r
  | [], r => rfl
  | x :: l, r => by simp only [List.cons_append, moC, moC_append l r, List.append_assoc]
theorem cell_trip_new (w : World) (a b d : Value) (t : TypeId) : ∀ j u, ([a, b, d] : List Value)[j]? = some u → (w.alloc (.cells #[a, b, d] t)).cell? ((⟨w.heap.size, 0, none⟩ : Addr).add j) = some u := by
  intro j u hu
  have h := heap_alloc_new w (.cells #[a, b, d] t)
  have hadd : (⟨w.heap.size, 0, none⟩ : Addr).add j = ⟨w.heap.size, j, none⟩ := by unfold Addr.add; split <;> simp_all
  rw [hadd, cell_of_row _ _ _ _ _ _ h]
  simpa using hu
theorem own_cap {X : World} {base : Nat} {e : TypeId} {size n c : Nat} {A : Option Addr} {xs : List Value} (h : X.ownsRow base e size (.slice A n c) n xs) : n ≤ c ∧ c ≤ maxLen := by
  rcases h.2 with ⟨h1, h2⟩ | ⟨g, cap, cur, h1, _, h3, h4, h5, _⟩
  · simp only [Value.slice.injEq] at h1
    exact ⟨by omega, by rw [h1.2.2]; exact Nat.zero_le _⟩
  · simp only [Value.slice.injEq, true_and] at h1
    obtain ⟨rfl, rfl⟩ := h1
    exact ⟨h4, h5⟩
theorem own_ge {X : World} {base : Nat} {e : TypeId} {size n : Nat} {v : Value} {xs : List Value} (h : X.ownsRow base e size v n xs) : ∀ k, v.ownBlock = some k → base ≤ k := by
  intro k hk
  rcases h.2 with ⟨rfl, _⟩ | ⟨g, cap, cur, rfl, h2, _⟩
  · cases hk
  · simp only [Value.ownBlock, Option.some.injEq] at hk
    omega
/-- From X to Y only the block g has changed, and there may be new ones. -/
structure StB (Wo X Y : World) (g : Nat) (cs : Array Value) : Prop where
  row : Y.heap[g]? = some (.cells cs 44 (0, 0))
  below : Below Wo.heap.size Wo Y
  size : X.heap.size ≤ Y.heap.size
  keep : ∀ k, k < X.heap.size → k ≠ g → Y.heap[k]? = X.heap[k]?
theorem StB.refl {Wo X : World} {g : Nat} {cs : Array Value} (h : X.heap[g]? = some (.cells cs 44 (0, 0))) (hb : Below Wo.heap.size Wo X) : StB Wo X X g cs := ⟨h, hb, Nat.le_refl _, fun _ _ _ => rfl⟩
theorem StB.drewN {Wo X Y : World} {g : Nat} {cs : Array Value} (h : StB Wo X Y g cs) (n : Nat) : StB Wo X (Y.drewN n) g cs := ⟨h.row, ⟨h.below.os, h.below.tape, h.below.output, h.below.size, h.below.block⟩, h.size, h.keep⟩
theorem StB.set {Wo X Y : World} {g : Nat} {cs : Array Value} (h : StB Wo X Y g cs) (hg : Wo.heap.size ≤ g) (p : Nat) (v : Value) : StB Wo X (Y.setCell ⟨g, p, none⟩ v) g (cs.setIfInBounds p v) := by
  have hs := h.below.setCell (p := ⟨g, p, none⟩) hg v
  refine ⟨heap_setCell_same _ _ _ _ _ _ h.row, hs, ?_, fun k hk hkg => (heap_setCell_other _ _ _ _ (by simpa using hkg)).trans (h.keep k hk hkg)⟩
  have : (Y.setCell ⟨g, p, none⟩ v).heap.size = Y.heap.size := by simp
  rw [this]
  exact h.size
theorem moC_back : ∀ (l : List Mo) (k : Nat) (u : Value), (moC l)[k]? = some u → ∃ j x q, l[j]? = some x ∧ x.cells[q]? = some u ∧ k = j * 3 + q
  | [], k, u, h => by simp [moC] at h
  | x :: r, k, u, h => by
    have h3 : x.cells.toList.length = 3 := rfl
    rw [moC] at h
    by_cases hk : k < 3
    · rw [List.getElem?_append_left (by omega), Array.getElem?_toList] at h
      exact ⟨0, x, k, rfl, h, by omega⟩
    · rw [List.getElem?_append_right (by omega), h3] at h
      obtain ⟨j, y, q, h1, h2, h4⟩ := moC_back r _ u h
      exact ⟨j + 1, y, q, by simpa using h1, h2, by omega⟩
theorem moC_one : ∀ l : List Mo, ∀ u ∈ moC l, u.oneCell' = true := fun l u hu => by
  obtain ⟨k, hk⟩ := List.getElem?_of_mem hu
  obtain ⟨j, x, q, _, h2, _⟩ := moC_back l k u hk
  have hlt : q < 3 := (Array.getElem?_eq_some_iff.1 h2).1
  match q, hlt with
  | 0, _ => simp [Mo.cells] at h2; subst h2; rfl
  | 1, _ => simp [Mo.cells] at h2; subst h2; rfl
  | 2, _ => simp [Mo.cells] at h2; subst h2; rfl
end Go.Proofs.YtdobpmbgngomlaaGreatDoor
