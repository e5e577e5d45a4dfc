/- bind.Rename: the closure, slices.IndexFunc and slices.Clone at declarations -/
import Derived.Test.YtacjjkbkhpdhnaaGreatDoorZpa
import Derived.Test.YtacjjkbkhpdhnaaGreatDoorZlf
import Derived.Test.YtacjjkbkhpdhnaaGreatDoorChk
import Derived.Test.YtacjjkbkhpdhnaaGreatDoorZpd
import Derived.Test.YtacjjkbkhpdhnaaGreatDoorZpe
import Derived.Test.YtacjjkbkhpdhnaaGreatDoorZln
namespace Go.Proofs.YtacjjkbkhpdhnaaGreatDoor
open Go.RowKit Go.Proofs Go.Shelf
theorem rename1_any (x : Dc) (id : Int) (p : Nat) (w : World) (hp : w.cell? ⟨p, 0, none⟩ = some (.int .i64 id)) :
    Calls Tryz.prog 81 #[.agg #[.int .i64 x.id, .int .i64 x.kind, .bool x.pub, .slice x.nA x.names.length x.nc, .bool x.doubt, .int .i64 x.k, .string x.n, .string x.m, .int .i64 x.i, .int .i64 x.d, .slice x.A x.s.len x.c], .pointer (some ⟨p, 0, none⟩)] w fun e w' => e = .returned (.bool (x.id == id)) ∧ Below w.heap.size w w' := by
  obtain ⟨W0, hW0⟩ : ∃ W0, w.alloc (.cells #[.int .i64 x.id, .int .i64 x.kind, .bool x.pub, .slice x.nA x.names.length x.nc, .bool x.doubt, .int .i64 x.k, .string x.n, .string x.m, .int .i64 x.i, .int .i64 x.d, .slice x.A x.s.len x.c] 63) = W0 := ⟨_, rfl⟩
  have hB0 : Below w.heap.size w W0 := by subst hW0; exact (Below.refl _ _).alloc (Nat.le_refl _) _
  have h0 : W0.cell? ⟨w.heap.size, 0, none⟩ = some (.int .i64 x.id) := by subst hW0; go_simp
  have hp0 : W0.cell? ⟨p, 0, none⟩ = some (.int .i64 id) := (hB0.cell (World.block_lt_of_cell? w ⟨p, 0, none⟩ hp)).trans hp
  have HB := Lib.hid hB0
  clear hB0 hp
  go_enter Tryz.func81, Tryz.ntmps81
  go_wp2
  go_ret
  exact ⟨rfl, HB.out⟩
def idxD (l : List Dc) (id : Int) : Option Nat := l.findIdx? fun x => x.id == id
def IdxDP (l : List Dc) (id : Int) (w : World) (e : Ending) (w' : World) : Prop := ∃ j : Int, e = .returned (.int .i64 j) ∧ Below w.heap.size w w' ∧ ((j = -1 ∧ idxD l id = none) ∨ ∃ q : Nat, j = q ∧ q < l.length ∧ idxD l id = some q)
theorem idxD_some {l : List Dc} {id : Int} {q : Nat} (hq : q < l.length) (h : (l[q].id == id) = true) (hp : ∀ j (hj : j < q), (l[j].id == id) = false) : idxD l id = some q := by
  unfold idxD
  rw [List.findIdx?_eq_some_iff_getElem]
  exact ⟨hq, h, fun j hj => by rw [hp j hj]; simp⟩
theorem idxD_none {l : List Dc} {id : Int} (hp : ∀ j (hj : j < l.length), (l[j].id == id) = false) : idxD l id = none := by
  unfold idxD
  rw [List.findIdx?_eq_none_iff]
  intro x hx
  obtain ⟨j, hj, rfl⟩ := List.getElem_of_mem hx
  exact hp j hj
set_option maxHeartbeats 1000000 in
theorem indexFnD_any (l : List Dc) (id : Int) (p : Nat) (A : Option Addr) (c : Nat) (w : World) (hs : SlD w w.heap.size A c l) (hp : w.cell? ⟨p, 0, none⟩ = some (.int .i64 id)) :
    Calls Tryz.prog 80 #[.slice A l.length c, .func (.func 81) #[] #[.pointer (some ⟨p, 0, none⟩)]] w (IdxDP l id w) := by
  obtain ⟨N, HN⟩ : ∃ Q, Hid (l.length = Q) := ⟨_, Lib.hid rfl⟩
  have hcap : l.length ≤ 9223372036854775807 := by have := hs.1; have := hs.2.1; unfold maxLen at this; omega
  rw [HN.out] at hcap ⊢
  have HS := Lib.hid (And.intro hs hp)
  clear hs hp
  go_enter Tryz.func80, Tryz.ntmps80
  go_wp2
  go_loopg [5, 8] N (fun g _ ct wr => ∃ j : Nat, g = N - j ∧ j ≤ N ∧ ct = .int .i64 j ∧ Hid (∀ i x, i < j → l[i]? = some x → (x.id == id) = false) ∧ Below w.heap.size w wr)
  case atStart => exact ⟨0, rfl, by omega, rfl, Lib.hid (fun i x hi => absurd hi (Nat.not_lt_zero _)), Below.refl _ _⟩
  case round =>
    obtain ⟨j, HG, hj, rfl, HP, hBr⟩ := hrel
    have hz := hBr.size
    by_cases hlt : j < N
    · have hj3 : l[j]? = some (l[j]'(by rw [HN.out]; exact hlt)) := List.getElem?_eq_getElem _
      obtain ⟨b, o, rfl, hb, d0, d1, d2, d3, d4, d5, d6, d7, d8, d9, d10, _⟩ := HS.out.1.cells_at (fun p hp => hBr.cell hp) hj3
      have HE := Lib.hid (And.intro HG (And.intro hBr hj3))
      have hpr := (hBr.cell (World.block_lt_of_cell? w ⟨p, 0, none⟩ HS.out.2)).trans HS.out.2
      clear HG hBr hj3
      generalize (l[j]'(by rw [HN.out]; exact hlt)) = x at d0 d1 d2 d3 d4 d5 d6 d7 d8 d9 d10 HE
      have HR := Lib.hid (rename1_any x id p wr hpr)
      clear hpr
      go_wp2_with fail
      refine HR.out.mono ?_
      rintro e w1 ⟨rfl, hb1⟩
      have HB1 := Lib.hid (HE.out.2.1.trans (hb1.mono hz))
      clear hb1 HR d0 d1 d2 d3 d4 d5 d6 d7 d8 d9 d10
      cases hq : (x.id == id)
      · go_wp2
        go_roundg (N - (j + 1))
        case measure => rw [HE.out.1]; omega
        case rel =>
          refine ⟨j + 1, rfl, by omega, by go_num, Lib.hid fun i y hi hy => ?_, HB1.out⟩
          by_cases hij : i = j
          · subst hij
            rw [HE.out.2.2] at hy
            cases hy
            exact hq
          · exact HP.out i y (by omega) hy
      · have HQ := Lib.hid hq
        clear hq
        go_wp2
        go_ret
        have hl : j < l.length := by rw [HN.out]; exact hlt
        refine ⟨j, rfl, HB1.out, .inr ⟨j, rfl, hl, idxD_some hl ?_ fun i hi => HP.out i _ hi (List.getElem?_eq_getElem (by omega))⟩⟩
        rw [(List.getElem?_eq_some_iff.1 HE.out.2.2).2]
        exact HQ.out
    · obtain rfl : j = N := by omega
      clear HG
      go_wp2
      go_ret
      exact ⟨-1, rfl, hBr, .inl ⟨rfl, idxD_none fun i hi => HP.out i _ (by rw [← HN.out]; exact hi) (List.getElem?_eq_getElem hi)⟩⟩
theorem Tryz.infoDecl : (Tryz.prog.info? 63).map (fun i => (i.zero, i.size, i.bytes)) = some (some (.agg #[.int .i64 0, .int .i64 0, .bool false, .slice none 0 0, .bool false, .int .i64 0, .string ⟨#[]⟩, .string ⟨#[]⟩, .int .i64 0, .int .i64 0, .slice none 0 0]), 11, 136) := by kernel_rfl
def dcC : List Dc → List Value
  | [] => []
  | x :: r => x.cells.toList ++ dcC r
theorem dcC_length : ∀ l : List Dc, (dcC l).length = l.length * 11
  | [] => rfl
  | x :: r => by
    simp only [dcC, List.length_append, dcC_length r, List.length_cons]
    have : x.cells.toList.length = 11 := rfl
    omega
theorem dcC_at : ∀ (l : List Dc) (j : Nat) (x : Dc), l[j]? = some x → ∀ q v, x.cells[q]? = some v → (dcC l)[j * 11 + q]? = some v
  | [], j, x, h, _, _, _ => by simp at h
  | y :: r, 0, x, h, q, v, hq => by
    simp only [List.getElem?_cons_zero, Option.some.injEq] at h
    subst h
    have hlt : q < 11 := (Array.getElem?_eq_some_iff.1 hq).1
    rw [dcC, Nat.zero_mul, Nat.zero_add, List.getElem?_append_left (by exact hlt), Array.getElem?_toList]
    exact hq
  | y :: r, j + 1, x, h, q, v, hq => by
    simp only [List.getElem?_cons_succ] at h
    have h11 : y.cells.toList.length = 11 := rfl
    rw [dcC, List.getElem?_append_right (by omega), h11, show (j + 1) * 11 + q - 11 = j * 11 + q by omega]
    exact dcC_at r j x h q v hq
theorem dcC_back : ∀ (l : List Dc) (k : Nat) (u : Value), (dcC l)[k]? = some u → ∃ j x q, l[j]? = some x ∧ x.cells[q]? = some u ∧ k = j * 11 + q
  | [], k, u, h => by simp [dcC] at h
  | y :: r, k, u, h => by
    have h11 : y.cells.toList.length = 11 := rfl
    rw [dcC] at h
    by_cases hk : k < 11
    · rw [List.getElem?_append_left (by omega), Array.getElem?_toList] at h
      exact ⟨0, y, k, rfl, h, by omega⟩
    · rw [List.getElem?_append_right (by omega), h11] at h
      obtain ⟨j, x, q, h1, h2, h3⟩ := dcC_back r _ u h
      exact ⟨j + 1, x, q, by simpa using h1, h2, by omega⟩
theorem dcC_one : ∀ l : List Dc, ∀ u ∈ dcC l, u.oneCell' = true := fun l u hu => by
  obtain ⟨k, hk⟩ := List.getElem?_of_mem hu
  obtain ⟨j, x, q, _, h2, _⟩ := dcC_back l k u hk
  have hlt : q < 11 := (Array.getElem?_eq_some_iff.1 h2).1
  match q, hlt with
  | 0, _ => simp [Dc.cells] at h2; subst h2; rfl
  | 1, _ => simp [Dc.cells] at h2; subst h2; rfl
  | 2, _ => simp [Dc.cells] at h2; subst h2; rfl
  | 3, _ => simp [Dc.cells] at h2; subst h2; rfl
  | 4, _ => simp [Dc.cells] at h2; subst h2; rfl
  | 5, _ => simp [Dc.cells] at h2; subst h2; rfl
  | 6, _ => simp [Dc.cells] at h2; subst h2; rfl
  | 7, _ => simp [Dc.cells] at h2; subst h2; rfl
  | 8, _ => simp [Dc.cells] at h2; subst h2; rfl
  | 9, _ => simp [Dc.cells] at h2; subst h2; rfl
  | 10, _ => simp [Dc.cells] at h2; subst h2; rfl
def CloneDP (l : List Dc) (w : World) (e : Ending) (w' : World) : Prop :=
  ∃ v, e = .returned v ∧ w'.ownsRow w.heap.size 63 11 v l.length (dcC l) ∧ Below w.heap.size w w'
set_option maxRecDepth 100000 in
set_option maxHeartbeats 1000000 in
theorem slcCloneD_any (l : List Dc) (ad : Addr) (c : Nat) (w : World) (hs : SlD w w.heap.size (some ad) c l) (hl : l.length ≤ 100) :
    Calls Tryz.prog 82 #[.slice (some ad) l.length c] w (CloneDP l w) := by
  obtain ⟨i0, hi, hz0, hz1, hz2⟩ := info_parts Tryz.infoDecl
  have hc1 := hs.1
  have q22 : ∀ (w : World) (a : Option Addr) (n c n' c' : Nat), (binOp .eql 23 (.slice a n c) (.slice none n' c')).run Tryz.prog w = .ok (.bool a.isNone) w := fun w a n c n' c' => Lib.run_eql_slice_nil w _ _ a n c n' c' Tryz.underlying23
  have hnews : ∀ a', some ad = some a' → ∀ j u, (dcC l)[j]? = some u → (w.alloc (.cells #[] 63)).cell? (a'.add j) = some u := by
    intro a' e j u hu
    cases e
    obtain ⟨k, x, q, h1, h2, rfl⟩ := dcC_back l j u hu
    obtain ⟨b, o, e, hb, hcell⟩ := hs.2.2 (by intro e; subst e; simp at h1)
    cases e
    have h3 := (World.cell?_alloc_lt w (.cells #[] 63) ⟨b, o + k * 11 + q, none⟩ hb).trans ((hcell k x h1).1 q u h2)
    unfold Addr.add
    by_cases h0 : k * 11 + q = 0
    · rw [if_pos h0]
      rw [Nat.add_assoc, h0] at h3
      simpa using h3
    · rw [if_neg h0]
      rw [Nat.add_assoc] at h3
      exact h3
  have HN := Lib.hid hnews
  clear hnews hs
  have hrow := World.ownsRow_lit (base := w.heap.size) (e := 63) (size := 11) w #[] 0 (Nat.le_refl _) (by simp) rfl
  have HW := Lib.hid hrow
  clear hrow
  go_enter Tryz.func82, Tryz.ntmps82
  go_wp2_with (at_builtin; refine wpList_append_own_any _ rfl _ _ 23 rfl w.heap.size 63 i0 _ 11 136 Tryz.underlying23 hi hz0 hz1 hz2 rfl (by decide) _ 0 [] rfl HW.out (some ad) l.length c (dcC l) rfl (dcC_length l) (by simp) HN.out (dcC_one l) (by unfold maxLen; omega) (by omega) (by simp) ?_; intro v' w1 hown' hgrow)
  go_ret
  refine ⟨_, rfl, ?_, ?_⟩
  · simpa using hown'
  · exact ((Below.refl _ _).alloc (Nat.le_refl _) _).trans (Keeps.to_below ((Keeps.refl (fun k => k < w.heap.size) _).grown hgrow (by rintro k hk; cases hk; simp)) (by simp) (by simp))
end Go.Proofs.YtacjjkbkhpdhnaaGreatDoor
/- bind.rebuildAll -/
namespace Go.Proofs.YtacjjkbkhpdhnaaGreatDoor
open Go.RowKit Go.Proofs Go.Shelf
theorem cloneD_any (l : List Dc) (A : Option Addr) (c : Nat) (w : World) (hs : SlD w w.heap.size A c l) (hl : l.length ≤ 100) :
    Calls Tryz.prog 82 #[.slice A l.length c] w (CloneDP l w) := by
  cases A with
  | some ad => exact slcCloneD_any l ad c w hs hl
  | none =>
    have h0 : l = [] := by
      cases l with
      | nil => rfl
      | cons x r => obtain ⟨b, o, e, _⟩ := hs.2.2 (by simp); cases e
    subst h0
    have q22 : ∀ (w : World) (a : Option Addr) (n c n' c' : Nat), (binOp .eql 23 (.slice a n c) (.slice none n' c')).run Tryz.prog w = .ok (.bool a.isNone) w := fun w a n c n' c' => Lib.run_eql_slice_nil w _ _ a n c n' c' Tryz.underlying23
    clear hs
    go_enter Tryz.func82, Tryz.ntmps82
    go_wp2
    go_ret
    exact ⟨_, rfl, World.ownsRow_nil _ _ _ _, Below.refl _ _⟩
def put6 (cs : Array Value) (p : Nat) (v0 v1 v2 v3 v4 v5 : Value) : Array Value :=
  (((((cs.setIfInBounds p v0).setIfInBounds (p + 1) v1).setIfInBounds (p + 2) v2).setIfInBounds (p + 3) v3).setIfInBounds (p + 4) v4).setIfInBounds (p + 5) v5
theorem put6_out (cs : Array Value) (p : Nat) (v0 v1 v2 v3 v4 v5 : Value) (i : Nat) (h : i < p ∨ p + 6 ≤ i) : (put6 cs p v0 v1 v2 v3 v4 v5)[i]? = cs[i]? := by
  unfold put6
  simp only [Array.getElem?_setIfInBounds]
  repeat rw [if_neg (by omega)]
theorem put6_in (cs : Array Value) (p : Nat) (v0 v1 v2 v3 v4 v5 : Value) (h : p + 5 < cs.size) : (put6 cs p v0 v1 v2 v3 v4 v5)[p]? = some v0 ∧ (put6 cs p v0 v1 v2 v3 v4 v5)[p + 1]? = some v1 ∧ (put6 cs p v0 v1 v2 v3 v4 v5)[p + 2]? = some v2 ∧
    (put6 cs p v0 v1 v2 v3 v4 v5)[p + 3]? = some v3 ∧ (put6 cs p v0 v1 v2 v3 v4 v5)[p + 4]? = some v4 ∧ (put6 cs p v0 v1 v2 v3 v4 v5)[p + 5]? = some v5 := by
  unfold put6
  simp only [Array.getElem?_setIfInBounds, Array.size_setIfInBounds]
  refine ⟨?_, ?_, ?_, ?_, ?_, ?_⟩ <;> simp <;> omega
def put6W (X : World) (g p : Nat) (v0 v1 v2 v3 v4 v5 : Value) : World :=
  (((((X.setCell ⟨g, p, none⟩ v0).setCell ⟨g, p + 1, none⟩ v1).setCell ⟨g, p + 2, none⟩ v2).setCell ⟨g, p + 3, none⟩ v3).setCell ⟨g, p + 4, none⟩ v4).setCell ⟨g, p + 5, none⟩ v5
theorem put6W_row {X : World} {g : Nat} {cs : Array Value} {t : TypeId} (h : X.heap[g]? = some (.cells cs t (0, 0))) (p : Nat) (v0 v1 v2 v3 v4 v5 : Value) : (put6W X g p v0 v1 v2 v3 v4 v5).heap[g]? = some (.cells (put6 cs p v0 v1 v2 v3 v4 v5) t (0, 0)) :=
  heap_setCell_same _ _ _ _ _ _ (heap_setCell_same _ _ _ _ _ _ (heap_setCell_same _ _ _ _ _ _ (heap_setCell_same _ _ _ _ _ _ (heap_setCell_same _ _ _ _ _ _ (heap_setCell_same _ _ _ _ _ _ h)))))
theorem put6W_other (X : World) (g p : Nat) (v0 v1 v2 v3 v4 v5 : Value) {k : Nat} (hk : k ≠ g) : (put6W X g p v0 v1 v2 v3 v4 v5).heap[k]? = X.heap[k]? := by
  unfold put6W
  refine (heap_setCell_other _ _ _ _ (by simpa using hk)).trans ((heap_setCell_other _ _ _ _ (by simpa using hk)).trans ((heap_setCell_other _ _ _ _ (by simpa using hk)).trans ((heap_setCell_other _ _ _ _ (by simpa using hk)).trans ((heap_setCell_other _ _ _ _ (by simpa using hk)).trans (heap_setCell_other _ _ _ _ (by simpa using hk))))))
theorem put6W_size (X : World) (g p : Nat) (v0 v1 v2 v3 v4 v5 : Value) : (put6W X g p v0 v1 v2 v3 v4 v5).heap.size = X.heap.size := by unfold put6W; simp
theorem put6W_below {w X : World} (h : Below w.heap.size w X) {g : Nat} (hg : w.heap.size ≤ g) (p : Nat) (v0 v1 v2 v3 v4 v5 : Value) : Below w.heap.size w (put6W X g p v0 v1 v2 v3 v4 v5) :=
  (((((h.setCell (p := ⟨g, p, none⟩) hg v0).setCell (p := ⟨g, p + 1, none⟩) hg v1).setCell (p := ⟨g, p + 2, none⟩) hg v2).setCell (p := ⟨g, p + 3, none⟩) hg v3).setCell (p := ⟨g, p + 4, none⟩) hg v4).setCell (p := ⟨g, p + 5, none⟩) hg v5
structure RaI (g : Repl) (ds es : List Dc) (gb : Nat) (X : World) (cs : Array Value) : Prop where
  row : X.heap[gb]? = some (.cells cs 63 (0, 0))
  rest : ∀ k x, es.length ≤ k → ds[k]? = some x → ∀ i v, x.cells[i]? = some v → cs[k * 11 + i]? = some v
  done : ∀ k x y, ds[k]? = some x → es[k]? = some y → RbDc g x y ∧ (∀ i v, y.cells[i]? = some v → cs[k * 11 + i]? = some v) ∧ y.s.SlP X (fun q => gb < q ∧ q < X.heap.size) y.A y.c
theorem RaI.keep {g : Repl} {ds es : List Dc} {gb : Nat} {X Y : World} {cs : Array Value} (h : RaI g ds es gb X cs) (hb : Below X.heap.size X Y) : RaI g ds es gb Y cs :=
  ⟨(hb.block _ (Array.getElem?_eq_some_iff.1 h.row).1).trans h.row, h.rest, fun k x y hx hy => by
    obtain ⟨h1, h2, h3⟩ := h.done k x y hx hy
    exact ⟨h1, h2, h3.keep (fun q hq => ⟨hq.1, Nat.lt_of_lt_of_le hq.2 hb.size⟩) fun p hp => hb.cell hp.2⟩⟩
def rbDc (x : Dc) (k : Int) (n m : ByteArray) (i d : Int) (A : Option Addr) (c : Nat) (s : Fo) : Dc := ⟨x.id, x.kind, x.pub, x.nA, x.nc, x.names, x.doubt, k, n, m, i, d, A, c, s⟩
theorem RaI.push {g : Repl} {ds es : List Dc} {gb j : Nat} {X : World} {cs : Array Value} (h : RaI g ds es gb X cs) (hj : es.length = j) {x : Dc} (hx : ds[j]? = some x) {k : Int} {n m : ByteArray} {i d : Int} {A : Option Addr} {c : Nat} {s : Fo}
    (hr : RbDc g x (rbDc x k n m i d A c s)) (hs : s.SlP X (fun q => gb < q ∧ q < X.heap.size) A c) :
    RaI g ds (es ++ [rbDc x k n m i d A c s]) gb (put6W X gb (j * 11 + 5) (.int .i64 k) (.string n) (.string m) (.int .i64 i) (.int .i64 d) (.slice A s.len c)) (put6 cs (j * 11 + 5) (.int .i64 k) (.string n) (.string m) (.int .i64 i) (.int .i64 d) (.slice A s.len c)) := by
  have hq : ∀ i v, x.cells[i]? = some v → cs[j * 11 + i]? = some v := h.rest j x (by omega) hx
  have hsz : j * 11 + 10 < cs.size := (Array.getElem?_eq_some_iff.1 (hq 10 _ rfl)).1
  obtain ⟨b0, b1, b2, b3, b4, b5⟩ := put6_in cs (j * 11 + 5) (.int .i64 k) (.string n) (.string m) (.int .i64 i) (.int .i64 d) (.slice A s.len c) (by omega)
  have hkeep : ∀ {t : Fo} {B : Option Addr} {e : Nat}, t.SlP X (fun q => gb < q ∧ q < X.heap.size) B e → t.SlP (put6W X gb (j * 11 + 5) (.int .i64 k) (.string n) (.string m) (.int .i64 i) (.int .i64 d) (.slice A s.len c)) (fun q => gb < q ∧ q < (put6W X gb (j * 11 + 5) (.int .i64 k) (.string n) (.string m) (.int .i64 i) (.int .i64 d) (.slice A s.len c)).heap.size) B e := fun ht =>
    ht.keep (fun q hq => ⟨hq.1, by rw [put6W_size]; exact hq.2⟩) fun p hp => World.cell?_of_block (put6W_other _ _ _ _ _ _ _ _ _ (by have := hp.1; omega))
  refine ⟨put6W_row h.row _ _ _ _ _ _ _, fun q y hq' hy i' v hv => ?_, fun q y z hy hz => ?_⟩
  · simp only [List.length_append, List.length_singleton] at hq'
    have hi : i' < 11 := (Array.getElem?_eq_some_iff.1 hv).1
    rw [put6_out _ _ _ _ _ _ _ _ _ (.inr (by omega))]
    exact h.rest q y (by omega) hy i' v hv
  · by_cases hqj : q < j
    · rw [List.getElem?_append_left (by omega)] at hz
      obtain ⟨h1, h2, h3⟩ := h.done q y z hy hz
      refine ⟨h1, fun i' v hv => ?_, hkeep h3⟩
      have hi : i' < 11 := (Array.getElem?_eq_some_iff.1 hv).1
      rw [put6_out _ _ _ _ _ _ _ _ _ (.inl (by omega))]
      exact h2 i' v hv
    · have hq2 := (List.getElem?_eq_some_iff.1 hz).1
      simp only [List.length_append, List.length_singleton] at hq2
      have hqe : q = j := by omega
      subst hqe
      rw [List.getElem?_append_right (by omega), hj, Nat.sub_self] at hz
      cases hz
      rw [hx] at hy
      cases hy
      refine ⟨hr, fun i' v hv => ?_, hkeep hs⟩
      have hi : i' < 11 := (Array.getElem?_eq_some_iff.1 hv).1
      have hlow : ∀ a, a < 5 → (put6 cs (q * 11 + 5) (.int .i64 k) (.string n) (.string m) (.int .i64 i) (.int .i64 d) (.slice A s.len c))[q * 11 + a]? = cs[q * 11 + a]? := fun a ha => put6_out _ _ _ _ _ _ _ _ _ (.inl (by omega))
      match i', hi, hv with
      | 0, _, hv => rw [hlow 0 (by omega)]; exact hq 0 v hv
      | 1, _, hv => rw [hlow 1 (by omega)]; exact hq 1 v hv
      | 2, _, hv => rw [hlow 2 (by omega)]; exact hq 2 v hv
      | 3, _, hv => rw [hlow 3 (by omega)]; exact hq 3 v hv
      | 4, _, hv => rw [hlow 4 (by omega)]; exact hq 4 v hv
      | 5, _, hv => rw [← hv]; exact b0
      | 6, _, hv => rw [← hv]; exact b1
      | 7, _, hv => rw [← hv]; exact b2
      | 8, _, hv => rw [← hv]; exact b3
      | 9, _, hv => rw [← hv]; exact b4
      | 10, _, hv => rw [← hv]; exact b5
def DsAt (w w' : World) (ds : List Dc) (A : Option Addr) (c : Nat) (es : List Dc) : Prop :=
  ∀ Y : World, w'.heap.size ≤ Y.heap.size → (∀ k, w.heap.size ≤ k → k < w'.heap.size → Y.heap[k]? = w'.heap[k]?) → (∀ x ∈ ds, SlS Y Y.heap.size x.nA x.nc x.names) → SlD Y Y.heap.size A c es
def RbAllP (g : Repl) (ds : List Dc) (w : World) (e : Ending) (w' : World) : Prop :=
  Below w.heap.size w w' ∧ ((rbAllE g ds ≠ 0 ∧ e = .returned (.tuple #[.slice none 0 0, .int .i64 (rbAllE g ds)])) ∨
    (rbAllE g ds = 0 ∧ ∃ A c es, RbDs g ds es ∧ es.length = ds.length ∧ DsAt w w' ds A c es ∧ e = .returned (.tuple #[.slice A ds.length c, .int .i64 0])))
def RbIn (ds : List Dc) : Prop := ∀ x ∈ ds, x.n.size ≤ maxLen ∧ MSz x.k x.m x.i ∧ x.s.Strs ∧ x.s.count ≤ 50000
theorem rbAllE_at {g : Repl} : ∀ {ds : List Dc} {j : Nat} {x : Dc}, (∀ k y, k < j → ds[k]? = some y → (rbD g y).1 = 0) → ds[j]? = some x → (rbD g x).1 ≠ 0 → rbAllE g ds = (rbD g x).1
  | [], _, _, _, hx, _ => by simp at hx
  | y :: r, 0, x, _, hx, h0 => by
    simp only [List.getElem?_cons_zero, Option.some.injEq] at hx
    subst hx
    unfold rbAllE
    rw [if_pos h0]
  | y :: r, j + 1, x, hp, hx, h0 => by
    unfold rbAllE
    rw [if_neg (by simpa using hp 0 y (by omega) rfl)]
    exact rbAllE_at (j := j) (fun k z hk hz => hp (k + 1) z (by omega) (by simpa using hz)) (by simpa using hx) h0
theorem rbAllE_all {g : Repl} : ∀ {ds : List Dc}, (∀ x ∈ ds, (rbD g x).1 = 0) → rbAllE g ds = 0
  | [], _ => rfl
  | y :: r, h => by
    unfold rbAllE
    rw [if_neg (by simpa using h y List.mem_cons_self)]
    exact rbAllE_all fun x hx => h x (List.mem_cons_of_mem _ hx)
set_option maxRecDepth 100000 in
set_option maxHeartbeats 8000000 in
theorem rebuildAll_any (w00 : World) (fid : Nat) (lb : Array Value) (g : Repl) (hF : ReplOk w00 fid lb g) (ds : List Dc) (dA : Option Addr) (dc : Nat) (w : World) (hd : SlD w w.heap.size dA dc ds) (hin : RbIn ds) (hl : ds.length ≤ 100) (hw : Below w00.heap.size w00 w) :
    Calls Tryz.prog 68 #[.slice dA ds.length dc, .func (.func fid) #[] lb] w (RbAllP g ds w) := by
  have HCl := Lib.hid (cloneD_any ds dA dc w hd hl)
  have hd1 := hd.1
  have hd2 := hd.2.1
  unfold maxLen at hd2
  obtain ⟨N, HN⟩ : ∃ Q, Hid (ds.length = Q) := ⟨_, Lib.hid rfl⟩
  rw [HN.out] at HCl hd1 hl ⊢
  have H0 := Lib.hid (And.intro hd (And.intro hin (And.intro hw hF)))
  have hmm := @run_makeMap Tryz.prog
  clear hd hin hw hF
  go_enter Tryz.func68, Tryz.ntmps68
  go_wp2_with fail
  refine HCl.out.mono ?_
  rintro e w1 ⟨v1, rfl, hown, hb1⟩
  rw [HN.out] at hown
  obtain ⟨cA, cc, rfl⟩ := own_formR hown
  have hcc : N ≤ cc ∧ cc ≤ 9223372036854775807 := by
    rcases hown.2 with ⟨h1, h2⟩ | ⟨g', cap, cur, h1, _, _, h4, h5, _⟩
    · simp only [Value.slice.injEq] at h1; omega
    · simp only [Value.slice.injEq] at h1
      unfold maxLen at h5
      omega
  obtain ⟨hcc1, hcc2⟩ := hcc
  have hstart : 0 < N → ∃ (gb : Nat) (cs : Array Value), cA = some ⟨gb, 0, none⟩ ∧ w.heap.size ≤ gb ∧ RaI g ds [] gb w1 cs := fun hpos => by
    rcases hown.2 with ⟨_, h0⟩ | ⟨gb, cap, cur, h1, h2, h3, _⟩
    · omega
    · simp only [Value.slice.injEq, true_and] at h1
      obtain ⟨rfl, rfl⟩ := h1
      refine ⟨gb, cur, rfl, h2, h3, fun k x _ hx i v hv => ?_, fun k x y _ hy => by simp at hy⟩
      have hi : i < 11 := (Array.getElem?_eq_some_iff.1 hv).1
      have hk : k < N := by rw [← HN.out]; exact (List.getElem?_eq_some_iff.1 hx).1
      have h5 := hown.cellAt (k * 11 + i) (by omega)
      rw [cell_of_row w1 _ _ _ _ _ h3] at h5
      rw [h5]
      exact dcC_at ds k x hx i v hv
  have H1 := Lib.hid (And.intro hb1 hstart)
  clear hown hb1 hstart HCl
  go_wp2
  go_loopg [7, 8, 9, 10, 15] N (fun gg _ _ _ _ ct wr => ∃ (j : Nat) (es : List Dc), gg = N - j ∧ j ≤ N ∧ ct = .int .i64 j ∧ es.length = j ∧ (∀ k y, k < j → ds[k]? = some y → (rbD g y).1 = 0) ∧ Below w.heap.size w wr ∧ (0 < N → ∃ (gb : Nat) (cs : Array Value), cA = some ⟨gb, 0, none⟩ ∧ w.heap.size ≤ gb ∧ RaI g ds es gb wr cs))
  case atStart => exact ⟨0, [], rfl, by omega, rfl, rfl, fun k y h => absurd h (Nat.not_lt_zero k), H1.out.1, H1.out.2⟩
  case round =>
    obtain ⟨j, es, HG, hj, rfl, hes, hz, hB, hE⟩ := hrel
    by_cases hlt : j < N
    · have hlt' : j < ds.length := by rw [HN.out]; exact hlt
      obtain ⟨gb, cs, rfl, hgb, hI⟩ := hE (by omega)
      obtain ⟨x, hx⟩ : ∃ x, ds[j]? = some x := ⟨_, List.getElem?_eq_getElem hlt'⟩
      have hdX : SlD wr wr.heap.size dA dc ds := H0.out.1.keep hB.size fun p hp => hB.cell hp
      obtain ⟨b, o, rfl, hb, hall⟩ := hdX.2.2 (by intro e; rw [e] at hlt'; simp at hlt')
      obtain ⟨hcs, hok⟩ := hall j x hx
      obtain ⟨hi1, hi2, hi3, hi4⟩ := H0.out.2.1 x (List.mem_of_getElem? hx)
      have HXx := Lib.hid hx
      obtain ⟨bx, Hbx⟩ : ∃ q, Hid (rbD g x = q) := ⟨_, Lib.hid rfl⟩
      obtain ⟨xid, xkind, xpub, xnA, xnc, xnames, xdoubt, xk, xn, xm, xi, xd, xA, xc, xs⟩ := x
      simp only at hi1 hi2 hi3 hi4
      have d0 : wr.cell? ⟨b, o + j * 11, none⟩ = some (.int .i64 xid) := hcs 0 _ rfl
      have d1 : wr.cell? ⟨b, o + j * 11 + 1, none⟩ = some (.int .i64 xkind) := hcs 1 _ rfl
      have d2 : wr.cell? ⟨b, o + j * 11 + 2, none⟩ = some (.bool xpub) := hcs 2 _ rfl
      have d3 : wr.cell? ⟨b, o + j * 11 + 3, none⟩ = some (.slice xnA xnames.length xnc) := hcs 3 _ rfl
      have d4 : wr.cell? ⟨b, o + j * 11 + 4, none⟩ = some (.bool xdoubt) := hcs 4 _ rfl
      have d5 : wr.cell? ⟨b, o + j * 11 + 5, none⟩ = some (.int .i64 xk) := hcs 5 _ rfl
      have d6 : wr.cell? ⟨b, o + j * 11 + 6, none⟩ = some (.string xn) := hcs 6 _ rfl
      have d7 : wr.cell? ⟨b, o + j * 11 + 7, none⟩ = some (.string xm) := hcs 7 _ rfl
      have d8 : wr.cell? ⟨b, o + j * 11 + 8, none⟩ = some (.int .i64 xi) := hcs 8 _ rfl
      have d9 : wr.cell? ⟨b, o + j * 11 + 9, none⟩ = some (.int .i64 xd) := hcs 9 _ rfl
      have d10 : wr.cell? ⟨b, o + j * 11 + 10, none⟩ = some (.slice xA xs.len xc) := hcs 10 _ rfl
      obtain ⟨W3, hW3⟩ : ∃ q, wr.alloc (.cells #[.int .i64 xid, .int .i64 xkind, .bool xpub, .slice xnA xnames.length xnc, .bool xdoubt, .int .i64 xk, .string xn, .string xm, .int .i64 xi, .int .i64 xd, .slice xA xs.len xc] 63) = q := ⟨_, rfl⟩
      have hb3 : Below wr.heap.size wr W3 := by rw [← hW3]; exact (Below.refl _ _).alloc (Nat.le_refl _) _
      have hx3 : W3.heap[wr.heap.size]? = some (.cells #[.int .i64 xid, .int .i64 xkind, .bool xpub, .slice xnA xnames.length xnc, .bool xdoubt, .int .i64 xk, .string xn, .string xm, .int .i64 xi, .int .i64 xd, .slice xA xs.len xc] 63 (0, 0)) := by rw [← hW3]; exact heap_alloc_new _ _
      have f5 : W3.cell? ⟨wr.heap.size, 5, none⟩ = some (.int .i64 xk) := cell_of_row W3 _ 5 _ _ (0, 0) hx3
      have f6 : W3.cell? ⟨wr.heap.size, 6, none⟩ = some (.string xn) := cell_of_row W3 _ 6 _ _ (0, 0) hx3
      have f7 : W3.cell? ⟨wr.heap.size, 7, none⟩ = some (.string xm) := cell_of_row W3 _ 7 _ _ (0, 0) hx3
      have f8 : W3.cell? ⟨wr.heap.size, 8, none⟩ = some (.int .i64 xi) := cell_of_row W3 _ 8 _ _ (0, 0) hx3
      have f9 : W3.cell? ⟨wr.heap.size, 9, none⟩ = some (.int .i64 xd) := cell_of_row W3 _ 9 _ _ (0, 0) hx3
      have f10 : W3.cell? ⟨wr.heap.size, 10, none⟩ = some (.slice xA xs.len xc) := cell_of_row W3 _ 10 _ _ (0, 0) hx3
      obtain ⟨W4, hW4⟩ : ∃ q, W3.alloc (.map #[] 0) = q := ⟨_, rfl⟩
      have hb4 : Below wr.heap.size wr W4 := by rw [← hW4]; exact hb3.alloc hb3.size _
      have hset : SetK W4 9 W3.heap.size (([] : List ByteArray).map keyS) := by rw [← hW4]; exact SetK.made W3 9
      have hsl4 : xs.Sl W4 W4.heap.size xA xc := hok.2.keep hb4.size fun p hp => hb4.cell hp
      have hB4 := hB.trans (hb4.mono hB.size)
      have hcall := rebuild_any w00 fid lb g H0.out.2.2.2 xs xk xn xm xi xd xA xc W3.heap.size [] W4 hsl4 hi1 hi2 hi3 (H0.out.2.2.1.trans (hB4.mono H0.out.2.2.1.size)) hset (by simp only [List.length_nil]; omega)
      have hbx := Hbx.out
      unfold rbD at hbx
      simp only at hbx
      rw [hbx] at hcall
      obtain ⟨E2, ⟨qk, qn, qm, qi, qd⟩, qt⟩ := bx
      have HCall := Lib.hid hcall
      have HT := Lib.hid (And.intro HG (And.intro hes (And.intro hz (And.intro hB4 (And.intro (hI.keep hb4) hgb)))))
      clear HG hes hz hB hE hI hdX hall hcs hok hb3 hx3 hb4 hset hsl4 hB4 hcall hbx hi1 hi2 hi3 hi4 hgb hx
      go_wp2_with fail
      refine HCall.out.mono ?_
      rintro e w6 ⟨hb6, ⟨hq0, t', A2, c2, hpt, hsl, rfl⟩ | ⟨hq0, hee⟩⟩
      · simp only at hq0 hpt
        subst hq0
        obtain ⟨W7, hW7⟩ : ∃ q, w6.alloc (.cells #[.int .i64 qk, .string qn, .string qm, .int .i64 qi, .int .i64 qd, .slice A2 t'.len c2] 28) = q := ⟨_, rfl⟩
        have hb67 : Below w6.heap.size w6 W7 := by rw [← hW7]; exact (Below.refl _ _).alloc (Nat.le_refl _) _
        have hx7 : W7.heap[w6.heap.size]? = some (.cells #[.int .i64 qk, .string qn, .string qm, .int .i64 qi, .int .i64 qd, .slice A2 t'.len c2] 28 (0, 0)) := by rw [← hW7]; exact heap_alloc_new _ _
        have hb47 := hb6.trans (hb67.mono hb6.size)
        have hI7 := HT.out.2.2.2.2.1.keep hb47
        have hB7 := HT.out.2.2.2.1.trans (hb47.mono HT.out.2.2.2.1.size)
        have b0 := cell_of_row W7 w6.heap.size 0 _ _ (0, 0) hx7
        have b1 := cell_of_row W7 w6.heap.size 1 _ _ (0, 0) hx7
        have b2 := cell_of_row W7 w6.heap.size 2 _ _ (0, 0) hx7
        have b3 := cell_of_row W7 w6.heap.size 3 _ _ (0, 0) hx7
        have b4 := cell_of_row W7 w6.heap.size 4 _ _ (0, 0) hx7
        have b5 := cell_of_row W7 w6.heap.size 5 _ _ (0, 0) hx7
        simp at b0 b1 b2 b3 b4 b5
        have hr := hI7.rest j _ (by rw [HT.out.2.1]; exact Nat.le_refl _) HXx.out
        have c5 : W7.cell? ⟨gb, j * 11 + 5, none⟩ = some (.int .i64 xk) := (cell_of_row W7 gb (j * 11 + 5) cs _ (0, 0) hI7.row).trans (hr 5 _ rfl)
        have c6 : W7.cell? ⟨gb, j * 11 + 6, none⟩ = some (.string xn) := (cell_of_row W7 gb (j * 11 + 6) cs _ (0, 0) hI7.row).trans (hr 6 _ rfl)
        have c7 : W7.cell? ⟨gb, j * 11 + 7, none⟩ = some (.string xm) := (cell_of_row W7 gb (j * 11 + 7) cs _ (0, 0) hI7.row).trans (hr 7 _ rfl)
        have c8 : W7.cell? ⟨gb, j * 11 + 8, none⟩ = some (.int .i64 xi) := (cell_of_row W7 gb (j * 11 + 8) cs _ (0, 0) hI7.row).trans (hr 8 _ rfl)
        have c9 : W7.cell? ⟨gb, j * 11 + 9, none⟩ = some (.int .i64 xd) := (cell_of_row W7 gb (j * 11 + 9) cs _ (0, 0) hI7.row).trans (hr 9 _ rfl)
        have c10 : W7.cell? ⟨gb, j * 11 + 10, none⟩ = some (.slice xA xs.len xc) := (cell_of_row W7 gb (j * 11 + 10) cs _ (0, 0) hI7.row).trans (hr 10 _ rfl)
        have k5 : W7.frozen? ⟨gb, j * 11 + 5, none⟩ = false := frozen_of_row W7 gb _ cs _ hI7.row
        have k6 : W7.frozen? ⟨gb, j * 11 + 6, none⟩ = false := frozen_of_row W7 gb _ cs _ hI7.row
        have k7 : W7.frozen? ⟨gb, j * 11 + 7, none⟩ = false := frozen_of_row W7 gb _ cs _ hI7.row
        have k8 : W7.frozen? ⟨gb, j * 11 + 8, none⟩ = false := frozen_of_row W7 gb _ cs _ hI7.row
        have k9 : W7.frozen? ⟨gb, j * 11 + 9, none⟩ = false := frozen_of_row W7 gb _ cs _ hI7.row
        have k10 : W7.frozen? ⟨gb, j * 11 + 10, none⟩ = false := frozen_of_row W7 gb _ cs _ hI7.row
        have hgbl : gb < w6.heap.size := by
          have h1 := (Array.getElem?_eq_some_iff.1 HT.out.2.2.2.2.1.row).1
          have := hb6.size
          omega
        have HRb := Lib.hid (show RbDc g ⟨xid, xkind, xpub, xnA, xnc, xnames, xdoubt, xk, xn, xm, xi, xd, xA, xc, xs⟩ (rbDc ⟨xid, xkind, xpub, xnA, xnc, xnames, xdoubt, xk, xn, xm, xi, xd, xA, xc, xs⟩ qk qn qm qi qd A2 c2 t') from ⟨rfl, rfl, rfl, rfl, rfl, rfl, rfl, by rw [Hbx.out]; rfl, by rw [Hbx.out]; rfl, by rw [Hbx.out]; rfl, by rw [Hbx.out]; rfl, by rw [Hbx.out]; rfl, by rw [Hbx.out]; exact hpt⟩)
        have h47 := (Array.getElem?_eq_some_iff.1 HT.out.2.2.2.2.1.row).1
        have HSl := Lib.hid (show t'.SlP W7 (fun q => gb < q ∧ q < W7.heap.size) A2 c2 from hsl.keep (fun k hk => ⟨by omega, Nat.lt_of_lt_of_le hk.2 hb67.size⟩) fun p hp => hb67.cell hp.2)
        have H7 := Lib.hid (And.intro hI7 hB7)
        have hj0 : (0 : Int) ≤ (j : Int) := by omega
        have hj1 : (j : Int) < (N : Int) := by omega
        clear hb6 hsl hb67 hx7 hb47 hI7 hB7 hr hpt f5 f6 f7 f8 f9 f10 d0 d1 d2 d3 d4 d5 d6 d7 d8 d9 d10 h47 hgbl
        go_wp2
        go_roundg (N - (j + 1))
        case measure => rw [HT.out.1]; omega
        case rel =>
          refine ⟨j + 1, es ++ [rbDc ⟨xid, xkind, xpub, xnA, xnc, xnames, xdoubt, xk, xn, xm, xi, xd, xA, xc, xs⟩ qk qn qm qi qd A2 c2 t'], rfl, by omega, by go_num, by rw [List.length_append, HT.out.2.1]; rfl, fun k y hk hy => ?_, put6W_below H7.out.2 HT.out.2.2.2.2.2 _ _ _ _ _ _ _, fun _ => ⟨gb, _, rfl, HT.out.2.2.2.2.2, H7.out.1.push HT.out.2.1 HXx.out HRb.out HSl.out⟩⟩
          by_cases hkj : k < j
          · exact HT.out.2.2.1 k y hkj hy
          · have hke : k = j := by omega
            subst hke
            rw [HXx.out] at hy
            cases hy
            rw [Hbx.out]
      · simp only at hq0
        obtain ⟨zk, zn, zm, zi, zd, zA, zl, zc, rfl⟩ : ∃ zk zn zm zi zd zA zl zc, e = .returned (.tuple #[.agg #[.int .i64 zk, .string zn, .string zm, .int .i64 zi, .int .i64 zd, .slice zA zl zc], .int .i64 E2]) := ⟨_, _, _, _, _, _, _, _, hee⟩
        have hq1 : (E2 != 0) = true := by simpa using hq0
        have HR := Lib.hid (show rbAllE g ds = E2 by
          have h1 := rbAllE_at HT.out.2.2.1 HXx.out (by rw [Hbx.out]; exact hq0)
          rw [h1, Hbx.out])
        have HE0 := Lib.hid hq0
        have HB6 := Lib.hid (HT.out.2.2.2.1.trans (hb6.mono HT.out.2.2.2.1.size))
        clear hb6 hq0 hee f5 f6 f7 f8 f9 f10 d0 d1 d2 d3 d4 d5 d6 d7 d8 d9 d10
        go_wp2
        refine bodyPost_ret (v := .tuple #[.slice none 0 0, .int .i64 E2]) (by simp [results, Tryz.results68, go_sem]) rfl ?_
        exact ⟨HB6.out.alloc HB6.out.size _, .inl ⟨by rw [HR.out]; exact HE0.out, by rw [HR.out]⟩⟩
    · have hjN : N = j := by omega
      have HR := Lib.hid (show rbAllE g ds = 0 from rbAllE_all fun x hx => by
        obtain ⟨k, hk⟩ := List.getElem?_of_mem hx
        exact hz k x (by have := (List.getElem?_eq_some_iff.1 hk).1; rw [HN.out] at this; omega) hk)
      have i2 : decide ((j : Int) < (N : Int)) = false := decide_eq_false (by omega)
      have i3 : decide (j < N) = false := decide_eq_false (by omega)
      have HT := Lib.hid (And.intro hes (And.intro hB (And.intro hE hjN)))
      clear HG hes hz hB hE hjN
      go_wp2
      refine bodyPost_ret (v := .tuple #[.slice cA N cc, .int .i64 0]) (by simp [results, Tryz.results68, go_sem]) rfl ?_
      refine ⟨HT.out.2.1, .inr ⟨HR.out, cA, cc, es, ?_, ?_, ?_, by rw [HN.out]⟩⟩
      · refine rbDs_of (by rw [HT.out.1, HN.out, HT.out.2.2.2]) fun k x y hx hy => ?_
        have hk := (List.getElem?_eq_some_iff.1 hy).1
        rw [HT.out.1] at hk
        obtain ⟨gb, cs, _, _, hI⟩ := HT.out.2.2.1 (by have := HT.out.2.2.2; omega)
        exact (hI.done k x y hx hy).1
      · rw [HT.out.1, HN.out, HT.out.2.2.2]
      · refine fun Y hYs hYk hYn => ⟨by rw [HT.out.1, ← HT.out.2.2.2]; exact hcc1, by unfold maxLen; exact hcc2, fun hne => ?_⟩
        have hpos : 0 < es.length := List.length_pos_iff.2 hne
        rw [HT.out.1] at hpos
        obtain ⟨gb, cs, rfl, hgb, hI⟩ := HT.out.2.2.1 (by have := HT.out.2.2.2; omega)
        have hgl := (Array.getElem?_eq_some_iff.1 hI.row).1
        have hrowY := (hYk gb hgb hgl).trans hI.row
        refine ⟨gb, 0, rfl, Nat.lt_of_lt_of_le hgl hYs, fun k y hy => ?_⟩
        have hk := (List.getElem?_eq_some_iff.1 hy).1
        rw [HT.out.1] at hk
        have hkd : k < ds.length := by rw [HN.out, HT.out.2.2.2]; exact hk
        have hx : ds[k]? = some ds[k] := List.getElem?_eq_getElem hkd
        obtain ⟨h1, h2, h3⟩ := hI.done k _ y hx hy
        refine ⟨fun q v hq => ?_, ?_, Fo.SlP.sl (fun q hq => hq) (h3.keep (P' := fun q => q < Y.heap.size) (fun q hq => Nat.lt_of_lt_of_le hq.2 hYs) fun p hp => World.cell?_of_block (hYk _ (by have := hp.1; omega) hp.2))⟩
        · rw [Nat.zero_add, cell_of_row Y _ _ _ _ _ hrowY]
          exact h2 q v hq
        · rw [h1.nA, h1.nc, h1.names]
          exact hYn _ (List.getElem_mem hkd)
end Go.Proofs.YtacjjkbkhpdhnaaGreatDoor
/- Declarations that rebuild takes -/
namespace Go.Proofs.YtacjjkbkhpdhnaaGreatDoor
open Go Go.RowKit Go.Proofs Go.Shelf
theorem ref_num {n m : ByteArray} {i d : Int} {len : Nat} (h : nodeE 5 n m i d len = 0) : 1 ≤ i ∧ i ≤ 999999 := by
  have e : nodeE 5 n m i d len = if argB 1 1 0 n m i d len then 1 else if namesE 5 n m 1 = 0 then numE 5 i d else namesE 5 n m 1 := rfl
  rw [e] at h
  cases ha : argB 1 1 0 n m i d len
  · rw [ha] at h
    simp only [Bool.false_eq_true, if_false] at h
    by_cases hn : namesE 5 n m 1 = 0
    · rw [if_pos hn] at h
      unfold numE at h
      cases hb : numB 5 i d
      · rw [hb] at h; simp at h
      · simp [numB] at hb; exact hb
    · rw [if_neg hn] at h; exact absurd h hn
  · rw [ha] at h; simp at h
theorem wf_small {i : Int} (h1 : 1 ≤ i) (h2 : i ≤ 999999) : (Lit.int .i64 i).wf = true := by
  simp [Lit.wf, IntKind.min, IntKind.max, IntKind.signed, IntKind.bits]
  omega
theorem msz_of {k : Int} {n m : ByteArray} {i d : Int} {len : Nat} (hm : m.size ≤ maxLen) (h : nodeE k n m i d len = 0) : MSz k m i :=
  ⟨hm, fun hk => by
    subst hk
    obtain ⟨h1, h2⟩ := ref_num h
    exact wf_small h1 h2⟩
theorem Fo.strs_of : ∀ (s : Fo) (dp : Nat), s.Str → (∀ x ∈ s.pre dp, x.err = 0) → s.Strs
  | .nil, _, _, _ => trivial
  | .cons k n m i d A c s r, dp, hs, h => by
    simp only [Fo.pre, List.mem_cons, List.mem_append] at h
    obtain ⟨h1, h2, h3, h4⟩ := hs
    exact ⟨h1, msz_of h2 (h ⟨dp, k, n, m, i, d, A, s.len, c⟩ (.inl rfl)), s.strs_of (dp + 1) h3 (fun x hx => h x (.inr (.inl hx))), r.strs_of dp h4 (fun x hx => h x (.inr (.inr hx)))⟩
def NmIn (ds : List Dc) : Prop := ∀ x ∈ ds, x.n.size ≤ maxLen ∧ x.m.size ≤ maxLen ∧ x.s.Str
theorem rbIn_of {ds : List Dc} (h : NmIn ds) (he : ∀ x ∈ ds, exprE x.pre = 0) : RbIn ds := fun x hx => by
  obtain ⟨h1, h2, h3⟩ := h x hx
  obtain ⟨e1, _, e3⟩ := exprE_zero (he x hx)
  refine ⟨h1, msz_of h2 (e3 ⟨1, x.k, x.n, x.m, x.i, x.d, x.A, x.s.len, x.c⟩ List.mem_cons_self), x.s.strs_of 2 h3 (fun y hy => e3 y (List.mem_cons_of_mem _ hy)), ?_⟩
  simp only [Dc.pre, List.length_cons, Fo.pre_length] at e1
  omega
end Go.Proofs.YtacjjkbkhpdhnaaGreatDoor
