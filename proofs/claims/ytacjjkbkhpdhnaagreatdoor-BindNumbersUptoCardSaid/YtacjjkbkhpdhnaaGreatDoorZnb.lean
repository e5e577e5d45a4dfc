/- slices.SortStableFunc at declarations by their ids, where they are few -/
import Derived.Test.YtacjjkbkhpdhnaaGreatDoorLyi
import Derived.Test.YtacjjkbkhpdhnaaGreatDoorZpf
import Derived.Test.YtacjjkbkhpdhnaaGreatDoorZlm
import Derived.Test.YtacjjkbkhpdhnaaGreatDoorZle
import Derived.Sort.LotA
import Derived.Sort.Lot0
import Derived.Test.YtacjjkbkhpdhnaaGreatDoorZna
import Derived.Test.YtacjjkbkhpdhnaaGreatDoorZpe
namespace Go.Proofs.YtacjjkbkhpdhnaaGreatDoor
open Go Go.RowKit Go.Proofs Go.Shelf Go.Sort
instance : Inhabited Dc := ⟨⟨0, 0, false, none, 0, [], false, 0, ⟨#[]⟩, ⟨#[]⟩, 0, 0, none, 0, .nil⟩⟩
def encD (x : Dc) : List Value := x.cells.toList
def RowD (w : World) (g : Nat) (l : List Dc) : Prop := ∀ (j : Nat) (x : Dc), l[j]? = some x → ∀ (q : Nat) (v : Value), x.cells[q]? = some v → w.cell? ⟨g, j * 11 + q, none⟩ = some v ∧ w.frozen? ⟨g, j * 11 + q, none⟩ = false
theorem RowD.of_own {w : World} {base g cap : Nat} {l : List Dc} (h : w.ownsRow base 63 11 (.slice (some ⟨g, 0, none⟩) l.length cap) l.length (dcC l)) : RowD w g l := fun j x hx q v hv => by
  have hj := (List.getElem?_eq_some_iff.1 hx).1
  have hq : q < 11 := (Array.getElem?_eq_some_iff.1 hv).1
  exact ⟨(h.cellAt (j * 11 + q) (by omega)).trans (dcC_at l j x hx q v hv), h.frozenAt _⟩
theorem RowD.keep {w w' : World} {g : Nat} {l : List Dc} (h : RowD w g l) (hk : w'.heap[g]? = w.heap[g]?) : RowD w' g l := fun j x hx q v hv => by
  obtain ⟨h1, h2⟩ := h j x hx q v hv
  refine ⟨(World.cell?_of_block hk).trans h1, ?_⟩
  rw [← h2]
  unfold World.frozen?
  rw [hk]
theorem setI_cells (x : Dc) (i : Int) : ∀ q, q ≠ 0 → ({ x with id := i } : Dc).cells[q]? = x.cells[q]?
  | 0, h => absurd rfl h
  | 1, _ => rfl
  | 2, _ => rfl
  | 3, _ => rfl
  | 4, _ => rfl
  | 5, _ => rfl
  | 6, _ => rfl
  | 7, _ => rfl
  | 8, _ => rfl
  | 9, _ => rfl
  | 10, _ => rfl
  | q + 11, _ => by simp [Dc.cells]
theorem RowD.set {w : World} {g : Nat} {l : List Dc} (h : RowD w g l) {j : Nat} {x : Dc} (hx : l[j]? = some x) (i : Int) : RowD (w.setCell ⟨g, j * 11, none⟩ (.int .i64 i)) g (l.set j { x with id := i }) := fun k y hy q v hv => by
  have hq : q < 11 := (Array.getElem?_eq_some_iff.1 hv).1
  by_cases hkj : k = j
  · subst hkj
    have hjl := (List.getElem?_eq_some_iff.1 hx).1
    rw [List.getElem?_set_self hjl] at hy
    cases hy
    by_cases h0 : q = 0
    · subst h0
      have h1 := (h k x hx 0 _ rfl)
      rw [Nat.add_zero] at h1 ⊢
      have : v = .int .i64 i := by simpa [Dc.cells] using hv.symm
      rw [this]
      exact ⟨World.cell?_setCell_same _ _ _ h1.1, by rw [World.frozen?_setCell]; exact h1.2⟩
    · rw [setI_cells x i q h0] at hv
      obtain ⟨h1, h2⟩ := h k x hx q v hv
      exact ⟨(World.cell?_setCell_other _ _ _ _ (by intro e; simp only [Addr.mk.injEq, true_and, and_true] at e; omega)).trans h1, by rw [World.frozen?_setCell]; exact h2⟩
  · rw [List.getElem?_set_ne (by omega)] at hy
    obtain ⟨h1, h2⟩ := h k y hy q v hv
    exact ⟨(World.cell?_setCell_other _ _ _ _ (by intro e; simp only [Addr.mk.injEq, true_and, and_true] at e; omega)).trans h1, by rw [World.frozen?_setCell]; exact h2⟩
theorem RowD.holds {w : World} {g : Nat} {l : List Dc} (h : RowD w g l) : HoldsK encD 11 w g 0 l.toArray := by
  intro t ht
  have ht' : t < l.length * 11 := by simpa using ht
  have h2 : t / 11 < l.length := by omega
  have hx : l[t / 11]? = some l[t / 11] := List.getElem?_eq_getElem h2
  have hc : t % 11 < (l[t / 11]).cells.size := by
    show t % 11 < 11
    omega
  obtain ⟨a, b⟩ := h (t / 11) _ hx (t % 11) _ (Array.getElem?_eq_getElem hc)
  rw [show t / 11 * 11 + t % 11 = t by omega] at a b
  rw [Nat.zero_add, get_flatK _ _ _ _ (by simpa using ht)]
  refine ⟨a.trans ?_, b⟩
  have e : (l.toArray)[t / 11]! = l[t / 11] := by simp [h2]
  rw [e]
  unfold encD
  have hl : t % 11 < (l[t / 11]).cells.toList.length := by simpa using hc
  rw [getElem!_pos (l[t / 11]).cells.toList (t % 11) hl]
  simp
theorem RowD.of_holds {w : World} {g : Nat} {l : List Dc} (h : HoldsK encD 11 w g 0 l.toArray) : RowD w g l := fun j x hx q v hv => by
  obtain ⟨hj, he⟩ := List.getElem?_eq_some_iff.1 hx
  have hq : q < 11 := (Array.getElem?_eq_some_iff.1 hv).1
  obtain ⟨a, b⟩ := h.cell (i := j) (c := q) (by simpa using hj) hq
  rw [Nat.zero_add] at a b
  refine ⟨a.trans ?_, b⟩
  have e : (l.toArray)[j]! = x := by simp [hj, he]
  rw [e]
  unfold encD
  have hl : q < x.cells.toList.length := by simpa using (Array.getElem?_eq_some_iff.1 hv).1
  rw [getElem!_pos x.cells.toList q hl, ← hv]
  simp
theorem Tryz.aggDecl (w : World) : (isAgg 63).run Tryz.prog w = .ok true w := by kernel_rfl
theorem Tryz.sizeDecl (w : World) : (Go.sizeOf 63).run Tryz.prog w = .ok 11 w := by kernel_rfl
set_option maxRecDepth 100000 in
set_option maxHeartbeats 1000000 in
theorem number1_any (x y : Dc) (w : World) : Calls Tryz.prog 88 #[.agg x.cells, .agg y.cells] w fun e w' => e = .returned (.int .i64 (cmpZ x.id y.id)) ∧ ∃ q os', w' = Sort.grow (w.drewN q) os' := by
  simp only [Dc.cells]
  obtain ⟨W0, hW0⟩ : ∃ W0, (w.alloc (.cells #[.int .i64 x.id, .int .i64 x.kind, .bool x.pub, .slice x.nA x.names.length x.nc, .bool x.doubt, .int .i64 x.k, .string x.n, .string x.m, .int .i64 x.i, .int .i64 x.d, .slice x.A x.s.len x.c] 63)).alloc (.cells #[.int .i64 y.id, .int .i64 y.kind, .bool y.pub, .slice y.nA y.names.length y.nc, .bool y.doubt, .int .i64 y.k, .string y.n, .string y.m, .int .i64 y.i, .int .i64 y.d, .slice y.A y.s.len y.c] 63) = W0 := ⟨_, rfl⟩
  have HG0 : Hid (W0 = Sort.grow (w.drewN 0) (#[.cells #[.int .i64 x.id, .int .i64 x.kind, .bool x.pub, .slice x.nA x.names.length x.nc, .bool x.doubt, .int .i64 x.k, .string x.n, .string x.m, .int .i64 x.i, .int .i64 x.d, .slice x.A x.s.len x.c] 63] ++ #[.cells #[.int .i64 y.id, .int .i64 y.kind, .bool y.pub, .slice y.nA y.names.length y.nc, .bool y.doubt, .int .i64 y.k, .string y.n, .string y.m, .int .i64 y.i, .int .i64 y.d, .slice y.A y.s.len y.c] 63])) := by
    show _ = _
    rw [← hW0, Sort.alloc_eq_grow, Sort.alloc_eq_grow, Sort.grow_grow]
    rfl
  have h0 : W0.cell? ⟨w.heap.size, 0, none⟩ = some (.int .i64 x.id) := by subst hW0; go_simp
  have h1 : W0.cell? ⟨w.heap.size + 1, 0, none⟩ = some (.int .i64 y.id) := by subst hW0; go_simp
  have HC := Lib.hid (fun W => cmpI_any x.id y.id W)
  generalize cmpZ x.id y.id = r at HC
  go_enter Tryz.func88, Tryz.ntmps88
  go_wp2_with fail
  refine (HC.out _).mono ?_
  rintro e w3 ⟨rfl, rfl⟩
  go_wp2
  go_ret
  exact ⟨rfl, 0, _, HG0.out⟩
theorem cmpLaysD (g n : Nat) (w : World) : CmpLays Tryz.prog 88 #[] encD 11 (fun x y => cmpZ x.id y.id) g 0 n w := by
  intro m os dk _ x y
  have h := number1_any x y (sortWorldK encD 11 w g 0 m dk os)
  simpa [encD] using h
theorem cmpZ_lt (a b : Int) : cmpZ a b < 0 ↔ a < b := by
  unfold cmpZ
  split
  · simp [*]
  · split <;> simp <;> omega
theorem swoD : SWO (ltOf fun x y : Dc => cmpZ x.id y.id) where
  irrefl x := decide_eq_false (by rw [cmpZ_lt]; omega)
  trans x y z h1 h2 := by
    have h1 := (cmpZ_lt _ _).1 (of_decide_eq_true h1)
    have h2 := (cmpZ_lt _ _).1 (of_decide_eq_true h2)
    exact decide_eq_true ((cmpZ_lt _ _).2 (by omega))
  ntrans x y z h1 h2 := by
    have h1 := of_decide_eq_false h1
    have h2 := of_decide_eq_false h2
    rw [cmpZ_lt] at h1 h2
    exact decide_eq_false (by rw [cmpZ_lt]; omega)
def SrtD (l l' : List Dc) : Prop := l'.Perm l ∧ l'.Pairwise fun x y => x.id ≤ y.id
theorem insD_srt (l : List Dc) : SrtD l (Sort.insertionSort (ltOf fun x y : Dc => cmpZ x.id y.id) l.toArray 0 l.length).toList := by
  obtain ⟨⟨h1, _, h2⟩, h3⟩ := insertionSort_holds (lt := ltOf fun x y : Dc => cmpZ x.id y.id) swoD l.toArray 0 l.length (Nat.zero_le _) (by simp)
  generalize Sort.insertionSort (ltOf fun x y : Dc => cmpZ x.id y.id) l.toArray 0 l.length = d at h1 h2 h3
  have hz : d.size = l.length := by simpa using h1
  refine ⟨?_, ?_⟩
  · have e1 : (d.extract 0 l.length).toList = d.toList := by rw [← hz]; simp
    have e2 : (l.toArray.extract 0 l.length).toList = l := by simp
    rw [e1, e2] at h2
    exact h2
  · rw [List.pairwise_iff_getElem]
    intro i j hi hj hij
    have hi' : i < d.size := by simpa using hi
    have hj' : j < d.size := by simpa using hj
    have h := h3 i j (Nat.zero_le _) hij (by omega)
    rw [getElem!_pos d j hj', getElem!_pos d i hi'] at h
    have h := of_decide_eq_false h
    rw [cmpZ_lt] at h
    simp only [Array.getElem_toList]
    omega
theorem srtD_uniq : ∀ {a b : List Dc}, a.Perm b → a.Pairwise (fun x y => x.id < y.id) → b.Pairwise (fun x y => x.id < y.id) → a = b
  | [], b, h, _, _ => (List.Perm.nil_eq h)
  | x :: r, [], h, _, _ => by simp at h
  | x :: r, y :: s, h, ha, hb => by
    obtain ⟨a1, a2⟩ := List.pairwise_cons.1 ha
    obtain ⟨b1, b2⟩ := List.pairwise_cons.1 hb
    have hx : x ∈ y :: s := h.subset List.mem_cons_self
    have hy : y ∈ x :: r := h.symm.subset List.mem_cons_self
    have hxy : x = y := by
      rcases List.mem_cons.1 hx with e | hx
      · exact e
      · rcases List.mem_cons.1 hy with e | hy
        · exact e.symm
        · have := b1 x hx
          have := a1 y hy
          omega
    subst hxy
    rw [srtD_uniq (List.Perm.cons_inv h) a2 b2]
theorem SrtD.uniq {l a b : List Dc} (hl : l.Pairwise fun x y => x.id ≠ y.id) (ha : SrtD l a) (hb : SrtD l b) : a = b := by
  have f : ∀ {c : List Dc}, SrtD l c → c.Pairwise fun x y => x.id < y.id := fun {c} hc => by
    have h1 : c.Pairwise fun x y => x.id ≠ y.id := (hc.1.pairwise_iff (R := fun x y : Dc => x.id ≠ y.id) fun h => Ne.symm h).2 hl
    exact (hc.2.and h1).imp fun h => by omega
  exact srtD_uniq (ha.1.trans hb.1.symm) (f ha) (f hb)
set_option maxRecDepth 100000 in
set_option maxHeartbeats 1000000 in
theorem insSortD0_any (v : Value) (f : Value) (w : World) : Calls Tryz.prog 156 #[v, .int .i64 0, .int .i64 0, f] w fun e w' => e = .returned (.tuple #[]) ∧ w = w' := by
  go_enter Tryz.func156, Tryz.ntmps156
  go_wp2_with fail
  refine wp_loop_rounds 1 ?_
  rw [rounds_succ]
  go_wp2
  go_end0
  exact ⟨rfl, rfl⟩
def SrtP (l : List Dc) (g : Nat) (w : World) (e : Ending) (w' : World) : Prop := e = .returned (.tuple #[]) ∧ ∃ l', SrtD l l' ∧ RowD w' g l' ∧ w.grownBy w' (some g)
theorem grownD {w : World} {g n : Nat} {os : Array Obj} (d : Array Dc) : w.grownBy (sortWorldK encD 11 w g 0 n d os) (some g) := by
  refine ⟨rfl, rfl, rfl, by simp [sortWorldK, putRowK], fun k hk hne => ?_⟩
  have : g ≠ k := fun e => hne (by rw [e])
  simp only [sortWorldK, putRowK]
  rw [heap_grow_old _ _ (by simpa using hk)]
  simp [putRow, mapBlock, Sort.ahead, Array.getElem?_modify, this]
set_option maxRecDepth 100000 in
theorem insSortD_any (l : List Dc) (g cap : Nat) (w : World) (h : RowD w g l) (hg : g < w.heap.size) (hl : l.length < 20) :
    Calls Tryz.prog 156 #[.slice (some ⟨g, 0, none⟩) l.length cap, .int .i64 0, .int .i64 l.length, .func (.func 88) #[] #[]] w (SrtP l g w) := by
  have eg := enterFn (fid := 88) rfl rfl rfl
  have hc := AnyQ.insertionSortCmpFunc Tryz.insD 11 Tryz.aggDecl Tryz.sizeDecl encD (fun _ => rfl) (fun x v hv => dcC_one [x] v (by simpa [dcC, encD] using hv)) (fun x y => cmpZ x.id y.id) 88 #[] g 0 cap 0 l.length l.toArray w eg
    (cmpLaysD g _ w) h.holds hg (Nat.zero_le _) (by simp) (by simp; omega)
  simp only [List.size_toArray] at hc
  refine Calls.mono hc ?_
  rintro e w' ⟨rfl, n, os, rfl⟩
  have hs := insD_srt l
  refine ⟨rfl, _, hs, RowD.of_holds ?_, grownD _⟩
  refine holdsK_sortWorldK_c encD 11 w g 0 l.toArray _ n os h.holds hg ?_
  have := hs.1.length_eq
  simpa using this
set_option maxRecDepth 100000 in
set_option maxHeartbeats 1000000 in
theorem stableD_any (l : List Dc) (g cap : Nat) (w : World) (h : RowD w g l) (hg : g < w.heap.size) (hl : l.length < 20) :
    Calls Tryz.prog 124 #[.slice (some ⟨g, 0, none⟩) l.length cap, .int .i64 l.length, .func (.func 88) #[] #[]] w (SrtP l g w) := by
  have HI := Lib.hid (insSortD_any l g cap w h hg hl)
  obtain ⟨N, HN⟩ : ∃ Q, Hid (l.length = Q) := ⟨_, Lib.hid rfl⟩
  rw [HN.out] at HI hl ⊢
  have h1 : decide ((20 : Int) ≤ (N : Int)) = false := decide_eq_false (by omega)
  have h2 : decide ((20 : Int) < (N : Int)) = false := decide_eq_false (by omega)
  clear h hg
  go_enter Tryz.func124, Tryz.ntmps124
  go_wp2_with fail
  refine wp_loop_rounds 1 ?_
  rw [rounds_succ]
  go_wp2_with fail
  refine HI.out.mono ?_
  rintro e w1 ⟨rfl, hw⟩
  go_wp2_with fail
  refine wp_loop_rounds 1 ?_
  rw [rounds_succ]
  go_wp2
  go_end0
  exact ⟨rfl, hw⟩
set_option maxRecDepth 100000 in
set_option maxHeartbeats 1000000 in
theorem sortStableD_any (l : List Dc) (g cap : Nat) (w : World) (h : RowD w g l) (hg : g < w.heap.size) (hl : l.length < 20) :
    Calls Tryz.prog 87 #[.slice (some ⟨g, 0, none⟩) l.length cap, .func (.func 88) #[] #[]] w (SrtP l g w) := by
  have HI := Lib.hid (stableD_any l g cap w h hg hl)
  obtain ⟨N, HN⟩ : ∃ Q, Hid (l.length = Q) := ⟨_, Lib.hid rfl⟩
  rw [HN.out] at HI ⊢
  clear h hg hl
  go_enter Tryz.func87, Tryz.ntmps87
  go_wp2_with fail
  refine HI.out.mono ?_
  rintro e w1 ⟨rfl, hw⟩
  go_wp2
  go_end0
  exact ⟨rfl, hw⟩
set_option maxRecDepth 100000 in
set_option maxHeartbeats 1000000 in
theorem stableD0_any (A : Option Addr) (cap : Nat) (f : Value) (w : World) : Calls Tryz.prog 124 #[.slice A 0 cap, .int .i64 0, f] w fun e w' => e = .returned (.tuple #[]) ∧ w = w' := by
  go_enter Tryz.func124, Tryz.ntmps124
  go_wp2_with fail
  refine wp_loop_rounds 1 ?_
  rw [rounds_succ]
  go_wp2_with fail
  refine (insSortD0_any _ _ _).mono ?_
  rintro e w1 ⟨rfl, rfl⟩
  go_wp2_with fail
  refine wp_loop_rounds 1 ?_
  rw [rounds_succ]
  go_wp2
  go_end0
  exact ⟨rfl, rfl⟩
set_option maxRecDepth 100000 in
set_option maxHeartbeats 1000000 in
theorem sortStableD0_any (A : Option Addr) (cap : Nat) (f : Value) (w : World) : Calls Tryz.prog 87 #[.slice A 0 cap, f] w fun e w' => e = .returned (.tuple #[]) ∧ w = w' := by
  go_enter Tryz.func87, Tryz.ntmps87
  go_wp2_with fail
  refine (stableD0_any _ _ _ _).mono ?_
  rintro e w1 ⟨rfl, rfl⟩
  go_wp2
  go_end0
  exact ⟨rfl, rfl⟩
end Go.Proofs.YtacjjkbkhpdhnaaGreatDoor
/- bind.Number in plain words -/
namespace Go.Proofs.YtacjjkbkhpdhnaaGreatDoor
open Go Go.RowKit Go.Proofs Go.Shelf
theorem NumP.congr {old : List Dc} {name : ByteArray} {LN LN' : List Int} {r : Int} (ho : ∀ x ∈ old, 0 ≤ x.id) (he : ∀ i, 1 ≤ i → (i ∈ LN ↔ i ∈ LN')) (h : NumP old name LN r) : NumP old name LN' r := by
  have hpos : ∀ i, numO old name = some i → 0 ≤ i := fun i hi => by
    unfold numO at hi
    obtain ⟨x, hx, rfl⟩ := Option.map_eq_some_iff.1 hi
    exact ho x (List.mem_of_find?_eq_some hx)
  rcases h with ⟨i, h1, h2, h3, hr⟩ | ⟨h1, k, hk, h2, h3⟩
  · have := hpos i h1
    exact .inl ⟨i, h1, h2, fun h => h3 ((he i (by omega)).2 h), hr⟩
  · have e := fun j => he (itN j (1 + dgA name % 999999)) (itN_in (n0_in name) j).1
    refine .inr ⟨fun i hi => ?_, k, hk, ?_, fun j hj => ?_⟩
    · have := hpos i hi
      rcases h1 i hi with h | h
      · exact .inl h
      · by_cases h0 : i = 0
        · exact .inl h0
        · exact .inr ((he i (by omega)).1 h)
    · rw [hk] at h2 ⊢
      rw [List.mem_append] at h2 ⊢
      rw [← e]
      exact h2
    · have := h3 j hj
      rw [List.mem_append] at this ⊢
      rw [← e]
      exact this
def NSt (old : List Dc) (LN : List Int) (x x' : Dc) (LN' : List Int) : Prop :=
  (x.id ≠ 0 ∧ x' = x ∧ LN' = LN) ∨ (x.id = 0 ∧ ∃ i, NumP old (nameOf x) LN i ∧ x' = { x with id := i } ∧ LN' = LN ++ [i])
def NGo (old : List Dc) : List Int → List Dc → List Dc → List Int → Prop
  | LN, [], es, LN' => es = [] ∧ LN' = LN
  | LN, x :: r, es, LN' => ∃ x' es' L, NSt old LN x x' L ∧ es = x' :: es' ∧ NGo old L r es' LN'
theorem NGo.snoc {old : List Dc} {x x' : Dc} {L2 : List Int} : ∀ {a es : List Dc} {LN L1 : List Int}, NGo old LN a es L1 → NSt old L1 x x' L2 → NGo old LN (a ++ [x]) (es ++ [x']) L2
  | [], es, LN, L1, h, hs => by
    obtain ⟨rfl, rfl⟩ := h
    exact ⟨x', [], L2, hs, rfl, rfl, rfl⟩
  | y :: r, es, LN, L1, h, hs => by
    obtain ⟨y', es', L, h1, rfl, h2⟩ := h
    exact ⟨y', es' ++ [x'], L, h1, rfl, NGo.snoc h2 hs⟩
theorem NGo.len {old : List Dc} : ∀ {a es : List Dc} {LN L1 : List Int}, NGo old LN a es L1 → es.length = a.length
  | [], es, LN, L1, h => by
    obtain ⟨rfl, _⟩ := h
    rfl
  | y :: r, es, LN, L1, h => by
    obtain ⟨y', es', L, h1, rfl, h2⟩ := h
    simp [NGo.len h2]
theorem NSt.uniq {old : List Dc} (ho : ∀ x ∈ old, 0 ≤ x.id) {LN : List Int} {x a b : Dc} {La Lb : List Int} (h : NSt old LN x a La) (h' : NSt old LN x b Lb) : a = b ∧ La = Lb := by
  rcases h with ⟨h1, rfl, rfl⟩ | ⟨h1, i, h2, rfl, rfl⟩
  · rcases h' with ⟨_, rfl, rfl⟩ | ⟨h0, _⟩
    · exact ⟨rfl, rfl⟩
    · exact absurd h0 h1
  · rcases h' with ⟨h0, _⟩ | ⟨_, i', h2', rfl, rfl⟩
    · exact absurd h1 h0
    · have := NumP.uniq ho (fun _ _ => Iff.rfl) h2 h2'
      subst this
      exact ⟨rfl, rfl⟩
theorem NGo.uniq {old : List Dc} (ho : ∀ x ∈ old, 0 ≤ x.id) : ∀ {a es fs : List Dc} {LN L1 L2 : List Int}, NGo old LN a es L1 → NGo old LN a fs L2 → es = fs
  | [], es, fs, LN, L1, L2, h, h' => by
    obtain ⟨rfl, _⟩ := h
    obtain ⟨rfl, _⟩ := h'
    rfl
  | y :: r, es, fs, LN, L1, L2, h, h' => by
    obtain ⟨y', es', L, h1, rfl, h2⟩ := h
    obtain ⟨z', fs', L', h1', rfl, h2'⟩ := h'
    obtain ⟨rfl, rfl⟩ := h1.uniq ho h1'
    rw [NGo.uniq ho h2 h2']
theorem NGo.dis {old : List Dc} (ho : ∀ x ∈ old, 0 ≤ x.id ∧ x.id ≤ 999999) : ∀ {ds es : List Dc} {LN L1 : List Int}, NGo old LN ds es L1 → (∀ x ∈ ds, x.id ≠ 0 → x.id ∈ LN) → (ds.Pairwise fun x y => x.id ≠ 0 → x.id ≠ y.id) →
    (∀ e ∈ es, (∃ x ∈ ds, x.id ≠ 0 ∧ x.id = e.id) ∨ e.id ∉ LN) ∧ es.Pairwise fun x y => x.id ≠ y.id
  | [], es, LN, L1, h, _, _ => by
    obtain ⟨rfl, _⟩ := h
    exact ⟨fun e he => absurd he (by simp), List.Pairwise.nil⟩
  | x :: r, es, LN, L1, h, hin, hp => by
    obtain ⟨x', es', L, h1, rfl, h2⟩ := h
    obtain ⟨hp1, hp2⟩ := List.pairwise_cons.1 hp
    rcases h1 with ⟨h0, rfl, rfl⟩ | ⟨h0, i, hi, rfl, rfl⟩
    · obtain ⟨a, b⟩ := NGo.dis ho h2 (fun y hy h => hin y (List.mem_cons_of_mem _ hy) h) hp2
      refine ⟨fun e he => ?_, List.pairwise_cons.2 ⟨fun e he => ?_, b⟩⟩
      · rcases List.mem_cons.1 he with rfl | he
        · exact .inl ⟨e, List.mem_cons_self, h0, rfl⟩
        · rcases a e he with ⟨y, hy, h⟩ | h
          · exact .inl ⟨y, List.mem_cons_of_mem _ hy, h⟩
          · exact .inr h
      · rcases a e he with ⟨y, hy, hy0, hye⟩ | h
        · rw [← hye]
          exact hp1 y hy h0
        · intro e'
          exact h (e' ▸ hin x' List.mem_cons_self h0)
    · obtain ⟨_, _, hni⟩ := hi.new ho
      obtain ⟨a, b⟩ := NGo.dis ho h2 (fun y hy h => List.mem_append_left _ (hin y (List.mem_cons_of_mem _ hy) h)) hp2
      refine ⟨fun e he => ?_, List.pairwise_cons.2 ⟨fun e he => ?_, b⟩⟩
      · rcases List.mem_cons.1 he with rfl | he
        · exact .inr hni
        · rcases a e he with ⟨y, hy, h⟩ | h
          · exact .inl ⟨y, List.mem_cons_of_mem _ hy, h⟩
          · exact .inr fun h' => h (List.mem_append_left _ h')
      · rcases a e he with ⟨y, hy, hy0, hye⟩ | h
        · intro e'
          simp only at e'
          exact hni (by rw [e', ← hye]; exact hin y (List.mem_cons_of_mem _ hy) hy0)
        · intro e'
          simp only at e'
          exact h (by rw [← e']; simp)
theorem sds_rise : ∀ {p : Option Int} {met : List ByteArray} {ds : List Dc}, sdsE p met ds = 0 → (ds.Pairwise fun x y => y.id ≠ 0 → x.id ≠ 0 ∧ x.id < y.id) ∧ ∀ q, p = some q → ∀ y ∈ ds, y.id ≠ 0 → q ≠ 0 ∧ q < y.id
  | _, _, [], _ => ⟨List.Pairwise.nil, fun _ _ y hy => absurd hy (by simp)⟩
  | p, met, x :: r, h => by
    unfold sdsE at h
    by_cases h1 : sdE x = 0
    rotate_left
    · rw [if_pos h1] at h
      exact absurd h h1
    rw [if_neg (by simpa using h1)] at h
    by_cases h2 : ordBad p x.id = true
    · rw [if_pos h2] at h
      cases h
    rw [if_neg h2] at h
    have hr : ∃ met', sdsE (some x.id) met' r = 0 := by
      by_cases h3 : x.names.length = 1
      · rw [if_pos h3] at h
        by_cases h4 : hasN met (nameOf x) = true
        · rw [if_pos h4] at h
          cases h
        · rw [if_neg h4] at h
          exact ⟨_, h⟩
      · rw [if_neg h3] at h
        exact ⟨_, h⟩
    obtain ⟨met', hr⟩ := hr
    obtain ⟨i1, i2⟩ := sds_rise hr
    have hx : ∀ q, p = some q → x.id ≠ 0 → q ≠ 0 ∧ q < x.id := fun q hq h0 => by
      subst hq
      unfold ordBad at h2
      simp only [Bool.and_eq_true, Bool.or_eq_true, bne_iff_ne, beq_iff_eq, decide_eq_true_eq, not_and, not_or] at h2
      have := h2 h0
      omega
    refine ⟨List.pairwise_cons.2 ⟨fun y hy h0 => i2 x.id rfl y hy h0, i1⟩, fun q hq y hy h0 => ?_⟩
    rcases List.mem_cons.1 hy with rfl | hy
    · exact hx q hq h0
    · obtain ⟨a, b⟩ := i2 x.id rfl y hy h0
      obtain ⟨c, d⟩ := hx q hq a
      exact ⟨c, by omega⟩
def nbrE (u : List ByteArray) (ds : List Dc) (u' : List ByteArray) (old : List Dc) : Int := if srcDE u ds ≠ 0 then srcDE u ds else srcDE u' old
def NumG (ds old fs : List Dc) : Prop := ∃ es L, NGo old (ds.map Dc.id) ds es L ∧ SrtD es fs
theorem NumG.uniq {ds old fs gs : List Dc} (ho : ∀ x ∈ old, 0 ≤ x.id ∧ x.id ≤ 999999) (hd : ds.Pairwise fun x y => x.id ≠ 0 → x.id ≠ y.id) (h : NumG ds old fs) (h' : NumG ds old gs) : fs = gs := by
  obtain ⟨es, L, h1, h2⟩ := h
  obtain ⟨es', L', h1', h2'⟩ := h'
  have := NGo.uniq (fun x hx => (ho x hx).1) h1 h1'
  subst this
  exact SrtD.uniq (NGo.dis ho h1 (fun x hx _ => List.mem_map_of_mem hx) hd).2 h2 h2'
theorem rise_dis {ds : List Dc} (h : ds.Pairwise fun x y => y.id ≠ 0 → x.id ≠ 0 ∧ x.id < y.id) : ds.Pairwise fun x y => x.id ≠ 0 → x.id ≠ y.id :=
  h.imp fun {x y} hxy h0 e => by
    have := hxy (by omega)
    omega
end Go.Proofs.YtacjjkbkhpdhnaaGreatDoor
