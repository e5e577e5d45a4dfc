/- ref24.sorted -/
import Derived.Test.YtacjjkbkhpdhnaaGreatDoorZnb
import Derived.Test.YtacjjkbkhpdhnaaGreatDoorZlg
import Derived.Test.YtacjjkbkhpdhnaaGreatDoorZqa
import Derived.Deep.CutBlock
import Derived.Deep.DeepCutAuto
import Derived.Deep.QuietTactic
import Derived.BigQuiet
namespace Go.Proofs.YtacjjkbkhpdhnaaGreatDoor
open Go Go.RowKit Go.Proofs Go.Shelf
theorem dcC_split (l : List Dc) (m : Nat) : dcC l = dcC (l.take m) ++ dcC (l.drop m) := by
  rw [← dcC_app, List.take_append_drop]
theorem dcC_takeAt {l : List Dc} {m q : Nat} {u : Value} (h : (dcC (l.take m))[q]? = some u) : (dcC l)[q]? = some u := by
  rw [dcC_split l m, List.getElem?_append_left (List.getElem?_eq_some_iff.1 h).1]
  exact h
theorem dcC_dropAt {l : List Dc} {m q : Nat} {u : Value} (hm : m ≤ l.length) (h : (dcC (l.drop m))[q]? = some u) : (dcC l)[m * 11 + q]? = some u := by
  have e : (dcC (l.take m)).length = m * 11 := by rw [dcC_length, List.length_take, Nat.min_eq_left hm]
  rw [dcC_split l m, List.getElem?_append_right (by omega), e, Nat.add_sub_cancel_left]
  exact h
def OwnD (W : World) (A : Option Addr) (c : Nat) (l : List Dc) : Prop := W.ownsRow 0 63 11 (.slice A l.length c) l.length (dcC l)
theorem OwnD.nil (W : World) : OwnD W none 0 [] := World.ownsRow_nil W 0 63 11
theorem OwnD.below {W X : World} {B : Nat} {A : Option Addr} {c : Nat} {l : List Dc} (h : OwnD W A c l) (hb : Below B W X) (hB : W.heap.size ≤ B) : OwnD X A c l := by
  refine ⟨h.1, ?_⟩
  rcases h.2 with h | ⟨g, cap, cur, h1, h2, h3, h4⟩
  · exact .inl h
  · have hg : g < W.heap.size := by
      by_cases hlt : g < W.heap.size
      · exact hlt
      · rw [Array.getElem?_eq_none (by omega)] at h3; cases h3
    exact .inr ⟨g, cap, cur, h1, h2, (hb.block g (by omega)).trans h3, h4⟩
theorem OwnD.of {W : World} {base : Nat} {v : Value} {l : List Dc} (h : W.ownsRow base 63 11 v l.length (dcC l)) : ∃ A c, v = .slice A l.length c ∧ OwnD W A c l := by
  rcases h.2 with ⟨h1, h2⟩ | ⟨g, cap, cur, h1, h2, h3, h4⟩
  · obtain rfl : l = [] := List.length_eq_zero_iff.1 h2
    exact ⟨none, 0, by rw [h1]; rfl, OwnD.nil W⟩
  · exact ⟨some ⟨g, 0, none⟩, cap, h1, h.1, .inr ⟨g, cap, cur, rfl, Nat.zero_le _, h3, h4⟩⟩
theorem OwnD.cells {W : World} {A : Option Addr} {c : Nat} {l : List Dc} (h : OwnD W A c l) : (l = [] ∧ A = none ∧ c = 0) ∨ ∃ g, A = some ⟨g, 0, none⟩ ∧ g < W.heap.size ∧ l.length ≤ c ∧ c ≤ 9223372036854775807 ∧ ∀ q u, (dcC l)[q]? = some u → W.cell? ⟨g, q, none⟩ = some u := by
  rcases h.2 with ⟨h1, h2⟩ | ⟨g, cap, cur, h1, h2, h3, h4, h5, h6⟩
  · simp only [Value.slice.injEq] at h1
    exact .inl ⟨List.length_eq_zero_iff.1 h2, h1.1, h1.2.2⟩
  · simp only [Value.slice.injEq, true_and] at h1
    obtain ⟨rfl, rfl⟩ := h1
    have hg : g < W.heap.size := by
      by_cases hlt : g < W.heap.size
      · exact hlt
      · rw [Array.getElem?_eq_none (by omega)] at h3; cases h3
    refine .inr ⟨g, rfl, hg, h4, by unfold maxLen at h5; exact h5, fun q u hu => ?_⟩
    have hlt := (List.getElem?_eq_some_iff.1 hu).1
    rw [dcC_length] at hlt
    exact (h.cellAt q hlt).trans hu
theorem OwnD.newsT {W : World} {g c : Nat} {l : List Dc} (h : OwnD W (some ⟨g, 0, none⟩) c l) (a : Nat) :
    ∀ ad, (some ⟨g, 0, none⟩ : Option Addr) = some ad → ∀ q u, (dcC (l.take a))[q]? = some u → W.cell? (ad.add q) = some u := by
  rcases h.cells with ⟨_, h, _⟩ | ⟨g', hg', hg, hc1, hc2, hcell⟩
  · cases h
  · cases hg'
    intro ad e q u hu
    cases e
    have := hcell q u (dcC_takeAt hu)
    cases q <;> simpa [Addr.add] using this
theorem OwnD.newsD {W : World} {g c : Nat} {l : List Dc} (h : OwnD W (some ⟨g, 0, none⟩) c l) (a : Nat) (ha : a ≤ l.length) :
    ∀ ad, (some ⟨g, a * 11, none⟩ : Option Addr) = some ad → ∀ q u, (dcC (l.drop a))[q]? = some u → W.cell? (ad.add q) = some u := by
  rcases h.cells with ⟨_, h, _⟩ | ⟨g', hg', hg, hc1, hc2, hcell⟩
  · cases h
  · cases hg'
    intro ad e q u hu
    cases e
    have := hcell _ u (dcC_dropAt ha hu)
    cases q <;> simpa [Addr.add] using this
theorem newsD_at {W : World} {k : Nat} {x : Dc} (h : W.heap[k]? = some (.cells #[.int .i64 x.id, .int .i64 x.kind, .bool x.pub, .slice x.nA x.names.length x.nc, .bool x.doubt, .int .i64 x.k, .string x.n, .string x.m, .int .i64 x.i, .int .i64 x.d, .slice x.A x.s.len x.c] 63 (0, 0))) :
    ∀ ad, (some ⟨k, 0, none⟩ : Option Addr) = some ad → ∀ q u, ([.int .i64 x.id, .int .i64 x.kind, .bool x.pub, .slice x.nA x.names.length x.nc, .bool x.doubt, .int .i64 x.k, .string x.n, .string x.m, .int .i64 x.i, .int .i64 x.d, .slice x.A x.s.len x.c] : List Value)[q]? = some u → W.cell? (ad.add q) = some u := by
  intro ad e q u hu
  cases e
  exact World.news_of_block (cs := #[.int .i64 x.id, .int .i64 x.kind, .bool x.pub, .slice x.nA x.names.length x.nc, .bool x.doubt, .int .i64 x.k, .string x.n, .string x.m, .int .i64 x.i, .int .i64 x.d, .slice x.A x.s.len x.c]) (t := 63) (fr := (0, 0)) h q u hu
theorem newsD_new (W : World) (x : Dc) :
    ∀ ad, (some ⟨W.heap.size, 0, none⟩ : Option Addr) = some ad → ∀ q u, ([.int .i64 x.id, .int .i64 x.kind, .bool x.pub, .slice x.nA x.names.length x.nc, .bool x.doubt, .int .i64 x.k, .string x.n, .string x.m, .int .i64 x.i, .int .i64 x.d, .slice x.A x.s.len x.c] : List Value)[q]? = some u → (W.alloc (.cells #[.int .i64 x.id, .int .i64 x.kind, .bool x.pub, .slice x.nA x.names.length x.nc, .bool x.doubt, .int .i64 x.k, .string x.n, .string x.m, .int .i64 x.i, .int .i64 x.d, .slice x.A x.s.len x.c] 63)).cell? (ad.add q) = some u := newsD_at (heap_alloc_new W _)
theorem ins_srt {l out : List Dc} {x : Dc} {a : Nat} (h : SrtD l out) (h1 : ∀ y ∈ out.take a, y.id < x.id) (h2 : ∀ y, out[a]? = some y → x.id ≤ y.id) : SrtD (l ++ [x]) (out.take a ++ x :: out.drop a) := by
  have hp := h.2
  refine ⟨?_, ?_⟩
  · have e : (out.take a ++ x :: out.drop a).Perm (x :: (out.take a ++ out.drop a)) := List.perm_middle
    rw [List.take_append_drop] at e
    exact e.trans ((List.Perm.cons x h.1).trans (List.perm_append_singleton x l).symm)
  · have e := hp
    rw [← List.take_append_drop a out] at e
    obtain ⟨e1, e2, e3⟩ := List.pairwise_append.1 e
    have hd : ∀ y ∈ out.drop a, x.id ≤ y.id := fun y hy => by
      obtain ⟨q, hq⟩ := List.getElem?_of_mem hy
      cases ha : out[a]? with
      | none =>
        rw [List.getElem?_eq_none_iff] at ha
        rw [List.drop_of_length_le ha] at hy
        cases hy
      | some z =>
        have hz := h2 z ha
        obtain ⟨hl, he⟩ := List.getElem?_eq_some_iff.1 ha
        have hdr : out.drop a = z :: out.drop (a + 1) := by rw [List.drop_eq_getElem_cons hl, he]
        rw [hdr] at hy e2
        rcases List.mem_cons.1 hy with rfl | hy
        · exact hz
        · have := (List.pairwise_cons.1 e2).1 y hy
          omega
    refine List.pairwise_append.2 ⟨e1, List.pairwise_cons.2 ⟨hd, e2⟩, fun y hy z hz => ?_⟩
    rcases List.mem_cons.1 hz with rfl | hz
    · have := h1 y hy
      omega
    · exact e3 y hy z hz
def SoP (l : List Dc) (w : World) (e : Ending) (w' : World) : Prop := ∃ A c fs, e = .returned (.slice A fs.length c) ∧ SrtD l fs ∧ OwnD w' A c fs ∧ (∀ g o s, A = some ⟨g, o, s⟩ → w.heap.size ≤ g) ∧ Below w.heap.size w w'
set_option maxRecDepth 100000 in
set_option maxHeartbeats 16000000 in
theorem sorted24_any (l : List Dc) (lA : Option Addr) (lc : Nat) (w : World) (hd : SlD w w.heap.size lA lc l) (hl : l.length ≤ 100) :
    Calls Tryz.prog 90 #[.slice lA l.length lc] w (SoP l w) := by
  obtain ⟨i0, hi, hz0, hz1, hz2⟩ := info_parts Tryz.infoDecl
  obtain ⟨N, HN⟩ : ∃ Q, Hid (l.length = Q) := ⟨_, Lib.hid rfl⟩
  have hdl := hd.1
  have hdl2 := hd.2.1
  unfold maxLen at hdl2
  have HD := Lib.hid hd
  rw [HN.out] at hl hdl ⊢
  clear hd
  go_enter Tryz.func90, Tryz.ntmps90
  go_wp2_with fail
  go_loopg [3, 4, 5, 6] N (fun g so ct _ _ wr => ∃ (j : Nat) (out : List Dc) (A : Option Addr) (c : Nat), g = N - j ∧ j ≤ N ∧ ct = .int .i64 j ∧ so = .slice A j c ∧ out.length = j ∧ OwnD wr A c out ∧ Hid (SrtD (l.take j) out) ∧ Below w.heap.size w wr ∧ Hid (∀ g o s, A = some ⟨g, o, s⟩ → w.heap.size ≤ g))
  case atStart => exact ⟨0, [], none, 0, rfl, by omega, rfl, rfl, rfl, OwnD.nil _, Lib.hid ⟨List.Perm.refl _, List.Pairwise.nil⟩, Below.refl _ _, Lib.hid (fun _ _ _ h => nomatch h)⟩
  case round =>
  obtain ⟨j, out, A, c, HG, hj, rfl, rfl, hol, hown, hsr, hB, HAg⟩ := hrel
  by_cases hlt : j < N
  rotate_left
  · have HR := Lib.hid (show SrtD l out by have h := hsr.out; rwa [List.take_of_length_le (by rw [HN.out]; omega)] at h)
    have HT := Lib.hid (And.intro hown (And.intro hB hol))
    have i2 : decide ((j : Int) < (N : Int)) = false := decide_eq_false (by omega)
    have i3 : decide (j < N) = false := decide_eq_false (by omega)
    clear hown hsr hB hol
    go_wp2
    go_ret
    exact ⟨A, c, out, by rw [HT.out.2.2]; rfl, HR.out, HT.out.1, HAg.out, HT.out.2.1⟩
  have hlt' : j < l.length := by rw [HN.out]; exact hlt
  obtain ⟨x, hx⟩ : ∃ x, l[j]? = some x := ⟨_, List.getElem?_eq_getElem hlt'⟩
  have htk : l.take (j + 1) = l.take j ++ [x] := by
    obtain ⟨h1, h2⟩ := List.getElem?_eq_some_iff.1 hx
    rw [List.take_succ_eq_append_getElem h1, h2]
  obtain ⟨b, o, hA, hbb, d0, d1, d2, d3, d4, d5, d6, d7, d8, d9, d10, xok⟩ := HD.out.cells_at (wr := wr) (fun p hp => hB.cell hp) hx
  have HSc := Lib.hid (show ∀ Y : World, Below wr.heap.size wr Y → Y.cell? ⟨b, o + j * 11, none⟩ = some (.int .i64 x.id) ∧ Y.cell? ⟨b, o + j * 11 + 1, none⟩ = some (.int .i64 x.kind) ∧ Y.cell? ⟨b, o + j * 11 + 2, none⟩ = some (.bool x.pub) ∧ Y.cell? ⟨b, o + j * 11 + 3, none⟩ = some (.slice x.nA x.names.length x.nc) ∧ Y.cell? ⟨b, o + j * 11 + 4, none⟩ = some (.bool x.doubt) ∧ Y.cell? ⟨b, o + j * 11 + 5, none⟩ = some (.int .i64 x.k) ∧ Y.cell? ⟨b, o + j * 11 + 6, none⟩ = some (.string x.n) ∧ Y.cell? ⟨b, o + j * 11 + 7, none⟩ = some (.string x.m) ∧ Y.cell? ⟨b, o + j * 11 + 8, none⟩ = some (.int .i64 x.i) ∧ Y.cell? ⟨b, o + j * 11 + 9, none⟩ = some (.int .i64 x.d) ∧ Y.cell? ⟨b, o + j * 11 + 10, none⟩ = some (.slice x.A x.s.len x.c) from fun Y hY => by
    have hbw := World.block_lt_of_cell? wr ⟨b, o + j * 11, none⟩ d0
    have q : ∀ (t : Nat) (v : Value), wr.cell? ⟨b, t, none⟩ = some v → Y.cell? ⟨b, t, none⟩ = some v := fun t v h => (hY.cell (p := ⟨b, t, none⟩) hbw).trans h
    exact ⟨q _ _ d0, q _ _ d1, q _ _ d2, q _ _ d3, q _ _ d4, q _ _ d5, q _ _ d6, q _ _ d7, q _ _ d8, q _ _ d9, q _ _ d10⟩)
  subst hA
  have hcs := hown.cells
  have HIn := Lib.hid (fun (a : Nat) (h1 : ∀ y ∈ out.take a, y.id < x.id) (h2 : ∀ y, out[a]? = some y → x.id ≤ y.id) => ins_srt (x := x) hsr.out h1 h2)
  rw [← htk] at HIn
  have j0 : (0 : Int) ≤ (j : Int) := by omega
  have j1 : (j : Int) < (N : Int) := by omega
  have HT := Lib.hid (And.intro hown (And.intro hB (And.intro hol HG)))
  clear d1 d2 d3 d4 d5 d6 d7 d8 d9 d10 xok hsr hx htk hlt' hown hB HG
  rcases hcs with ⟨h0, hA0, hc0⟩ | ⟨g, hA0, hgz, hc1, hc2, hcell⟩
  · subst hA0
    subst hc0
    have hj0 : j = 0 := by have := HT.out.2.2.1; rw [h0] at this; exact this.symm
    have Ha := Lib.hid (show (∀ y ∈ out.take 0, y.id < x.id) ∧ ∀ y, out[0]? = some y → x.id ≤ y.id from ⟨fun y hy => by simp at hy, fun y hy => by rw [h0] at hy; simp at hy⟩)
    clear h0
    obtain ⟨a, ha0⟩ : ∃ a : Nat, a = 0 := ⟨0, rfl⟩
    rw [← ha0] at Ha
    have ha : a ≤ j := by omega
    have jz : decide ((0 : Int) < (j : Int)) = false := by simp; omega
    have jz2 : decide (0 < j) = false := decide_eq_false (by omega)
    have HJ0 := Lib.hid hj0
    clear hj0
    go_wp2_with fail
    refine wp_loop_rounds 1 ?_
    rw [rounds_succ]
    go_wp2_with fail
    go_quiet (fail)
    have hBX : Below wr.heap.size wr (wr.drewN nq) := below_drewN (Below.refl _ _) nq
    generalize wr.drewN nq = X at hBX ⊢
    clear d0
    go_wp2_with fail
    have hb0 : Below X.heap.size X X.drew := below_drewK (Below.refl _ _)
    have HKc : Hid (∀ Y, Below X.heap.size X Y → Y.cell? ⟨b, o + j * 11, none⟩ = some (.int .i64 x.id) ∧ Y.cell? ⟨b, o + j * 11 + 1, none⟩ = some (.int .i64 x.kind) ∧ Y.cell? ⟨b, o + j * 11 + 2, none⟩ = some (.bool x.pub) ∧ Y.cell? ⟨b, o + j * 11 + 3, none⟩ = some (.slice x.nA x.names.length x.nc) ∧ Y.cell? ⟨b, o + j * 11 + 4, none⟩ = some (.bool x.doubt) ∧ Y.cell? ⟨b, o + j * 11 + 5, none⟩ = some (.int .i64 x.k) ∧ Y.cell? ⟨b, o + j * 11 + 6, none⟩ = some (.string x.n) ∧ Y.cell? ⟨b, o + j * 11 + 7, none⟩ = some (.string x.m) ∧ Y.cell? ⟨b, o + j * 11 + 8, none⟩ = some (.int .i64 x.i) ∧ Y.cell? ⟨b, o + j * 11 + 9, none⟩ = some (.int .i64 x.d) ∧ Y.cell? ⟨b, o + j * 11 + 10, none⟩ = some (.slice x.A x.s.len x.c)) := fun Y hY => HSc.out Y (hBX.trans (hY.mono hBX.size))
    have HNw := Lib.hid (show ∀ Y, Below X.heap.size X Y → ∀ ad, (none : Option Addr) = some ad → ∀ q u, (dcC (out.take a))[q]? = some u → Y.cell? (ad.add q) = some u from fun _ _ ad e => nomatch e)
    have HL1 := Lib.hid (show (dcC (out.take a)).length = a * 11 by rw [dcC_length, List.length_take, HT.out.2.2.1, Nat.min_eq_left ha])
    have HO1 := Lib.hid (World.ownsRow_lit (base := X.heap.size) (e := 63) (size := 11) X.drew #[] 0 (Nat.le_refl _) (by simp) rfl)
    have HO2 := Lib.hid (HO1.out.alloc (.cells #[.int .i64 x.id, .int .i64 x.kind, .bool x.pub, .slice x.nA x.names.length x.nc, .bool x.doubt, .int .i64 x.k, .string x.n, .string x.m, .int .i64 x.i, .int .i64 x.d, .slice x.A x.s.len x.c] 63))
    have ho3 := World.ownsRow_lit (base := X.heap.size) (e := 63) (size := 11) (X.drew.alloc (.cells #[.int .i64 x.id, .int .i64 x.kind, .bool x.pub, .slice x.nA x.names.length x.nc, .bool x.doubt, .int .i64 x.k, .string x.n, .string x.m, .int .i64 x.i, .int .i64 x.d, .slice x.A x.s.len x.c] 63)) #[] 0 (by simp) (by simp) rfl
    rw [show (X.drew.alloc (.cells #[.int .i64 x.id, .int .i64 x.kind, .bool x.pub, .slice x.nA x.names.length x.nc, .bool x.doubt, .int .i64 x.k, .string x.n, .string x.m, .int .i64 x.i, .int .i64 x.d, .slice x.A x.s.len x.c] 63)).heap.size = X.heap.size + 1 by simp] at ho3
    have HO3 := Lib.hid ho3
    clear ho3
    have hba : Below X.heap.size X (X.drew.alloc (.cells #[] 63)) := hb0.alloc (Nat.le_refl _) _
    have hbb : Below X.heap.size X ((X.drew.alloc (.cells #[] 63)).alloc (.cells #[.int .i64 x.id, .int .i64 x.kind, .bool x.pub, .slice x.nA x.names.length x.nc, .bool x.doubt, .int .i64 x.k, .string x.n, .string x.m, .int .i64 x.i, .int .i64 x.d, .slice x.A x.s.len x.c] 63)) := hba.alloc hba.size _
    have hbn : Below X.heap.size X (X.drew.alloc (.cells #[.int .i64 x.id, .int .i64 x.kind, .bool x.pub, .slice x.nA x.names.length x.nc, .bool x.doubt, .int .i64 x.k, .string x.n, .string x.m, .int .i64 x.i, .int .i64 x.d, .slice x.A x.s.len x.c] 63)) := hb0.alloc (Nat.le_refl _) _
    have hbc : Below X.heap.size X ((X.drew.alloc (.cells #[.int .i64 x.id, .int .i64 x.kind, .bool x.pub, .slice x.nA x.names.length x.nc, .bool x.doubt, .int .i64 x.k, .string x.n, .string x.m, .int .i64 x.i, .int .i64 x.d, .slice x.A x.s.len x.c] 63)).alloc (.cells #[] 63)) := hbn.alloc hbn.size _
    have HNa := Lib.hid (HNw.out _ hba)
    have HNb := Lib.hid (HNw.out _ hbb)
    have HNc := Lib.hid (HNw.out _ hbc)
    have HGa := Lib.hid (fun w1 (hg : (X.drew.alloc (.cells #[] 63)).grownBy w1 (Value.slice (some ⟨X.drew.heap.size, 0, none⟩) 0 0).ownBlock) => hba.grown hg hba.size (fun q hq => (HO1.out.lt q hq).1))
    have HGb := Lib.hid (fun w1 (hg : ((X.drew.alloc (.cells #[] 63)).alloc (.cells #[.int .i64 x.id, .int .i64 x.kind, .bool x.pub, .slice x.nA x.names.length x.nc, .bool x.doubt, .int .i64 x.k, .string x.n, .string x.m, .int .i64 x.i, .int .i64 x.d, .slice x.A x.s.len x.c] 63)).grownBy w1 (Value.slice (some ⟨X.drew.heap.size, 0, none⟩) 0 0).ownBlock) => And.intro (hbb.grown hg hbb.size (fun q hq => (HO1.out.lt q hq).1)) (show w1.heap[X.heap.size + 1]? = some (.cells #[.int .i64 x.id, .int .i64 x.kind, .bool x.pub, .slice x.nA x.names.length x.nc, .bool x.doubt, .int .i64 x.k, .string x.n, .string x.m, .int .i64 x.i, .int .i64 x.d, .slice x.A x.s.len x.c] 63 (0, 0)) from (hg.block (X.heap.size + 1) (by simp) (fun h => by have := Option.some.inj h; change X.heap.size + 1 = X.heap.size at this; omega)).trans (by have := heap_alloc_new (X.drew.alloc (.cells #[] 63)) (.cells #[.int .i64 x.id, .int .i64 x.kind, .bool x.pub, .slice x.nA x.names.length x.nc, .bool x.doubt, .int .i64 x.k, .string x.n, .string x.m, .int .i64 x.i, .int .i64 x.d, .slice x.A x.s.len x.c] 63); rwa [show (X.drew.alloc (.cells #[] 63)).heap.size = X.heap.size + 1 by simp] at this)))
    have HGc := Lib.hid (fun w1 (hg : ((X.drew.alloc (.cells #[.int .i64 x.id, .int .i64 x.kind, .bool x.pub, .slice x.nA x.names.length x.nc, .bool x.doubt, .int .i64 x.k, .string x.n, .string x.m, .int .i64 x.i, .int .i64 x.d, .slice x.A x.s.len x.c] 63)).alloc (.cells #[] 63)).grownBy w1 (Value.slice (some ⟨X.heap.size + 1, 0, none⟩) 0 0).ownBlock) => And.intro (hbc.grown hg hbc.size (fun q hq => (HO3.out.lt q hq).1)) (show w1.heap[X.heap.size]? = some (.cells #[.int .i64 x.id, .int .i64 x.kind, .bool x.pub, .slice x.nA x.names.length x.nc, .bool x.doubt, .int .i64 x.k, .string x.n, .string x.m, .int .i64 x.i, .int .i64 x.d, .slice x.A x.s.len x.c] 63 (0, 0)) from (hg.block X.heap.size (by simp; omega) (fun h => by have := Option.some.inj h; change X.heap.size = X.heap.size + 1 at this; omega)).trans (by rw [Below.heap_alloc _ _ _ (by simp)]; exact heap_alloc_new X.drew _)))
    have m1 : 0 + a ≤ maxLen := by unfold maxLen; omega
    have m2 : (0 + a) * 136 ≤ 140737488355328 := by omega
    have m3 : 0 + a + 1 ≤ maxLen := by unfold maxLen; omega
    have m4 : (0 + a + 1) * 136 ≤ 140737488355328 := by omega
    have HM := Lib.hid (And.intro m1 (And.intro m2 (And.intro m3 m4)))
    have HBB := Lib.hid (And.intro hba (And.intro hbb hbc))
    have HB0' := Lib.hid (And.intro hb0 hbn)
    clear m1 m2 m3 m4 hba hbb hbc hb0 hbn
    have HL3 := Lib.hid (show (dcC (out.drop a)).length = (j - a) * 11 by rw [dcC_length, List.length_drop, HT.out.2.2.1])
    have m5 : 0 + a + 1 + (j - a) ≤ maxLen := by unfold maxLen; omega
    have m6 : (0 + a + 1 + (j - a)) * 136 ≤ 140737488355328 := by omega
    have HM2 := Lib.hid (And.intro m5 m6)
    clear m5 m6
    have hdn : out.drop a = [] := List.drop_of_length_le (by rw [HT.out.2.2.1, HJ0.out]; omega)
    have hja : j - a = 0 := by have := HJ0.out; omega
    have HDn := Lib.hid (And.intro hdn hja)
    clear hdn hja
    obtain rfl : a = 0 := by omega
    go_region_held3 (fun Y => Y.cell? ⟨b, o + j * 11, none⟩ = some (.int .i64 x.id) ∧ Y.cell? ⟨b, o + j * 11 + 1, none⟩ = some (.int .i64 x.kind) ∧ Y.cell? ⟨b, o + j * 11 + 2, none⟩ = some (.bool x.pub) ∧ Y.cell? ⟨b, o + j * 11 + 3, none⟩ = some (.slice x.nA x.names.length x.nc) ∧ Y.cell? ⟨b, o + j * 11 + 4, none⟩ = some (.bool x.doubt) ∧ Y.cell? ⟨b, o + j * 11 + 5, none⟩ = some (.int .i64 x.k) ∧ Y.cell? ⟨b, o + j * 11 + 6, none⟩ = some (.string x.n) ∧ Y.cell? ⟨b, o + j * 11 + 7, none⟩ = some (.string x.m) ∧ Y.cell? ⟨b, o + j * 11 + 8, none⟩ = some (.int .i64 x.i) ∧ Y.cell? ⟨b, o + j * 11 + 9, none⟩ = some (.int .i64 x.d) ∧ Y.cell? ⟨b, o + j * 11 + 10, none⟩ = some (.slice x.A x.s.len x.c))
      (first | exact HKc.out _ hb2 | exact HKc.out _ hb1 | exact HKc.out _ (hb1.alloc hb1.size _) | exact HKc.out _ HB0'.out.1 | exact HKc.out _ HB0'.out.2 | exact HKc.out _ HBB.out.1 | exact HKc.out _ HBB.out.2.1 | exact HKc.out _ HBB.out.2.2)
      (first
        | (refine step_append_any _ rfl (.tmp 32) (.tmp 35) 23 rfl X.heap.size 63 i0 _ 11 136 Tryz.underlying23 hi hz0 hz1 hz2 rfl (Nat.succ_pos 10) _ 0 [] rfl HO1.out none 0 0 (dcC (out.take 0)) rfl HL1.out (fun _ => rfl) HNa.out (dcC_one _) HM.out.1 HM.out.2.1 HBB.out.1.size ?_; intro v1 w1 hown1 hg1; have hb1 := HGa.out w1 hg1; have tokA : True := trivial)
        | (refine step_append_any _ rfl (.tmp 32) (.tmp 35) 23 rfl X.heap.size 63 i0 _ 11 136 Tryz.underlying23 hi hz0 hz1 hz2 rfl (Nat.succ_pos 10) _ 0 [] rfl HO2.out none 0 0 (dcC (out.take 0)) rfl HL1.out (fun _ => rfl) HNb.out (dcC_one _) HM.out.1 HM.out.2.1 HBB.out.2.1.size ?_; intro v1 w1 hown1 hg1; obtain ⟨hb1, hD⟩ := HGb.out w1 hg1; have tokB : True := trivial)
        | (refine step_append_any _ rfl (.tmp 32) (.tmp 35) 23 rfl X.heap.size 63 i0 _ 11 136 Tryz.underlying23 hi hz0 hz1 hz2 rfl (Nat.succ_pos 10) _ 0 [] rfl HO3.out none 0 0 (dcC (out.take 0)) rfl HL1.out (fun _ => rfl) HNc.out (dcC_one _) HM.out.1 HM.out.2.1 HBB.out.2.2.size ?_; intro v1 w1 hown1 hg1; obtain ⟨hb1, hD⟩ := HGc.out w1 hg1; have tokC : True := trivial)
        | (have _t := tokA; refine step_append_any _ rfl (.tmp 36) (.tmp 41) 23 rfl X.heap.size 63 i0 _ 11 136 Tryz.underlying23 hi hz0 hz1 hz2 rfl (Nat.succ_pos 10) v1 _ _ rfl (hown1.alloc _) (some ⟨w1.heap.size, 0, none⟩) 1 1 [.int .i64 x.id, .int .i64 x.kind, .bool x.pub, .slice x.nA x.names.length x.nc, .bool x.doubt, .int .i64 x.k, .string x.n, .string x.m, .int .i64 x.i, .int .i64 x.d, .slice x.A x.s.len x.c] rfl rfl (fun h => nomatch h) (newsD_new _ _) (dcC_one [x]) HM.out.2.2.1 HM.out.2.2.2 (hb1.alloc hb1.size _).size ?_; intro v2 w2 hown2 hg2; have hb2 := (hb1.alloc hb1.size (.cells #[.int .i64 x.id, .int .i64 x.kind, .bool x.pub, .slice x.nA x.names.length x.nc, .bool x.doubt, .int .i64 x.k, .string x.n, .string x.m, .int .i64 x.i, .int .i64 x.d, .slice x.A x.s.len x.c] 63)).grown hg2 (hb1.alloc hb1.size _).size (fun q hq => (hown1.lt q hq).1))
        | (have _t := tokB; refine step_append_any _ rfl (.tmp 36) (.tmp 41) 23 rfl X.heap.size 63 i0 _ 11 136 Tryz.underlying23 hi hz0 hz1 hz2 rfl (Nat.succ_pos 10) v1 _ _ rfl hown1 (some ⟨X.heap.size + 1, 0, none⟩) 1 1 [.int .i64 x.id, .int .i64 x.kind, .bool x.pub, .slice x.nA x.names.length x.nc, .bool x.doubt, .int .i64 x.k, .string x.n, .string x.m, .int .i64 x.i, .int .i64 x.d, .slice x.A x.s.len x.c] rfl rfl (fun h => nomatch h) (newsD_at hD) (dcC_one [x]) HM.out.2.2.1 HM.out.2.2.2 hb1.size ?_; intro v2 w2 hown2 hg2; have hb2 := hb1.grown hg2 hb1.size (fun q hq => (hown1.lt q hq).1))
        | (have _t := tokC; refine step_append_any _ rfl (.tmp 36) (.tmp 41) 23 rfl X.heap.size 63 i0 _ 11 136 Tryz.underlying23 hi hz0 hz1 hz2 rfl (Nat.succ_pos 10) v1 _ _ rfl hown1 (some ⟨X.heap.size, 0, none⟩) 1 1 [.int .i64 x.id, .int .i64 x.kind, .bool x.pub, .slice x.nA x.names.length x.nc, .bool x.doubt, .int .i64 x.k, .string x.n, .string x.m, .int .i64 x.i, .int .i64 x.d, .slice x.A x.s.len x.c] rfl rfl (fun h => nomatch h) (newsD_at hD) (dcC_one [x]) HM.out.2.2.1 HM.out.2.2.2 hb1.size ?_; intro v2 w2 hown2 hg2; have hb2 := hb1.grown hg2 hb1.size (fun q hq => (hown1.lt q hq).1)))
    all_goals (
      go_wp2_with (at_builtin; refine wpList_append_own_any _ rfl (.tmp 43) (.tmp 46) 23 rfl X.heap.size 63 i0 _ 11 136 Tryz.underlying23 hi hz0 hz1 hz2 rfl (Nat.succ_pos 10) v2 _ _ rfl hown2 none j 0 [] rfl (by rw [HJ0.out]; rfl) (fun _ => HJ0.out) (fun _ e => nomatch e) (fun u hu => by simp at hu) (by rw [HJ0.out]; exact HM.out.2.2.1) (by rw [HJ0.out]; exact HM.out.2.2.2) hb2.size ?_; intro v3 w5 hown3 hg3)
      go_roundg (N - (j + 1))
      case measure => rw [HT.out.2.2.2]; omega
      case rel =>
        have hb5 := hb2.grown hg3 hb2.size (fun q hq => (hown2.lt q hq).1)
        have hlen : (out.take 0 ++ x :: out.drop 0).length = j + 1 := by have := HT.out.2.2.1; simp; omega
        have hf : w5.ownsRow X.heap.size 63 11 v3 (out.take 0 ++ x :: out.drop 0).length (dcC (out.take 0 ++ x :: out.drop 0)) := by
          have e1 : (out.take 0 ++ x :: out.drop 0).length = 0 + 0 + 1 + j := by rw [hlen]; omega
          rw [e1, dcC_app]
          rw [show out.drop 0 = [] from HDn.out.1]
          simpa [dcC, Dc.cells] using hown3
        have hlo := hf.lt
        obtain ⟨A', c', rfl, ho⟩ := OwnD.of hf
        exact ⟨j + 1, out.take 0 ++ x :: out.drop 0, A', c', rfl, by omega, by go_num, by rw [hlen], hlen, ho, Lib.hid (HIn.out 0 Ha.out.1 Ha.out.2), HT.out.2.1.trans ((hBX.trans (hb5.mono hBX.size)).mono HT.out.2.1.size), Lib.hid (fun g' o' s' h => by have h1 := (hlo g' (by rw [h]; rfl)).1; have h2 := HT.out.2.1.size; have h3 := hBX.size; omega)⟩)
  subst hA0
  have HCe := Lib.hid (show ∀ (Y : World) (a : Nat) (y : Dc), Below wr.heap.size wr Y → out[a]? = some y → Y.cell? ⟨g, a * 11, none⟩ = some (.int .i64 y.id) from fun Y a y hY hy => (hY.cell (p := ⟨g, a * 11, none⟩) hgz).trans (hcell _ _ (dcC_at out a y hy 0 _ rfl)))
  rw [HT.out.2.2.1] at hc1
  clear hcell hgz d0
  go_upto_block 2 with fail
  go_cut [5] from 13 to 31 (fun s5 wx => ∃ a : Nat, s5 = .int .i64 a ∧ a ≤ j ∧ Hid ((∀ y ∈ out.take a, y.id < x.id) ∧ ∀ y, out[a]? = some y → x.id ≤ y.id) ∧ Below wr.heap.size wr wx)
  case first =>
    go_wp2_with fail
    go_loopg [5] j (fun g ct wq => ∃ a : Nat, g = j - a ∧ a ≤ j ∧ ct = .int .i64 a ∧ Hid (∀ y ∈ out.take a, y.id < x.id) ∧ Below wr.heap.size wr wq)
    case atStart => exact ⟨0, rfl, by omega, rfl, Lib.hid (by simp), Below.refl _ _⟩
    case round =>
      obtain ⟨a, HGa, haj, rfl, HA, hB⟩ := hrel
      obtain ⟨W6, rfl⟩ : ∃ q, q = wr := ⟨_, rfl⟩
      have HB6 := Lib.hid hB
      obtain ⟨d0, _⟩ := HSc.out _ hB
      have a0 : (0 : Int) ≤ (a : Int) := by omega
      by_cases hlt2 : a < j
      rotate_left
      · have HR := Lib.hid (show (∀ y ∈ out.take a, y.id < x.id) ∧ ∀ y, out[a]? = some y → x.id ≤ y.id from ⟨HA.out, fun y hy => by
          have := (List.getElem?_eq_some_iff.1 hy).1
          rw [HT.out.2.2.1] at this
          omega⟩)
        have i2 : decide ((a : Int) < (j : Int)) = false := decide_eq_false (by omega)
        have i3 : decide (a < j) = false := decide_eq_false (by omega)
        clear hB
        go_wp2_with fail
        go_quiet (fail)
        go_wp2
        go_meet
        exact ⟨a, rfl, haj, HR, below_drewN HB6.out _⟩
      have hal : a < out.length := by rw [HT.out.2.2.1]; exact hlt2
      obtain ⟨y, hy⟩ : ∃ y, out[a]? = some y := ⟨_, List.getElem?_eq_getElem hal⟩
      have e0 := HCe.out _ a y hB hy
      have a1 : (a : Int) < (j : Int) := by omega
      have a2 : (a : Int) < (c : Int) := by omega
      by_cases hle : y.id < x.id
      · have hle' : decide (y.id < x.id) = true := decide_eq_true hle
        have HR := Lib.hid (show ∀ z ∈ out.take (a + 1), z.id < x.id from fun z hz => by
          obtain ⟨h1, h2⟩ := List.getElem?_eq_some_iff.1 hy
          rw [List.take_succ_eq_append_getElem h1, h2] at hz
          rcases List.mem_append.1 hz with h | h
          · exact HA.out z h
          · obtain rfl := List.mem_singleton.1 h
            exact hle)
        clear hle hy hB hal
        go_wp2_with fail
        go_quiet (fail)
        go_wp2
        go_roundg (j - (a + 1))
        case measure => rw [HGa]; omega
        case rel => exact ⟨a + 1, rfl, by omega, by go_num, HR, below_drewN HB6.out _⟩
      · have hle' : decide (y.id < x.id) = false := decide_eq_false hle
        have HR := Lib.hid (show (∀ z ∈ out.take a, z.id < x.id) ∧ ∀ z, out[a]? = some z → x.id ≤ z.id from ⟨HA.out, fun z hz => by
          rw [hy] at hz
          cases hz
          omega⟩)
        clear hle hy hB hal
        go_wp2_with fail
        go_quiet (fail)
        go_wp2
        go_meet
        exact ⟨a, rfl, haj, HR, below_drewN HB6.out _⟩
  case rest =>
  obtain ⟨a, rfl, ha, Ha, hBX⟩ := hcut
  obtain ⟨X, rfl⟩ : ∃ q, q = wc := ⟨_, rfl⟩
  rcases Nat.lt_or_ge a c with hac | hac
  · go_wp2_with fail
    have hb0 : Below X.heap.size X X.drew := below_drewK (Below.refl _ _)
    have HKc : Hid (∀ Y, Below X.heap.size X Y → Y.cell? ⟨b, o + j * 11, none⟩ = some (.int .i64 x.id) ∧ Y.cell? ⟨b, o + j * 11 + 1, none⟩ = some (.int .i64 x.kind) ∧ Y.cell? ⟨b, o + j * 11 + 2, none⟩ = some (.bool x.pub) ∧ Y.cell? ⟨b, o + j * 11 + 3, none⟩ = some (.slice x.nA x.names.length x.nc) ∧ Y.cell? ⟨b, o + j * 11 + 4, none⟩ = some (.bool x.doubt) ∧ Y.cell? ⟨b, o + j * 11 + 5, none⟩ = some (.int .i64 x.k) ∧ Y.cell? ⟨b, o + j * 11 + 6, none⟩ = some (.string x.n) ∧ Y.cell? ⟨b, o + j * 11 + 7, none⟩ = some (.string x.m) ∧ Y.cell? ⟨b, o + j * 11 + 8, none⟩ = some (.int .i64 x.i) ∧ Y.cell? ⟨b, o + j * 11 + 9, none⟩ = some (.int .i64 x.d) ∧ Y.cell? ⟨b, o + j * 11 + 10, none⟩ = some (.slice x.A x.s.len x.c)) := fun Y hY => HSc.out Y (hBX.trans (hY.mono hBX.size))
    have HNw := Lib.hid (fun Y (hY : Below X.heap.size X Y) => (HT.out.1.below (hBX.trans (hY.mono hBX.size)) (Nat.le_refl _)).newsT a)
    have HL1 := Lib.hid (show (dcC (out.take a)).length = a * 11 by rw [dcC_length, List.length_take, HT.out.2.2.1, Nat.min_eq_left ha])
    have HO1 := Lib.hid (World.ownsRow_lit (base := X.heap.size) (e := 63) (size := 11) X.drew #[] 0 (Nat.le_refl _) (by simp) rfl)
    have HO2 := Lib.hid (HO1.out.alloc (.cells #[.int .i64 x.id, .int .i64 x.kind, .bool x.pub, .slice x.nA x.names.length x.nc, .bool x.doubt, .int .i64 x.k, .string x.n, .string x.m, .int .i64 x.i, .int .i64 x.d, .slice x.A x.s.len x.c] 63))
    have ho3 := World.ownsRow_lit (base := X.heap.size) (e := 63) (size := 11) (X.drew.alloc (.cells #[.int .i64 x.id, .int .i64 x.kind, .bool x.pub, .slice x.nA x.names.length x.nc, .bool x.doubt, .int .i64 x.k, .string x.n, .string x.m, .int .i64 x.i, .int .i64 x.d, .slice x.A x.s.len x.c] 63)) #[] 0 (by simp) (by simp) rfl
    rw [show (X.drew.alloc (.cells #[.int .i64 x.id, .int .i64 x.kind, .bool x.pub, .slice x.nA x.names.length x.nc, .bool x.doubt, .int .i64 x.k, .string x.n, .string x.m, .int .i64 x.i, .int .i64 x.d, .slice x.A x.s.len x.c] 63)).heap.size = X.heap.size + 1 by simp] at ho3
    have HO3 := Lib.hid ho3
    clear ho3
    have hba : Below X.heap.size X (X.drew.alloc (.cells #[] 63)) := hb0.alloc (Nat.le_refl _) _
    have hbb : Below X.heap.size X ((X.drew.alloc (.cells #[] 63)).alloc (.cells #[.int .i64 x.id, .int .i64 x.kind, .bool x.pub, .slice x.nA x.names.length x.nc, .bool x.doubt, .int .i64 x.k, .string x.n, .string x.m, .int .i64 x.i, .int .i64 x.d, .slice x.A x.s.len x.c] 63)) := hba.alloc hba.size _
    have hbn : Below X.heap.size X (X.drew.alloc (.cells #[.int .i64 x.id, .int .i64 x.kind, .bool x.pub, .slice x.nA x.names.length x.nc, .bool x.doubt, .int .i64 x.k, .string x.n, .string x.m, .int .i64 x.i, .int .i64 x.d, .slice x.A x.s.len x.c] 63)) := hb0.alloc (Nat.le_refl _) _
    have hbc : Below X.heap.size X ((X.drew.alloc (.cells #[.int .i64 x.id, .int .i64 x.kind, .bool x.pub, .slice x.nA x.names.length x.nc, .bool x.doubt, .int .i64 x.k, .string x.n, .string x.m, .int .i64 x.i, .int .i64 x.d, .slice x.A x.s.len x.c] 63)).alloc (.cells #[] 63)) := hbn.alloc hbn.size _
    have HNa := Lib.hid (HNw.out _ hba)
    have HNb := Lib.hid (HNw.out _ hbb)
    have HNc := Lib.hid (HNw.out _ hbc)
    have HGa := Lib.hid (fun w1 (hg : (X.drew.alloc (.cells #[] 63)).grownBy w1 (Value.slice (some ⟨X.drew.heap.size, 0, none⟩) 0 0).ownBlock) => hba.grown hg hba.size (fun q hq => (HO1.out.lt q hq).1))
    have HGb := Lib.hid (fun w1 (hg : ((X.drew.alloc (.cells #[] 63)).alloc (.cells #[.int .i64 x.id, .int .i64 x.kind, .bool x.pub, .slice x.nA x.names.length x.nc, .bool x.doubt, .int .i64 x.k, .string x.n, .string x.m, .int .i64 x.i, .int .i64 x.d, .slice x.A x.s.len x.c] 63)).grownBy w1 (Value.slice (some ⟨X.drew.heap.size, 0, none⟩) 0 0).ownBlock) => And.intro (hbb.grown hg hbb.size (fun q hq => (HO1.out.lt q hq).1)) (show w1.heap[X.heap.size + 1]? = some (.cells #[.int .i64 x.id, .int .i64 x.kind, .bool x.pub, .slice x.nA x.names.length x.nc, .bool x.doubt, .int .i64 x.k, .string x.n, .string x.m, .int .i64 x.i, .int .i64 x.d, .slice x.A x.s.len x.c] 63 (0, 0)) from (hg.block (X.heap.size + 1) (by simp) (fun h => by have := Option.some.inj h; change X.heap.size + 1 = X.heap.size at this; omega)).trans (by have := heap_alloc_new (X.drew.alloc (.cells #[] 63)) (.cells #[.int .i64 x.id, .int .i64 x.kind, .bool x.pub, .slice x.nA x.names.length x.nc, .bool x.doubt, .int .i64 x.k, .string x.n, .string x.m, .int .i64 x.i, .int .i64 x.d, .slice x.A x.s.len x.c] 63); rwa [show (X.drew.alloc (.cells #[] 63)).heap.size = X.heap.size + 1 by simp] at this)))
    have HGc := Lib.hid (fun w1 (hg : ((X.drew.alloc (.cells #[.int .i64 x.id, .int .i64 x.kind, .bool x.pub, .slice x.nA x.names.length x.nc, .bool x.doubt, .int .i64 x.k, .string x.n, .string x.m, .int .i64 x.i, .int .i64 x.d, .slice x.A x.s.len x.c] 63)).alloc (.cells #[] 63)).grownBy w1 (Value.slice (some ⟨X.heap.size + 1, 0, none⟩) 0 0).ownBlock) => And.intro (hbc.grown hg hbc.size (fun q hq => (HO3.out.lt q hq).1)) (show w1.heap[X.heap.size]? = some (.cells #[.int .i64 x.id, .int .i64 x.kind, .bool x.pub, .slice x.nA x.names.length x.nc, .bool x.doubt, .int .i64 x.k, .string x.n, .string x.m, .int .i64 x.i, .int .i64 x.d, .slice x.A x.s.len x.c] 63 (0, 0)) from (hg.block X.heap.size (by simp; omega) (fun h => by have := Option.some.inj h; change X.heap.size = X.heap.size + 1 at this; omega)).trans (by rw [Below.heap_alloc _ _ _ (by simp)]; exact heap_alloc_new X.drew _)))
    have m1 : 0 + a ≤ maxLen := by unfold maxLen; omega
    have m2 : (0 + a) * 136 ≤ 140737488355328 := by omega
    have m3 : 0 + a + 1 ≤ maxLen := by unfold maxLen; omega
    have m4 : (0 + a + 1) * 136 ≤ 140737488355328 := by omega
    have HM := Lib.hid (And.intro m1 (And.intro m2 (And.intro m3 m4)))
    have HBB := Lib.hid (And.intro hba (And.intro hbb hbc))
    have HB0' := Lib.hid (And.intro hb0 hbn)
    clear m1 m2 m3 m4 hba hbb hbc hb0 hbn
    have HL3 := Lib.hid (show (dcC (out.drop a)).length = (j - a) * 11 by rw [dcC_length, List.length_drop, HT.out.2.2.1])
    have m5 : 0 + a + 1 + (j - a) ≤ maxLen := by unfold maxLen; omega
    have m6 : (0 + a + 1 + (j - a)) * 136 ≤ 140737488355328 := by omega
    have HM2 := Lib.hid (And.intro m5 m6)
    clear m5 m6
    have i3' : (a : Int) ≤ (c : Int) := by omega
    have i4' : a ≤ c := by omega
    have i7' : (a : Int) ≤ (j : Int) := by omega
    have a0' : (0 : Int) ≤ (a : Int) := by omega
    have HNd := Lib.hid (fun Y (hY : Below X.heap.size X Y) => (HT.out.1.below (hBX.trans (hY.mono hBX.size)) (Nat.le_refl _)).newsD a (by rw [HT.out.2.2.1]; exact ha))
    have i5' : a < c := hac
    have i6' : (a : Int) < (c : Int) := by omega
    go_region_held3 (fun Y => Y.cell? ⟨b, o + j * 11, none⟩ = some (.int .i64 x.id) ∧ Y.cell? ⟨b, o + j * 11 + 1, none⟩ = some (.int .i64 x.kind) ∧ Y.cell? ⟨b, o + j * 11 + 2, none⟩ = some (.bool x.pub) ∧ Y.cell? ⟨b, o + j * 11 + 3, none⟩ = some (.slice x.nA x.names.length x.nc) ∧ Y.cell? ⟨b, o + j * 11 + 4, none⟩ = some (.bool x.doubt) ∧ Y.cell? ⟨b, o + j * 11 + 5, none⟩ = some (.int .i64 x.k) ∧ Y.cell? ⟨b, o + j * 11 + 6, none⟩ = some (.string x.n) ∧ Y.cell? ⟨b, o + j * 11 + 7, none⟩ = some (.string x.m) ∧ Y.cell? ⟨b, o + j * 11 + 8, none⟩ = some (.int .i64 x.i) ∧ Y.cell? ⟨b, o + j * 11 + 9, none⟩ = some (.int .i64 x.d) ∧ Y.cell? ⟨b, o + j * 11 + 10, none⟩ = some (.slice x.A x.s.len x.c))
      (first | exact HKc.out _ hb2 | exact HKc.out _ hb1 | exact HKc.out _ (hb1.alloc hb1.size _) | exact HKc.out _ HB0'.out.1 | exact HKc.out _ HB0'.out.2 | exact HKc.out _ HBB.out.1 | exact HKc.out _ HBB.out.2.1 | exact HKc.out _ HBB.out.2.2)
      (first
        | (refine step_append_any _ rfl (.tmp 32) (.tmp 35) 23 rfl X.heap.size 63 i0 _ 11 136 Tryz.underlying23 hi hz0 hz1 hz2 rfl (Nat.succ_pos 10) _ 0 [] rfl HO1.out (some ⟨g, 0, none⟩) a c (dcC (out.take a)) rfl HL1.out (fun h => nomatch h) HNa.out (dcC_one _) HM.out.1 HM.out.2.1 HBB.out.1.size ?_; intro v1 w1 hown1 hg1; have hb1 := HGa.out w1 hg1; have tokA : True := trivial)
        | (refine step_append_any _ rfl (.tmp 32) (.tmp 35) 23 rfl X.heap.size 63 i0 _ 11 136 Tryz.underlying23 hi hz0 hz1 hz2 rfl (Nat.succ_pos 10) _ 0 [] rfl HO2.out (some ⟨g, 0, none⟩) a c (dcC (out.take a)) rfl HL1.out (fun h => nomatch h) HNb.out (dcC_one _) HM.out.1 HM.out.2.1 HBB.out.2.1.size ?_; intro v1 w1 hown1 hg1; obtain ⟨hb1, hD⟩ := HGb.out w1 hg1; have tokB : True := trivial)
        | (refine step_append_any _ rfl (.tmp 32) (.tmp 35) 23 rfl X.heap.size 63 i0 _ 11 136 Tryz.underlying23 hi hz0 hz1 hz2 rfl (Nat.succ_pos 10) _ 0 [] rfl HO3.out (some ⟨g, 0, none⟩) a c (dcC (out.take a)) rfl HL1.out (fun h => nomatch h) HNc.out (dcC_one _) HM.out.1 HM.out.2.1 HBB.out.2.2.size ?_; intro v1 w1 hown1 hg1; obtain ⟨hb1, hD⟩ := HGc.out w1 hg1; have tokC : True := trivial)
        | (have _t := tokA; refine step_append_any _ rfl (.tmp 36) (.tmp 41) 23 rfl X.heap.size 63 i0 _ 11 136 Tryz.underlying23 hi hz0 hz1 hz2 rfl (Nat.succ_pos 10) v1 _ _ rfl (hown1.alloc _) (some ⟨w1.heap.size, 0, none⟩) 1 1 [.int .i64 x.id, .int .i64 x.kind, .bool x.pub, .slice x.nA x.names.length x.nc, .bool x.doubt, .int .i64 x.k, .string x.n, .string x.m, .int .i64 x.i, .int .i64 x.d, .slice x.A x.s.len x.c] rfl rfl (fun h => nomatch h) (newsD_new _ _) (dcC_one [x]) HM.out.2.2.1 HM.out.2.2.2 (hb1.alloc hb1.size _).size ?_; intro v2 w2 hown2 hg2; have hb2 := (hb1.alloc hb1.size (.cells #[.int .i64 x.id, .int .i64 x.kind, .bool x.pub, .slice x.nA x.names.length x.nc, .bool x.doubt, .int .i64 x.k, .string x.n, .string x.m, .int .i64 x.i, .int .i64 x.d, .slice x.A x.s.len x.c] 63)).grown hg2 (hb1.alloc hb1.size _).size (fun q hq => (hown1.lt q hq).1))
        | (have _t := tokB; refine step_append_any _ rfl (.tmp 36) (.tmp 41) 23 rfl X.heap.size 63 i0 _ 11 136 Tryz.underlying23 hi hz0 hz1 hz2 rfl (Nat.succ_pos 10) v1 _ _ rfl hown1 (some ⟨X.heap.size + 1, 0, none⟩) 1 1 [.int .i64 x.id, .int .i64 x.kind, .bool x.pub, .slice x.nA x.names.length x.nc, .bool x.doubt, .int .i64 x.k, .string x.n, .string x.m, .int .i64 x.i, .int .i64 x.d, .slice x.A x.s.len x.c] rfl rfl (fun h => nomatch h) (newsD_at hD) (dcC_one [x]) HM.out.2.2.1 HM.out.2.2.2 hb1.size ?_; intro v2 w2 hown2 hg2; have hb2 := hb1.grown hg2 hb1.size (fun q hq => (hown1.lt q hq).1))
        | (have _t := tokC; refine step_append_any _ rfl (.tmp 36) (.tmp 41) 23 rfl X.heap.size 63 i0 _ 11 136 Tryz.underlying23 hi hz0 hz1 hz2 rfl (Nat.succ_pos 10) v1 _ _ rfl hown1 (some ⟨X.heap.size, 0, none⟩) 1 1 [.int .i64 x.id, .int .i64 x.kind, .bool x.pub, .slice x.nA x.names.length x.nc, .bool x.doubt, .int .i64 x.k, .string x.n, .string x.m, .int .i64 x.i, .int .i64 x.d, .slice x.A x.s.len x.c] rfl rfl (fun h => nomatch h) (newsD_at hD) (dcC_one [x]) HM.out.2.2.1 HM.out.2.2.2 hb1.size ?_; intro v2 w2 hown2 hg2; have hb2 := hb1.grown hg2 hb1.size (fun q hq => (hown1.lt q hq).1)))
    all_goals (
      go_wp2_with (at_builtin; refine wpList_append_own_any _ rfl (.tmp 43) (.tmp 46) 23 rfl X.heap.size 63 i0 _ 11 136 Tryz.underlying23 hi hz0 hz1 hz2 rfl (Nat.succ_pos 10) v2 _ _ rfl hown2 (some ⟨g, a * 11, none⟩) (j - a) (c - a) (dcC (out.drop a)) rfl HL3.out (fun h => nomatch h) (HNd.out _ hb2) (dcC_one _) HM2.out.1 HM2.out.2 hb2.size ?_; intro v3 w5 hown3 hg3)
      go_roundg (N - (j + 1))
      case measure => rw [HT.out.2.2.2]; omega
      case rel =>
        have hb5 := hb2.grown hg3 hb2.size (fun q hq => (hown2.lt q hq).1)
        have hlen : (out.take a ++ x :: out.drop a).length = j + 1 := by have := HT.out.2.2.1; simp; omega
        have hf : w5.ownsRow X.heap.size 63 11 v3 (out.take a ++ x :: out.drop a).length (dcC (out.take a ++ x :: out.drop a)) := by
          have e1 : (out.take a ++ x :: out.drop a).length = 0 + a + 1 + (j - a) := by rw [hlen]; omega
          rw [e1, dcC_app]
          simpa [dcC, Dc.cells] using hown3
        have hlo := hf.lt
        obtain ⟨A', c', rfl, ho⟩ := OwnD.of hf
        exact ⟨j + 1, out.take a ++ x :: out.drop a, A', c', rfl, by omega, by go_num, by rw [hlen], hlen, ho, Lib.hid (HIn.out a Ha.out.1 Ha.out.2), HT.out.2.1.trans ((hBX.trans (hb5.mono hBX.size)).mono HT.out.2.1.size), Lib.hid (fun g' o' s' h => by have h1 := (hlo g' (by rw [h]; rfl)).1; have h2 := HT.out.2.1.size; have h3 := hBX.size; omega)⟩)
  · go_wp2_with fail
    have hb0 : Below X.heap.size X X.drew := below_drewK (Below.refl _ _)
    have HKc : Hid (∀ Y, Below X.heap.size X Y → Y.cell? ⟨b, o + j * 11, none⟩ = some (.int .i64 x.id) ∧ Y.cell? ⟨b, o + j * 11 + 1, none⟩ = some (.int .i64 x.kind) ∧ Y.cell? ⟨b, o + j * 11 + 2, none⟩ = some (.bool x.pub) ∧ Y.cell? ⟨b, o + j * 11 + 3, none⟩ = some (.slice x.nA x.names.length x.nc) ∧ Y.cell? ⟨b, o + j * 11 + 4, none⟩ = some (.bool x.doubt) ∧ Y.cell? ⟨b, o + j * 11 + 5, none⟩ = some (.int .i64 x.k) ∧ Y.cell? ⟨b, o + j * 11 + 6, none⟩ = some (.string x.n) ∧ Y.cell? ⟨b, o + j * 11 + 7, none⟩ = some (.string x.m) ∧ Y.cell? ⟨b, o + j * 11 + 8, none⟩ = some (.int .i64 x.i) ∧ Y.cell? ⟨b, o + j * 11 + 9, none⟩ = some (.int .i64 x.d) ∧ Y.cell? ⟨b, o + j * 11 + 10, none⟩ = some (.slice x.A x.s.len x.c)) := fun Y hY => HSc.out Y (hBX.trans (hY.mono hBX.size))
    have HNw := Lib.hid (fun Y (hY : Below X.heap.size X Y) => (HT.out.1.below (hBX.trans (hY.mono hBX.size)) (Nat.le_refl _)).newsT a)
    have HL1 := Lib.hid (show (dcC (out.take a)).length = a * 11 by rw [dcC_length, List.length_take, HT.out.2.2.1, Nat.min_eq_left ha])
    have HO1 := Lib.hid (World.ownsRow_lit (base := X.heap.size) (e := 63) (size := 11) X.drew #[] 0 (Nat.le_refl _) (by simp) rfl)
    have HO2 := Lib.hid (HO1.out.alloc (.cells #[.int .i64 x.id, .int .i64 x.kind, .bool x.pub, .slice x.nA x.names.length x.nc, .bool x.doubt, .int .i64 x.k, .string x.n, .string x.m, .int .i64 x.i, .int .i64 x.d, .slice x.A x.s.len x.c] 63))
    have ho3 := World.ownsRow_lit (base := X.heap.size) (e := 63) (size := 11) (X.drew.alloc (.cells #[.int .i64 x.id, .int .i64 x.kind, .bool x.pub, .slice x.nA x.names.length x.nc, .bool x.doubt, .int .i64 x.k, .string x.n, .string x.m, .int .i64 x.i, .int .i64 x.d, .slice x.A x.s.len x.c] 63)) #[] 0 (by simp) (by simp) rfl
    rw [show (X.drew.alloc (.cells #[.int .i64 x.id, .int .i64 x.kind, .bool x.pub, .slice x.nA x.names.length x.nc, .bool x.doubt, .int .i64 x.k, .string x.n, .string x.m, .int .i64 x.i, .int .i64 x.d, .slice x.A x.s.len x.c] 63)).heap.size = X.heap.size + 1 by simp] at ho3
    have HO3 := Lib.hid ho3
    clear ho3
    have hba : Below X.heap.size X (X.drew.alloc (.cells #[] 63)) := hb0.alloc (Nat.le_refl _) _
    have hbb : Below X.heap.size X ((X.drew.alloc (.cells #[] 63)).alloc (.cells #[.int .i64 x.id, .int .i64 x.kind, .bool x.pub, .slice x.nA x.names.length x.nc, .bool x.doubt, .int .i64 x.k, .string x.n, .string x.m, .int .i64 x.i, .int .i64 x.d, .slice x.A x.s.len x.c] 63)) := hba.alloc hba.size _
    have hbn : Below X.heap.size X (X.drew.alloc (.cells #[.int .i64 x.id, .int .i64 x.kind, .bool x.pub, .slice x.nA x.names.length x.nc, .bool x.doubt, .int .i64 x.k, .string x.n, .string x.m, .int .i64 x.i, .int .i64 x.d, .slice x.A x.s.len x.c] 63)) := hb0.alloc (Nat.le_refl _) _
    have hbc : Below X.heap.size X ((X.drew.alloc (.cells #[.int .i64 x.id, .int .i64 x.kind, .bool x.pub, .slice x.nA x.names.length x.nc, .bool x.doubt, .int .i64 x.k, .string x.n, .string x.m, .int .i64 x.i, .int .i64 x.d, .slice x.A x.s.len x.c] 63)).alloc (.cells #[] 63)) := hbn.alloc hbn.size _
    have HNa := Lib.hid (HNw.out _ hba)
    have HNb := Lib.hid (HNw.out _ hbb)
    have HNc := Lib.hid (HNw.out _ hbc)
    have HGa := Lib.hid (fun w1 (hg : (X.drew.alloc (.cells #[] 63)).grownBy w1 (Value.slice (some ⟨X.drew.heap.size, 0, none⟩) 0 0).ownBlock) => hba.grown hg hba.size (fun q hq => (HO1.out.lt q hq).1))
    have HGb := Lib.hid (fun w1 (hg : ((X.drew.alloc (.cells #[] 63)).alloc (.cells #[.int .i64 x.id, .int .i64 x.kind, .bool x.pub, .slice x.nA x.names.length x.nc, .bool x.doubt, .int .i64 x.k, .string x.n, .string x.m, .int .i64 x.i, .int .i64 x.d, .slice x.A x.s.len x.c] 63)).grownBy w1 (Value.slice (some ⟨X.drew.heap.size, 0, none⟩) 0 0).ownBlock) => And.intro (hbb.grown hg hbb.size (fun q hq => (HO1.out.lt q hq).1)) (show w1.heap[X.heap.size + 1]? = some (.cells #[.int .i64 x.id, .int .i64 x.kind, .bool x.pub, .slice x.nA x.names.length x.nc, .bool x.doubt, .int .i64 x.k, .string x.n, .string x.m, .int .i64 x.i, .int .i64 x.d, .slice x.A x.s.len x.c] 63 (0, 0)) from (hg.block (X.heap.size + 1) (by simp) (fun h => by have := Option.some.inj h; change X.heap.size + 1 = X.heap.size at this; omega)).trans (by have := heap_alloc_new (X.drew.alloc (.cells #[] 63)) (.cells #[.int .i64 x.id, .int .i64 x.kind, .bool x.pub, .slice x.nA x.names.length x.nc, .bool x.doubt, .int .i64 x.k, .string x.n, .string x.m, .int .i64 x.i, .int .i64 x.d, .slice x.A x.s.len x.c] 63); rwa [show (X.drew.alloc (.cells #[] 63)).heap.size = X.heap.size + 1 by simp] at this)))
    have HGc := Lib.hid (fun w1 (hg : ((X.drew.alloc (.cells #[.int .i64 x.id, .int .i64 x.kind, .bool x.pub, .slice x.nA x.names.length x.nc, .bool x.doubt, .int .i64 x.k, .string x.n, .string x.m, .int .i64 x.i, .int .i64 x.d, .slice x.A x.s.len x.c] 63)).alloc (.cells #[] 63)).grownBy w1 (Value.slice (some ⟨X.heap.size + 1, 0, none⟩) 0 0).ownBlock) => And.intro (hbc.grown hg hbc.size (fun q hq => (HO3.out.lt q hq).1)) (show w1.heap[X.heap.size]? = some (.cells #[.int .i64 x.id, .int .i64 x.kind, .bool x.pub, .slice x.nA x.names.length x.nc, .bool x.doubt, .int .i64 x.k, .string x.n, .string x.m, .int .i64 x.i, .int .i64 x.d, .slice x.A x.s.len x.c] 63 (0, 0)) from (hg.block X.heap.size (by simp; omega) (fun h => by have := Option.some.inj h; change X.heap.size = X.heap.size + 1 at this; omega)).trans (by rw [Below.heap_alloc _ _ _ (by simp)]; exact heap_alloc_new X.drew _)))
    have m1 : 0 + a ≤ maxLen := by unfold maxLen; omega
    have m2 : (0 + a) * 136 ≤ 140737488355328 := by omega
    have m3 : 0 + a + 1 ≤ maxLen := by unfold maxLen; omega
    have m4 : (0 + a + 1) * 136 ≤ 140737488355328 := by omega
    have HM := Lib.hid (And.intro m1 (And.intro m2 (And.intro m3 m4)))
    have HBB := Lib.hid (And.intro hba (And.intro hbb hbc))
    have HB0' := Lib.hid (And.intro hb0 hbn)
    clear m1 m2 m3 m4 hba hbb hbc hb0 hbn
    have HL3 := Lib.hid (show (dcC (out.drop a)).length = (j - a) * 11 by rw [dcC_length, List.length_drop, HT.out.2.2.1])
    have m5 : 0 + a + 1 + (j - a) ≤ maxLen := by unfold maxLen; omega
    have m6 : (0 + a + 1 + (j - a)) * 136 ≤ 140737488355328 := by omega
    have HM2 := Lib.hid (And.intro m5 m6)
    clear m5 m6
    have i3' : (a : Int) ≤ (c : Int) := by omega
    have i4' : a ≤ c := by omega
    have i7' : (a : Int) ≤ (j : Int) := by omega
    have a0' : (0 : Int) ≤ (a : Int) := by omega
    have hdn : out.drop a = [] := List.drop_of_length_le (by rw [HT.out.2.2.1]; omega)
    have hja : j - a = 0 := by omega
    have HDn := Lib.hid (And.intro hdn hja)
    clear hdn hja
    go_region_held3 (fun Y => Y.cell? ⟨b, o + j * 11, none⟩ = some (.int .i64 x.id) ∧ Y.cell? ⟨b, o + j * 11 + 1, none⟩ = some (.int .i64 x.kind) ∧ Y.cell? ⟨b, o + j * 11 + 2, none⟩ = some (.bool x.pub) ∧ Y.cell? ⟨b, o + j * 11 + 3, none⟩ = some (.slice x.nA x.names.length x.nc) ∧ Y.cell? ⟨b, o + j * 11 + 4, none⟩ = some (.bool x.doubt) ∧ Y.cell? ⟨b, o + j * 11 + 5, none⟩ = some (.int .i64 x.k) ∧ Y.cell? ⟨b, o + j * 11 + 6, none⟩ = some (.string x.n) ∧ Y.cell? ⟨b, o + j * 11 + 7, none⟩ = some (.string x.m) ∧ Y.cell? ⟨b, o + j * 11 + 8, none⟩ = some (.int .i64 x.i) ∧ Y.cell? ⟨b, o + j * 11 + 9, none⟩ = some (.int .i64 x.d) ∧ Y.cell? ⟨b, o + j * 11 + 10, none⟩ = some (.slice x.A x.s.len x.c))
      (first | exact HKc.out _ hb2 | exact HKc.out _ hb1 | exact HKc.out _ (hb1.alloc hb1.size _) | exact HKc.out _ HB0'.out.1 | exact HKc.out _ HB0'.out.2 | exact HKc.out _ HBB.out.1 | exact HKc.out _ HBB.out.2.1 | exact HKc.out _ HBB.out.2.2)
      (first
        | (refine step_append_any _ rfl (.tmp 32) (.tmp 35) 23 rfl X.heap.size 63 i0 _ 11 136 Tryz.underlying23 hi hz0 hz1 hz2 rfl (Nat.succ_pos 10) _ 0 [] rfl HO1.out (some ⟨g, 0, none⟩) a c (dcC (out.take a)) rfl HL1.out (fun h => nomatch h) HNa.out (dcC_one _) HM.out.1 HM.out.2.1 HBB.out.1.size ?_; intro v1 w1 hown1 hg1; have hb1 := HGa.out w1 hg1; have tokA : True := trivial)
        | (refine step_append_any _ rfl (.tmp 32) (.tmp 35) 23 rfl X.heap.size 63 i0 _ 11 136 Tryz.underlying23 hi hz0 hz1 hz2 rfl (Nat.succ_pos 10) _ 0 [] rfl HO2.out (some ⟨g, 0, none⟩) a c (dcC (out.take a)) rfl HL1.out (fun h => nomatch h) HNb.out (dcC_one _) HM.out.1 HM.out.2.1 HBB.out.2.1.size ?_; intro v1 w1 hown1 hg1; obtain ⟨hb1, hD⟩ := HGb.out w1 hg1; have tokB : True := trivial)
        | (refine step_append_any _ rfl (.tmp 32) (.tmp 35) 23 rfl X.heap.size 63 i0 _ 11 136 Tryz.underlying23 hi hz0 hz1 hz2 rfl (Nat.succ_pos 10) _ 0 [] rfl HO3.out (some ⟨g, 0, none⟩) a c (dcC (out.take a)) rfl HL1.out (fun h => nomatch h) HNc.out (dcC_one _) HM.out.1 HM.out.2.1 HBB.out.2.2.size ?_; intro v1 w1 hown1 hg1; obtain ⟨hb1, hD⟩ := HGc.out w1 hg1; have tokC : True := trivial)
        | (have _t := tokA; refine step_append_any _ rfl (.tmp 36) (.tmp 41) 23 rfl X.heap.size 63 i0 _ 11 136 Tryz.underlying23 hi hz0 hz1 hz2 rfl (Nat.succ_pos 10) v1 _ _ rfl (hown1.alloc _) (some ⟨w1.heap.size, 0, none⟩) 1 1 [.int .i64 x.id, .int .i64 x.kind, .bool x.pub, .slice x.nA x.names.length x.nc, .bool x.doubt, .int .i64 x.k, .string x.n, .string x.m, .int .i64 x.i, .int .i64 x.d, .slice x.A x.s.len x.c] rfl rfl (fun h => nomatch h) (newsD_new _ _) (dcC_one [x]) HM.out.2.2.1 HM.out.2.2.2 (hb1.alloc hb1.size _).size ?_; intro v2 w2 hown2 hg2; have hb2 := (hb1.alloc hb1.size (.cells #[.int .i64 x.id, .int .i64 x.kind, .bool x.pub, .slice x.nA x.names.length x.nc, .bool x.doubt, .int .i64 x.k, .string x.n, .string x.m, .int .i64 x.i, .int .i64 x.d, .slice x.A x.s.len x.c] 63)).grown hg2 (hb1.alloc hb1.size _).size (fun q hq => (hown1.lt q hq).1))
        | (have _t := tokB; refine step_append_any _ rfl (.tmp 36) (.tmp 41) 23 rfl X.heap.size 63 i0 _ 11 136 Tryz.underlying23 hi hz0 hz1 hz2 rfl (Nat.succ_pos 10) v1 _ _ rfl hown1 (some ⟨X.heap.size + 1, 0, none⟩) 1 1 [.int .i64 x.id, .int .i64 x.kind, .bool x.pub, .slice x.nA x.names.length x.nc, .bool x.doubt, .int .i64 x.k, .string x.n, .string x.m, .int .i64 x.i, .int .i64 x.d, .slice x.A x.s.len x.c] rfl rfl (fun h => nomatch h) (newsD_at hD) (dcC_one [x]) HM.out.2.2.1 HM.out.2.2.2 hb1.size ?_; intro v2 w2 hown2 hg2; have hb2 := hb1.grown hg2 hb1.size (fun q hq => (hown1.lt q hq).1))
        | (have _t := tokC; refine step_append_any _ rfl (.tmp 36) (.tmp 41) 23 rfl X.heap.size 63 i0 _ 11 136 Tryz.underlying23 hi hz0 hz1 hz2 rfl (Nat.succ_pos 10) v1 _ _ rfl hown1 (some ⟨X.heap.size, 0, none⟩) 1 1 [.int .i64 x.id, .int .i64 x.kind, .bool x.pub, .slice x.nA x.names.length x.nc, .bool x.doubt, .int .i64 x.k, .string x.n, .string x.m, .int .i64 x.i, .int .i64 x.d, .slice x.A x.s.len x.c] rfl rfl (fun h => nomatch h) (newsD_at hD) (dcC_one [x]) HM.out.2.2.1 HM.out.2.2.2 hb1.size ?_; intro v2 w2 hown2 hg2; have hb2 := hb1.grown hg2 hb1.size (fun q hq => (hown1.lt q hq).1)))
    all_goals (
      go_wp2_with (at_builtin; refine wpList_append_own_any _ rfl (.tmp 43) (.tmp 46) 23 rfl X.heap.size 63 i0 _ 11 136 Tryz.underlying23 hi hz0 hz1 hz2 rfl (Nat.succ_pos 10) v2 _ _ rfl hown2 _ _ _ [] rfl (by rw [HDn.out.2]; rfl) (fun h => nomatch h) (fun _ _ q u hu => by simp at hu) (fun u hu => by simp at hu) (by rw [HDn.out.2]; exact HM.out.2.2.1) (by rw [HDn.out.2]; exact HM.out.2.2.2) hb2.size ?_; intro v3 w5 hown3 hg3)
      go_roundg (N - (j + 1))
      case measure => rw [HT.out.2.2.2]; omega
      case rel =>
        have hb5 := hb2.grown hg3 hb2.size (fun q hq => (hown2.lt q hq).1)
        have hlen : (out.take a ++ x :: out.drop a).length = j + 1 := by have := HT.out.2.2.1; simp; omega
        have hf : w5.ownsRow X.heap.size 63 11 v3 (out.take a ++ x :: out.drop a).length (dcC (out.take a ++ x :: out.drop a)) := by
          have e1 : (out.take a ++ x :: out.drop a).length = 0 + a + 1 + (j - a) := by rw [hlen]; omega
          rw [e1, dcC_app]
          rw [show out.drop a = [] from HDn.out.1]
          simpa [dcC, Dc.cells] using hown3
        have hlo := hf.lt
        obtain ⟨A', c', rfl, ho⟩ := OwnD.of hf
        exact ⟨j + 1, out.take a ++ x :: out.drop a, A', c', rfl, by omega, by go_num, by rw [hlen], hlen, ho, Lib.hid (HIn.out a Ha.out.1 Ha.out.2), HT.out.2.1.trans ((hBX.trans (hb5.mono hBX.size)).mono HT.out.2.1.size), Lib.hid (fun g' o' s' h => by have h1 := (hlo g' (by rw [h]; rfl)).1; have h2 := HT.out.2.1.size; have h3 := hBX.size; omega)⟩)
end Go.Proofs.YtacjjkbkhpdhnaaGreatDoor
