/- ref24.Less; words for With -/
import Derived.Test.YtacjjkbkhpdhnaaGreatDoorZlo
import Derived.Test.YtacjjkbkhpdhnaaGreatDoorZlq
import Derived.Deep.AppendLies
import Derived.Deep.RegionHeld3
import Derived.Test.YtacjjkbkhpdhnaaGreatDoorChk
namespace Go.Proofs.YtacjjkbkhpdhnaaGreatDoor
open Go.RowKit Go.Proofs Go.Shelf

def lessN (a b : ByteArray × Int) : Bool := Op.bytesLess a.1.toList b.1.toList || ((a.1.toList == b.1.toList) && decide (a.2 < b.2))
set_option maxRecDepth 100000 in
set_option maxHeartbeats 2000000 in
theorem less24_any (a b : ByteArray) (i j : Int) (w : World) : Calls Tryz.prog 148 #[.agg #[.string a, .int .i64 i], .agg #[.string b, .int .i64 j]] w fun e w' => e = .returned (.bool (lessN (a, i) (b, j))) ∧ Below w.heap.size w w' := by
  have HB := Lib.hid (show Below w.heap.size w ((w.alloc (.cells #[.string a, .int .i64 i] 71)).alloc (.cells #[.string b, .int .i64 j] 71)) from ((Below.refl _ _).alloc (Nat.le_refl _) _).alloc (by simp) _)
  cases h1 : Op.bytesLess a.toList b.toList with
  | true =>
    have HR := Lib.hid (show lessN (a, i) (b, j) = true by simp [lessN, h1])
    go_enter Tryz.func148, Tryz.ntmps148
    go_wp2
    go_ret
    exact ⟨by rw [HR.out]; rfl, HB.out⟩
  | false =>
    cases h2 : a.toList == b.toList with
    | false =>
      have HR := Lib.hid (show lessN (a, i) (b, j) = false by simp [lessN, h1, h2])
      go_enter Tryz.func148, Tryz.ntmps148
      go_wp2
      go_ret
      exact ⟨by rw [HR.out]; rfl, HB.out⟩
    | true =>
      have HR := Lib.hid (show lessN (a, i) (b, j) = decide (i < j) by simp [lessN, h1, h2])
      by_cases h3 : i < j
      · have h3' : decide (i < j) = true := by simpa using h3
        rw [h3'] at HR
        clear h3
        go_enter Tryz.func148, Tryz.ntmps148
        go_wp2
        go_ret
        exact ⟨by rw [HR.out]; rfl, HB.out⟩
      · have h3' : decide (i < j) = false := by simpa using h3
        rw [h3'] at HR
        clear h3
        go_enter Tryz.func148, Tryz.ntmps148
        go_wp2
        go_ret
        exact ⟨by rw [HR.out]; rfl, HB.out⟩

section
variable {P : Program}
/-- An append within a region that draws its order, from whatever source. -/
theorem step_append_any (w : World) {ops : Array Oper} {o : Oper} {a : Act} {K : Act → World → Prop} {Q : Exit → Act → World → Prop} {E : Prop} (hgd : o.guard = none) (s x : Operand) (t : TypeId)
    (ho : o.op = .call { callee := .builtin .append, args := #[s, x], argTypes := #[t, t] })
    (base : Nat) (e : TypeId) (i : TypeInfo) (z : Value) (size bytes : Nat) (ht : P.underlying t = some (.slice e)) (hi : P.info? e = some i) (hz : i.zero = some z)
    (hsize : i.size = size) (hby : i.bytes = bytes) (hzs : z.cells.size = size) (hsz : 0 < size)
    (v : Value) (n : Nat) (xs : List Value) (hs : a.eval s = v) (hown : w.ownsRow base e size v n xs)
    (A : Option Addr) (m c : Nat) (news : List Value) (hx : a.eval x = .slice A m c) (hl : news.length = m * size) (hA : A = none → m = 0) (hnews : ∀ ad, A = some ad → ∀ j u, news[j]? = some u → w.cell? (ad.add j) = some u) (h1 : ∀ u ∈ news, u.oneCell' = true)
    (h63 : n + m ≤ maxLen) (hbytes : (n + m) * bytes ≤ 140737488355328) (hbase : base ≤ w.heap.size)
    (h : ∀ v' w', w'.ownsRow base e size v' (n + m) (xs ++ news) → w.grownBy w' v.ownBlock → K (a.put o.dst v') w') :
    if Region.wanted o (yielded ops a.tmps) = true then Oper.wp P o a w K Q else E := by
  have hw : Region.wanted o (yielded ops a.tmps) = true := by simp [Region.wanted, hgd]
  rw [if_pos hw]
  cases A with
  | some ad => exact wp_append_own w s x t ho base e i z size bytes ht hi hz hsize hby hzs hsz v n xs hs hown ad m c news hx hl (hnews ad rfl) h1 h63 hbytes hbase fun v' w' h2 h3 _ => h v' w' h2 h3
  | none =>
    obtain rfl := hA rfl
    have hrun := run_append_owned_no (P := P) (w := w) base t o.type e i size ht hi v n c xs hown
    unfold Oper.wp
    simp [execOp, ho, resolve, invoke, builtin, hs, hx, hrun, Result.andThen]
    have hn : news = [] := List.length_eq_zero_iff.1 (by simpa using hl)
    subst hn
    exact h v w (by simpa using hown) (World.grownBy.refl _ _)
end
/-- A slice of names. -/
def OwnN (W : World) (A : Option Addr) (c : Nat) (l : List (ByteArray × Int)) : Prop := W.ownsRow 0 71 2 (.slice A l.length c) l.length (namesC l)
theorem OwnN.nil (W : World) : OwnN W none 0 [] := World.ownsRow_nil W 0 71 2
theorem OwnN.below {W X : World} {B : Nat} {A : Option Addr} {c : Nat} {l : List (ByteArray × Int)} (h : OwnN W A c l) (hb : Below B W X) (hB : W.heap.size ≤ B) : OwnN X A c l := by
  refine ⟨h.1, ?_⟩
  rcases h.2 with h | ⟨g, cap, cur, h1, h2, h3, h4⟩
  · exact .inl h
  · have hg : g < W.heap.size := by
      by_cases hlt : g < W.heap.size
      · exact hlt
      · rw [Array.getElem?_eq_none (by omega)] at h3; cases h3
    exact .inr ⟨g, cap, cur, h1, h2, (hb.block g (by omega)).trans h3, h4⟩
theorem OwnN.of {W : World} {base : Nat} {v : Value} {l : List (ByteArray × Int)} (h : W.ownsRow base 71 2 v l.length (namesC l)) : ∃ A c, v = .slice A l.length c ∧ OwnN W A c l := by
  rcases h.2 with ⟨h1, h2⟩ | ⟨g, cap, cur, h1, h2, h3, h4⟩
  · obtain rfl : l = [] := List.length_eq_zero_iff.1 h2
    exact ⟨none, 0, by rw [h1]; rfl, OwnN.nil W⟩
  · exact ⟨some ⟨g, 0, none⟩, cap, h1, h.1, .inr ⟨g, cap, cur, rfl, Nat.zero_le _, h3, h4⟩⟩
theorem OwnN.cells {W : World} {A : Option Addr} {c : Nat} {l : List (ByteArray × Int)} (h : OwnN W A c l) : (l = [] ∧ A = none ∧ c = 0) ∨ ∃ g, A = some ⟨g, 0, none⟩ ∧ g < W.heap.size ∧ l.length ≤ c ∧ c ≤ 9223372036854775807 ∧ ∀ q u, (namesC l)[q]? = some u → W.cell? ⟨g, q, none⟩ = some u := by
  rcases h.2 with ⟨h1, h2⟩ | ⟨g, cap, cur, h1, h2, h3, h4, h5, h6⟩
  · simp only [Value.slice.injEq] at h1
    exact .inl ⟨List.length_eq_zero_iff.1 h2, h1.1, h1.2.2⟩
  · simp only [Value.slice.injEq, true_and] at h1
    obtain ⟨rfl, rfl⟩ := h1
    have hg : g < W.heap.size := by
      by_cases hlt : g < W.heap.size
      · exact hlt
      · rw [Array.getElem?_eq_none (by omega)] at h3; cases h3
    refine .inr ⟨g, rfl, hg, h4, by unfold maxLen at h5; exact h5, fun q u hu => ?_⟩
    have hlt := (List.getElem?_eq_some_iff.1 hu).1
    rw [namesC_length] at hlt
    exact (h.cellAt q hlt).trans hu
end Go.Proofs.YtacjjkbkhpdhnaaGreatDoor
/- ref24.With (printed by gen_ywt.py) -/
namespace Go.Proofs.YtacjjkbkhpdhnaaGreatDoor
open Go.RowKit Go.Proofs Go.Shelf

theorem below_drew' {B : Nat} {w w' : World} (h : Below B w w') : Below B w w'.drew := ⟨h.os, h.tape, h.output, h.size, h.block⟩
/-- A list in order with one more name. -/
def withN (l : List (ByteArray × Int)) (x : ByteArray × Int) : List (ByteArray × Int) :=
  match l.dropWhile (fun y => lessN y x) with
  | [] => l.takeWhile (fun y => lessN y x) ++ [x]
  | y :: t => if eqN y x = true then l else l.takeWhile (fun y => lessN y x) ++ x :: y :: t
theorem withN_end {l : List (ByteArray × Int)} {x : ByteArray × Int} (h : ∀ y ∈ l, lessN y x = true) : withN l x = l ++ [x] := by
  have h1 : l.dropWhile (fun y => lessN y x) = [] := by
    induction l with
    | nil => rfl
    | cons a r ih => simp only [List.dropWhile_cons, h a (List.mem_cons_self ..), if_true]; exact ih (fun y hy => h y (List.mem_cons_of_mem _ hy))
  have h2 : l.takeWhile (fun y => lessN y x) = l := by
    have := List.takeWhile_append_dropWhile (p := fun y => lessN y x) (l := l)
    rw [h1, List.append_nil] at this
    exact this
  unfold withN
  rw [h1, h2]
theorem withN_mid {l : List (ByteArray × Int)} {x y : ByteArray × Int} {j : Nat} (h : ∀ z ∈ l.take j, lessN z x = true) (hy : l[j]? = some y) (hl : lessN y x = false) :
    withN l x = if eqN y x = true then l else l.take j ++ x :: l.drop j := by
  obtain ⟨hlt, he⟩ := List.getElem?_eq_some_iff.1 hy
  have hd : l.drop j = y :: l.drop (j + 1) := by rw [List.drop_eq_getElem_cons hlt, he]
  have hsp : l = l.take j ++ y :: l.drop (j + 1) := by rw [← hd, List.take_append_drop]
  have h1 : l.dropWhile (fun y => lessN y x) = y :: l.drop (j + 1) := by
    conv => lhs; rw [hsp]
    rw [List.dropWhile_append_of_pos h, List.dropWhile_cons_of_neg (by rw [hl]; simp)]
  have h2 : l.takeWhile (fun y => lessN y x) = l.take j := by
    conv => lhs; rw [hsp]
    rw [List.takeWhile_append_of_pos h, List.takeWhile_cons_of_neg (by rw [hl]; simp), List.append_nil]
  unfold withN
  rw [h1, h2, hd]
theorem namesC_one : ∀ (l : List (ByteArray × Int)), ∀ u ∈ namesC l, u.oneCell' = true
  | [], u, h => by simp [namesC] at h
  | x :: r, u, h => by
    rw [namesC, List.mem_append] at h
    rcases h with h | h
    · simp [encN] at h
      rcases h with rfl | rfl <;> rfl
    · exact namesC_one r u h
theorem OwnN.news {W : World} {A : Option Addr} {c : Nat} {l : List (ByteArray × Int)} (h : OwnN W A c l) (j : Nat) :
    (A = none → min j l.length = 0) ∧ ∀ ad, A = some ad → ∀ q u, (namesC (l.take j))[q]? = some u → W.cell? (ad.add q) = some u := by
  rcases h.cells with ⟨rfl, rfl, rfl⟩ | ⟨g, rfl, hg, hc1, hc2, hcell⟩
  · exact ⟨(fun _ => by simp), (fun ad e => by cases e)⟩
  · refine ⟨(fun e => by cases e), fun ad e q u hu => ?_⟩
    cases e
    rw [← namesC_take, List.getElem?_take] at hu
    split at hu
    · have := hcell q u hu
      cases q <;> simpa [Addr.add] using this
    · cases hu
theorem namesC_drop : ∀ (l : List (ByteArray × Int)) (m : Nat), (namesC l).drop (m * 2) = namesC (l.drop m)
  | [], m => by simp [namesC]
  | x :: r, 0 => by simp
  | x :: r, m + 1 => by
    have h := namesC_drop r m
    rw [show (m + 1) * 2 = m * 2 + 2 by omega]
    simp only [List.drop_succ_cons, namesC, encN, List.cons_append, List.nil_append]
    exact h
theorem OwnN.newsD {W : World} {g c : Nat} {l : List (ByteArray × Int)} (h : OwnN W (some ⟨g, 0, none⟩) c l) (j : Nat) :
    ∀ ad, (some ⟨g, j * 2, none⟩ : Option Addr) = some ad → ∀ q u, (namesC (l.drop j))[q]? = some u → W.cell? (ad.add q) = some u := by
  rcases h.cells with ⟨_, h, _⟩ | ⟨g', hg', hg, hc1, hc2, hcell⟩
  · cases h
  · cases hg'
    intro ad e q u hu
    cases e
    rw [← namesC_drop, List.getElem?_drop] at hu
    have := hcell _ u hu
    cases q <;> simpa [Addr.add] using this
theorem news_at {W : World} {k : Nat} {xa : ByteArray} {xi : Int} (h : W.heap[k]? = some (.cells #[.string xa, .int .i64 xi] 71 (0, 0))) :
    ∀ ad, (some ⟨k, 0, none⟩ : Option Addr) = some ad → ∀ q u, ([.string xa, .int .i64 xi] : List Value)[q]? = some u → W.cell? (ad.add q) = some u := by
  intro ad e q u hu
  cases e
  exact World.news_of_block (cs := #[.string xa, .int .i64 xi]) (t := 71) (fr := (0, 0)) h q u hu
theorem news_pair (W : World) (xa : ByteArray) (xi : Int) :
    ∀ ad, (some ⟨W.heap.size, 0, none⟩ : Option Addr) = some ad → ∀ q u, ([.string xa, .int .i64 xi] : List Value)[q]? = some u → (W.alloc (.cells #[.string xa, .int .i64 xi] 71)).cell? (ad.add q) = some u := news_at (heap_alloc_new W _)
def WithP24 (R : List (ByteArray × Int)) (w : World) (e : Ending) (w' : World) : Prop := ∃ A c, e = .returned (.slice A R.length c) ∧ OwnN w' A c R ∧ Below w.heap.size w w'

set_option maxRecDepth 100000 in
set_option maxHeartbeats 8000000 in
theorem with24_some (l : List (ByteArray × Int)) (xa : ByteArray) (xi : Int) (g c : Nat) (w : World) (hs : OwnN w (some ⟨g, 0, none⟩) c l) (hl : l.length ≤ 1000000) :
    Calls Tryz.prog 111 #[.slice (some ⟨g, 0, none⟩) l.length c, .agg #[.string xa, .int .i64 xi]] w (WithP24 (withN l (xa, xi)) w) := by
  obtain ⟨i0, hi, hz0, hz1, hz2⟩ := info_parts Tryz.infoName
  obtain ⟨n, HN⟩ : ∃ q, Hid (l.length = q) := ⟨_, Lib.hid rfl⟩
  obtain ⟨R, HR⟩ : ∃ q, Hid (withN l (xa, xi) = q) := ⟨_, Lib.hid rfl⟩
  rw [HR.out]
  rw [HN.out] at hl ⊢
  have hcs := hs.cells
  have hcn : n ≤ c ∧ c ≤ 9223372036854775807 := by
    rcases hcs with ⟨_, h, _⟩ | ⟨g', _, _, h1, h2, _⟩
    · cases h
    · rw [HN.out] at h1; exact ⟨h1, h2⟩
  obtain ⟨hc1, hc2⟩ := hcn
  obtain ⟨W0, hW0⟩ : ∃ W0, w.alloc (.cells #[.string xa, .int .i64 xi] 71) = W0 := ⟨_, rfl⟩
  have hzw : w.heap.size < W0.heap.size := by subst hW0; simp
  have hB0 : Below w.heap.size w W0 := by subst hW0; exact (Below.refl _ _).alloc (Nat.le_refl _) _
  have hx0 : W0.heap[w.heap.size]? = some (.cells #[.string xa, .int .i64 xi] 71 (0, 0)) := by rw [← hW0]; exact heap_alloc_new w _
  have HC : Hid (∀ X, Below W0.heap.size W0 X → Below w.heap.size w X ∧ OwnN X (some ⟨g, 0, none⟩) c l ∧ X.cell? ⟨w.heap.size, 0, none⟩ = some (.string xa) ∧ X.cell? ⟨w.heap.size, 1, none⟩ = some (.int .i64 xi)) := fun X hX => by
    have h0 := (hX.block w.heap.size hzw).trans hx0
    have hb := hB0.trans (hX.mono (Nat.le_of_lt hzw))
    exact ⟨hb, hs.below hb (Nat.le_refl _), cell_of_row X _ 0 _ _ (0, 0) h0, cell_of_row X _ 1 _ _ (0, 0) h0⟩
  clear hs hB0 hx0 hcs
  go_enter Tryz.func111, Tryz.ntmps111
  go_wp2_with fail
  clear hW0
  go_loopg [5] n (fun g ct wr => ∃ j : Nat, g = n - j ∧ j ≤ n ∧ ct = .int .i64 j ∧ (∀ y ∈ l.take j, lessN y (xa, xi) = true) ∧ Below W0.heap.size W0 wr)
  case atStart => exact ⟨0, rfl, by omega, rfl, by simp, Below.refl _ _⟩
  case round =>
    obtain ⟨j, HG, hj, rfl, HA, HB⟩ := hrel
    have HG' := Lib.hid (And.intro HG (And.intro HA HB))
    clear HG HA HB
    have hzr := HG'.out.2.2.size
    obtain ⟨hBw, hon, x0, x1⟩ := HC.out wr HG'.out.2.2
    have HBw := Lib.hid (And.intro hBw hon)
    clear hBw hon
    by_cases hlt : j < n
    · have hjl : j < l.length := by rw [HN.out]; exact hlt
      have hj3 : l[j]? = some l[j] := List.getElem?_eq_getElem hjl
      have hcell : ∀ X, Below W0.heap.size W0 X → X.cell? ⟨g, j * 2, none⟩ = some (.string l[j].1) ∧ X.cell? ⟨g, j * 2 + 1, none⟩ = some (.int .i64 l[j].2) := fun X hX => by
        rcases (HC.out X hX).2.1.cells with ⟨h1, _⟩ | ⟨g', hg', _, _, _, hc⟩
        · subst h1; simp at hjl
        · cases hg'
          obtain ⟨n1, n2⟩ := namesC_at _ l j hj3
          exact ⟨hc _ _ n1, hc _ _ n2⟩
      have HCell := Lib.hid hcell
      have HJ := Lib.hid hj3
      clear hcell hj3
      generalize l[j] = y at HCell HJ
      clear hjl
      obtain ⟨ya, yi⟩ := y
      simp only at HCell
      have HSX : Hid (∀ X, Below wr.heap.size wr X → X.cell? ⟨g, j * 2, none⟩ = some (.string ya) ∧ X.cell? ⟨g, j * 2 + 1, none⟩ = some (.int .i64 yi) ∧ X.cell? ⟨w.heap.size, 0, none⟩ = some (.string xa) ∧ X.cell? ⟨w.heap.size, 1, none⟩ = some (.int .i64 xi)) := fun X hX => by
        have hX0 := HG'.out.2.2.trans (hX.mono hzr)
        obtain ⟨h1, h2⟩ := HCell.out X hX0
        obtain ⟨_, _, h3, h4⟩ := HC.out X hX0
        exact ⟨h1, h2, h3, h4⟩
      have HLs := Lib.hid (fun X => less24_any ya xa yi xi X)
      have i0' : (0 : Int) ≤ (j : Int) := by omega
      have i1' : (j : Int) < (n : Int) := by omega
      have i2' : decide ((j : Int) < (n : Int)) = true := by simpa using hlt
      obtain ⟨ls, Hls⟩ : ∃ q, Hid (lessN (ya, yi) (xa, xi) = q) := ⟨_, Lib.hid rfl⟩
      rw [Hls.out] at HLs
      clear x0 x1
      go_wp2_with fail
      go_region_held3 (fun X => X.cell? ⟨g, j * 2, none⟩ = some (.string ya) ∧ X.cell? ⟨g, j * 2 + 1, none⟩ = some (.int .i64 yi) ∧ X.cell? ⟨w.heap.size, 0, none⟩ = some (.string xa) ∧ X.cell? ⟨w.heap.size, 1, none⟩ = some (.int .i64 xi))
        (first | exact HSX.out _ (below_drew' (Below.refl _ _)) | exact HSX.out _ hbb)
        (first | (go_at_call 148; refine (HLs.out _).mono ?_; rintro e w3 ⟨rfl, hb3⟩; have hbb : Below wr.heap.size wr w3 := (below_drew' (Below.refl _ wr)).trans (hb3.mono (Nat.le_refl _))))
      all_goals (
        have HB3 := Lib.hid (HG'.out.2.2.trans (hbb.mono hzr))
        clear hb3 hbb
        cases ls with
        | true =>
          have HNx : Hid (∀ y ∈ l.take (j + 1), lessN y (xa, xi) = true) := fun y hy => by
            obtain ⟨q, hq⟩ := List.mem_iff_getElem?.1 hy
            rw [List.getElem?_take] at hq
            split at hq
            · by_cases hqj : q = j
              · subst hqj
                rw [HJ.out] at hq
                cases hq
                exact Hls.out
              · exact HG'.out.2.1 y (List.mem_iff_getElem?.2 ⟨q, by rw [List.getElem?_take, if_pos (by omega)]; exact hq⟩)
            · cases hq
          go_wp2
          go_roundg (n - (j + 1))
          case measure => rw [HG'.out.1]; omega
          case rel => exact ⟨j + 1, rfl, by omega, by go_num, HNx.out, HB3.out⟩
        | false =>
          have HRm := Lib.hid (show R = if eqN (ya, yi) (xa, xi) = true then l else l.take j ++ (xa, xi) :: l.drop j by rw [← HR.out]; exact withN_mid HG'.out.2.1 HJ.out Hls.out)
          have hE := run_eqlN ya xa yi xi
          obtain ⟨y0, y1⟩ := HCell.out w3 HB3.out
          obtain ⟨hBw3, _, x0, x1⟩ := HC.out w3 HB3.out
          have HBw3 := Lib.hid hBw3
          clear hBw3
          cases he : eqN (ya, yi) (xa, xi) with
          | true =>
            have HRe := Lib.hid (show R = l by rw [HRm.out, if_pos he])
            unfold eqN at he
            simp only at he
            have HF := Lib.hid (HC.out w3 HB3.out).2.1
            go_wp2_with fail
            go_quiet (fail)
            go_wp2
            go_ret
            exact ⟨_, _, by rw [HRe.out, HN.out]; rfl, by rw [HRe.out]; exact HF.out.below (below_drewN (Below.refl _ _) _) (Nat.le_refl _), below_drewN HBw3.out _⟩
          | false =>
            have HRe := Lib.hid (show R = l.take j ++ (xa, xi) :: l.drop j by rw [HRm.out, if_neg (by rw [he]; simp)])
            unfold eqN at he
            simp only at he
            go_wp2_with fail
            go_quiet (fail)
            have hBX := below_drewN HB3.out nq
            generalize w3.drewN nq = X at hBX ⊢
            clear hE he
            go_wp2_with fail
            have hb0 : Below X.heap.size X X.drew := below_drew' (Below.refl _ _)
            have HKc : Hid (∀ Y, Below X.heap.size X Y → Y.cell? ⟨w.heap.size, 0, none⟩ = some (.string xa) ∧ Y.cell? ⟨w.heap.size, 1, none⟩ = some (.int .i64 xi)) := fun Y hY => by
              obtain ⟨_, _, h3, h4⟩ := HC.out Y (hBX.trans (hY.mono hBX.size))
              exact ⟨h3, h4⟩
            have HNw := Lib.hid (fun Y (hY : Below X.heap.size X Y) => ((HC.out Y (hBX.trans (hY.mono hBX.size))).2.1.news j).2)
            have HL1 := Lib.hid (show (namesC (l.take j)).length = j * 2 by rw [namesC_length, List.length_take, HN.out]; omega)
            have HO1 := Lib.hid (World.ownsRow_lit (base := X.heap.size) (e := 71) (size := 2) X.drew #[] 0 (Nat.le_refl _) (by simp) rfl)
            have HO2 := Lib.hid (HO1.out.alloc (.cells #[.string xa, .int .i64 xi] 71))
            have ho3 := World.ownsRow_lit (base := X.heap.size) (e := 71) (size := 2) (X.drew.alloc (.cells #[.string xa, .int .i64 xi] 71)) #[] 0 (by simp) (by simp) rfl
            rw [show (X.drew.alloc (.cells #[.string xa, .int .i64 xi] 71)).heap.size = X.heap.size + 1 by simp] at ho3
            have HO3 := Lib.hid ho3
            clear ho3
            have hba : Below X.heap.size X (X.drew.alloc (.cells #[] 71)) := hb0.alloc (Nat.le_refl _) _
            have hbb : Below X.heap.size X ((X.drew.alloc (.cells #[] 71)).alloc (.cells #[.string xa, .int .i64 xi] 71)) := hba.alloc hba.size _
            have hbn : Below X.heap.size X (X.drew.alloc (.cells #[.string xa, .int .i64 xi] 71)) := hb0.alloc (Nat.le_refl _) _
            have hbc : Below X.heap.size X ((X.drew.alloc (.cells #[.string xa, .int .i64 xi] 71)).alloc (.cells #[] 71)) := hbn.alloc hbn.size _
            have HNa := Lib.hid (HNw.out _ hba)
            have HNb := Lib.hid (HNw.out _ hbb)
            have HNc := Lib.hid (HNw.out _ hbc)
            have HGa := Lib.hid (fun w1 (hg : (X.drew.alloc (.cells #[] 71)).grownBy w1 (Value.slice (some ⟨X.drew.heap.size, 0, none⟩) 0 0).ownBlock) => hba.grown hg hba.size (fun q hq => (HO1.out.lt q hq).1))
            have HGb := Lib.hid (fun w1 (hg : ((X.drew.alloc (.cells #[] 71)).alloc (.cells #[.string xa, .int .i64 xi] 71)).grownBy w1 (Value.slice (some ⟨X.drew.heap.size, 0, none⟩) 0 0).ownBlock) => And.intro (hbb.grown hg hbb.size (fun q hq => (HO1.out.lt q hq).1)) (show w1.heap[X.heap.size + 1]? = some (.cells #[.string xa, .int .i64 xi] 71 (0, 0)) from (hg.block (X.heap.size + 1) (by simp) (fun h => by have := Option.some.inj h; change X.heap.size + 1 = X.heap.size at this; omega)).trans (by have := heap_alloc_new (X.drew.alloc (.cells #[] 71)) (.cells #[.string xa, .int .i64 xi] 71); rwa [show (X.drew.alloc (.cells #[] 71)).heap.size = X.heap.size + 1 by simp] at this)))
            have HGc := Lib.hid (fun w1 (hg : ((X.drew.alloc (.cells #[.string xa, .int .i64 xi] 71)).alloc (.cells #[] 71)).grownBy w1 (Value.slice (some ⟨X.heap.size + 1, 0, none⟩) 0 0).ownBlock) => And.intro (hbc.grown hg hbc.size (fun q hq => (HO3.out.lt q hq).1)) (show w1.heap[X.heap.size]? = some (.cells #[.string xa, .int .i64 xi] 71 (0, 0)) from (hg.block X.heap.size (by simp; omega) (fun h => by have := Option.some.inj h; change X.heap.size = X.heap.size + 1 at this; omega)).trans (by rw [Below.heap_alloc _ _ _ (by simp)]; exact heap_alloc_new X.drew _)))
            have m1 : 0 + j ≤ maxLen := by unfold maxLen; omega
            have m2 : (0 + j) * 24 ≤ 140737488355328 := by omega
            have m3 : 0 + j + 1 ≤ maxLen := by unfold maxLen; omega
            have m4 : (0 + j + 1) * 24 ≤ 140737488355328 := by omega
            have HM := Lib.hid (And.intro m1 (And.intro m2 (And.intro m3 m4)))
            have i3' : (j : Int) ≤ (c : Int) := by omega
            have i4' : j ≤ c := by omega
            have HBB := Lib.hid (And.intro hba (And.intro hbb hbc))
            have HB0' := Lib.hid (And.intro hb0 hbn)
            clear m1 m2 m3 m4 hba hbb hbc hb0 hbn
            have HL3 := Lib.hid (show (namesC (l.drop j)).length = (n - j) * 2 by rw [namesC_length, List.length_drop, HN.out])
            have HNd := Lib.hid (fun Y (hY : Below X.heap.size X Y) => ((HC.out Y (hBX.trans (hY.mono hBX.size))).2.1.newsD j))
            have i5' : j < c := by omega
            have i6' : (j : Int) < (c : Int) := by omega
            have m5 : 0 + j + 1 + (n - j) ≤ maxLen := by unfold maxLen; omega
            have m6 : (0 + j + 1 + (n - j)) * 24 ≤ 140737488355328 := by omega
            have HM2 := Lib.hid (And.intro m5 m6)
            clear m5 m6
            go_region_held3 (fun Y => Y.cell? ⟨w.heap.size, 0, none⟩ = some (.string xa) ∧ Y.cell? ⟨w.heap.size, 1, none⟩ = some (.int .i64 xi))
              (first | exact HKc.out _ hb2 | exact HKc.out _ hb1 | exact HKc.out _ (hb1.alloc hb1.size _) | exact HKc.out _ HB0'.out.1 | exact HKc.out _ HB0'.out.2 | exact HKc.out _ HBB.out.1 | exact HKc.out _ HBB.out.2.1 | exact HKc.out _ HBB.out.2.2)
              (first
                | (refine step_append_any _ rfl (.tmp 34) (.tmp 37) 36 rfl X.heap.size 71 i0 _ 2 24 Tryz.underlying36 hi hz0 hz1 hz2 rfl (Nat.succ_pos 1) _ 0 [] rfl HO1.out (some ⟨g, 0, none⟩) j c (namesC (l.take j)) rfl HL1.out (fun h => nomatch h) HNa.out (namesC_one _) HM.out.1 HM.out.2.1 HBB.out.1.size ?_; intro v1 w1 hown1 hg1; have hb1 := HGa.out w1 hg1; have tokA : True := trivial)
                | (refine step_append_any _ rfl (.tmp 34) (.tmp 37) 36 rfl X.heap.size 71 i0 _ 2 24 Tryz.underlying36 hi hz0 hz1 hz2 rfl (Nat.succ_pos 1) _ 0 [] rfl HO2.out (some ⟨g, 0, none⟩) j c (namesC (l.take j)) rfl HL1.out (fun h => nomatch h) HNb.out (namesC_one _) HM.out.1 HM.out.2.1 HBB.out.2.1.size ?_; intro v1 w1 hown1 hg1; obtain ⟨hb1, hD⟩ := HGb.out w1 hg1; have tokB : True := trivial)
                | (refine step_append_any _ rfl (.tmp 34) (.tmp 37) 36 rfl X.heap.size 71 i0 _ 2 24 Tryz.underlying36 hi hz0 hz1 hz2 rfl (Nat.succ_pos 1) _ 0 [] rfl HO3.out (some ⟨g, 0, none⟩) j c (namesC (l.take j)) rfl HL1.out (fun h => nomatch h) HNc.out (namesC_one _) HM.out.1 HM.out.2.1 HBB.out.2.2.size ?_; intro v1 w1 hown1 hg1; obtain ⟨hb1, hD⟩ := HGc.out w1 hg1; have tokC : True := trivial)
                | (have _t := tokA; refine step_append_any _ rfl (.tmp 38) (.tmp 40) 36 rfl X.heap.size 71 i0 _ 2 24 Tryz.underlying36 hi hz0 hz1 hz2 rfl (Nat.succ_pos 1) v1 _ _ rfl (hown1.alloc _) (some ⟨w1.heap.size, 0, none⟩) 1 1 [.string xa, .int .i64 xi] rfl rfl (fun h => nomatch h) (news_pair _ _ _) (namesC_one [(xa, xi)]) HM.out.2.2.1 HM.out.2.2.2 (hb1.alloc hb1.size _).size ?_; intro v2 w2 hown2 hg2; have hb2 := (hb1.alloc hb1.size (.cells #[.string xa, .int .i64 xi] 71)).grown hg2 (hb1.alloc hb1.size _).size (fun q hq => (hown1.lt q hq).1))
                | (have _t := tokB; refine step_append_any _ rfl (.tmp 38) (.tmp 40) 36 rfl X.heap.size 71 i0 _ 2 24 Tryz.underlying36 hi hz0 hz1 hz2 rfl (Nat.succ_pos 1) v1 _ _ rfl hown1 (some ⟨X.heap.size + 1, 0, none⟩) 1 1 [.string xa, .int .i64 xi] rfl rfl (fun h => nomatch h) (news_at hD) (namesC_one [(xa, xi)]) HM.out.2.2.1 HM.out.2.2.2 hb1.size ?_; intro v2 w2 hown2 hg2; have hb2 := hb1.grown hg2 hb1.size (fun q hq => (hown1.lt q hq).1))
                | (have _t := tokC; refine step_append_any _ rfl (.tmp 38) (.tmp 40) 36 rfl X.heap.size 71 i0 _ 2 24 Tryz.underlying36 hi hz0 hz1 hz2 rfl (Nat.succ_pos 1) v1 _ _ rfl hown1 (some ⟨X.heap.size, 0, none⟩) 1 1 [.string xa, .int .i64 xi] rfl rfl (fun h => nomatch h) (news_at hD) (namesC_one [(xa, xi)]) HM.out.2.2.1 HM.out.2.2.2 hb1.size ?_; intro v2 w2 hown2 hg2; have hb2 := hb1.grown hg2 hb1.size (fun q hq => (hown1.lt q hq).1)))
            all_goals (
              go_wp2_with (at_builtin; refine wpList_append_own_any _ rfl (.tmp 42) (.tmp 45) 36 rfl X.heap.size 71 i0 _ 2 24 Tryz.underlying36 hi hz0 hz1 hz2 rfl (Nat.succ_pos 1) v2 _ _ rfl hown2 (some ⟨g, j * 2, none⟩) (n - j) (c - j) (namesC (l.drop j)) rfl HL3.out (fun h => nomatch h) (HNd.out _ hb2) (namesC_one _) HM2.out.1 HM2.out.2 hb2.size ?_; intro v3 w5 hown3 hg3)
              go_ret
              have hb5 := hb2.grown hg3 hb2.size (fun q hq => (hown2.lt q hq).1)
              have hf : w5.ownsRow X.heap.size 71 2 v3 R.length (namesC R) := by
                have e1 : R.length = 0 + j + 1 + (n - j) := by have := HN.out; rw [HRe.out]; simp; omega
                rw [e1, HRe.out, namesC_append]
                simpa [namesC, encN] using hown3
              obtain ⟨A', c', rfl, ho⟩ := OwnN.of hf
              exact ⟨A', c', rfl, ho, (HC.out _ (hBX.trans (hb5.mono hBX.size))).1⟩))
    · obtain rfl : j = n := by omega
      have HTk := Lib.hid (show l.take j = l from List.take_of_length_le (by rw [HN.out]; exact Nat.le_refl _))
      have HRe := Lib.hid (show R = l ++ [(xa, xi)] by rw [← HR.out]; exact withN_end (by have := HG'.out.2.1; rw [HTk.out] at this; exact this))
      have i2' : decide ((j : Int) < (j : Int)) = false := by simp
      go_wp2_with fail
      go_quiet (fail)
      have hBX0 := below_drewN HG'.out.2.2 nq
      generalize wr.drewN nq = X0 at hBX0 ⊢
      go_wp2_with fail
      go_quiet (fail)
      have hBX := below_drewN hBX0 nq
      generalize X0.drewN nq = X at hBX ⊢
      clear x0 x1 hBX0
      go_wp2_with fail
      rcases Nat.lt_or_ge j c with hjc | hjc
      · have i5' : j < c := hjc
        have i6' : (j : Int) < (c : Int) := by omega
        have hb0 : Below X.heap.size X X.drew := below_drew' (Below.refl _ _)
        have HKc : Hid (∀ Y, Below X.heap.size X Y → Y.cell? ⟨w.heap.size, 0, none⟩ = some (.string xa) ∧ Y.cell? ⟨w.heap.size, 1, none⟩ = some (.int .i64 xi)) := fun Y hY => by
          obtain ⟨_, _, h3, h4⟩ := HC.out Y (hBX.trans (hY.mono hBX.size))
          exact ⟨h3, h4⟩
        have HNw := Lib.hid (fun Y (hY : Below X.heap.size X Y) => ((HC.out Y (hBX.trans (hY.mono hBX.size))).2.1.news j).2)
        have HL1 := Lib.hid (show (namesC (l.take j)).length = j * 2 by rw [namesC_length, List.length_take, HN.out]; omega)
        have HO1 := Lib.hid (World.ownsRow_lit (base := X.heap.size) (e := 71) (size := 2) X.drew #[] 0 (Nat.le_refl _) (by simp) rfl)
        have HO2 := Lib.hid (HO1.out.alloc (.cells #[.string xa, .int .i64 xi] 71))
        have ho3 := World.ownsRow_lit (base := X.heap.size) (e := 71) (size := 2) (X.drew.alloc (.cells #[.string xa, .int .i64 xi] 71)) #[] 0 (by simp) (by simp) rfl
        rw [show (X.drew.alloc (.cells #[.string xa, .int .i64 xi] 71)).heap.size = X.heap.size + 1 by simp] at ho3
        have HO3 := Lib.hid ho3
        clear ho3
        have hba : Below X.heap.size X (X.drew.alloc (.cells #[] 71)) := hb0.alloc (Nat.le_refl _) _
        have hbb : Below X.heap.size X ((X.drew.alloc (.cells #[] 71)).alloc (.cells #[.string xa, .int .i64 xi] 71)) := hba.alloc hba.size _
        have hbn : Below X.heap.size X (X.drew.alloc (.cells #[.string xa, .int .i64 xi] 71)) := hb0.alloc (Nat.le_refl _) _
        have hbc : Below X.heap.size X ((X.drew.alloc (.cells #[.string xa, .int .i64 xi] 71)).alloc (.cells #[] 71)) := hbn.alloc hbn.size _
        have HNa := Lib.hid (HNw.out _ hba)
        have HNb := Lib.hid (HNw.out _ hbb)
        have HNc := Lib.hid (HNw.out _ hbc)
        have HGa := Lib.hid (fun w1 (hg : (X.drew.alloc (.cells #[] 71)).grownBy w1 (Value.slice (some ⟨X.drew.heap.size, 0, none⟩) 0 0).ownBlock) => hba.grown hg hba.size (fun q hq => (HO1.out.lt q hq).1))
        have HGb := Lib.hid (fun w1 (hg : ((X.drew.alloc (.cells #[] 71)).alloc (.cells #[.string xa, .int .i64 xi] 71)).grownBy w1 (Value.slice (some ⟨X.drew.heap.size, 0, none⟩) 0 0).ownBlock) => And.intro (hbb.grown hg hbb.size (fun q hq => (HO1.out.lt q hq).1)) (show w1.heap[X.heap.size + 1]? = some (.cells #[.string xa, .int .i64 xi] 71 (0, 0)) from (hg.block (X.heap.size + 1) (by simp) (fun h => by have := Option.some.inj h; change X.heap.size + 1 = X.heap.size at this; omega)).trans (by have := heap_alloc_new (X.drew.alloc (.cells #[] 71)) (.cells #[.string xa, .int .i64 xi] 71); rwa [show (X.drew.alloc (.cells #[] 71)).heap.size = X.heap.size + 1 by simp] at this)))
        have HGc := Lib.hid (fun w1 (hg : ((X.drew.alloc (.cells #[.string xa, .int .i64 xi] 71)).alloc (.cells #[] 71)).grownBy w1 (Value.slice (some ⟨X.heap.size + 1, 0, none⟩) 0 0).ownBlock) => And.intro (hbc.grown hg hbc.size (fun q hq => (HO3.out.lt q hq).1)) (show w1.heap[X.heap.size]? = some (.cells #[.string xa, .int .i64 xi] 71 (0, 0)) from (hg.block X.heap.size (by simp; omega) (fun h => by have := Option.some.inj h; change X.heap.size = X.heap.size + 1 at this; omega)).trans (by rw [Below.heap_alloc _ _ _ (by simp)]; exact heap_alloc_new X.drew _)))
        have m1 : 0 + j ≤ maxLen := by unfold maxLen; omega
        have m2 : (0 + j) * 24 ≤ 140737488355328 := by omega
        have m3 : 0 + j + 1 ≤ maxLen := by unfold maxLen; omega
        have m4 : (0 + j + 1) * 24 ≤ 140737488355328 := by omega
        have HM := Lib.hid (And.intro m1 (And.intro m2 (And.intro m3 m4)))
        have i3' : (j : Int) ≤ (c : Int) := by omega
        have i4' : j ≤ c := by omega
        have HBB := Lib.hid (And.intro hba (And.intro hbb hbc))
        have HB0' := Lib.hid (And.intro hb0 hbn)
        clear m1 m2 m3 m4 hba hbb hbc hb0 hbn
        have m5 : 0 + j + 1 ≤ maxLen := by unfold maxLen; omega
        have m6 : (0 + j + 1) * 24 ≤ 140737488355328 := by omega
        have HM2 := Lib.hid (And.intro m5 m6)
        clear m5 m6
        go_region_held3 (fun Y => Y.cell? ⟨w.heap.size, 0, none⟩ = some (.string xa) ∧ Y.cell? ⟨w.heap.size, 1, none⟩ = some (.int .i64 xi))
          (first | exact HKc.out _ hb2 | exact HKc.out _ hb1 | exact HKc.out _ (hb1.alloc hb1.size _) | exact HKc.out _ HB0'.out.1 | exact HKc.out _ HB0'.out.2 | exact HKc.out _ HBB.out.1 | exact HKc.out _ HBB.out.2.1 | exact HKc.out _ HBB.out.2.2)
          (first
            | (refine step_append_any _ rfl (.tmp 34) (.tmp 37) 36 rfl X.heap.size 71 i0 _ 2 24 Tryz.underlying36 hi hz0 hz1 hz2 rfl (Nat.succ_pos 1) _ 0 [] rfl HO1.out (some ⟨g, 0, none⟩) j c (namesC (l.take j)) rfl HL1.out (fun h => nomatch h) HNa.out (namesC_one _) HM.out.1 HM.out.2.1 HBB.out.1.size ?_; intro v1 w1 hown1 hg1; have hb1 := HGa.out w1 hg1; have tokA : True := trivial)
            | (refine step_append_any _ rfl (.tmp 34) (.tmp 37) 36 rfl X.heap.size 71 i0 _ 2 24 Tryz.underlying36 hi hz0 hz1 hz2 rfl (Nat.succ_pos 1) _ 0 [] rfl HO2.out (some ⟨g, 0, none⟩) j c (namesC (l.take j)) rfl HL1.out (fun h => nomatch h) HNb.out (namesC_one _) HM.out.1 HM.out.2.1 HBB.out.2.1.size ?_; intro v1 w1 hown1 hg1; obtain ⟨hb1, hD⟩ := HGb.out w1 hg1; have tokB : True := trivial)
            | (refine step_append_any _ rfl (.tmp 34) (.tmp 37) 36 rfl X.heap.size 71 i0 _ 2 24 Tryz.underlying36 hi hz0 hz1 hz2 rfl (Nat.succ_pos 1) _ 0 [] rfl HO3.out (some ⟨g, 0, none⟩) j c (namesC (l.take j)) rfl HL1.out (fun h => nomatch h) HNc.out (namesC_one _) HM.out.1 HM.out.2.1 HBB.out.2.2.size ?_; intro v1 w1 hown1 hg1; obtain ⟨hb1, hD⟩ := HGc.out w1 hg1; have tokC : True := trivial)
            | (have _t := tokA; refine step_append_any _ rfl (.tmp 38) (.tmp 40) 36 rfl X.heap.size 71 i0 _ 2 24 Tryz.underlying36 hi hz0 hz1 hz2 rfl (Nat.succ_pos 1) v1 _ _ rfl (hown1.alloc _) (some ⟨w1.heap.size, 0, none⟩) 1 1 [.string xa, .int .i64 xi] rfl rfl (fun h => nomatch h) (news_pair _ _ _) (namesC_one [(xa, xi)]) HM.out.2.2.1 HM.out.2.2.2 (hb1.alloc hb1.size _).size ?_; intro v2 w2 hown2 hg2; have hb2 := (hb1.alloc hb1.size (.cells #[.string xa, .int .i64 xi] 71)).grown hg2 (hb1.alloc hb1.size _).size (fun q hq => (hown1.lt q hq).1))
            | (have _t := tokB; refine step_append_any _ rfl (.tmp 38) (.tmp 40) 36 rfl X.heap.size 71 i0 _ 2 24 Tryz.underlying36 hi hz0 hz1 hz2 rfl (Nat.succ_pos 1) v1 _ _ rfl hown1 (some ⟨X.heap.size + 1, 0, none⟩) 1 1 [.string xa, .int .i64 xi] rfl rfl (fun h => nomatch h) (news_at hD) (namesC_one [(xa, xi)]) HM.out.2.2.1 HM.out.2.2.2 hb1.size ?_; intro v2 w2 hown2 hg2; have hb2 := hb1.grown hg2 hb1.size (fun q hq => (hown1.lt q hq).1))
            | (have _t := tokC; refine step_append_any _ rfl (.tmp 38) (.tmp 40) 36 rfl X.heap.size 71 i0 _ 2 24 Tryz.underlying36 hi hz0 hz1 hz2 rfl (Nat.succ_pos 1) v1 _ _ rfl hown1 (some ⟨X.heap.size, 0, none⟩) 1 1 [.string xa, .int .i64 xi] rfl rfl (fun h => nomatch h) (news_at hD) (namesC_one [(xa, xi)]) HM.out.2.2.1 HM.out.2.2.2 hb1.size ?_; intro v2 w2 hown2 hg2; have hb2 := hb1.grown hg2 hb1.size (fun q hq => (hown1.lt q hq).1)))
        all_goals (
          go_wp2_with (at_builtin; refine wpList_append_own_any _ rfl (.tmp 42) (.tmp 45) 36 rfl X.heap.size 71 i0 _ 2 24 Tryz.underlying36 hi hz0 hz1 hz2 rfl (Nat.succ_pos 1) v2 _ _ rfl hown2 _ _ _ [] rfl (by simp) (fun h => nomatch h) (fun _ _ q u hu => by simp at hu) (fun u hu => by simp at hu) (by have := HM2.out.1; simpa using this) (by have := HM2.out.2; simpa using this) hb2.size ?_; intro v3 w5 hown3 hg3)
          go_ret
          have hb5 := hb2.grown hg3 hb2.size (fun q hq => (hown2.lt q hq).1)
          have hf : w5.ownsRow X.heap.size 71 2 v3 R.length (namesC R) := by
            have e1 : R.length = 0 + j + 1 := by have := HN.out; rw [HRe.out]; simp; omega
            rw [e1, HRe.out, namesC_append, ← HTk.out]
            simpa [namesC, encN] using hown3
          obtain ⟨A', c', rfl, ho⟩ := OwnN.of hf
          exact ⟨A', c', rfl, ho, (HC.out _ (hBX.trans (hb5.mono hBX.size))).1⟩)
      · obtain rfl : c = j := by omega
        have hb0 : Below X.heap.size X X.drew := below_drew' (Below.refl _ _)
        have HKc : Hid (∀ Y, Below X.heap.size X Y → Y.cell? ⟨w.heap.size, 0, none⟩ = some (.string xa) ∧ Y.cell? ⟨w.heap.size, 1, none⟩ = some (.int .i64 xi)) := fun Y hY => by
          obtain ⟨_, _, h3, h4⟩ := HC.out Y (hBX.trans (hY.mono hBX.size))
          exact ⟨h3, h4⟩
        have HNw := Lib.hid (fun Y (hY : Below X.heap.size X Y) => ((HC.out Y (hBX.trans (hY.mono hBX.size))).2.1.news c).2)
        have HL1 := Lib.hid (show (namesC (l.take c)).length = c * 2 by rw [namesC_length, List.length_take, HN.out]; omega)
        have HO1 := Lib.hid (World.ownsRow_lit (base := X.heap.size) (e := 71) (size := 2) X.drew #[] 0 (Nat.le_refl _) (by simp) rfl)
        have HO2 := Lib.hid (HO1.out.alloc (.cells #[.string xa, .int .i64 xi] 71))
        have ho3 := World.ownsRow_lit (base := X.heap.size) (e := 71) (size := 2) (X.drew.alloc (.cells #[.string xa, .int .i64 xi] 71)) #[] 0 (by simp) (by simp) rfl
        rw [show (X.drew.alloc (.cells #[.string xa, .int .i64 xi] 71)).heap.size = X.heap.size + 1 by simp] at ho3
        have HO3 := Lib.hid ho3
        clear ho3
        have hba : Below X.heap.size X (X.drew.alloc (.cells #[] 71)) := hb0.alloc (Nat.le_refl _) _
        have hbb : Below X.heap.size X ((X.drew.alloc (.cells #[] 71)).alloc (.cells #[.string xa, .int .i64 xi] 71)) := hba.alloc hba.size _
        have hbn : Below X.heap.size X (X.drew.alloc (.cells #[.string xa, .int .i64 xi] 71)) := hb0.alloc (Nat.le_refl _) _
        have hbc : Below X.heap.size X ((X.drew.alloc (.cells #[.string xa, .int .i64 xi] 71)).alloc (.cells #[] 71)) := hbn.alloc hbn.size _
        have HNa := Lib.hid (HNw.out _ hba)
        have HNb := Lib.hid (HNw.out _ hbb)
        have HNc := Lib.hid (HNw.out _ hbc)
        have HGa := Lib.hid (fun w1 (hg : (X.drew.alloc (.cells #[] 71)).grownBy w1 (Value.slice (some ⟨X.drew.heap.size, 0, none⟩) 0 0).ownBlock) => hba.grown hg hba.size (fun q hq => (HO1.out.lt q hq).1))
        have HGb := Lib.hid (fun w1 (hg : ((X.drew.alloc (.cells #[] 71)).alloc (.cells #[.string xa, .int .i64 xi] 71)).grownBy w1 (Value.slice (some ⟨X.drew.heap.size, 0, none⟩) 0 0).ownBlock) => And.intro (hbb.grown hg hbb.size (fun q hq => (HO1.out.lt q hq).1)) (show w1.heap[X.heap.size + 1]? = some (.cells #[.string xa, .int .i64 xi] 71 (0, 0)) from (hg.block (X.heap.size + 1) (by simp) (fun h => by have := Option.some.inj h; change X.heap.size + 1 = X.heap.size at this; omega)).trans (by have := heap_alloc_new (X.drew.alloc (.cells #[] 71)) (.cells #[.string xa, .int .i64 xi] 71); rwa [show (X.drew.alloc (.cells #[] 71)).heap.size = X.heap.size + 1 by simp] at this)))
        have HGc := Lib.hid (fun w1 (hg : ((X.drew.alloc (.cells #[.string xa, .int .i64 xi] 71)).alloc (.cells #[] 71)).grownBy w1 (Value.slice (some ⟨X.heap.size + 1, 0, none⟩) 0 0).ownBlock) => And.intro (hbc.grown hg hbc.size (fun q hq => (HO3.out.lt q hq).1)) (show w1.heap[X.heap.size]? = some (.cells #[.string xa, .int .i64 xi] 71 (0, 0)) from (hg.block X.heap.size (by simp; omega) (fun h => by have := Option.some.inj h; change X.heap.size = X.heap.size + 1 at this; omega)).trans (by rw [Below.heap_alloc _ _ _ (by simp)]; exact heap_alloc_new X.drew _)))
        have m1 : 0 + c ≤ maxLen := by unfold maxLen; omega
        have m2 : (0 + c) * 24 ≤ 140737488355328 := by omega
        have m3 : 0 + c + 1 ≤ maxLen := by unfold maxLen; omega
        have m4 : (0 + c + 1) * 24 ≤ 140737488355328 := by omega
        have HM := Lib.hid (And.intro m1 (And.intro m2 (And.intro m3 m4)))
        have i3' : (c : Int) ≤ (c : Int) := by omega
        have i4' : c ≤ c := by omega
        have HBB := Lib.hid (And.intro hba (And.intro hbb hbc))
        have HB0' := Lib.hid (And.intro hb0 hbn)
        clear m1 m2 m3 m4 hba hbb hbc hb0 hbn
        have m5 : 0 + c + 1 ≤ maxLen := by unfold maxLen; omega
        have m6 : (0 + c + 1) * 24 ≤ 140737488355328 := by omega
        have HM2 := Lib.hid (And.intro m5 m6)
        clear m5 m6
        go_region_held3 (fun Y => Y.cell? ⟨w.heap.size, 0, none⟩ = some (.string xa) ∧ Y.cell? ⟨w.heap.size, 1, none⟩ = some (.int .i64 xi))
          (first | exact HKc.out _ hb2 | exact HKc.out _ hb1 | exact HKc.out _ (hb1.alloc hb1.size _) | exact HKc.out _ HB0'.out.1 | exact HKc.out _ HB0'.out.2 | exact HKc.out _ HBB.out.1 | exact HKc.out _ HBB.out.2.1 | exact HKc.out _ HBB.out.2.2)
          (first
            | (refine step_append_any _ rfl (.tmp 34) (.tmp 37) 36 rfl X.heap.size 71 i0 _ 2 24 Tryz.underlying36 hi hz0 hz1 hz2 rfl (Nat.succ_pos 1) _ 0 [] rfl HO1.out (some ⟨g, 0, none⟩) c c (namesC (l.take c)) rfl HL1.out (fun h => nomatch h) HNa.out (namesC_one _) HM.out.1 HM.out.2.1 HBB.out.1.size ?_; intro v1 w1 hown1 hg1; have hb1 := HGa.out w1 hg1; have tokA : True := trivial)
            | (refine step_append_any _ rfl (.tmp 34) (.tmp 37) 36 rfl X.heap.size 71 i0 _ 2 24 Tryz.underlying36 hi hz0 hz1 hz2 rfl (Nat.succ_pos 1) _ 0 [] rfl HO2.out (some ⟨g, 0, none⟩) c c (namesC (l.take c)) rfl HL1.out (fun h => nomatch h) HNb.out (namesC_one _) HM.out.1 HM.out.2.1 HBB.out.2.1.size ?_; intro v1 w1 hown1 hg1; obtain ⟨hb1, hD⟩ := HGb.out w1 hg1; have tokB : True := trivial)
            | (refine step_append_any _ rfl (.tmp 34) (.tmp 37) 36 rfl X.heap.size 71 i0 _ 2 24 Tryz.underlying36 hi hz0 hz1 hz2 rfl (Nat.succ_pos 1) _ 0 [] rfl HO3.out (some ⟨g, 0, none⟩) c c (namesC (l.take c)) rfl HL1.out (fun h => nomatch h) HNc.out (namesC_one _) HM.out.1 HM.out.2.1 HBB.out.2.2.size ?_; intro v1 w1 hown1 hg1; obtain ⟨hb1, hD⟩ := HGc.out w1 hg1; have tokC : True := trivial)
            | (have _t := tokA; refine step_append_any _ rfl (.tmp 38) (.tmp 40) 36 rfl X.heap.size 71 i0 _ 2 24 Tryz.underlying36 hi hz0 hz1 hz2 rfl (Nat.succ_pos 1) v1 _ _ rfl (hown1.alloc _) (some ⟨w1.heap.size, 0, none⟩) 1 1 [.string xa, .int .i64 xi] rfl rfl (fun h => nomatch h) (news_pair _ _ _) (namesC_one [(xa, xi)]) HM.out.2.2.1 HM.out.2.2.2 (hb1.alloc hb1.size _).size ?_; intro v2 w2 hown2 hg2; have hb2 := (hb1.alloc hb1.size (.cells #[.string xa, .int .i64 xi] 71)).grown hg2 (hb1.alloc hb1.size _).size (fun q hq => (hown1.lt q hq).1))
            | (have _t := tokB; refine step_append_any _ rfl (.tmp 38) (.tmp 40) 36 rfl X.heap.size 71 i0 _ 2 24 Tryz.underlying36 hi hz0 hz1 hz2 rfl (Nat.succ_pos 1) v1 _ _ rfl hown1 (some ⟨X.heap.size + 1, 0, none⟩) 1 1 [.string xa, .int .i64 xi] rfl rfl (fun h => nomatch h) (news_at hD) (namesC_one [(xa, xi)]) HM.out.2.2.1 HM.out.2.2.2 hb1.size ?_; intro v2 w2 hown2 hg2; have hb2 := hb1.grown hg2 hb1.size (fun q hq => (hown1.lt q hq).1))
            | (have _t := tokC; refine step_append_any _ rfl (.tmp 38) (.tmp 40) 36 rfl X.heap.size 71 i0 _ 2 24 Tryz.underlying36 hi hz0 hz1 hz2 rfl (Nat.succ_pos 1) v1 _ _ rfl hown1 (some ⟨X.heap.size, 0, none⟩) 1 1 [.string xa, .int .i64 xi] rfl rfl (fun h => nomatch h) (news_at hD) (namesC_one [(xa, xi)]) HM.out.2.2.1 HM.out.2.2.2 hb1.size ?_; intro v2 w2 hown2 hg2; have hb2 := hb1.grown hg2 hb1.size (fun q hq => (hown1.lt q hq).1)))
        all_goals (
          go_wp2_with (at_builtin; refine wpList_append_own_any _ rfl (.tmp 42) (.tmp 45) 36 rfl X.heap.size 71 i0 _ 2 24 Tryz.underlying36 hi hz0 hz1 hz2 rfl (Nat.succ_pos 1) v2 _ _ rfl hown2 _ _ _ [] rfl (by simp) (fun h => nomatch h) (fun _ _ q u hu => by simp at hu) (fun u hu => by simp at hu) (by have := HM2.out.1; simpa using this) (by have := HM2.out.2; simpa using this) hb2.size ?_; intro v3 w5 hown3 hg3)
          go_ret
          have hb5 := hb2.grown hg3 hb2.size (fun q hq => (hown2.lt q hq).1)
          have hf : w5.ownsRow X.heap.size 71 2 v3 R.length (namesC R) := by
            have e1 : R.length = 0 + c + 1 := by have := HN.out; rw [HRe.out]; simp; omega
            rw [e1, HRe.out, namesC_append, ← HTk.out]
            simpa [namesC, encN] using hown3
          obtain ⟨A', c', rfl, ho⟩ := OwnN.of hf
          exact ⟨A', c', rfl, ho, (HC.out _ (hBX.trans (hb5.mono hBX.size))).1⟩)
end Go.Proofs.YtacjjkbkhpdhnaaGreatDoor
