/- ref24.Less; words for With -/
import Derived.Test.YtpnfbfnffkbilaaGreatDoorZlo
import Derived.Test.YtpnfbfnffkbilaaGreatDoorZlq
import Derived.Deep.AppendLies
import Derived.Deep.RegionHeld3
import Derived.Test.YtpnfbfnffkbilaaGreatDoorChk
namespace Go.Proofs.YtpnfbfnffkbilaaGreatDoor
open Go.RowKit Go.Proofs Go.Shelf

def lessN (a b : ByteArray × Int) : Bool := Op.bytesLess a.1.toList b.1.toList || ((a.1.toList == b.1.toList) && decide (a.2 < b.2))
set_option maxRecDepth 100000 in
set_option maxHeartbeats 2000000 in
theorem less24_any (a b : ByteArray) (i j : Int) (w : World) : Calls Tryz.prog 18 #[.agg #[.string a, .int .i64 i], .agg #[.string b, .int .i64 j]] w fun e w' => e = .returned (.bool (lessN (a, i) (b, j))) ∧ Below w.heap.size w w' := by
  have HB := Lib.hid (show Below w.heap.size w ((w.alloc (.cells #[.string a, .int .i64 i] 28)).alloc (.cells #[.string b, .int .i64 j] 28)) from ((Below.refl _ _).alloc (Nat.le_refl _) _).alloc (by simp) _)
  cases h1 : Op.bytesLess a.toList b.toList with
  | true =>
    have HR := Lib.hid (show lessN (a, i) (b, j) = true by simp [lessN, h1])
    go_enter Tryz.func18, Tryz.ntmps18
    go_wp2
    go_ret
    exact ⟨by rw [HR.out]; rfl, HB.out⟩
  | false =>
    cases h2 : a.toList == b.toList with
    | false =>
      have HR := Lib.hid (show lessN (a, i) (b, j) = false by simp [lessN, h1, h2])
      go_enter Tryz.func18, Tryz.ntmps18
      go_wp2
      go_ret
      exact ⟨by rw [HR.out]; rfl, HB.out⟩
    | true =>
      have HR := Lib.hid (show lessN (a, i) (b, j) = decide (i < j) by simp [lessN, h1, h2])
      by_cases h3 : i < j
      · have h3' : decide (i < j) = true := by simpa using h3
        rw [h3'] at HR
        clear h3
        go_enter Tryz.func18, Tryz.ntmps18
        go_wp2
        go_ret
        exact ⟨by rw [HR.out]; rfl, HB.out⟩
      · have h3' : decide (i < j) = false := by simpa using h3
        rw [h3'] at HR
        clear h3
        go_enter Tryz.func18, Tryz.ntmps18
        go_wp2
        go_ret
        exact ⟨by rw [HR.out]; rfl, HB.out⟩

section
variable {P : Program}
/-- An append within a region that draws its order, from whatever source. -/
theorem step_append_any (w : World) {ops : Array Oper} {o : Oper} {a : Act} {K : Act → World → Prop} {Q : Exit → Act → World → Prop} {E : Prop} (hgd : o.guard = none) (s x : Operand) (t : TypeId)
    (ho : o.op = .call { callee := .builtin .append, args := #[s, x], argTypes := #[t, t] })
    (base : Nat) (e : TypeId) (i : TypeInfo) (z : Value) (size bytes : Nat) (ht : P.underlying t = some (.slice e)) (hi : P.info? e = some i) (hz : i.zero = some z)
    (hsize : i.size = size) (hby : i.bytes = bytes) (hzs : z.cells.size = size) (hsz : 0 < size)
    (v : Value) (n : Nat) (xs : List Value) (hs : a.eval s = v) (hown : w.ownsRow base e size v n xs)
    (A : Option Addr) (m c : Nat) (news : List Value) (hx : a.eval x = .slice A m c) (hl : news.length = m * size) (hA : A = none → m = 0) (hnews : ∀ ad, A = some ad → ∀ j u, news[j]? = some u → w.cell? (ad.add j) = some u) (h1 : ∀ u ∈ news, u.oneCell' = true)
    (h63 : n + m ≤ maxLen) (hbytes : (n + m) * bytes ≤ 140737488355328) (hbase : base ≤ w.heap.size)
    (h : ∀ v' w', w'.ownsRow base e size v' (n + m) (xs ++ news) → w.grownBy w' v.ownBlock → K (a.put o.dst v') w') :
    if Region.wanted o (yielded ops a.tmps) = true then Oper.wp P o a w K Q else E := by
  have hw : Region.wanted o (yielded ops a.tmps) = true := by simp [Region.wanted, hgd]
  rw [if_pos hw]
  cases A with
  | some ad => exact wp_append_own w s x t ho base e i z size bytes ht hi hz hsize hby hzs hsz v n xs hs hown ad m c news hx hl (hnews ad rfl) h1 h63 hbytes hbase fun v' w' h2 h3 _ => h v' w' h2 h3
  | none =>
    obtain rfl := hA rfl
    have hrun := run_append_owned_no (P := P) (w := w) base t o.type e i size ht hi v n c xs hown
    unfold Oper.wp
    simp [execOp, ho, resolve, invoke, builtin, hs, hx, hrun, Result.andThen]
    have hn : news = [] := List.length_eq_zero_iff.1 (by simpa using hl)
    subst hn
    exact h v w (by simpa using hown) (World.grownBy.refl _ _)
end
/-- A slice of names. -/
def OwnN (W : World) (A : Option Addr) (c : Nat) (l : List (ByteArray × Int)) : Prop := W.ownsRow 0 28 2 (.slice A l.length c) l.length (namesC l)
theorem OwnN.nil (W : World) : OwnN W none 0 [] := World.ownsRow_nil W 0 28 2
theorem OwnN.below {W X : World} {B : Nat} {A : Option Addr} {c : Nat} {l : List (ByteArray × Int)} (h : OwnN W A c l) (hb : Below B W X) (hB : W.heap.size ≤ B) : OwnN X A c l := by
  refine ⟨h.1, ?_⟩
  rcases h.2 with h | ⟨g, cap, cur, h1, h2, h3, h4⟩
  · exact .inl h
  · have hg : g < W.heap.size := by
      by_cases hlt : g < W.heap.size
      · exact hlt
      · rw [Array.getElem?_eq_none (by omega)] at h3; cases h3
    exact .inr ⟨g, cap, cur, h1, h2, (hb.block g (by omega)).trans h3, h4⟩
theorem OwnN.of {W : World} {base : Nat} {v : Value} {l : List (ByteArray × Int)} (h : W.ownsRow base 28 2 v l.length (namesC l)) : ∃ A c, v = .slice A l.length c ∧ OwnN W A c l := by
  rcases h.2 with ⟨h1, h2⟩ | ⟨g, cap, cur, h1, h2, h3, h4⟩
  · obtain rfl : l = [] := List.length_eq_zero_iff.1 h2
    exact ⟨none, 0, by rw [h1]; rfl, OwnN.nil W⟩
  · exact ⟨some ⟨g, 0, none⟩, cap, h1, h.1, .inr ⟨g, cap, cur, rfl, Nat.zero_le _, h3, h4⟩⟩
theorem OwnN.cells {W : World} {A : Option Addr} {c : Nat} {l : List (ByteArray × Int)} (h : OwnN W A c l) : (l = [] ∧ A = none ∧ c = 0) ∨ ∃ g, A = some ⟨g, 0, none⟩ ∧ g < W.heap.size ∧ l.length ≤ c ∧ c ≤ 9223372036854775807 ∧ ∀ q u, (namesC l)[q]? = some u → W.cell? ⟨g, q, none⟩ = some u := by
  rcases h.2 with ⟨h1, h2⟩ | ⟨g, cap, cur, h1, h2, h3, h4, h5, h6⟩
  · simp only [Value.slice.injEq] at h1
    exact .inl ⟨List.length_eq_zero_iff.1 h2, h1.1, h1.2.2⟩
  · simp only [Value.slice.injEq, true_and] at h1
    obtain ⟨rfl, rfl⟩ := h1
    have hg : g < W.heap.size := by
      by_cases hlt : g < W.heap.size
      · exact hlt
      · rw [Array.getElem?_eq_none (by omega)] at h3; cases h3
    refine .inr ⟨g, rfl, hg, h4, by unfold maxLen at h5; exact h5, fun q u hu => ?_⟩
    have hlt := (List.getElem?_eq_some_iff.1 hu).1
    rw [namesC_length] at hlt
    exact (h.cellAt q hlt).trans hu
end Go.Proofs.YtpnfbfnffkbilaaGreatDoor
/- ref24.With (printed by gen_ywt.py) -/
namespace Go.Proofs.YtpnfbfnffkbilaaGreatDoor
open Go.RowKit Go.Proofs Go.Shelf

theorem below_drew' {B : Nat} {w w' : World} (h : Below B w w') : Below B w w'.drew := ⟨h.os, h.tape, h.output, h.size, h.block⟩
/-- A list in order with one more name. -/
def withN (l : List (ByteArray × Int)) (x : ByteArray × Int) : List (ByteArray × Int) :=
  match l.dropWhile (fun y => lessN y x) with
  | [] => l.takeWhile (fun y => lessN y x) ++ [x]
  | y :: t => if eqN y x = true then l else l.takeWhile (fun y => lessN y x) ++ x :: y :: t
theorem withN_end {l : List (ByteArray × Int)} {x : ByteArray × Int} (h : ∀ y ∈ l, lessN y x = true) : withN l x = l ++ [x] := by
  have h1 : l.dropWhile (fun y => lessN y x) = [] := by
    induction l with
    | nil => rfl
    | cons a r ih => simp only [List.dropWhile_cons, h a (List.mem_cons_self ..), if_true]; exact ih (fun y hy => h y (List.mem_cons_of_mem _ hy))
  have h2 : l.takeWhile (fun y => lessN y x) = l := by
    have := List.takeWhile_append_dropWhile (p := fun y => lessN y x) (l := l)
    rw [h1, List.append_nil] at this
    exact this
  unfold withN
  rw [h1, h2]
theorem withN_mid {l : List (ByteArray × Int)} {x y : ByteArray × Int} {j : Nat} (h : ∀ z ∈ l.take j, lessN z x = true) (hy : l[j]? = some y) (hl : lessN y x = false) :
    withN l x = if eqN y x = true then l else l.take j ++ x :: l.drop j := by
  obtain ⟨hlt, he⟩ := List.getElem?_eq_some_iff.1 hy
  have hd : l.drop j = y :: l.drop (j + 1) := by rw [List.drop_eq_getElem_cons hlt, he]
  have hsp : l = l.take j ++ y :: l.drop (j + 1) := by rw [← hd, List.take_append_drop]
  have h1 : l.dropWhile (fun y => lessN y x) = y :: l.drop (j + 1) := by
    conv => lhs; rw [hsp]
    rw [List.dropWhile_append_of_pos h, List.dropWhile_cons_of_neg (by rw [hl]; simp)]
  have h2 : l.takeWhile (fun y => lessN y x) = l.take j := by
    conv => lhs; rw [hsp]
    rw [List.takeWhile_append_of_pos h, List.takeWhile_cons_of_neg (by rw [hl]; simp), List.append_nil]
  unfold withN
  rw [h1, h2, hd]
theorem namesC_one : ∀ (l : List (ByteArray × Int)), ∀ u ∈ namesC l, u.oneCell' = true
  | [], u, h => by simp [namesC] at h
  | x :: r, u, h => by
    rw [namesC, List.mem_append] at h
    rcases h with h | h
    · simp [encN] at h
      rcases h with rfl | rfl <;> rfl
    · exact namesC_one r u h
theorem OwnN.news {W : World} {A : Option Addr} {c : Nat} {l : List (ByteArray × Int)} (h : OwnN W A c l) (j : Nat) :
    (A = none → min j l.length = 0) ∧ ∀ ad, A = some ad → ∀ q u, (namesC (l.take j))[q]? = some u → W.cell? (ad.add q) = some u := by
  rcases h.cells with ⟨rfl, rfl, rfl⟩ | ⟨g, rfl, hg, hc1, hc2, hcell⟩
  · exact ⟨(fun _ => by simp), (fun ad e => by cases e)⟩
  · refine ⟨(fun e => by cases e), fun ad e q u hu => ?_⟩
    cases e
    rw [← namesC_take, List.getElem?_take] at hu
    split at hu
    · have := hcell q u hu
      cases q <;> simpa [Addr.add] using this
    · cases hu
theorem namesC_drop : ∀ (l : List (ByteArray × Int)) (m : Nat), (namesC l).drop (m * 2) = namesC (l.drop m)
  | [], m => by simp [namesC]
  | x :: r, 0 => by simp
  | x :: r, m + 1 => by
    have h := namesC_drop r m
    rw [show (m + 1) * 2 = m * 2 + 2 by omega]
    simp only [List.drop_succ_cons, namesC, encN, List.cons_append, List.nil_append]
    exact h
theorem OwnN.newsD {W : World} {g c : Nat} {l : List (ByteArray × Int)} (h : OwnN W (some ⟨g, 0, none⟩) c l) (j : Nat) :
    ∀ ad, (some ⟨g, j * 2, none⟩ : Option Addr) = some ad → ∀ q u, (namesC (l.drop j))[q]? = some u → W.cell? (ad.add q) = some u := by
  rcases h.cells with ⟨_, h, _⟩ | ⟨g', hg', hg, hc1, hc2, hcell⟩
  · cases h
  · cases hg'
    intro ad e q u hu
    cases e
    rw [← namesC_drop, List.getElem?_drop] at hu
    have := hcell _ u hu
    cases q <;> simpa [Addr.add] using this
theorem news_at {W : World} {k : Nat} {xa : ByteArray} {xi : Int} (h : W.heap[k]? = some (.cells #[.string xa, .int .i64 xi] 28 (0, 0))) :
    ∀ ad, (some ⟨k, 0, none⟩ : Option Addr) = some ad → ∀ q u, ([.string xa, .int .i64 xi] : List Value)[q]? = some u → W.cell? (ad.add q) = some u := by
  intro ad e q u hu
  cases e
  exact World.news_of_block (cs := #[.string xa, .int .i64 xi]) (t := 28) (fr := (0, 0)) h q u hu
theorem news_pair (W : World) (xa : ByteArray) (xi : Int) :
    ∀ ad, (some ⟨W.heap.size, 0, none⟩ : Option Addr) = some ad → ∀ q u, ([.string xa, .int .i64 xi] : List Value)[q]? = some u → (W.alloc (.cells #[.string xa, .int .i64 xi] 28)).cell? (ad.add q) = some u := news_at (heap_alloc_new W _)
def WithP24 (R : List (ByteArray × Int)) (w : World) (e : Ending) (w' : World) : Prop := ∃ A c, e = .returned (.slice A R.length c) ∧ OwnN w' A c R ∧ Below w.heap.size w w'

end Go.Proofs.YtpnfbfnffkbilaaGreatDoor
