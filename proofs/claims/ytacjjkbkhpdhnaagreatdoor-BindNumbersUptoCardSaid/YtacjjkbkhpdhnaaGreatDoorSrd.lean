/- ref24.sorted -/
import Derived.Test.YtacjjkbkhpdhnaaGreatDoorZnb
import Derived.Test.YtacjjkbkhpdhnaaGreatDoorZlg
import Derived.Test.YtacjjkbkhpdhnaaGreatDoorZqa
import Derived.Deep.CutBlock
import Derived.Deep.DeepCutAuto
import Derived.Deep.QuietTactic
import Derived.BigQuiet
namespace Go.Proofs.YtacjjkbkhpdhnaaGreatDoor
open Go Go.RowKit Go.Proofs Go.Shelf
def OwnD (W : World) (A : Option Addr) (c : Nat) (l : List Dc) : Prop := W.ownsRow 0 63 11 (.slice A l.length c) l.length (dcC l)
theorem OwnD.nil (W : World) : OwnD W none 0 [] := World.ownsRow_nil W 0 63 11
theorem OwnD.below {W X : World} {B : Nat} {A : Option Addr} {c : Nat} {l : List Dc} (h : OwnD W A c l) (hb : Below B W X) (hB : W.heap.size ≤ B) : OwnD X A c l := by
  refine ⟨h.1, ?_⟩
  rcases h.2 with h | ⟨g, cap, cur, h1, h2, h3, h4⟩
  · exact .inl h
  · have hg : g < W.heap.size := by
      by_cases hlt : g < W.heap.size
      · exact hlt
      · rw [Array.getElem?_eq_none (by omega)] at h3; cases h3
    exact .inr ⟨g, cap, cur, h1, h2, (hb.block g (by omega)).trans h3, h4⟩
theorem OwnD.of {W : World} {base : Nat} {v : Value} {l : List Dc} (h : W.ownsRow base 63 11 v l.length (dcC l)) : ∃ A c, v = .slice A l.length c ∧ OwnD W A c l := by
  rcases h.2 with ⟨h1, h2⟩ | ⟨g, cap, cur, h1, h2, h3, h4⟩
  · obtain rfl : l = [] := List.length_eq_zero_iff.1 h2
    exact ⟨none, 0, by rw [h1]; rfl, OwnD.nil W⟩
  · exact ⟨some ⟨g, 0, none⟩, cap, h1, h.1, .inr ⟨g, cap, cur, rfl, Nat.zero_le _, h3, h4⟩⟩
theorem OwnD.cells {W : World} {A : Option Addr} {c : Nat} {l : List Dc} (h : OwnD W A c l) : (l = [] ∧ A = none ∧ c = 0) ∨ ∃ g, A = some ⟨g, 0, none⟩ ∧ g < W.heap.size ∧ l.length ≤ c ∧ c ≤ 9223372036854775807 ∧ ∀ q u, (dcC l)[q]? = some u → W.cell? ⟨g, q, none⟩ = some u := by
  rcases h.2 with ⟨h1, h2⟩ | ⟨g, cap, cur, h1, h2, h3, h4, h5, h6⟩
  · simp only [Value.slice.injEq] at h1
    exact .inl ⟨List.length_eq_zero_iff.1 h2, h1.1, h1.2.2⟩
  · simp only [Value.slice.injEq, true_and] at h1
    obtain ⟨rfl, rfl⟩ := h1
    have hg : g < W.heap.size := by
      by_cases hlt : g < W.heap.size
      · exact hlt
      · rw [Array.getElem?_eq_none (by omega)] at h3; cases h3
    refine .inr ⟨g, rfl, hg, h4, by unfold maxLen at h5; exact h5, fun q u hu => ?_⟩
    have hlt := (List.getElem?_eq_some_iff.1 hu).1
    rw [dcC_length] at hlt
    exact (h.cellAt q hlt).trans hu
end Go.Proofs.YtacjjkbkhpdhnaaGreatDoor
