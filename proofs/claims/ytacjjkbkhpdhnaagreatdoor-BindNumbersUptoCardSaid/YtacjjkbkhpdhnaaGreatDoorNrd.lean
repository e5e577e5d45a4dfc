/- ref24.Number -/
import Derived.Test.YtacjjkbkhpdhnaaGreatDoorSrd
import Derived.Test.YtacjjkbkhpdhnaaGreatDoorZna
import Derived.Test.YtacjjkbkhpdhnaaGreatDoorNmp
import Derived.Test.YtacjjkbkhpdhnaaGreatDoorZqg
namespace Go.Proofs.YtacjjkbkhpdhnaaGreatDoor
open Go Go.RowKit Go.Proofs Go.Shelf
theorem OwnD.row {W : World} {A : Option Addr} {c : Nat} {l : List Dc} (h : OwnD W A c l) (hne : l ≠ []) : ∃ g, A = some ⟨g, 0, none⟩ ∧ g < W.heap.size ∧ l.length ≤ c ∧ c ≤ maxLen ∧ RowD W g l := by
  rcases h.cells with ⟨h0, _⟩ | ⟨g, rfl, hg, h1, h2, _⟩
  · exact absurd h0 hne
  · exact ⟨g, rfl, hg, h1, by unfold maxLen; omega, RowD.of_own (cap := c) h⟩
end Go.Proofs.YtacjjkbkhpdhnaaGreatDoor
