/- What a module is like that is not great -/
import Derived.Test.YtacjjkbkhpdhnaaGreatDoorZmg
import Derived.Test.YtacjjkbkhpdhnaaGreatDoorZll
namespace Go.Proofs.YtacjjkbkhpdhnaaGreatDoor
open Go.RowKit Go.Proofs Go.Shelf
theorem short_of' : ∀ s : Fo, s.longB = false → s.Short
  | .nil, _ => trivial
  | .cons _ n m _ _ _ _ s r, h => by
    simp only [Fo.longB, Bool.or_eq_false_iff, decide_eq_false_iff_not] at h
    exact ⟨⟨by omega, by omega⟩, short_of' s h.1.2, short_of' r h.2⟩
theorem small_mod' {label : ByteArray} {uses : List ByteArray} {decls : List Dc} (hg : greatM label uses decls = false) (hc : ∀ x ∈ decls, x.s.count ≤ 2000000) : ModS label uses decls ∧ ∀ x ∈ decls, x.s.count ≤ 39 := by
  simp only [greatM, greatU, greatD, Bool.or_eq_false_iff, decide_eq_false_iff_not, List.any_eq_false] at hg
  obtain ⟨⟨h1, _, h2⟩, _, h3⟩ := hg
  have hx : ∀ x ∈ decls, x.Sht ∧ x.s.count ≤ 39 := fun x hx => by
    have h := h3 x hx
    simp only [greatD1, greatE, greatN, Bool.or_eq_true, not_or, decide_eq_true_eq, List.any_eq_true, not_exists, not_and, Bool.not_eq_true] at h
    obtain ⟨⟨_, hn, hl⟩, hnm⟩ := h
    have hcx := hc x hx
    have hw : wrap64 (1 + (x.s.count : Int)) = 1 + x.s.count := wrap64_small (by omega) (by omega)
    rw [hw] at hn
    obtain ⟨⟨hl1, hl2⟩, hl3⟩ := hl
    refine ⟨⟨⟨by omega, by omega⟩, short_of' x.s hl3, by omega, fun s hs => ?_⟩, by omega⟩
    have := hnm s hs
    omega
  refine ⟨⟨by omega, fun s hs => ?_, fun x h => (hx x h).1⟩, fun x h => (hx x h).2⟩
  have := h2 s hs
  simp only [decide_eq_true_eq] at this
  omega
end Go.Proofs.YtacjjkbkhpdhnaaGreatDoor
