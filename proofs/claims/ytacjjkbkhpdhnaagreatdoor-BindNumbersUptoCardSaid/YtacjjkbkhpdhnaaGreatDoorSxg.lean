/- What a row holds, and what storing into it gives: two, three or six cells -/
import Derived.Laws.Rows
import Derived.Below
namespace Go.Proofs.YtacjjkbkhpdhnaaGreatDoor
open Go Go.RowKit Go.Proofs

theorem row2 {W : World} {b : Nat} {t : TypeId} {c0 c1 : Value} (h : W.heap[b]? = some (.cells #[c0, c1] t (0, 0))) :
    W.cell? ⟨b, 0, none⟩ = some c0 ∧ W.cell? ⟨b, 1, none⟩ = some c1 ∧ W.frozen? ⟨b, 0, none⟩ = false ∧ W.frozen? ⟨b, 1, none⟩ = false :=
  ⟨cell_of_row W b 0 _ _ (0, 0) h, cell_of_row W b 1 _ _ (0, 0) h, frozen_of_row W b 0 _ _ h, frozen_of_row W b 1 _ _ h⟩
theorem row3 {W : World} {b : Nat} {t : TypeId} {c0 c1 c2 : Value} (h : W.heap[b]? = some (.cells #[c0, c1, c2] t (0, 0))) :
    W.cell? ⟨b, 0, none⟩ = some c0 ∧ W.cell? ⟨b, 1, none⟩ = some c1 ∧ W.cell? ⟨b, 2, none⟩ = some c2 ∧ W.frozen? ⟨b, 0, none⟩ = false ∧ W.frozen? ⟨b, 1, none⟩ = false ∧ W.frozen? ⟨b, 2, none⟩ = false :=
  ⟨cell_of_row W b 0 _ _ (0, 0) h, cell_of_row W b 1 _ _ (0, 0) h, cell_of_row W b 2 _ _ (0, 0) h, frozen_of_row W b 0 _ _ h, frozen_of_row W b 1 _ _ h, frozen_of_row W b 2 _ _ h⟩
theorem row6 {W : World} {b : Nat} {t : TypeId} {c0 c1 c2 c3 c4 c5 : Value} (h : W.heap[b]? = some (.cells #[c0, c1, c2, c3, c4, c5] t (0, 0))) :
    W.cell? ⟨b, 0, none⟩ = some c0 ∧ W.cell? ⟨b, 1, none⟩ = some c1 ∧ W.cell? ⟨b, 2, none⟩ = some c2 ∧ W.cell? ⟨b, 3, none⟩ = some c3 ∧ W.cell? ⟨b, 4, none⟩ = some c4 ∧ W.cell? ⟨b, 5, none⟩ = some c5 ∧
    W.frozen? ⟨b, 0, none⟩ = false ∧ W.frozen? ⟨b, 1, none⟩ = false ∧ W.frozen? ⟨b, 2, none⟩ = false ∧ W.frozen? ⟨b, 3, none⟩ = false ∧ W.frozen? ⟨b, 4, none⟩ = false ∧ W.frozen? ⟨b, 5, none⟩ = false :=
  ⟨cell_of_row W b 0 _ _ (0, 0) h, cell_of_row W b 1 _ _ (0, 0) h, cell_of_row W b 2 _ _ (0, 0) h, cell_of_row W b 3 _ _ (0, 0) h, cell_of_row W b 4 _ _ (0, 0) h, cell_of_row W b 5 _ _ (0, 0) h, frozen_of_row W b 0 _ _ h, frozen_of_row W b 1 _ _ h, frozen_of_row W b 2 _ _ h, frozen_of_row W b 3 _ _ h, frozen_of_row W b 4 _ _ h, frozen_of_row W b 5 _ _ h⟩
theorem out2 {n b : Nat} {w W : World} {t : TypeId} {u0 u1 : Value} (hs : ((W.setCell ⟨b, 0, none⟩ u0).setCell ⟨b, 1, none⟩ u1).heap[b]? = some (.cells #[u0, u1] t (0, 0))) (hb : Below n w W) (hn : n ≤ b) :
    ∃ V, (W.setCell ⟨b, 0, none⟩ u0).setCell ⟨b, 1, none⟩ u1 = V ∧ V.cell? ⟨b, 0, none⟩ = some u0 ∧ V.cell? ⟨b, 1, none⟩ = some u1 ∧ Below n w V ∧ V.heap.size = W.heap.size ∧ ∀ k, k ≠ b → V.heap[k]? = W.heap[k]? :=
  ⟨_, rfl, cell_of_row _ b 0 _ _ (0, 0) hs, cell_of_row _ b 1 _ _ (0, 0) hs, (hb.setCell hn _).setCell hn _, by simp [World.setCell], fun k hk => (heap_setCell_other _ _ _ _ hk).trans (heap_setCell_other _ _ _ _ hk)⟩
theorem out3 {n b : Nat} {w W : World} {t : TypeId} {u0 u1 u2 : Value} (hs : (((W.setCell ⟨b, 0, none⟩ u0).setCell ⟨b, 1, none⟩ u1).setCell ⟨b, 2, none⟩ u2).heap[b]? = some (.cells #[u0, u1, u2] t (0, 0))) (hb : Below n w W) (hn : n ≤ b) :
    ∃ V, ((W.setCell ⟨b, 0, none⟩ u0).setCell ⟨b, 1, none⟩ u1).setCell ⟨b, 2, none⟩ u2 = V ∧ V.cell? ⟨b, 0, none⟩ = some u0 ∧ V.cell? ⟨b, 1, none⟩ = some u1 ∧ V.cell? ⟨b, 2, none⟩ = some u2 ∧ Below n w V ∧ V.heap.size = W.heap.size ∧ ∀ k, k ≠ b → V.heap[k]? = W.heap[k]? :=
  ⟨_, rfl, cell_of_row _ b 0 _ _ (0, 0) hs, cell_of_row _ b 1 _ _ (0, 0) hs, cell_of_row _ b 2 _ _ (0, 0) hs, ((hb.setCell hn _).setCell hn _).setCell hn _, by simp [World.setCell], fun k hk => (heap_setCell_other _ _ _ _ hk).trans ((heap_setCell_other _ _ _ _ hk).trans (heap_setCell_other _ _ _ _ hk))⟩
theorem out6 {n b : Nat} {w W : World} {t : TypeId} {u0 u1 u2 u3 u4 u5 : Value} (hs : ((((((W.setCell ⟨b, 0, none⟩ u0).setCell ⟨b, 1, none⟩ u1).setCell ⟨b, 2, none⟩ u2).setCell ⟨b, 3, none⟩ u3).setCell ⟨b, 4, none⟩ u4).setCell ⟨b, 5, none⟩ u5).heap[b]? = some (.cells #[u0, u1, u2, u3, u4, u5] t (0, 0))) (hb : Below n w W) (hn : n ≤ b) :
    ∃ V, (((((W.setCell ⟨b, 0, none⟩ u0).setCell ⟨b, 1, none⟩ u1).setCell ⟨b, 2, none⟩ u2).setCell ⟨b, 3, none⟩ u3).setCell ⟨b, 4, none⟩ u4).setCell ⟨b, 5, none⟩ u5 = V ∧ V.cell? ⟨b, 0, none⟩ = some u0 ∧ V.cell? ⟨b, 1, none⟩ = some u1 ∧ V.cell? ⟨b, 2, none⟩ = some u2 ∧ V.cell? ⟨b, 3, none⟩ = some u3 ∧ V.cell? ⟨b, 4, none⟩ = some u4 ∧ V.cell? ⟨b, 5, none⟩ = some u5 ∧ Below n w V ∧ V.heap.size = W.heap.size ∧ ∀ k, k ≠ b → V.heap[k]? = W.heap[k]? :=
  ⟨_, rfl, cell_of_row _ b 0 _ _ (0, 0) hs, cell_of_row _ b 1 _ _ (0, 0) hs, cell_of_row _ b 2 _ _ (0, 0) hs, cell_of_row _ b 3 _ _ (0, 0) hs, cell_of_row _ b 4 _ _ (0, 0) hs, cell_of_row _ b 5 _ _ (0, 0) hs, (((((hb.setCell hn _).setCell hn _).setCell hn _).setCell hn _).setCell hn _).setCell hn _, by simp [World.setCell],
    fun k hk => (heap_setCell_other _ _ _ _ hk).trans ((heap_setCell_other _ _ _ _ hk).trans ((heap_setCell_other _ _ _ _ hk).trans ((heap_setCell_other _ _ _ _ hk).trans ((heap_setCell_other _ _ _ _ hk).trans (heap_setCell_other _ _ _ _ hk)))))⟩
end Go.Proofs.YtacjjkbkhpdhnaaGreatDoor
