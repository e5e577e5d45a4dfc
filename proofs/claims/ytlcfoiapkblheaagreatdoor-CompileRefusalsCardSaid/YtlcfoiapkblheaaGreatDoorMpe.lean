/- sets: an entry that is taken first and stored later -/
import Derived.Test.YtlcfoiapkblheaaGreatDoorGkv
import Derived.WideKeyEntry
import Derived.ChangeMaps5
namespace Go.Proofs.YtlcfoiapkblheaaGreatDoor
open Go.RowKit Go.Proofs Go.Shelf
open Go.ChangeMaps (setBlock heap_setBlock_same heap_setBlock_other)

theorem grown_setBlock {w : World} {b : Nat} {es : Array MapEntry} {clock : Nat} (hb : w.heap[b]? = some (.map es clock)) (o : Obj) : w.grownBy (setBlock w b o) (some b) :=
  ⟨rfl, rfl, rfl, by simp [setBlock], fun i _ hne => heap_setBlock_other hb o (fun e => hne (by rw [e]))⟩
theorem SetK.entry {w : World} {b : Nat} {L : List Lit} (h : SetK w 9 b L) {s : ByteArray} (hs : s.size ≤ maxLen) (hL : L.length < 1000000) :
    ∃ (v0 : Value) (st : Nat) (w1 : World), (Instr.mapEntry 37 (.map (some b)) (.string s)).run Tryz.prog w = .ok (.tuple #[v0, .int .i64 st]) w1 ∧ w.grownBy w1 (some b) ∧
      ∀ w2 : World, w2.heap[b]? = w1.heap[b]? → ∃ w3, (Instr.entryStore 37 (.map (some b)) (.int .i64 st) (.bool true)).run Tryz.prog w2 = .ok () w3 ∧ SetK w3 9 b (L ++ [keyS s]) ∧ w2.grownBy w3 (some b) := by
  obtain ⟨w', hrun, hset, hg⟩ := h.add strKeyed Tryz.underlying37 (keyS_of hs) hL
  obtain ⟨n, D, ⟨es, clock, hb, F, hsz, hD⟩, hrest⟩ := h
  obtain ⟨v0, st, es1, clock1, he, _, hst⟩ := WideElems.entry_then_store (WideMaps.string_law Tryz.underlying9) Tryz.underlying37 zeroBool hb F (keyS_of hs)
  refine ⟨v0, st, _, he, grown_setBlock hb _, fun w2 hw2 => ?_⟩
  have hb2 : w2.heap[b]? = some (.map es1 clock1) := hw2.trans (heap_setBlock_same hb _)
  obtain ⟨es', clock', h1, h2⟩ := hst w2 (.bool true) hb2
  refine ⟨_, h1, ?_, grown_setBlock hb2 _⟩
  have e : w' = setBlock w b (.map es' clock') := by
    rw [hrun] at h2
    injection h2
  exact hset.keep (by rw [e, heap_setBlock_same hb, heap_setBlock_same hb2])
end Go.Proofs.YtlcfoiapkblheaaGreatDoor
