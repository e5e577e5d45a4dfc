/- CompileRefusals: the memory of its loops -/
import Derived.Test.YtlcfoiapkblheaaGreatDoorRfd
import Derived.Test.YtlcfoiapkblheaaGreatDoorMpe
namespace Go.Proofs.YtlcfoiapkblheaaGreatDoor
open Go.RowKit Go.Proofs Go.Shelf

/-- The set of ids, the set of uses, the module's box, all else as it was. -/
def Rg (ob : Obj) (nb : Nat) (w : World) (us : List ByteArray) (Li : List Int) (X : World) : Prop :=
  SetK X 3 (nb + 1) (Li.map keyI) ∧ SetK X 9 (nb + 1 + 1) (us.map keyS) ∧ X.heap[w.heap.size]? = some ob ∧ Below w.heap.size w X ∧ nb + 1 + 1 < X.heap.size
variable {ob : Obj} {nb : Nat} {w X Y : World} {us Ln : List ByteArray} {Li : List Int}
theorem Rg.below (h : Rg ob nb w us Li X) (hw : w.heap.size < nb) (hb : Below X.heap.size X Y) : Rg ob nb w us Li Y := by
  obtain ⟨h1, h2, h3, h4, h5⟩ := h
  have hz := hb.size
  exact ⟨h1.keep (hb.block _ (by omega)), h2.keep (hb.block _ (by omega)), (hb.block _ (by omega)).trans h3, h4.trans (hb.mono (by omega)), by omega⟩
theorem Rg.drew (h : Rg ob nb w us Li X) : Rg ob nb w us Li X.drew := ⟨h.1, h.2.1, h.2.2.1, Below.drew h.2.2.2.1, h.2.2.2.2⟩
theorem Rg.grown (h : Rg ob nb w us Li X) (hw : w.heap.size < nb) (hg : X.grownBy Y (some nb)) : Rg ob nb w us Li Y := by
  obtain ⟨h1, h2, h3, h4, h5⟩ := h
  have hz := hg.size
  exact ⟨h1.keep (hg.block _ (by omega) (by simp)), h2.keep (hg.block _ (by omega) (by simp; omega)), (hg.block _ (by omega) (by simp; omega)).trans h3, h4.grown hg (by omega) (fun q hq => by cases hq; omega), by omega⟩
theorem Rg.setI (h : Rg ob nb w us Li X) (hw : w.heap.size < nb) (hg : X.grownBy Y (some (nb + 1))) {Li' : List Int} (hs : SetK Y 3 (nb + 1) (Li'.map keyI)) : Rg ob nb w us Li' Y := by
  obtain ⟨h1, h2, h3, h4, h5⟩ := h
  have hz := hg.size
  exact ⟨hs, h2.keep (hg.block _ (by omega) (by simp)), (hg.block _ (by omega) (by simp; omega)).trans h3, h4.grown hg (by omega) (fun q hq => by cases hq; omega), by omega⟩

/-- The three orders in which the two sets get a member each. -/
theorem rf_orders (hn : SetK X 9 nb (Ln.map keyS)) (h : Rg ob nb w us Li X) (hw : w.heap.size < nb) {nm : ByteArray} (hs : nm.size ≤ maxLen) {id : Int} (hid : (Lit.int .i64 id).wf = true) (hLn : Ln.length < 1000) (hLi : Li.length < 1000) :
    ∃ (v0 : Value) (st : Nat) (Xa Xb Xc Xd : World) (v1 : Value) (st1 : Nat) (Xe F1 F2 F3 : World),
      (Instr.mapEntry 37 (.map (some nb)) (.string nm)).run Tryz.prog X = .ok (.tuple #[v0, .int .i64 st]) Xa ∧ (Instr.entryStore 37 (.map (some nb)) (.int .i64 st) (.bool true)).run Tryz.prog Xa = .ok () Xb ∧
      (Instr.mapUpdate 38 (.map (some (nb + 1))) (.int .i64 id) (.bool true)).run Tryz.prog Xb = .ok () F1 ∧
      (Instr.mapUpdate 38 (.map (some (nb + 1))) (.int .i64 id) (.bool true)).run Tryz.prog Xa = .ok () Xc ∧ (Instr.entryStore 37 (.map (some nb)) (.int .i64 st) (.bool true)).run Tryz.prog Xc = .ok () F2 ∧
      (Instr.mapUpdate 38 (.map (some (nb + 1))) (.int .i64 id) (.bool true)).run Tryz.prog X = .ok () Xd ∧ (Instr.mapEntry 37 (.map (some nb)) (.string nm)).run Tryz.prog Xd = .ok (.tuple #[v1, .int .i64 st1]) Xe ∧ (Instr.entryStore 37 (.map (some nb)) (.int .i64 st1) (.bool true)).run Tryz.prog Xe = .ok () F3 ∧
      (X.grownBy Xa (some nb) ∧ Xa.grownBy Xb (some nb) ∧ X.grownBy Xd (some (nb + 1))) ∧
      (SetK F1 9 nb ((Ln ++ [nm]).map keyS) ∧ Rg ob nb w us (Li ++ [id]) F1) ∧ (SetK F2 9 nb ((Ln ++ [nm]).map keyS) ∧ Rg ob nb w us (Li ++ [id]) F2) ∧ (SetK F3 9 nb ((Ln ++ [nm]).map keyS) ∧ Rg ob nb w us (Li ++ [id]) F3) := by
  have eN : (Ln ++ [nm]).map keyS = Ln.map keyS ++ [keyS nm] := by simp
  have eI : (Li ++ [id]).map keyI = Li.map keyI ++ [keyI id] := by simp
  have lN : (Ln.map keyS).length < 1000000 := by rw [List.length_map]; omega
  have lI : (Li.map keyI).length < 1000000 := by rw [List.length_map]; omega
  obtain ⟨v0, st, Xa, e1, ga, hst⟩ := hn.entry hs lN
  have ra := h.grown hw ga
  obtain ⟨Xb, s1, setb, gb⟩ := hst Xa rfl
  have rb := ra.grown hw gb
  obtain ⟨F1, u1, setF1, gF1⟩ := rb.1.add intKeyed Tryz.underlying38 (keyI_of hid) lI
  obtain ⟨Xc, u2, setc, gc⟩ := ra.1.add intKeyed Tryz.underlying38 (keyI_of hid) lI
  have rc := ra.setI hw gc (Li' := Li ++ [id]) (by rw [eI]; exact setc)
  have hza := ga.size
  have hzx := hn.lt
  obtain ⟨F2, s2, setF2, gF2⟩ := hst Xc (gc.block nb (by omega) (by simp))
  obtain ⟨Xd, u3, setd, gd⟩ := h.1.add intKeyed Tryz.underlying38 (keyI_of hid) lI
  have rd := h.setI hw gd (Li' := Li ++ [id]) (by rw [eI]; exact setd)
  obtain ⟨v1, st1, Xe, e3, ge, hst3⟩ := (hn.keep (gd.block nb (by omega) (by simp))).entry hs lN
  obtain ⟨F3, s3, setF3, gF3⟩ := hst3 Xe rfl
  have hzb := gb.size
  refine ⟨v0, st, Xa, Xb, Xc, Xd, v1, st1, Xe, F1, F2, F3, e1, s1, u1, u2, s2, u3, e3, s3, ⟨ga, gb, gd⟩, ⟨?_, ?_⟩, ⟨?_, ?_⟩, ⟨?_, ?_⟩⟩
  · rw [eN]; exact setb.keep (gF1.block nb (by omega) (by simp))
  · exact rb.setI hw gF1 (by rw [eI]; exact setF1)
  · rw [eN]; exact setF2
  · exact rc.grown hw gF2
  · rw [eN]; exact setF3
  · exact (rd.grown hw ge).grown hw gF3
end Go.Proofs.YtlcfoiapkblheaaGreatDoor
