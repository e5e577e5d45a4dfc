/- CompileRefusals: the row's step -/
import Derived.Test.YtlcfoiapkblheaaGreatDoorShl
import Derived.Test.YtlcfoiapkblheaaGreatDoorLrf
namespace Go.Proofs.YtlcfoiapkblheaaGreatDoor.compileRefusals
open Go.ChangeShapes Go.WideShapes Go.ChangeAt Go.RowKit

set_option maxRecDepth 100000 in
theorem lifted (os : Os) (started : os.Started) (H : Type) (enc : TypeId × Value → H) (F : Stop.Interp) :
    ReturnsInHanded {} Tryz.checked os 4 .any ((OpenSpec.ofChange Rows.compileRefusalsSpec).preRow enc Tryz.prog Tryz.f4 Rows.compileRefusalsRow.domain false Rows.compileRefusalsRow.laid) (((OpenSpec.ofChange Rows.compileRefusalsSpec).at F).post enc Tryz.prog Tryz.f4 false true false false) := by
  have hx : ∃ places, DataW.whole enc Tryz.prog ((laidWorld os).forCall (fun _ _ => 0) ⟨#[], argM, []⟩).memory Tryz.f4.params.toList Rows.compileRefusalsSpec.vars false argM.toList 8 = some ([.agg [.lit (.string []), .nil, .nil]], [], places) := ⟨[], by kernel_rfl⟩
  obtain ⟨places, hx⟩ := hx
  refine returnsInHanded_of_row (C := Tryz.checked) (s := OpenSpec.ofChange Rows.compileRefusalsSpec) Tryz.own started (by kernel_rfl) Tryz.func4
    (witness_row_at (enc := enc) (C := Tryz.checked) false (laidWorld os) argM rfl (by kernel_rfl) (by kernel_rfl) (by kernel_rfl)
      (OpenSpec.preRow_of_cond 8 hx (by kernel_rfl) (fun k hk => by cases hk) (by kernel_rfl) (laid_met os))) ?_
  intro W base args ds gs before hval hW _ _ _ _ _ _
  exact contract1 (fn := Tryz.f4) (s := Rows.compileRefusalsSpec) Tryz.params4 (by kernel_rfl) rfl (fun _ => rfl) (fun label uses uA uc decls dA dc w hu hd hus _ => lawRefusals_any label uses uA uc decls dA dc w hu hd hus) W base args ds gs before hval hW

end Go.Proofs.YtlcfoiapkblheaaGreatDoor.compileRefusals
