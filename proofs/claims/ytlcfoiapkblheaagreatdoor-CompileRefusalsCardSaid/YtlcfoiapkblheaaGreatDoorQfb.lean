/- Closed facts of the row of compileRefusals, part b (printed by gen_card.py) -/
import Derived.Test.YtlcfoiapkblheaaGreatDoorCards
import Derived.JoinedCond
import Derived.KernelRfl
namespace Go.Proofs.YtlcfoiapkblheaaGreatDoor.compileRefusalsFacts
set_option maxRecDepth 100000 in
theorem k9 : ((Rows.compileRefusalsRow.inPlace == Tryz.prog.inPlace 4)) = true := by kernel_rfl
end Go.Proofs.YtlcfoiapkblheaaGreatDoor.compileRefusalsFacts
