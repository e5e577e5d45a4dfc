/- Closed facts of the row of compileRefusals, part d (printed by gen_card.py) -/
import Derived.Test.YtlcfoiapkblheaaGreatDoorCards
import Derived.JoinedCond
import Derived.KernelRfl
namespace Go.Proofs.YtlcfoiapkblheaaGreatDoor.compileRefusalsFacts
set_option maxRecDepth 100000 in
theorem k11 : ((Rows.compileRefusalsRow.recurses == Tryz.prog.recurses 4)) = true := by kernel_rfl
end Go.Proofs.YtlcfoiapkblheaaGreatDoor.compileRefusalsFacts
