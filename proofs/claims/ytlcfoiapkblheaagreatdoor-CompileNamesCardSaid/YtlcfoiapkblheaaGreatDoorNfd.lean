/- Closed facts of the row of compileNames, part d (printed by gen_card.py) -/
import Derived.Test.YtlcfoiapkblheaaGreatDoorCards
import Derived.JoinedCond
import Derived.KernelRfl
namespace Go.Proofs.YtlcfoiapkblheaaGreatDoor.compileNamesFacts
set_option maxRecDepth 100000 in
theorem k11 : ((Rows.compileNamesRow.recurses == Tryz.prog.recurses 6)) = true := by kernel_rfl
end Go.Proofs.YtlcfoiapkblheaaGreatDoor.compileNamesFacts
