/- Closed facts of the row of compileValid, part b (printed by gen_card.py) -/
import Derived.Test.YtlcfoiapkblheaaGreatDoorCards
import Derived.JoinedCond
import Derived.KernelRfl
namespace Go.Proofs.YtlcfoiapkblheaaGreatDoor.compileValidFacts
set_option maxRecDepth 100000 in
theorem k9 : ((Rows.compileValidRow.inPlace == Tryz.prog.inPlace 11)) = true := by kernel_rfl
end Go.Proofs.YtlcfoiapkblheaaGreatDoor.compileValidFacts
