/- Closed facts of the row of testselectExact, part b (printed by gen_card.py) -/
import Derived.Test.YtdobpmbgngomlaaGreatDoorCards
import Derived.JoinedCond
import Derived.KernelRfl
namespace Go.Proofs.YtdobpmbgngomlaaGreatDoor.testselectExactFacts
set_option maxRecDepth 100000 in
theorem k9 : ((Rows.testselectExactRow.inPlace == Tryz.prog.inPlace 8)) = true := by kernel_rfl
end Go.Proofs.YtdobpmbgngomlaaGreatDoor.testselectExactFacts
