/- Closed facts of the row of testselectExact, part d (printed by gen_card.py) -/
import Derived.Test.YtdobpmbgngomlaaGreatDoorCards
import Derived.JoinedCond
import Derived.KernelRfl
namespace Go.Proofs.YtdobpmbgngomlaaGreatDoor.testselectExactFacts
set_option maxRecDepth 100000 in
theorem k11 : ((Rows.testselectExactRow.recurses == Tryz.prog.recurses 8)) = true := by kernel_rfl
end Go.Proofs.YtdobpmbgngomlaaGreatDoor.testselectExactFacts
