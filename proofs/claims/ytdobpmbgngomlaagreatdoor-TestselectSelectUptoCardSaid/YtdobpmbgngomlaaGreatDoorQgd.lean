/- Closed facts of the row of testselectSelect, part d (printed by gen_card.py) -/
import Derived.Test.YtdobpmbgngomlaaGreatDoorCards
import Derived.JoinedCond
import Derived.KernelRfl
namespace Go.Proofs.YtdobpmbgngomlaaGreatDoor.testselectSelectFacts
set_option maxRecDepth 100000 in
theorem k11 : ((Rows.testselectSelectUptoRow.recurses == Tryz.prog.recurses 4)) = true := by kernel_rfl
end Go.Proofs.YtdobpmbgngomlaaGreatDoor.testselectSelectFacts
