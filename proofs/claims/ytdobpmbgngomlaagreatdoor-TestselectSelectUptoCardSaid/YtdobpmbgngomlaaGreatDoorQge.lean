/- Closed facts of the row of testselectSelect, part e (printed by gen_card.py) -/
import Derived.Test.YtdobpmbgngomlaaGreatDoorCards
import Derived.JoinedCond
import Derived.KernelRfl
namespace Go.Proofs.YtdobpmbgngomlaaGreatDoor.testselectSelectFacts
set_option maxRecDepth 100000 in
theorem k12 : ((Rows.testselectSelectUptoRow.named == Tryz.prog.varsNamed 4)) = true := by kernel_rfl
end Go.Proofs.YtdobpmbgngomlaaGreatDoor.testselectSelectFacts
