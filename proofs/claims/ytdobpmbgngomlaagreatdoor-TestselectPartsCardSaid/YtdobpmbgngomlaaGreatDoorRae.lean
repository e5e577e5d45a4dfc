/- Closed facts of the row of testselectParts, part e (printed by gen_card.py) -/
import Derived.Test.YtdobpmbgngomlaaGreatDoorCards
import Derived.JoinedCond
import Derived.KernelRfl
namespace Go.Proofs.YtdobpmbgngomlaaGreatDoor.testselectPartsFacts
set_option maxRecDepth 100000 in
theorem k12 : ((Rows.testselectPartsRow.named == Tryz.prog.varsNamed 6)) = true := by kernel_rfl
end Go.Proofs.YtdobpmbgngomlaaGreatDoor.testselectPartsFacts
