/- Closed facts of the row of testselectParts, part c (printed by gen_card.py) -/
import Derived.Test.YtdobpmbgngomlaaGreatDoorCards
import Derived.JoinedCond
import Derived.KernelRfl
namespace Go.Proofs.YtdobpmbgngomlaaGreatDoor.testselectPartsFacts
set_option maxRecDepth 100000 in
theorem k10 : ((Rows.testselectPartsRow.unfollowed == Tryz.prog.unfollowed 6)) = true := by kernel_rfl
end Go.Proofs.YtdobpmbgngomlaaGreatDoor.testselectPartsFacts
