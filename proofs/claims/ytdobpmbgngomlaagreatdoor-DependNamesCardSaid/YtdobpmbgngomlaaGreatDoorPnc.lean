/- Closed facts of the row of dependNames, part c (printed by gen_card.py) -/
import Derived.Test.YtdobpmbgngomlaaGreatDoorCards
import Derived.JoinedCond
import Derived.KernelRfl
namespace Go.Proofs.YtdobpmbgngomlaaGreatDoor.dependNamesFacts
set_option maxRecDepth 100000 in
theorem k10 : ((Rows.dependNamesRow.unfollowed == Tryz.prog.unfollowed 9)) = true := by kernel_rfl
end Go.Proofs.YtdobpmbgngomlaaGreatDoor.dependNamesFacts
