/- Closed facts of the row of dependOutside, part d (printed by gen_card.py) -/
import Derived.Test.YtdobpmbgngomlaaGreatDoorCards
import Derived.JoinedCond
import Derived.KernelRfl
namespace Go.Proofs.YtdobpmbgngomlaaGreatDoor.dependOutsideFacts
set_option maxRecDepth 100000 in
theorem k11 : ((Rows.dependOutsideRow.recurses == Tryz.prog.recurses 3)) = true := by kernel_rfl
end Go.Proofs.YtdobpmbgngomlaaGreatDoor.dependOutsideFacts
