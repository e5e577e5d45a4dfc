/- Closed facts of the row of dependOutside, part e (printed by gen_card.py) -/
import Derived.Test.YtdobpmbgngomlaaGreatDoorCards
import Derived.JoinedCond
import Derived.KernelRfl
namespace Go.Proofs.YtdobpmbgngomlaaGreatDoor.dependOutsideFacts
set_option maxRecDepth 100000 in
theorem k12 : ((Rows.dependOutsideRow.named == Tryz.prog.varsNamed 3)) = true := by kernel_rfl
end Go.Proofs.YtdobpmbgngomlaaGreatDoor.dependOutsideFacts
