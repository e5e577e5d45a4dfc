/- Closed facts of the row of dependNames, part e (printed by gen_card.py) -/
import Derived.Test.YtdobpmbgngomlaaGreatDoorCards
import Derived.JoinedCond
import Derived.KernelRfl
namespace Go.Proofs.YtdobpmbgngomlaaGreatDoor.dependNamesFacts
set_option maxRecDepth 100000 in
theorem k12 : ((Rows.dependNamesRow.named == Tryz.prog.varsNamed 9)) = true := by kernel_rfl
end Go.Proofs.YtdobpmbgngomlaaGreatDoor.dependNamesFacts
