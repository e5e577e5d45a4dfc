/- Closed facts of the row of bindCheck, part d (printed by gen_card.py) -/
import Derived.Test.YtacjjkbkhpdhnaaGreatDoorCards
import Derived.JoinedCond
import Derived.KernelRfl
namespace Go.Proofs.YtacjjkbkhpdhnaaGreatDoor.bindCheckFacts
set_option maxRecDepth 100000 in
theorem k11 : ((Rows.bindCheckUptoRow.recurses == Tryz.prog.recurses 3)) = true := by kernel_rfl
end Go.Proofs.YtacjjkbkhpdhnaaGreatDoor.bindCheckFacts
