/- Closed facts of the row of bindRoundTrip, part d (printed by gen_card.py) -/
import Derived.Test.YtacjjkbkhpdhnaaGreatDoorCards
import Derived.JoinedCond
import Derived.KernelRfl
namespace Go.Proofs.YtacjjkbkhpdhnaaGreatDoor.bindRoundTripFacts
set_option maxRecDepth 100000 in
theorem k11 : ((Rows.bindRoundTripRow.recurses == Tryz.prog.recurses 6)) = true := by kernel_rfl
end Go.Proofs.YtacjjkbkhpdhnaaGreatDoor.bindRoundTripFacts
