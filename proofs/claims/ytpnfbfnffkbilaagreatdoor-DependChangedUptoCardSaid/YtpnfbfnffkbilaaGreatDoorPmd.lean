/- Closed facts of the row of dependChanged, part d (printed by gen_card.py) -/
import Derived.Test.YtpnfbfnffkbilaaGreatDoorCards
import Derived.JoinedCond
import Derived.KernelRfl
namespace Go.Proofs.YtpnfbfnffkbilaaGreatDoor.dependChangedFacts
set_option maxRecDepth 100000 in
theorem k11 : ((Rows.dependChangedUptoRow.recurses == Tryz.prog.recurses 3)) = true := by kernel_rfl
end Go.Proofs.YtpnfbfnffkbilaaGreatDoor.dependChangedFacts
