/- Closed facts of the row of dependKey, part d (printed by gen_card.py) -/
import Derived.Test.YtpnfbfnffkbilaaGreatDoorCards
import Derived.JoinedCond
import Derived.KernelRfl
namespace Go.Proofs.YtpnfbfnffkbilaaGreatDoor.dependKeyFacts
set_option maxRecDepth 100000 in
theorem k11 : ((Rows.dependKeyUptoRow.recurses == Tryz.prog.recurses 6)) = true := by kernel_rfl
end Go.Proofs.YtpnfbfnffkbilaaGreatDoor.dependKeyFacts
