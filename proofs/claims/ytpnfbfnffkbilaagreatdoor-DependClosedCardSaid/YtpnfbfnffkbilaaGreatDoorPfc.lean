/- Closed facts of the row of dependClosed, part c (printed by gen_card.py) -/
import Derived.Test.YtpnfbfnffkbilaaGreatDoorCards
import Derived.JoinedCond
import Derived.KernelRfl
namespace Go.Proofs.YtpnfbfnffkbilaaGreatDoor.dependClosedFacts
set_option maxRecDepth 100000 in
theorem k10 : ((Rows.dependClosedRow.unfollowed == Tryz.prog.unfollowed 4)) = true := by kernel_rfl
end Go.Proofs.YtpnfbfnffkbilaaGreatDoor.dependClosedFacts
