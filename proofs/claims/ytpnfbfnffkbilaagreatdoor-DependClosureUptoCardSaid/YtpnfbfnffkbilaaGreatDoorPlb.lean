/- Closed facts of the row of dependClosure, part b (printed by gen_card.py) -/
import Derived.Test.YtpnfbfnffkbilaaGreatDoorCards
import Derived.JoinedCond
import Derived.KernelRfl
namespace Go.Proofs.YtpnfbfnffkbilaaGreatDoor.dependClosureFacts
set_option maxRecDepth 100000 in
theorem k9 : ((Rows.dependClosureUptoRow.inPlace == Tryz.prog.inPlace 5)) = true := by kernel_rfl
end Go.Proofs.YtpnfbfnffkbilaaGreatDoor.dependClosureFacts
