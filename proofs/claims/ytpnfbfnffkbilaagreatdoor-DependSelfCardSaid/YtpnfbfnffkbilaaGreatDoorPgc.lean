/- Closed facts of the row of dependSelf, part c (printed by gen_card.py) -/
import Derived.Test.YtpnfbfnffkbilaaGreatDoorCards
import Derived.JoinedCond
import Derived.KernelRfl
namespace Go.Proofs.YtpnfbfnffkbilaaGreatDoor.dependSelfFacts
set_option maxRecDepth 100000 in
theorem k10 : ((Rows.dependSelfRow.unfollowed == Tryz.prog.unfollowed 8)) = true := by kernel_rfl
end Go.Proofs.YtpnfbfnffkbilaaGreatDoor.dependSelfFacts
