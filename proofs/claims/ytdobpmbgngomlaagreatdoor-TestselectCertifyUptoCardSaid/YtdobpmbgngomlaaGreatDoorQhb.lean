/- Closed facts of the row of testselectCertify, part b (printed by gen_card.py) -/
import Derived.Test.YtdobpmbgngomlaaGreatDoorCards
import Derived.JoinedCond
import Derived.KernelRfl
namespace Go.Proofs.YtdobpmbgngomlaaGreatDoor.testselectCertifyFacts
set_option maxRecDepth 100000 in
theorem k9 : ((Rows.testselectCertifyUptoRow.inPlace == Tryz.prog.inPlace 5)) = true := by kernel_rfl
end Go.Proofs.YtdobpmbgngomlaaGreatDoor.testselectCertifyFacts
