/- Closed facts of the row of testselectCertificates, part b (printed by gen_card.py) -/
import Derived.Test.YtdobpmbgngomlaaGreatDoorCards
import Derived.JoinedCond
import Derived.KernelRfl
namespace Go.Proofs.YtdobpmbgngomlaaGreatDoor.testselectCertificatesFacts
set_option maxRecDepth 100000 in
theorem k9 : ((Rows.testselectCertificatesRow.inPlace == Tryz.prog.inPlace 7)) = true := by kernel_rfl
end Go.Proofs.YtdobpmbgngomlaaGreatDoor.testselectCertificatesFacts
