/- Closed facts of the row of testselectCertificates, part c (printed by gen_card.py) -/
import Derived.Test.YtdobpmbgngomlaaGreatDoorCards
import Derived.JoinedCond
import Derived.KernelRfl
namespace Go.Proofs.YtdobpmbgngomlaaGreatDoor.testselectCertificatesFacts
set_option maxRecDepth 100000 in
theorem k10 : ((Rows.testselectCertificatesRow.unfollowed == Tryz.prog.unfollowed 7)) = true := by kernel_rfl
end Go.Proofs.YtdobpmbgngomlaaGreatDoor.testselectCertificatesFacts
