/- Closed facts of the row of testselectCertify, part e (printed by gen_card.py) -/
import Derived.Test.YtdobpmbgngomlaaGreatDoorCards
import Derived.JoinedCond
import Derived.KernelRfl
namespace Go.Proofs.YtdobpmbgngomlaaGreatDoor.testselectCertifyFacts
set_option maxRecDepth 100000 in
theorem k12 : ((Rows.testselectCertifyUptoRow.named == Tryz.prog.varsNamed 5)) = true := by kernel_rfl
end Go.Proofs.YtdobpmbgngomlaaGreatDoor.testselectCertifyFacts
