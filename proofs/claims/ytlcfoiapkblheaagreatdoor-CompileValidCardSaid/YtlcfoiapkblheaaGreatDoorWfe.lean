/- Closed facts of the row of compileValid, part e (printed by gen_card.py) -/
import Derived.Test.YtlcfoiapkblheaaGreatDoorCards
import Derived.JoinedCond
import Derived.KernelRfl
namespace Go.Proofs.YtlcfoiapkblheaaGreatDoor.compileValidFacts
set_option maxRecDepth 100000 in
theorem k12 : ((Rows.compileValidRow.named == Tryz.prog.varsNamed 11)) = true := by kernel_rfl
end Go.Proofs.YtlcfoiapkblheaaGreatDoor.compileValidFacts
