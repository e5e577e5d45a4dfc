/- Closed facts of the row of compileRefusals, part e (printed by gen_card.py) -/
import Derived.Test.YtlcfoiapkblheaaGreatDoorCards
import Derived.JoinedCond
import Derived.KernelRfl
namespace Go.Proofs.YtlcfoiapkblheaaGreatDoor.compileRefusalsFacts
set_option maxRecDepth 100000 in
theorem k12 : ((Rows.compileRefusalsRow.named == Tryz.prog.varsNamed 4)) = true := by kernel_rfl
end Go.Proofs.YtlcfoiapkblheaaGreatDoor.compileRefusalsFacts
