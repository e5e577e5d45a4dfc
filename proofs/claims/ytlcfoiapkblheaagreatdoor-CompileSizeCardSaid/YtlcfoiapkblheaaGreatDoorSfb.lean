/- Closed facts of the row of compileSize, part b (printed by gen_card.py) -/
import Derived.Test.YtlcfoiapkblheaaGreatDoorCards
import Derived.JoinedCond
import Derived.KernelRfl
namespace Go.Proofs.YtlcfoiapkblheaaGreatDoor.compileSizeFacts
set_option maxRecDepth 100000 in
theorem k9 : ((Rows.compileSizeRow.inPlace == Tryz.prog.inPlace 5)) = true := by kernel_rfl
end Go.Proofs.YtlcfoiapkblheaaGreatDoor.compileSizeFacts
