/- Closed facts of the row of compileSize, part c (printed by gen_card.py) -/
import Derived.Test.YtlcfoiapkblheaaGreatDoorCards
import Derived.JoinedCond
import Derived.KernelRfl
namespace Go.Proofs.YtlcfoiapkblheaaGreatDoor.compileSizeFacts
set_option maxRecDepth 100000 in
theorem k10 : ((Rows.compileSizeRow.unfollowed == Tryz.prog.unfollowed 5)) = true := by kernel_rfl
end Go.Proofs.YtlcfoiapkblheaaGreatDoor.compileSizeFacts
