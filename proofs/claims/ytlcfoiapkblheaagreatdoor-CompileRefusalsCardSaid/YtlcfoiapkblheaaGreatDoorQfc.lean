/- Closed facts of the row of compileRefusals, part c (printed by gen_card.py) -/
import Derived.Test.YtlcfoiapkblheaaGreatDoorCards
import Derived.JoinedCond
import Derived.KernelRfl
namespace Go.Proofs.YtlcfoiapkblheaaGreatDoor.compileRefusalsFacts
set_option maxRecDepth 100000 in
theorem k10 : ((Rows.compileRefusalsRow.unfollowed == Tryz.prog.unfollowed 4)) = true := by kernel_rfl
end Go.Proofs.YtlcfoiapkblheaaGreatDoor.compileRefusalsFacts
