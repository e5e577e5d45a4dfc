/- Closed facts of the row of compileValid, part c (printed by gen_card.py) -/
import Derived.Test.YtlcfoiapkblheaaGreatDoorCards
import Derived.JoinedCond
import Derived.KernelRfl
namespace Go.Proofs.YtlcfoiapkblheaaGreatDoor.compileValidFacts
set_option maxRecDepth 100000 in
theorem k10 : ((Rows.compileValidRow.unfollowed == Tryz.prog.unfollowed 11)) = true := by kernel_rfl
end Go.Proofs.YtlcfoiapkblheaaGreatDoor.compileValidFacts
