/- Closed facts of the row of compileCheck, part c (printed by gen_card.py) -/
import Derived.Test.YtlpipoihinceiaaGreatDoorCards
import Derived.JoinedCond
import Derived.KernelRfl
namespace Go.Proofs.YtlpipoihinceiaaGreatDoor.compileCheckFacts
set_option maxRecDepth 100000 in
theorem k10 : ((Rows.compileCheckRow.unfollowed == Tryz.prog.unfollowed 8)) = true := by kernel_rfl
end Go.Proofs.YtlpipoihinceiaaGreatDoor.compileCheckFacts
