/- Closed facts of the row of compileCheck, part b (printed by gen_card.py) -/
import Derived.Test.YtlpipoihinceiaaGreatDoorCards
import Derived.JoinedCond
import Derived.KernelRfl
namespace Go.Proofs.YtlpipoihinceiaaGreatDoor.compileCheckFacts
set_option maxRecDepth 100000 in
theorem k9 : ((Rows.compileCheckRow.inPlace == Tryz.prog.inPlace 8)) = true := by kernel_rfl
end Go.Proofs.YtlpipoihinceiaaGreatDoor.compileCheckFacts
