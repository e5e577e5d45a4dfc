/- Closed facts of the row of compileEncoding, part c (printed by gen_card.py) -/
import Derived.Test.YtlpipoihinceiaaGreatDoorCards
import Derived.JoinedCond
import Derived.KernelRfl
namespace Go.Proofs.YtlpipoihinceiaaGreatDoor.compileEncodingFacts
set_option maxRecDepth 100000 in
theorem k10 : ((Rows.compileEncodingRow.unfollowed == Tryz.prog.unfollowed 9)) = true := by kernel_rfl
end Go.Proofs.YtlpipoihinceiaaGreatDoor.compileEncodingFacts
