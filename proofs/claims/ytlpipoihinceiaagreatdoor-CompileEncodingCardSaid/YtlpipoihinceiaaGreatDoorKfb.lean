/- Closed facts of the row of compileEncoding, part b (printed by gen_card.py) -/
import Derived.Test.YtlpipoihinceiaaGreatDoorCards
import Derived.JoinedCond
import Derived.KernelRfl
namespace Go.Proofs.YtlpipoihinceiaaGreatDoor.compileEncodingFacts
set_option maxRecDepth 100000 in
theorem k9 : ((Rows.compileEncodingRow.inPlace == Tryz.prog.inPlace 9)) = true := by kernel_rfl
end Go.Proofs.YtlpipoihinceiaaGreatDoor.compileEncodingFacts
