/- Closed facts of the row of compileEncoding, part d (printed by gen_card.py) -/
import Derived.Test.YtlpipoihinceiaaGreatDoorCards
import Derived.JoinedCond
import Derived.KernelRfl
namespace Go.Proofs.YtlpipoihinceiaaGreatDoor.compileEncodingFacts
set_option maxRecDepth 100000 in
theorem k11 : ((Rows.compileEncodingRow.recurses == Tryz.prog.recurses 9)) = true := by kernel_rfl
end Go.Proofs.YtlpipoihinceiaaGreatDoor.compileEncodingFacts
