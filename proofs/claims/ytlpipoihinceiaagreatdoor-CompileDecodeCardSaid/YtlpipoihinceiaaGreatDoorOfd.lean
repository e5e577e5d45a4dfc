/- Closed facts of the row of compileDecode, part d (printed by gen_card.py) -/
import Derived.Test.YtlpipoihinceiaaGreatDoorCards
import Derived.JoinedCond
import Derived.KernelRfl
namespace Go.Proofs.YtlpipoihinceiaaGreatDoor.compileDecodeFacts
set_option maxRecDepth 100000 in
theorem k11 : ((Rows.compileDecodeRow.recurses == Tryz.prog.recurses 7)) = true := by kernel_rfl
end Go.Proofs.YtlpipoihinceiaaGreatDoor.compileDecodeFacts
