/- law28.awake is true -/
import Derived.Test.YtlpipoihinceiaaGreatDoorGky
import Derived.Test.YtlpipoihinceiaaGreatDoorMdw
namespace Go.Proofs.YtlpipoihinceiaaGreatDoor
open Go.RowKit Go.Proofs Go.Shelf

theorem awake28_any (w : World) : Calls Tryz.prog 34 #[] w fun e w' => e = .returned (.bool true) ∧ Below w.heap.size w w' :=
  awake28_of (fun w x dA h => module_any ⟨#[109]⟩ [] none 0 [x] dA 1 w (SlS.nil _ _ _ _ (by simp [maxLen])) h) w
end Go.Proofs.YtlpipoihinceiaaGreatDoor
