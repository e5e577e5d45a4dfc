/- Closed facts of the row of dependOutside, part f (printed by gen_card.py) -/
import Derived.Test.YtdobpmbgngomlaaGreatDoorPoa
import Derived.Test.YtdobpmbgngomlaaGreatDoorPob
import Derived.Test.YtdobpmbgngomlaaGreatDoorPoc
import Derived.Test.YtdobpmbgngomlaaGreatDoorPod
import Derived.Test.YtdobpmbgngomlaaGreatDoorPoe
namespace Go.Proofs.YtdobpmbgngomlaaGreatDoor.dependOutsideFacts
theorem and_t {a b : Bool} (h : a = true) (k : b = true) : (a && b) = true := by rw [h, k]; rfl
set_option maxRecDepth 100000 in
theorem closed : joinedFacts Tryz.prog 3 Tryz.f3 Rows.dependOutsideSpec Rows.dependOutsideRow = true := (and_t (and_t (and_t (and_t (and_t (and_t (and_t (and_t (and_t (and_t (and_t (and_t (and_t (and_t (and_t (and_t (and_t (and_t (and_t (and_t (and_t (and_t (and_t (and_t (and_t (and_t (and_t (and_t (and_t (and_t (and_t k0 k1) k2) k3) k4) k5) k6) k7) k8) k9) k10) k11) k12) k13) k14) k15) k16) k17) k18) k19) k20) k21) k22) k23) k24) k25) k26) k27) k28) k29) k30) k31)
end Go.Proofs.YtdobpmbgngomlaaGreatDoor.dependOutsideFacts
