/- Closed facts of the row of bindRoundTrip, part f (printed by gen_card.py) -/
import Derived.Test.YtacjjkbkhpdhnaaGreatDoorBta
import Derived.Test.YtacjjkbkhpdhnaaGreatDoorBtb
import Derived.Test.YtacjjkbkhpdhnaaGreatDoorBtc
import Derived.Test.YtacjjkbkhpdhnaaGreatDoorBtd
import Derived.Test.YtacjjkbkhpdhnaaGreatDoorBte
namespace Go.Proofs.YtacjjkbkhpdhnaaGreatDoor.bindRoundTripFacts
theorem and_t {a b : Bool} (h : a = true) (k : b = true) : (a && b) = true := by rw [h, k]; rfl
set_option maxRecDepth 100000 in
theorem closed : joinedFacts Tryz.prog 6 Tryz.f6 Rows.bindRoundTripSpec Rows.bindRoundTripRow = true := (and_t (and_t (and_t (and_t (and_t (and_t (and_t (and_t (and_t (and_t (and_t (and_t (and_t (and_t (and_t (and_t (and_t (and_t (and_t (and_t (and_t (and_t (and_t (and_t (and_t (and_t (and_t (and_t (and_t (and_t (and_t k0 k1) k2) k3) k4) k5) k6) k7) k8) k9) k10) k11) k12) k13) k14) k15) k16) k17) k18) k19) k20) k21) k22) k23) k24) k25) k26) k27) k28) k29) k30) k31)
end Go.Proofs.YtacjjkbkhpdhnaaGreatDoor.bindRoundTripFacts
