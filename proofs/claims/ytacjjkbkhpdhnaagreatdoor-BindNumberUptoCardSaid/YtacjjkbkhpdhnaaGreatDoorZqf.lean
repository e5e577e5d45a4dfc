/- Closed facts of the row of bindNumber, part b (printed by gen_card.py) -/
import Derived.Test.YtacjjkbkhpdhnaaGreatDoorCards
import Derived.JoinedCond
import Derived.KernelRfl
import Derived.Test.YtacjjkbkhpdhnaaGreatDoorBma
namespace Go.Proofs.YtacjjkbkhpdhnaaGreatDoor.bindNumberFacts
set_option maxRecDepth 100000 in
theorem k9 : ((Rows.bindNumberUptoRow.inPlace == Tryz.prog.inPlace 7)) = true := by kernel_rfl
end Go.Proofs.YtacjjkbkhpdhnaaGreatDoor.bindNumberFacts
/- Closed facts of the row of bindNumber, part c (printed by gen_card.py) -/
namespace Go.Proofs.YtacjjkbkhpdhnaaGreatDoor.bindNumberFacts
set_option maxRecDepth 100000 in
theorem k10 : ((Rows.bindNumberUptoRow.unfollowed == Tryz.prog.unfollowed 7)) = true := by kernel_rfl
end Go.Proofs.YtacjjkbkhpdhnaaGreatDoor.bindNumberFacts
/- Closed facts of the row of bindNumber, part d (printed by gen_card.py) -/
namespace Go.Proofs.YtacjjkbkhpdhnaaGreatDoor.bindNumberFacts
set_option maxRecDepth 100000 in
theorem k11 : ((Rows.bindNumberUptoRow.recurses == Tryz.prog.recurses 7)) = true := by kernel_rfl
end Go.Proofs.YtacjjkbkhpdhnaaGreatDoor.bindNumberFacts
/- Closed facts of the row of bindNumber, part e (printed by gen_card.py) -/
namespace Go.Proofs.YtacjjkbkhpdhnaaGreatDoor.bindNumberFacts
set_option maxRecDepth 100000 in
theorem k12 : ((Rows.bindNumberUptoRow.named == Tryz.prog.varsNamed 7)) = true := by kernel_rfl
end Go.Proofs.YtacjjkbkhpdhnaaGreatDoor.bindNumberFacts
/- Closed facts of the row of bindNumber, part f (printed by gen_card.py) -/
namespace Go.Proofs.YtacjjkbkhpdhnaaGreatDoor.bindNumberFacts
theorem and_t {a b : Bool} (h : a = true) (k : b = true) : (a && b) = true := by rw [h, k]; rfl
set_option maxRecDepth 100000 in
theorem closed : joinedFacts Tryz.prog 7 Tryz.f7 Rows.bindNumberSpec Rows.bindNumberUptoRow = true := (and_t (and_t (and_t (and_t (and_t (and_t (and_t (and_t (and_t (and_t (and_t (and_t (and_t (and_t (and_t (and_t (and_t (and_t (and_t (and_t (and_t (and_t (and_t (and_t (and_t (and_t (and_t (and_t (and_t (and_t (and_t k0 k1) k2) k3) k4) k5) k6) k7) k8) k9) k10) k11) k12) k13) k14) k15) k16) k17) k18) k19) k20) k21) k22) k23) k24) k25) k26) k27) k28) k29) k30) k31)
end Go.Proofs.YtacjjkbkhpdhnaaGreatDoor.bindNumberFacts
