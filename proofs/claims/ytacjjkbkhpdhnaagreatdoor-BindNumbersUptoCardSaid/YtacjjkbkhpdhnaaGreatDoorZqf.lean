/- Closed facts of the row of bindNumbers, part b (printed by gen_card.py) -/
import Derived.Test.YtacjjkbkhpdhnaaGreatDoorCards
import Derived.JoinedCond
import Derived.KernelRfl
import Derived.Test.YtacjjkbkhpdhnaaGreatDoorBxa
namespace Go.Proofs.YtacjjkbkhpdhnaaGreatDoor.bindNumbersFacts
set_option maxRecDepth 100000 in
theorem k9 : ((Rows.bindNumbersUptoRow.inPlace == Tryz.prog.inPlace 8)) = true := by kernel_rfl
end Go.Proofs.YtacjjkbkhpdhnaaGreatDoor.bindNumbersFacts
/- Closed facts of the row of bindNumbers, part c (printed by gen_card.py) -/
namespace Go.Proofs.YtacjjkbkhpdhnaaGreatDoor.bindNumbersFacts
set_option maxRecDepth 100000 in
theorem k10 : ((Rows.bindNumbersUptoRow.unfollowed == Tryz.prog.unfollowed 8)) = true := by kernel_rfl
end Go.Proofs.YtacjjkbkhpdhnaaGreatDoor.bindNumbersFacts
/- Closed facts of the row of bindNumbers, part d (printed by gen_card.py) -/
namespace Go.Proofs.YtacjjkbkhpdhnaaGreatDoor.bindNumbersFacts
set_option maxRecDepth 100000 in
theorem k11 : ((Rows.bindNumbersUptoRow.recurses == Tryz.prog.recurses 8)) = true := by kernel_rfl
end Go.Proofs.YtacjjkbkhpdhnaaGreatDoor.bindNumbersFacts
/- Closed facts of the row of bindNumbers, part e (printed by gen_card.py) -/
namespace Go.Proofs.YtacjjkbkhpdhnaaGreatDoor.bindNumbersFacts
set_option maxRecDepth 100000 in
theorem k12 : ((Rows.bindNumbersUptoRow.named == Tryz.prog.varsNamed 8)) = true := by kernel_rfl
end Go.Proofs.YtacjjkbkhpdhnaaGreatDoor.bindNumbersFacts
/- Closed facts of the row of bindNumbers, part f (printed by gen_card.py) -/
namespace Go.Proofs.YtacjjkbkhpdhnaaGreatDoor.bindNumbersFacts
theorem and_t {a b : Bool} (h : a = true) (k : b = true) : (a && b) = true := by rw [h, k]; rfl
set_option maxRecDepth 100000 in
theorem closed : joinedFacts Tryz.prog 8 Tryz.f8 Rows.bindNumbersSpec Rows.bindNumbersUptoRow = true := (and_t (and_t (and_t (and_t (and_t (and_t (and_t (and_t (and_t (and_t (and_t (and_t (and_t (and_t (and_t (and_t (and_t (and_t (and_t (and_t (and_t (and_t (and_t (and_t (and_t (and_t (and_t (and_t (and_t (and_t (and_t k0 k1) k2) k3) k4) k5) k6) k7) k8) k9) k10) k11) k12) k13) k14) k15) k16) k17) k18) k19) k20) k21) k22) k23) k24) k25) k26) k27) k28) k29) k30) k31)
end Go.Proofs.YtacjjkbkhpdhnaaGreatDoor.bindNumbersFacts
