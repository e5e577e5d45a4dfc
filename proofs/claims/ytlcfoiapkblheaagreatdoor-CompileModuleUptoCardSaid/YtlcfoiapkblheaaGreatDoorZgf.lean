/- Closed facts of the row of compileModule, part b (printed by gen_card.py) -/
import Derived.Test.YtlcfoiapkblheaaGreatDoorCards
import Derived.JoinedCond
import Derived.KernelRfl
import Derived.Test.YtlcfoiapkblheaaGreatDoorMfa
namespace Go.Proofs.YtlcfoiapkblheaaGreatDoor.compileModuleFacts
set_option maxRecDepth 100000 in
theorem k9 : ((Rows.compileModuleUptoRow.inPlace == Tryz.prog.inPlace 3)) = true := by kernel_rfl
end Go.Proofs.YtlcfoiapkblheaaGreatDoor.compileModuleFacts
/- Closed facts of the row of compileModule, part c (printed by gen_card.py) -/
namespace Go.Proofs.YtlcfoiapkblheaaGreatDoor.compileModuleFacts
set_option maxRecDepth 100000 in
theorem k10 : ((Rows.compileModuleUptoRow.unfollowed == Tryz.prog.unfollowed 3)) = true := by kernel_rfl
end Go.Proofs.YtlcfoiapkblheaaGreatDoor.compileModuleFacts
/- Closed facts of the row of compileModule, part d (printed by gen_card.py) -/
namespace Go.Proofs.YtlcfoiapkblheaaGreatDoor.compileModuleFacts
set_option maxRecDepth 100000 in
theorem k11 : ((Rows.compileModuleUptoRow.recurses == Tryz.prog.recurses 3)) = true := by kernel_rfl
end Go.Proofs.YtlcfoiapkblheaaGreatDoor.compileModuleFacts
/- Closed facts of the row of compileModule, part e (printed by gen_card.py) -/
namespace Go.Proofs.YtlcfoiapkblheaaGreatDoor.compileModuleFacts
set_option maxRecDepth 100000 in
theorem k12 : ((Rows.compileModuleUptoRow.named == Tryz.prog.varsNamed 3)) = true := by kernel_rfl
end Go.Proofs.YtlcfoiapkblheaaGreatDoor.compileModuleFacts
/- Closed facts of the row of compileModule, part f (printed by gen_card.py) -/
namespace Go.Proofs.YtlcfoiapkblheaaGreatDoor.compileModuleFacts
theorem and_t {a b : Bool} (h : a = true) (k : b = true) : (a && b) = true := by rw [h, k]; rfl
set_option maxRecDepth 100000 in
theorem closed : joinedFacts Tryz.prog 3 Tryz.f3 Rows.compileModuleSpec Rows.compileModuleUptoRow = true := (and_t (and_t (and_t (and_t (and_t (and_t (and_t (and_t (and_t (and_t (and_t (and_t (and_t (and_t (and_t (and_t (and_t (and_t (and_t (and_t (and_t (and_t (and_t (and_t (and_t (and_t (and_t (and_t (and_t (and_t (and_t k0 k1) k2) k3) k4) k5) k6) k7) k8) k9) k10) k11) k12) k13) k14) k15) k16) k17) k18) k19) k20) k21) k22) k23) k24) k25) k26) k27) k28) k29) k30) k31)
end Go.Proofs.YtlcfoiapkblheaaGreatDoor.compileModuleFacts
