/- Closed facts of the row of dependChance, part a (printed by gen_card.py) -/
import Derived.Test.YtnfndgmlnoeelaaGreatDoorCards
import Derived.JoinedCond
import Derived.KernelRfl
namespace Go.Proofs.YtnfndgmlnoeelaaGreatDoor.dependChanceFacts
set_option maxRecDepth 100000 in
theorem k0 : (Rows.dependChanceRow.wf (OpenSpec.ofChange Rows.dependChanceSpec)) = true := by kernel_rfl
set_option maxRecDepth 100000 in
theorem k1 : (laidOutB Tryz.prog) = true := by kernel_rfl
set_option maxRecDepth 100000 in
theorem k2 : (mapsRowed Tryz.prog) = true := by kernel_rfl
set_option maxRecDepth 100000 in
theorem k3 : (Tryz.f3.params.all (Tryz.prog.readableRec ·)) = true := by kernel_rfl
set_option maxRecDepth 100000 in
theorem k4 : (namedTie Tryz.prog Rows.dependChanceRow.named Rows.dependChanceSpec.vars) = true := by kernel_rfl
set_option maxRecDepth 100000 in
theorem k5 : ((Rows.dependChanceRow.stops == [])) = true := by kernel_rfl
set_option maxRecDepth 100000 in
theorem k6 : ((Tryz.prog.stops == [])) = true := by kernel_rfl
set_option maxRecDepth 100000 in
theorem k7 : ((Rows.dependChanceRow.knobs == [])) = true := by kernel_rfl
set_option maxRecDepth 100000 in
theorem k8 : ((Tryz.prog.stopKnobs == [])) = true := by kernel_rfl
set_option maxRecDepth 100000 in
theorem k13 : ((Rows.dependChanceRow.maps == (Tryz.f3.params.toList ++ Rows.dependChanceSpec.plain.varTypes Tryz.prog).any (Tryz.prog.mapsRec ·))) = true := by kernel_rfl
set_option maxRecDepth 100000 in
theorem k14 : ((Rows.dependChanceRow.ifaces == (Tryz.f3.params.toList ++ Rows.dependChanceSpec.plain.varTypes Tryz.prog).any (Tryz.prog.ifacesRec ·))) = true := by kernel_rfl
set_option maxRecDepth 100000 in
theorem k15 : ((Rows.dependChanceRow.mapsOut == Tryz.prog.mapsAmong Tryz.f3.resultTypes.toList)) = true := by kernel_rfl
set_option maxRecDepth 100000 in
theorem k16 : ((Rows.dependChanceRow.loops == (Tryz.f3.params.toList ++ Rows.dependChanceSpec.plain.varTypes Tryz.prog).any (Tryz.prog.loopsFrom ·))) = true := by kernel_rfl
set_option maxRecDepth 100000 in
theorem k17 : ((Rows.dependChanceRow.wideKeys == (Tryz.f3.params.toList ++ Rows.dependChanceSpec.plain.varTypes Tryz.prog ++ Tryz.f3.resultTypes.toList).any (Tryz.prog.wideKeysFrom ·))) = true := by kernel_rfl
set_option maxRecDepth 100000 in
theorem k18 : (Rows.dependChanceSpec.vars.all (Tryz.prog.varReadable ·)) = true := by kernel_rfl
set_option maxRecDepth 100000 in
theorem k19 : (Tryz.f3.resultTypes.all (fun t => Tryz.prog.readableRec t && decide (t < Tryz.prog.types.size))) = true := by kernel_rfl
set_option maxRecDepth 100000 in
theorem k20 : ((Rows.dependChanceRow.ifacesOut == Tryz.f3.resultTypes.toList.any (Tryz.prog.ifacesRec ·))) = true := by kernel_rfl
set_option maxRecDepth 100000 in
theorem k21 : ((Rows.dependChanceRow.loopsOut == Tryz.f3.resultTypes.toList.any (Tryz.prog.loopsFrom ·))) = true := by kernel_rfl
set_option maxRecDepth 100000 in
theorem k22 : ((Rows.dependChanceRow.plainKeys == Tryz.prog.plainKeys)) = true := by kernel_rfl
set_option maxRecDepth 100000 in
theorem k23 : (Rows.dependChanceRow.shortTexts.isNone) = true := by kernel_rfl
set_option maxRecDepth 100000 in
theorem k24 : (Tryz.prog.stopsHeard) = true := by kernel_rfl
set_option maxRecDepth 100000 in
theorem k25 : (Tryz.prog.mayEnter) = true := by kernel_rfl
set_option maxRecDepth 100000 in
theorem k26 : ((Rows.dependChanceRow.lifted == Tryz.prog.liftsFinal)) = true := by kernel_rfl
set_option maxRecDepth 100000 in
theorem k27 : ((Tryz.prog.make == some Rows.dependChanceRow.make)) = true := by kernel_rfl
set_option maxRecDepth 100000 in
theorem k28 : ((Rows.dependChanceRow.kinds == (if Rows.dependChanceRow.domain.isEmpty then [] else Tryz.f3.params.toList.map fun t => match Tryz.prog.underlying t with | some (.int k) => some k | _ => none))) = true := by kernel_rfl
set_option maxRecDepth 100000 in
theorem k29 : ((Rows.dependChanceRow.pinned == Rows.dependChanceRow.pinnedBy)) = true := by kernel_rfl
set_option maxRecDepth 100000 in
theorem k30 : ((Rows.dependChanceRow.veiled == (Tryz.f3.params.toList ++ Rows.dependChanceSpec.plain.varTypes Tryz.prog ++ Tryz.f3.resultTypes.toList).any (Tryz.prog.veiledRec ·))) = true := by kernel_rfl
set_option maxRecDepth 100000 in
theorem k31 : (Rows.dependChanceRow.veiledFits Tryz.prog Tryz.f3.params.toList (Tryz.f3.params.toList ++ Rows.dependChanceSpec.plain.varTypes Tryz.prog ++ Tryz.f3.resultTypes.toList)) = true := by kernel_rfl
end Go.Proofs.YtnfndgmlnoeelaaGreatDoor.dependChanceFacts
/- Closed facts of the row of dependChance, part b (printed by gen_card.py) -/
namespace Go.Proofs.YtnfndgmlnoeelaaGreatDoor.dependChanceFacts
set_option maxRecDepth 100000 in
theorem k9 : ((Rows.dependChanceRow.inPlace == Tryz.prog.inPlace 3)) = true := by kernel_rfl
end Go.Proofs.YtnfndgmlnoeelaaGreatDoor.dependChanceFacts
/- Closed facts of the row of dependChance, part c (printed by gen_card.py) -/
namespace Go.Proofs.YtnfndgmlnoeelaaGreatDoor.dependChanceFacts
set_option maxRecDepth 100000 in
theorem k10 : ((Rows.dependChanceRow.unfollowed == Tryz.prog.unfollowed 3)) = true := by kernel_rfl
end Go.Proofs.YtnfndgmlnoeelaaGreatDoor.dependChanceFacts
/- Closed facts of the row of dependChance, part d (printed by gen_card.py) -/
namespace Go.Proofs.YtnfndgmlnoeelaaGreatDoor.dependChanceFacts
set_option maxRecDepth 100000 in
theorem k11 : ((Rows.dependChanceRow.recurses == Tryz.prog.recurses 3)) = true := by kernel_rfl
end Go.Proofs.YtnfndgmlnoeelaaGreatDoor.dependChanceFacts
/- Closed facts of the row of dependChance, part e (printed by gen_card.py) -/
namespace Go.Proofs.YtnfndgmlnoeelaaGreatDoor.dependChanceFacts
set_option maxRecDepth 100000 in
theorem k12 : ((Rows.dependChanceRow.named == Tryz.prog.varsNamed 3)) = true := by kernel_rfl
end Go.Proofs.YtnfndgmlnoeelaaGreatDoor.dependChanceFacts
/- Closed facts of the row of dependChance, part f (printed by gen_card.py) -/
namespace Go.Proofs.YtnfndgmlnoeelaaGreatDoor.dependChanceFacts
theorem and_t {a b : Bool} (h : a = true) (k : b = true) : (a && b) = true := by rw [h, k]; rfl
set_option maxRecDepth 100000 in
theorem closed : joinedFacts Tryz.prog 3 Tryz.f3 Rows.dependChanceSpec Rows.dependChanceRow = true := (and_t (and_t (and_t (and_t (and_t (and_t (and_t (and_t (and_t (and_t (and_t (and_t (and_t (and_t (and_t (and_t (and_t (and_t (and_t (and_t (and_t (and_t (and_t (and_t (and_t (and_t (and_t (and_t (and_t (and_t (and_t k0 k1) k2) k3) k4) k5) k6) k7) k8) k9) k10) k11) k12) k13) k14) k15) k16) k17) k18) k19) k20) k21) k22) k23) k24) k25) k26) k27) k28) k29) k30) k31)
end Go.Proofs.YtnfndgmlnoeelaaGreatDoor.dependChanceFacts
