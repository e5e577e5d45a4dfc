/- Closed facts of the row of testselectSelect, part a (printed by gen_card.py) -/
import Derived.Test.YtdobpmbgngomlaaGreatDoorCards
import Derived.JoinedCond
import Derived.KernelRfl
namespace Go.Proofs.YtdobpmbgngomlaaGreatDoor.testselectSelectFacts
set_option maxRecDepth 100000 in
theorem k0 : (Rows.testselectSelectUptoRow.wf (OpenSpec.ofChange Rows.testselectSelectSpec)) = true := by kernel_rfl
set_option maxRecDepth 100000 in
theorem k1 : (laidOutB Tryz.prog) = true := by kernel_rfl
set_option maxRecDepth 100000 in
theorem k2 : (mapsRowed Tryz.prog) = true := by kernel_rfl
set_option maxRecDepth 100000 in
theorem k3 : (Tryz.f4.params.all (Tryz.prog.readableRec ·)) = true := by kernel_rfl
set_option maxRecDepth 100000 in
theorem k4 : (namedTie Tryz.prog Rows.testselectSelectUptoRow.named Rows.testselectSelectSpec.vars) = true := by kernel_rfl
set_option maxRecDepth 100000 in
theorem k5 : ((Rows.testselectSelectUptoRow.stops == [])) = true := by kernel_rfl
set_option maxRecDepth 100000 in
theorem k6 : ((Tryz.prog.stops == [])) = true := by kernel_rfl
set_option maxRecDepth 100000 in
theorem k7 : ((Rows.testselectSelectUptoRow.knobs == [])) = true := by kernel_rfl
set_option maxRecDepth 100000 in
theorem k8 : ((Tryz.prog.stopKnobs == [])) = true := by kernel_rfl
set_option maxRecDepth 100000 in
theorem k13 : ((Rows.testselectSelectUptoRow.maps == (Tryz.f4.params.toList ++ Rows.testselectSelectSpec.plain.varTypes Tryz.prog).any (Tryz.prog.mapsRec ·))) = true := by kernel_rfl
set_option maxRecDepth 100000 in
theorem k14 : ((Rows.testselectSelectUptoRow.ifaces == (Tryz.f4.params.toList ++ Rows.testselectSelectSpec.plain.varTypes Tryz.prog).any (Tryz.prog.ifacesRec ·))) = true := by kernel_rfl
set_option maxRecDepth 100000 in
theorem k15 : ((Rows.testselectSelectUptoRow.mapsOut == Tryz.prog.mapsAmong Tryz.f4.resultTypes.toList)) = true := by kernel_rfl
set_option maxRecDepth 100000 in
theorem k16 : ((Rows.testselectSelectUptoRow.loops == (Tryz.f4.params.toList ++ Rows.testselectSelectSpec.plain.varTypes Tryz.prog).any (Tryz.prog.loopsFrom ·))) = true := by kernel_rfl
set_option maxRecDepth 100000 in
theorem k17 : ((Rows.testselectSelectUptoRow.wideKeys == (Tryz.f4.params.toList ++ Rows.testselectSelectSpec.plain.varTypes Tryz.prog ++ Tryz.f4.resultTypes.toList).any (Tryz.prog.wideKeysFrom ·))) = true := by kernel_rfl
set_option maxRecDepth 100000 in
theorem k18 : (Rows.testselectSelectSpec.vars.all (Tryz.prog.varReadable ·)) = true := by kernel_rfl
set_option maxRecDepth 100000 in
theorem k19 : (Tryz.f4.resultTypes.all (fun t => Tryz.prog.readableRec t && decide (t < Tryz.prog.types.size))) = true := by kernel_rfl
set_option maxRecDepth 100000 in
theorem k20 : ((Rows.testselectSelectUptoRow.ifacesOut == Tryz.f4.resultTypes.toList.any (Tryz.prog.ifacesRec ·))) = true := by kernel_rfl
set_option maxRecDepth 100000 in
theorem k21 : ((Rows.testselectSelectUptoRow.loopsOut == Tryz.f4.resultTypes.toList.any (Tryz.prog.loopsFrom ·))) = true := by kernel_rfl
set_option maxRecDepth 100000 in
theorem k22 : ((Rows.testselectSelectUptoRow.plainKeys == Tryz.prog.plainKeys)) = true := by kernel_rfl
set_option maxRecDepth 100000 in
theorem k23 : (Rows.testselectSelectUptoRow.shortTexts.isNone) = true := by kernel_rfl
set_option maxRecDepth 100000 in
theorem k24 : (Tryz.prog.stopsHeard) = true := by kernel_rfl
set_option maxRecDepth 100000 in
theorem k25 : (Tryz.prog.mayEnter) = true := by kernel_rfl
set_option maxRecDepth 100000 in
theorem k26 : ((Rows.testselectSelectUptoRow.lifted == Tryz.prog.liftsFinal)) = true := by kernel_rfl
set_option maxRecDepth 100000 in
theorem k27 : ((Tryz.prog.make == some Rows.testselectSelectUptoRow.make)) = true := by kernel_rfl
set_option maxRecDepth 100000 in
theorem k28 : ((Rows.testselectSelectUptoRow.kinds == (if Rows.testselectSelectUptoRow.domain.isEmpty then [] else Tryz.f4.params.toList.map fun t => match Tryz.prog.underlying t with | some (.int k) => some k | _ => none))) = true := by kernel_rfl
set_option maxRecDepth 100000 in
theorem k29 : ((Rows.testselectSelectUptoRow.pinned == Rows.testselectSelectUptoRow.pinnedBy)) = true := by kernel_rfl
set_option maxRecDepth 100000 in
theorem k30 : ((Rows.testselectSelectUptoRow.veiled == (Tryz.f4.params.toList ++ Rows.testselectSelectSpec.plain.varTypes Tryz.prog ++ Tryz.f4.resultTypes.toList).any (Tryz.prog.veiledRec ·))) = true := by kernel_rfl
set_option maxRecDepth 100000 in
theorem k31 : (Rows.testselectSelectUptoRow.veiledFits Tryz.prog Tryz.f4.params.toList (Tryz.f4.params.toList ++ Rows.testselectSelectSpec.plain.varTypes Tryz.prog ++ Tryz.f4.resultTypes.toList)) = true := by kernel_rfl
end Go.Proofs.YtdobpmbgngomlaaGreatDoor.testselectSelectFacts
