/- Closed facts of the row of testselectCertificates, part a (printed by gen_card.py) -/
import Derived.Test.YtdobpmbgngomlaaGreatDoorCards
import Derived.JoinedCond
import Derived.KernelRfl
namespace Go.Proofs.YtdobpmbgngomlaaGreatDoor.testselectCertificatesFacts
set_option maxRecDepth 100000 in
theorem k0 : (Rows.testselectCertificatesRow.wf (OpenSpec.ofChange Rows.testselectCertificatesSpec)) = true := by kernel_rfl
set_option maxRecDepth 100000 in
theorem k1 : (laidOutB Tryz.prog) = true := by kernel_rfl
set_option maxRecDepth 100000 in
theorem k2 : (mapsRowed Tryz.prog) = true := by kernel_rfl
set_option maxRecDepth 100000 in
theorem k3 : (Tryz.f7.params.all (Tryz.prog.readableRec ·)) = true := by kernel_rfl
set_option maxRecDepth 100000 in
theorem k4 : (namedTie Tryz.prog Rows.testselectCertificatesRow.named Rows.testselectCertificatesSpec.vars) = true := by kernel_rfl
set_option maxRecDepth 100000 in
theorem k5 : ((Rows.testselectCertificatesRow.stops == [])) = true := by kernel_rfl
set_option maxRecDepth 100000 in
theorem k6 : ((Tryz.prog.stops == [])) = true := by kernel_rfl
set_option maxRecDepth 100000 in
theorem k7 : ((Rows.testselectCertificatesRow.knobs == [])) = true := by kernel_rfl
set_option maxRecDepth 100000 in
theorem k8 : ((Tryz.prog.stopKnobs == [])) = true := by kernel_rfl
set_option maxRecDepth 100000 in
theorem k13 : ((Rows.testselectCertificatesRow.maps == (Tryz.f7.params.toList ++ Rows.testselectCertificatesSpec.plain.varTypes Tryz.prog).any (Tryz.prog.mapsRec ·))) = true := by kernel_rfl
set_option maxRecDepth 100000 in
theorem k14 : ((Rows.testselectCertificatesRow.ifaces == (Tryz.f7.params.toList ++ Rows.testselectCertificatesSpec.plain.varTypes Tryz.prog).any (Tryz.prog.ifacesRec ·))) = true := by kernel_rfl
set_option maxRecDepth 100000 in
theorem k15 : ((Rows.testselectCertificatesRow.mapsOut == Tryz.prog.mapsAmong Tryz.f7.resultTypes.toList)) = true := by kernel_rfl
set_option maxRecDepth 100000 in
theorem k16 : ((Rows.testselectCertificatesRow.loops == (Tryz.f7.params.toList ++ Rows.testselectCertificatesSpec.plain.varTypes Tryz.prog).any (Tryz.prog.loopsFrom ·))) = true := by kernel_rfl
set_option maxRecDepth 100000 in
theorem k17 : ((Rows.testselectCertificatesRow.wideKeys == (Tryz.f7.params.toList ++ Rows.testselectCertificatesSpec.plain.varTypes Tryz.prog ++ Tryz.f7.resultTypes.toList).any (Tryz.prog.wideKeysFrom ·))) = true := by kernel_rfl
set_option maxRecDepth 100000 in
theorem k18 : (Rows.testselectCertificatesSpec.vars.all (Tryz.prog.varReadable ·)) = true := by kernel_rfl
set_option maxRecDepth 100000 in
theorem k19 : (Tryz.f7.resultTypes.all (fun t => Tryz.prog.readableRec t && decide (t < Tryz.prog.types.size))) = true := by kernel_rfl
set_option maxRecDepth 100000 in
theorem k20 : ((Rows.testselectCertificatesRow.ifacesOut == Tryz.f7.resultTypes.toList.any (Tryz.prog.ifacesRec ·))) = true := by kernel_rfl
set_option maxRecDepth 100000 in
theorem k21 : ((Rows.testselectCertificatesRow.loopsOut == Tryz.f7.resultTypes.toList.any (Tryz.prog.loopsFrom ·))) = true := by kernel_rfl
set_option maxRecDepth 100000 in
theorem k22 : ((Rows.testselectCertificatesRow.plainKeys == Tryz.prog.plainKeys)) = true := by kernel_rfl
set_option maxRecDepth 100000 in
theorem k23 : (Rows.testselectCertificatesRow.shortTexts.isNone) = true := by kernel_rfl
set_option maxRecDepth 100000 in
theorem k24 : (Tryz.prog.stopsHeard) = true := by kernel_rfl
set_option maxRecDepth 100000 in
theorem k25 : (Tryz.prog.mayEnter) = true := by kernel_rfl
set_option maxRecDepth 100000 in
theorem k26 : ((Rows.testselectCertificatesRow.lifted == Tryz.prog.liftsFinal)) = true := by kernel_rfl
set_option maxRecDepth 100000 in
theorem k27 : ((Tryz.prog.make == some Rows.testselectCertificatesRow.make)) = true := by kernel_rfl
set_option maxRecDepth 100000 in
theorem k28 : ((Rows.testselectCertificatesRow.kinds == (if Rows.testselectCertificatesRow.domain.isEmpty then [] else Tryz.f7.params.toList.map fun t => match Tryz.prog.underlying t with | some (.int k) => some k | _ => none))) = true := by kernel_rfl
set_option maxRecDepth 100000 in
theorem k29 : ((Rows.testselectCertificatesRow.pinned == Rows.testselectCertificatesRow.pinnedBy)) = true := by kernel_rfl
set_option maxRecDepth 100000 in
theorem k30 : ((Rows.testselectCertificatesRow.veiled == (Tryz.f7.params.toList ++ Rows.testselectCertificatesSpec.plain.varTypes Tryz.prog ++ Tryz.f7.resultTypes.toList).any (Tryz.prog.veiledRec ·))) = true := by kernel_rfl
set_option maxRecDepth 100000 in
theorem k31 : (Rows.testselectCertificatesRow.veiledFits Tryz.prog Tryz.f7.params.toList (Tryz.f7.params.toList ++ Rows.testselectCertificatesSpec.plain.varTypes Tryz.prog ++ Tryz.f7.resultTypes.toList)) = true := by kernel_rfl
end Go.Proofs.YtdobpmbgngomlaaGreatDoor.testselectCertificatesFacts
