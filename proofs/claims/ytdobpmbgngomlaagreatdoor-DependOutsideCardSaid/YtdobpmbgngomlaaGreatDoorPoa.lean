/- Closed facts of the row of dependOutside, part a (printed by gen_card.py) -/
import Derived.Test.YtdobpmbgngomlaaGreatDoorCards
import Derived.JoinedCond
import Derived.KernelRfl
namespace Go.Proofs.YtdobpmbgngomlaaGreatDoor.dependOutsideFacts
set_option maxRecDepth 100000 in
theorem k0 : (Rows.dependOutsideRow.wf (OpenSpec.ofChange Rows.dependOutsideSpec)) = true := by kernel_rfl
set_option maxRecDepth 100000 in
theorem k1 : (laidOutB Tryz.prog) = true := by kernel_rfl
set_option maxRecDepth 100000 in
theorem k2 : (mapsRowed Tryz.prog) = true := by kernel_rfl
set_option maxRecDepth 100000 in
theorem k3 : (Tryz.f3.params.all (Tryz.prog.readableRec ·)) = true := by kernel_rfl
set_option maxRecDepth 100000 in
theorem k4 : (namedTie Tryz.prog Rows.dependOutsideRow.named Rows.dependOutsideSpec.vars) = true := by kernel_rfl
set_option maxRecDepth 100000 in
theorem k5 : ((Rows.dependOutsideRow.stops == [])) = true := by kernel_rfl
set_option maxRecDepth 100000 in
theorem k6 : ((Tryz.prog.stops == [])) = true := by kernel_rfl
set_option maxRecDepth 100000 in
theorem k7 : ((Rows.dependOutsideRow.knobs == [])) = true := by kernel_rfl
set_option maxRecDepth 100000 in
theorem k8 : ((Tryz.prog.stopKnobs == [])) = true := by kernel_rfl
set_option maxRecDepth 100000 in
theorem k13 : ((Rows.dependOutsideRow.maps == (Tryz.f3.params.toList ++ Rows.dependOutsideSpec.plain.varTypes Tryz.prog).any (Tryz.prog.mapsRec ·))) = true := by kernel_rfl
set_option maxRecDepth 100000 in
theorem k14 : ((Rows.dependOutsideRow.ifaces == (Tryz.f3.params.toList ++ Rows.dependOutsideSpec.plain.varTypes Tryz.prog).any (Tryz.prog.ifacesRec ·))) = true := by kernel_rfl
set_option maxRecDepth 100000 in
theorem k15 : ((Rows.dependOutsideRow.mapsOut == Tryz.prog.mapsAmong Tryz.f3.resultTypes.toList)) = true := by kernel_rfl
set_option maxRecDepth 100000 in
theorem k16 : ((Rows.dependOutsideRow.loops == (Tryz.f3.params.toList ++ Rows.dependOutsideSpec.plain.varTypes Tryz.prog).any (Tryz.prog.loopsFrom ·))) = true := by kernel_rfl
set_option maxRecDepth 100000 in
theorem k17 : ((Rows.dependOutsideRow.wideKeys == (Tryz.f3.params.toList ++ Rows.dependOutsideSpec.plain.varTypes Tryz.prog ++ Tryz.f3.resultTypes.toList).any (Tryz.prog.wideKeysFrom ·))) = true := by kernel_rfl
set_option maxRecDepth 100000 in
theorem k18 : (Rows.dependOutsideSpec.vars.all (Tryz.prog.varReadable ·)) = true := by kernel_rfl
set_option maxRecDepth 100000 in
theorem k19 : (Tryz.f3.resultTypes.all (fun t => Tryz.prog.readableRec t && decide (t < Tryz.prog.types.size))) = true := by kernel_rfl
set_option maxRecDepth 100000 in
theorem k20 : ((Rows.dependOutsideRow.ifacesOut == Tryz.f3.resultTypes.toList.any (Tryz.prog.ifacesRec ·))) = true := by kernel_rfl
set_option maxRecDepth 100000 in
theorem k21 : ((Rows.dependOutsideRow.loopsOut == Tryz.f3.resultTypes.toList.any (Tryz.prog.loopsFrom ·))) = true := by kernel_rfl
set_option maxRecDepth 100000 in
theorem k22 : ((Rows.dependOutsideRow.plainKeys == Tryz.prog.plainKeys)) = true := by kernel_rfl
set_option maxRecDepth 100000 in
theorem k23 : (Rows.dependOutsideRow.shortTexts.isNone) = true := by kernel_rfl
set_option maxRecDepth 100000 in
theorem k24 : (Tryz.prog.stopsHeard) = true := by kernel_rfl
set_option maxRecDepth 100000 in
theorem k25 : (Tryz.prog.mayEnter) = true := by kernel_rfl
set_option maxRecDepth 100000 in
theorem k26 : ((Rows.dependOutsideRow.lifted == Tryz.prog.liftsFinal)) = true := by kernel_rfl
set_option maxRecDepth 100000 in
theorem k27 : ((Tryz.prog.make == some Rows.dependOutsideRow.make)) = true := by kernel_rfl
set_option maxRecDepth 100000 in
theorem k28 : ((Rows.dependOutsideRow.kinds == (if Rows.dependOutsideRow.domain.isEmpty then [] else Tryz.f3.params.toList.map fun t => match Tryz.prog.underlying t with | some (.int k) => some k | _ => none))) = true := by kernel_rfl
set_option maxRecDepth 100000 in
theorem k29 : ((Rows.dependOutsideRow.pinned == Rows.dependOutsideRow.pinnedBy)) = true := by kernel_rfl
set_option maxRecDepth 100000 in
theorem k30 : ((Rows.dependOutsideRow.veiled == (Tryz.f3.params.toList ++ Rows.dependOutsideSpec.plain.varTypes Tryz.prog ++ Tryz.f3.resultTypes.toList).any (Tryz.prog.veiledRec ·))) = true := by kernel_rfl
set_option maxRecDepth 100000 in
theorem k31 : (Rows.dependOutsideRow.veiledFits Tryz.prog Tryz.f3.params.toList (Tryz.f3.params.toList ++ Rows.dependOutsideSpec.plain.varTypes Tryz.prog ++ Tryz.f3.resultTypes.toList)) = true := by kernel_rfl
end Go.Proofs.YtdobpmbgngomlaaGreatDoor.dependOutsideFacts
