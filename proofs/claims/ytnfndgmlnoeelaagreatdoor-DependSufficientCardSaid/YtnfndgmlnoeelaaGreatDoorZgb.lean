/- Closed facts of the row of dependSufficient, part a (printed by gen_card.py) -/
import Derived.Test.YtnfndgmlnoeelaaGreatDoorCards
import Derived.JoinedCond
import Derived.KernelRfl
namespace Go.Proofs.YtnfndgmlnoeelaaGreatDoor.dependSufficientFacts
set_option maxRecDepth 100000 in
theorem k0 : (Rows.dependSufficientRow.wf (OpenSpec.ofChange Rows.dependSufficientSpec)) = true:=by kernel_rfl
set_option maxRecDepth 100000 in
theorem k1 : (laidOutB Tryz.prog) = true:=by kernel_rfl
set_option maxRecDepth 100000 in
theorem k2 : (mapsRowed Tryz.prog) = true:=by kernel_rfl
set_option maxRecDepth 100000 in
theorem k3 : (Tryz.f4.params.all (Tryz.prog.readableRec ·)) = true:=by kernel_rfl
set_option maxRecDepth 100000 in
theorem k4 : (namedTie Tryz.prog Rows.dependSufficientRow.named Rows.dependSufficientSpec.vars) = true:=by kernel_rfl
set_option maxRecDepth 100000 in
theorem k5 : ((Rows.dependSufficientRow.stops == [])) = true:=by kernel_rfl
set_option maxRecDepth 100000 in
theorem k6 : ((Tryz.prog.stops == [])) = true:=by kernel_rfl
set_option maxRecDepth 100000 in
theorem k7 : ((Rows.dependSufficientRow.knobs == [])) = true:=by kernel_rfl
set_option maxRecDepth 100000 in
theorem k8 : ((Tryz.prog.stopKnobs == [])) = true:=by kernel_rfl
set_option maxRecDepth 100000 in
theorem k13 : ((Rows.dependSufficientRow.maps == (Tryz.f4.params.toList ++ Rows.dependSufficientSpec.plain.varTypes Tryz.prog).any (Tryz.prog.mapsRec ·))) = true:=by kernel_rfl
set_option maxRecDepth 100000 in
theorem k14 : ((Rows.dependSufficientRow.ifaces == (Tryz.f4.params.toList ++ Rows.dependSufficientSpec.plain.varTypes Tryz.prog).any (Tryz.prog.ifacesRec ·))) = true:=by kernel_rfl
set_option maxRecDepth 100000 in
theorem k15 : ((Rows.dependSufficientRow.mapsOut == Tryz.prog.mapsAmong Tryz.f4.resultTypes.toList)) = true:=by kernel_rfl
set_option maxRecDepth 100000 in
theorem k16 : ((Rows.dependSufficientRow.loops == (Tryz.f4.params.toList ++ Rows.dependSufficientSpec.plain.varTypes Tryz.prog).any (Tryz.prog.loopsFrom ·))) = true:=by kernel_rfl
set_option maxRecDepth 100000 in
theorem k17 : ((Rows.dependSufficientRow.wideKeys == (Tryz.f4.params.toList ++ Rows.dependSufficientSpec.plain.varTypes Tryz.prog ++ Tryz.f4.resultTypes.toList).any (Tryz.prog.wideKeysFrom ·))) = true:=by kernel_rfl
set_option maxRecDepth 100000 in
theorem k18 : (Rows.dependSufficientSpec.vars.all (Tryz.prog.varReadable ·)) = true:=by kernel_rfl
set_option maxRecDepth 100000 in
theorem k19 : (Tryz.f4.resultTypes.all (fun t => Tryz.prog.readableRec t && decide (t < Tryz.prog.types.size))) = true:=by kernel_rfl
set_option maxRecDepth 100000 in
theorem k20 : ((Rows.dependSufficientRow.ifacesOut == Tryz.f4.resultTypes.toList.any (Tryz.prog.ifacesRec ·))) = true:=by kernel_rfl
set_option maxRecDepth 100000 in
theorem k21 : ((Rows.dependSufficientRow.loopsOut == Tryz.f4.resultTypes.toList.any (Tryz.prog.loopsFrom ·))) = true:=by kernel_rfl
set_option maxRecDepth 100000 in
theorem k22 : ((Rows.dependSufficientRow.plainKeys == Tryz.prog.plainKeys)) = true:=by kernel_rfl
set_option maxRecDepth 100000 in
theorem k23 : (Rows.dependSufficientRow.shortTexts.isNone) = true:=by kernel_rfl
set_option maxRecDepth 100000 in
theorem k24 : (Tryz.prog.stopsHeard) = true:=by kernel_rfl
set_option maxRecDepth 100000 in
theorem k25 : (Tryz.prog.mayEnter) = true:=by kernel_rfl
set_option maxRecDepth 100000 in
theorem k26 : ((Rows.dependSufficientRow.lifted == Tryz.prog.liftsFinal)) = true:=by kernel_rfl
set_option maxRecDepth 100000 in
theorem k27 : ((Tryz.prog.make == some Rows.dependSufficientRow.make)) = true:=by kernel_rfl
set_option maxRecDepth 100000 in
theorem k28 : ((Rows.dependSufficientRow.kinds == (if Rows.dependSufficientRow.domain.isEmpty then [] else Tryz.f4.params.toList.map fun t => match Tryz.prog.underlying t with | some (.int k) => some k | _ => none))) = true:=by kernel_rfl
set_option maxRecDepth 100000 in
theorem k29 : ((Rows.dependSufficientRow.pinned == Rows.dependSufficientRow.pinnedBy)) = true:=by kernel_rfl
set_option maxRecDepth 100000 in
theorem k30 : ((Rows.dependSufficientRow.veiled == (Tryz.f4.params.toList ++ Rows.dependSufficientSpec.plain.varTypes Tryz.prog ++ Tryz.f4.resultTypes.toList).any (Tryz.prog.veiledRec ·))) = true:=by kernel_rfl
set_option maxRecDepth 100000 in
theorem k31 : (Rows.dependSufficientRow.veiledFits Tryz.prog Tryz.f4.params.toList (Tryz.f4.params.toList ++ Rows.dependSufficientSpec.plain.varTypes Tryz.prog ++ Tryz.f4.resultTypes.toList)) = true:=by kernel_rfl
end Go.Proofs.YtnfndgmlnoeelaaGreatDoor.dependSufficientFacts
/- Closed facts of the row of dependSufficient, part b (printed by gen_card.py) -/
namespace Go.Proofs.YtnfndgmlnoeelaaGreatDoor.dependSufficientFacts
set_option maxRecDepth 100000 in
theorem k9 : ((Rows.dependSufficientRow.inPlace == Tryz.prog.inPlace 4)) = true:=by kernel_rfl
end Go.Proofs.YtnfndgmlnoeelaaGreatDoor.dependSufficientFacts
/- Closed facts of the row of dependSufficient, part c (printed by gen_card.py) -/
namespace Go.Proofs.YtnfndgmlnoeelaaGreatDoor.dependSufficientFacts
set_option maxRecDepth 100000 in
theorem k10 : ((Rows.dependSufficientRow.unfollowed == Tryz.prog.unfollowed 4)) = true:=by kernel_rfl
end Go.Proofs.YtnfndgmlnoeelaaGreatDoor.dependSufficientFacts
/- Closed facts of the row of dependSufficient, part d (printed by gen_card.py) -/
namespace Go.Proofs.YtnfndgmlnoeelaaGreatDoor.dependSufficientFacts
set_option maxRecDepth 100000 in
theorem k11 : ((Rows.dependSufficientRow.recurses == Tryz.prog.recurses 4)) = true:=by kernel_rfl
end Go.Proofs.YtnfndgmlnoeelaaGreatDoor.dependSufficientFacts
/- Closed facts of the row of dependSufficient, part e (printed by gen_card.py) -/
namespace Go.Proofs.YtnfndgmlnoeelaaGreatDoor.dependSufficientFacts
set_option maxRecDepth 100000 in
theorem k12 : ((Rows.dependSufficientRow.named == Tryz.prog.varsNamed 4)) = true:=by kernel_rfl
end Go.Proofs.YtnfndgmlnoeelaaGreatDoor.dependSufficientFacts
/- Closed facts of the row of dependSufficient, part f (printed by gen_card.py) -/
namespace Go.Proofs.YtnfndgmlnoeelaaGreatDoor.dependSufficientFacts
theorem and_t {a b : Bool} (h : a = true) (k : b = true) : (a && b) = true:=by rw [h,k];rfl
set_option maxRecDepth 100000 in
theorem closed : joinedFacts Tryz.prog 4 Tryz.f4 Rows.dependSufficientSpec Rows.dependSufficientRow = true:=(and_t (and_t (and_t (and_t (and_t (and_t (and_t (and_t (and_t (and_t (and_t (and_t (and_t (and_t (and_t (and_t (and_t (and_t (and_t (and_t (and_t (and_t (and_t (and_t (and_t (and_t (and_t (and_t (and_t (and_t (and_t k0 k1) k2) k3) k4) k5) k6) k7) k8) k9) k10) k11) k12) k13) k14) k15) k16) k17) k18) k19) k20) k21) k22) k23) k24) k25) k26) k27) k28) k29) k30) k31)
end Go.Proofs.YtnfndgmlnoeelaaGreatDoor.dependSufficientFacts
