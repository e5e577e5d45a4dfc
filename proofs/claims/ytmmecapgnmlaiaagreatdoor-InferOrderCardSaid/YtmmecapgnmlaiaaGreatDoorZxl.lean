/- Closed facts of the row of inferOrder, part a (printed by gen_card.py) -/
import Derived.Test.YtmmecapgnmlaiaaGreatDoorCards
import Derived.JoinedCond
import Derived.KernelRfl
namespace Go.Proofs.YtmmecapgnmlaiaaGreatDoor.inferOrderFacts
set_option maxRecDepth 100000 in
theorem k0 : (Rows.inferOrderRow.wf (OpenSpec.ofChange Rows.inferOrderSpec)) = true:=by kernel_rfl
set_option maxRecDepth 100000 in
theorem k1 : (laidOutB Tryz.prog) = true:=by kernel_rfl
set_option maxRecDepth 100000 in
theorem k2 : (mapsRowed Tryz.prog) = true:=by kernel_rfl
set_option maxRecDepth 100000 in
theorem k3 : (Tryz.f5.params.all (Tryz.prog.readableRec ·)) = true:=by kernel_rfl
set_option maxRecDepth 100000 in
theorem k4 : (namedTie Tryz.prog Rows.inferOrderRow.named Rows.inferOrderSpec.vars) = true:=by kernel_rfl
set_option maxRecDepth 100000 in
theorem k5 : ((Rows.inferOrderRow.stops == [])) = true:=by kernel_rfl
set_option maxRecDepth 100000 in
theorem k6 : ((Tryz.prog.stops == [])) = true:=by kernel_rfl
set_option maxRecDepth 100000 in
theorem k7 : ((Rows.inferOrderRow.knobs == [])) = true:=by kernel_rfl
set_option maxRecDepth 100000 in
theorem k8 : ((Tryz.prog.stopKnobs == [])) = true:=by kernel_rfl
set_option maxRecDepth 100000 in
theorem k13 : ((Rows.inferOrderRow.maps == (Tryz.f5.params.toList ++ Rows.inferOrderSpec.plain.varTypes Tryz.prog).any (Tryz.prog.mapsRec ·))) = true:=by kernel_rfl
set_option maxRecDepth 100000 in
theorem k14 : ((Rows.inferOrderRow.ifaces == (Tryz.f5.params.toList ++ Rows.inferOrderSpec.plain.varTypes Tryz.prog).any (Tryz.prog.ifacesRec ·))) = true:=by kernel_rfl
set_option maxRecDepth 100000 in
theorem k15 : ((Rows.inferOrderRow.mapsOut == Tryz.prog.mapsAmong Tryz.f5.resultTypes.toList)) = true:=by kernel_rfl
set_option maxRecDepth 100000 in
theorem k16 : ((Rows.inferOrderRow.loops == (Tryz.f5.params.toList ++ Rows.inferOrderSpec.plain.varTypes Tryz.prog).any (Tryz.prog.loopsFrom ·))) = true:=by kernel_rfl
set_option maxRecDepth 100000 in
theorem k17 : ((Rows.inferOrderRow.wideKeys == (Tryz.f5.params.toList ++ Rows.inferOrderSpec.plain.varTypes Tryz.prog ++ Tryz.f5.resultTypes.toList).any (Tryz.prog.wideKeysFrom ·))) = true:=by kernel_rfl
set_option maxRecDepth 100000 in
theorem k18 : (Rows.inferOrderSpec.vars.all (Tryz.prog.varReadable ·)) = true:=by kernel_rfl
set_option maxRecDepth 100000 in
theorem k19 : (Tryz.f5.resultTypes.all (fun t => Tryz.prog.readableRec t && decide (t < Tryz.prog.types.size))) = true:=by kernel_rfl
set_option maxRecDepth 100000 in
theorem k20 : ((Rows.inferOrderRow.ifacesOut == Tryz.f5.resultTypes.toList.any (Tryz.prog.ifacesRec ·))) = true:=by kernel_rfl
set_option maxRecDepth 100000 in
theorem k21 : ((Rows.inferOrderRow.loopsOut == Tryz.f5.resultTypes.toList.any (Tryz.prog.loopsFrom ·))) = true:=by kernel_rfl
set_option maxRecDepth 100000 in
theorem k22 : ((Rows.inferOrderRow.plainKeys == Tryz.prog.plainKeys)) = true:=by kernel_rfl
set_option maxRecDepth 100000 in
theorem k23 : (Rows.inferOrderRow.shortTexts.isNone) = true:=by kernel_rfl
set_option maxRecDepth 100000 in
theorem k24 : (Tryz.prog.stopsHeard) = true:=by kernel_rfl
set_option maxRecDepth 100000 in
theorem k25 : (Tryz.prog.mayEnter) = true:=by kernel_rfl
set_option maxRecDepth 100000 in
theorem k26 : ((Rows.inferOrderRow.lifted == Tryz.prog.liftsFinal)) = true:=by kernel_rfl
set_option maxRecDepth 100000 in
theorem k27 : ((Tryz.prog.make == some Rows.inferOrderRow.make)) = true:=by kernel_rfl
set_option maxRecDepth 100000 in
theorem k28 : ((Rows.inferOrderRow.kinds == (if Rows.inferOrderRow.domain.isEmpty then [] else Tryz.f5.params.toList.map fun t => match Tryz.prog.underlying t with | some (.int k) => some k | _ => none))) = true:=by kernel_rfl
set_option maxRecDepth 100000 in
theorem k29 : ((Rows.inferOrderRow.pinned == Rows.inferOrderRow.pinnedBy)) = true:=by kernel_rfl
set_option maxRecDepth 100000 in
theorem k30 : ((Rows.inferOrderRow.veiled == (Tryz.f5.params.toList ++ Rows.inferOrderSpec.plain.varTypes Tryz.prog ++ Tryz.f5.resultTypes.toList).any (Tryz.prog.veiledRec ·))) = true:=by kernel_rfl
set_option maxRecDepth 100000 in
theorem k31 : (Rows.inferOrderRow.veiledFits Tryz.prog Tryz.f5.params.toList (Tryz.f5.params.toList ++ Rows.inferOrderSpec.plain.varTypes Tryz.prog ++ Tryz.f5.resultTypes.toList)) = true:=by kernel_rfl
end Go.Proofs.YtmmecapgnmlaiaaGreatDoor.inferOrderFacts
/- Closed facts of the row of inferOrder, part b (printed by gen_card.py) -/
namespace Go.Proofs.YtmmecapgnmlaiaaGreatDoor.inferOrderFacts
set_option maxRecDepth 100000 in
theorem k9 : ((Rows.inferOrderRow.inPlace == Tryz.prog.inPlace 5)) = true:=by kernel_rfl
end Go.Proofs.YtmmecapgnmlaiaaGreatDoor.inferOrderFacts
/- Closed facts of the row of inferOrder, part c (printed by gen_card.py) -/
namespace Go.Proofs.YtmmecapgnmlaiaaGreatDoor.inferOrderFacts
set_option maxRecDepth 100000 in
theorem k10 : ((Rows.inferOrderRow.unfollowed == Tryz.prog.unfollowed 5)) = true:=by kernel_rfl
end Go.Proofs.YtmmecapgnmlaiaaGreatDoor.inferOrderFacts
/- Closed facts of the row of inferOrder, part d (printed by gen_card.py) -/
namespace Go.Proofs.YtmmecapgnmlaiaaGreatDoor.inferOrderFacts
set_option maxRecDepth 100000 in
theorem k11 : ((Rows.inferOrderRow.recurses == Tryz.prog.recurses 5)) = true:=by kernel_rfl
end Go.Proofs.YtmmecapgnmlaiaaGreatDoor.inferOrderFacts
/- Closed facts of the row of inferOrder, part e (printed by gen_card.py) -/
namespace Go.Proofs.YtmmecapgnmlaiaaGreatDoor.inferOrderFacts
set_option maxRecDepth 100000 in
theorem k12 : ((Rows.inferOrderRow.named == Tryz.prog.varsNamed 5)) = true:=by kernel_rfl
end Go.Proofs.YtmmecapgnmlaiaaGreatDoor.inferOrderFacts
/- Closed facts of the row of inferOrder, part f (printed by gen_card.py) -/
namespace Go.Proofs.YtmmecapgnmlaiaaGreatDoor.inferOrderFacts
theorem and_t {a b : Bool} (h : a = true) (k : b = true) : (a && b) = true:=by rw [h,k];rfl
set_option maxRecDepth 100000 in
theorem closed : joinedFacts Tryz.prog 5 Tryz.f5 Rows.inferOrderSpec Rows.inferOrderRow = true:=(and_t (and_t (and_t (and_t (and_t (and_t (and_t (and_t (and_t (and_t (and_t (and_t (and_t (and_t (and_t (and_t (and_t (and_t (and_t (and_t (and_t (and_t (and_t (and_t (and_t (and_t (and_t (and_t (and_t (and_t (and_t k0 k1) k2) k3) k4) k5) k6) k7) k8) k9) k10) k11) k12) k13) k14) k15) k16) k17) k18) k19) k20) k21) k22) k23) k24) k25) k26) k27) k28) k29) k30) k31)
end Go.Proofs.YtmmecapgnmlaiaaGreatDoor.inferOrderFacts
