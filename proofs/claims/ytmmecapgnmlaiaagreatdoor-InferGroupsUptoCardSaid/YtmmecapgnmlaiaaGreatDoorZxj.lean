/- Closed facts of the row of inferGroups, part a (printed by gen_card.py) -/
import Derived.Test.YtmmecapgnmlaiaaGreatDoorCards
import Derived.JoinedCond
import Derived.Test.YtmmecapgnmlaiaaGreatDoorZz
set_option maxRecDepth 100000
set_option maxHeartbeats 16000000
namespace Go.Proofs.Q.bM
open Go.Proofs.YtmmecapgnmlaiaaGreatDoor
theorem k0:(Rows.inferGroupsUptoRow.wf (OpenSpec.ofChange Rows.inferGroupsSpec))=true:=by kernel_rfl
theorem k1:(laidOutB Tryz.prog)=true:=by kernel_rfl
theorem k2:(mapsRowed Tryz.prog)=true:=by kernel_rfl
theorem k3:(Tryz.f3.params.all (Tryz.prog.readableRec ·))=true:=by kernel_rfl
theorem k4:(namedTie Tryz.prog Rows.inferGroupsUptoRow.named Rows.inferGroupsSpec.vars)=true:=by kernel_rfl
theorem k5:((Rows.inferGroupsUptoRow.stops==[]))=true:=by kernel_rfl
theorem k6:((Tryz.prog.stops==[]))=true:=by kernel_rfl
theorem k7:((Rows.inferGroupsUptoRow.knobs==[]))=true:=by kernel_rfl
theorem k8:((Tryz.prog.stopKnobs==[]))=true:=by kernel_rfl
theorem k13:((Rows.inferGroupsUptoRow.maps==(Tryz.f3.params.toList++Rows.inferGroupsSpec.plain.varTypes Tryz.prog).any (Tryz.prog.mapsRec ·)))=true:=by kernel_rfl
theorem k14:((Rows.inferGroupsUptoRow.ifaces==(Tryz.f3.params.toList++Rows.inferGroupsSpec.plain.varTypes Tryz.prog).any (Tryz.prog.ifacesRec ·)))=true:=by kernel_rfl
theorem k15:((Rows.inferGroupsUptoRow.mapsOut==Tryz.prog.mapsAmong Tryz.f3.resultTypes.toList))=true:=by kernel_rfl
theorem k16:((Rows.inferGroupsUptoRow.loops==(Tryz.f3.params.toList++Rows.inferGroupsSpec.plain.varTypes Tryz.prog).any (Tryz.prog.loopsFrom ·)))=true:=by kernel_rfl
theorem k17:((Rows.inferGroupsUptoRow.wideKeys==(Tryz.f3.params.toList++Rows.inferGroupsSpec.plain.varTypes Tryz.prog++Tryz.f3.resultTypes.toList).any (Tryz.prog.wideKeysFrom ·)))=true:=by kernel_rfl
theorem k18:(Rows.inferGroupsSpec.vars.all (Tryz.prog.varReadable ·))=true:=by kernel_rfl
theorem k19:(Tryz.f3.resultTypes.all (fun t=>Tryz.prog.readableRec t&&decide (t < Tryz.prog.types.size)))=true:=by kernel_rfl
theorem k20:((Rows.inferGroupsUptoRow.ifacesOut==Tryz.f3.resultTypes.toList.any (Tryz.prog.ifacesRec ·)))=true:=by kernel_rfl
theorem k21:((Rows.inferGroupsUptoRow.loopsOut==Tryz.f3.resultTypes.toList.any (Tryz.prog.loopsFrom ·)))=true:=by kernel_rfl
theorem k22:((Rows.inferGroupsUptoRow.plainKeys==Tryz.prog.plainKeys))=true:=by kernel_rfl
theorem k23:(Rows.inferGroupsUptoRow.shortTexts.isNone)=true:=by kernel_rfl
theorem k24:(Tryz.prog.stopsHeard)=true:=by kernel_rfl
theorem k25:(Tryz.prog.mayEnter)=true:=by kernel_rfl
theorem k26:((Rows.inferGroupsUptoRow.lifted==Tryz.prog.liftsFinal))=true:=by kernel_rfl
theorem k27:((Tryz.prog.make==some Rows.inferGroupsUptoRow.make))=true:=by kernel_rfl
theorem k28:((Rows.inferGroupsUptoRow.kinds==(if Rows.inferGroupsUptoRow.domain.isEmpty then []else Tryz.f3.params.toList.map fun t=>match Tryz.prog.underlying t with|some (.int k)=>some k|_=>none)))=true:=by kernel_rfl
theorem k29:((Rows.inferGroupsUptoRow.pinned==Rows.inferGroupsUptoRow.pinnedBy))=true:=by kernel_rfl
theorem k30:((Rows.inferGroupsUptoRow.veiled==(Tryz.f3.params.toList++Rows.inferGroupsSpec.plain.varTypes Tryz.prog++Tryz.f3.resultTypes.toList).any (Tryz.prog.veiledRec ·)))=true:=by kernel_rfl
theorem k31:(Rows.inferGroupsUptoRow.veiledFits Tryz.prog Tryz.f3.params.toList (Tryz.f3.params.toList++Rows.inferGroupsSpec.plain.varTypes Tryz.prog++Tryz.f3.resultTypes.toList))=true:=by kernel_rfl
end Go.Proofs.Q.bM
namespace Go.Proofs.Q.bM
open Go.Proofs.YtmmecapgnmlaiaaGreatDoor
theorem k9:((Rows.inferGroupsUptoRow.inPlace==Tryz.prog.inPlace 3))=true:=by kernel_rfl
end Go.Proofs.Q.bM
namespace Go.Proofs.Q.bM
open Go.Proofs.YtmmecapgnmlaiaaGreatDoor
theorem k10:((Rows.inferGroupsUptoRow.unfollowed==Tryz.prog.unfollowed 3))=true:=by kernel_rfl
end Go.Proofs.Q.bM
namespace Go.Proofs.Q.bM
open Go.Proofs.YtmmecapgnmlaiaaGreatDoor
theorem k11:((Rows.inferGroupsUptoRow.recurses==Tryz.prog.recurses 3))=true:=by kernel_rfl
end Go.Proofs.Q.bM
namespace Go.Proofs.Q.bM
open Go.Proofs.YtmmecapgnmlaiaaGreatDoor
theorem k12:((Rows.inferGroupsUptoRow.named==Tryz.prog.varsNamed 3))=true:=by kernel_rfl
end Go.Proofs.Q.bM
namespace Go.Proofs.Q.bM
open Go.Proofs.YtmmecapgnmlaiaaGreatDoor
theorem dz {a b:Bool}(h:a=true)(k:b=true):(a&&b)=true:=by rw[h,k];rfl
theorem closed:joinedFacts Tryz.prog 3 Tryz.f3 Rows.inferGroupsSpec Rows.inferGroupsUptoRow=true:=(dz (dz (dz (dz (dz (dz (dz (dz (dz (dz (dz (dz (dz (dz (dz (dz (dz (dz (dz (dz (dz (dz (dz (dz (dz (dz (dz (dz (dz (dz (dz k0 k1) k2) k3) k4) k5) k6) k7) k8) k9) k10) k11) k12) k13) k14) k15) k16) k17) k18) k19) k20) k21) k22) k23) k24) k25) k26) k27) k28) k29) k30) k31)
end Go.Proofs.Q.bM
