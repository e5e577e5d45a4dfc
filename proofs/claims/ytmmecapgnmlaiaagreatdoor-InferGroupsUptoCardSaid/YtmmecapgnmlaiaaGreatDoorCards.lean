/-
  DERIVED. GIVEN WITH THE SEED: THE CARDS: each row of YtmmecapgnmlaiaaGreatDoorRows.lean that lists a variable, with what it lists TIED to the program's text (the seventh form; the later family's looks); each row that meets fmt, with fmt's text TOLD by the authors' own Lean function (tested against real Go, not proved from fmt's source: count such statements apart). THE CARD IS WHAT COUNTS. Prove the row's statement (the work); the ties are given (YtmmecapgnmlaiaaGreatDoorTie.lean); close each card by the builder's one call (the guide's Derived/Test/ToyasCard.lean, 'card_holds'). Laid BY PROGRAM, IN A SANDBOX (cutbox-door.mjs). By AI agents, Wed Nov 11 2026. No macro, syntax, notation, axiom, sorry.
-/
import Derived.Test.YtmmecapgnmlaiaaGreatDoorRows
import GoSem.ClaimSeven
namespace Go.Proofs.YtmmecapgnmlaiaaGreatDoor
namespace Rows

/-- THE TIED CARD OF 'cordwoodlaw25.InferGroups'. -/
def inferGroupsCard : Claim7 := { stood := { row := inferGroupsRow, standIns := [], harness := (true, "286b44e6ef92eb943c032e1bb8c0aa3bc2690831dc9efaef87622163ac2d07b1"), looks := false }, kinds := [], alts := [], laidByText := true, laidKinds := [.data, .pinned], laidTests := true, laidLooks := .later }
def InferGroupsCardSaid : Prop := Claim7.holds Tryz.pinned (.plain (OpenSpec.ofChange inferGroupsSpec)) inferGroupsCard

/-- THE TIED CARD OF 'cordwoodlaw25.InferModule'. -/
def inferModuleCard : Claim7 := { stood := { row := inferModuleRow, standIns := [], harness := (true, "286b44e6ef92eb943c032e1bb8c0aa3bc2690831dc9efaef87622163ac2d07b1"), looks := false }, kinds := [], alts := [], laidByText := true, laidKinds := [.data, .pinned], laidTests := true, laidLooks := .later }
def InferModuleCardSaid : Prop := Claim7.holds Tryz.pinned (.plain (OpenSpec.ofChange inferModuleSpec)) inferModuleCard

/-- THE TIED CARD OF 'cordwoodlaw25.InferOrder'. -/
def inferOrderCard : Claim7 := { stood := { row := inferOrderRow, standIns := [], harness := (true, "286b44e6ef92eb943c032e1bb8c0aa3bc2690831dc9efaef87622163ac2d07b1"), looks := false }, kinds := [], alts := [], laidByText := true, laidKinds := [.data, .pinned], laidTests := true, laidLooks := .later }
def InferOrderCardSaid : Prop := Claim7.holds Tryz.pinned (.plain (OpenSpec.ofChange inferOrderSpec)) inferOrderCard

/-- THE TIED CARD OF 'cordwoodlaw25.InferNumbers'. -/
def inferNumbersCard : Claim7 := { stood := { row := inferNumbersRow, standIns := [], harness := (true, "286b44e6ef92eb943c032e1bb8c0aa3bc2690831dc9efaef87622163ac2d07b1"), looks := false }, kinds := [], alts := [], laidByText := true, laidKinds := [.data, .pinned], laidTests := true, laidLooks := .later }
def InferNumbersCardSaid : Prop := Claim7.holds Tryz.pinned (.plain (OpenSpec.ofChange inferNumbersSpec)) inferNumbersCard

/-- THE TIED CARD OF 'cordwoodlaw25.InferTests'. -/
def inferTestsCard : Claim7 := { stood := { row := inferTestsRow, standIns := [], harness := (true, "286b44e6ef92eb943c032e1bb8c0aa3bc2690831dc9efaef87622163ac2d07b1"), looks := false }, kinds := [], alts := [], laidByText := true, laidKinds := [.data, .pinned], laidTests := true, laidLooks := .later }
def InferTestsCardSaid : Prop := Claim7.holds Tryz.pinned (.plain (OpenSpec.ofChange inferTestsSpec)) inferTestsCard

/-- THE TIED CARD OF 'cordwoodlaw25.InferForms'. -/
def inferFormsCard : Claim7 := { stood := { row := inferFormsRow, standIns := [], harness := (true, "286b44e6ef92eb943c032e1bb8c0aa3bc2690831dc9efaef87622163ac2d07b1"), looks := false }, kinds := [], alts := [], laidByText := true, laidKinds := [.data, .pinned], laidTests := true, laidLooks := .later }
def InferFormsCardSaid : Prop := Claim7.holds Tryz.pinned (.plain (OpenSpec.ofChange inferFormsSpec)) inferFormsCard

/-- THE TIED CARD OF 'cordwoodlaw25.InferRename'. -/
def inferRenameCard : Claim7 := { stood := { row := inferRenameRow, standIns := [], harness := (true, "286b44e6ef92eb943c032e1bb8c0aa3bc2690831dc9efaef87622163ac2d07b1"), looks := false }, kinds := [], alts := [], laidByText := true, laidKinds := [.data, .pinned], laidTests := true, laidLooks := .later }
def InferRenameCardSaid : Prop := Claim7.holds Tryz.pinned (.plain (OpenSpec.ofChange inferRenameSpec)) inferRenameCard

/-- THE TIED CARD OF 'cordwoodlaw25.InferTyped'. -/
def inferTypedCard : Claim7 := { stood := { row := inferTypedRow, standIns := [], harness := (true, "286b44e6ef92eb943c032e1bb8c0aa3bc2690831dc9efaef87622163ac2d07b1"), looks := false }, kinds := [], alts := [], laidByText := true, laidKinds := [.data, .pinned], laidTests := true, laidLooks := .later }
def InferTypedCardSaid : Prop := Claim7.holds Tryz.pinned (.plain (OpenSpec.ofChange inferTypedSpec)) inferTypedCard

/-- THE TIED CARD OF 'cordwoodlaw25.InferPrincipal'. -/
def inferPrincipalCard : Claim7 := { stood := { row := inferPrincipalRow, standIns := [], harness := (true, "286b44e6ef92eb943c032e1bb8c0aa3bc2690831dc9efaef87622163ac2d07b1"), looks := false }, kinds := [], alts := [], laidByText := true, laidKinds := [.data, .pinned], laidTests := true, laidLooks := .later }
def InferPrincipalCardSaid : Prop := Claim7.holds Tryz.pinned (.plain (OpenSpec.ofChange inferPrincipalSpec)) inferPrincipalCard

/-- THE SECOND FORM's CARD OF 'cordwoodlaw25.InferGroups'. -/
def inferGroupsUptoCard : Claim7 := { stood := { row := inferGroupsUptoRow, standIns := [], harness := (true, "286b44e6ef92eb943c032e1bb8c0aa3bc2690831dc9efaef87622163ac2d07b1"), looks := false }, kinds := [], alts := [], laidByText := true, laidKinds := [.data, .pinned], laidTests := true, laidLooks := .later }
def InferGroupsUptoCardSaid : Prop := Claim7.holds Tryz.pinned (.plain (OpenSpec.upto inferGroupsSpec)) inferGroupsUptoCard

/-- THE SECOND FORM's CARD OF 'cordwoodlaw25.InferModule'. -/
def inferModuleUptoCard : Claim7 := { stood := { row := inferModuleUptoRow, standIns := [], harness := (true, "286b44e6ef92eb943c032e1bb8c0aa3bc2690831dc9efaef87622163ac2d07b1"), looks := false }, kinds := [], alts := [], laidByText := true, laidKinds := [.data, .pinned], laidTests := true, laidLooks := .later }
def InferModuleUptoCardSaid : Prop := Claim7.holds Tryz.pinned (.plain (OpenSpec.upto inferModuleSpec)) inferModuleUptoCard

/-- THE SECOND FORM's CARD OF 'cordwoodlaw25.InferOrder'. -/
def inferOrderUptoCard : Claim7 := { stood := { row := inferOrderUptoRow, standIns := [], harness := (true, "286b44e6ef92eb943c032e1bb8c0aa3bc2690831dc9efaef87622163ac2d07b1"), looks := false }, kinds := [], alts := [], laidByText := true, laidKinds := [.data, .pinned], laidTests := true, laidLooks := .later }
def InferOrderUptoCardSaid : Prop := Claim7.holds Tryz.pinned (.plain (OpenSpec.upto inferOrderSpec)) inferOrderUptoCard

/-- THE SECOND FORM's CARD OF 'cordwoodlaw25.InferNumbers'. -/
def inferNumbersUptoCard : Claim7 := { stood := { row := inferNumbersUptoRow, standIns := [], harness := (true, "286b44e6ef92eb943c032e1bb8c0aa3bc2690831dc9efaef87622163ac2d07b1"), looks := false }, kinds := [], alts := [], laidByText := true, laidKinds := [.data, .pinned], laidTests := true, laidLooks := .later }
def InferNumbersUptoCardSaid : Prop := Claim7.holds Tryz.pinned (.plain (OpenSpec.upto inferNumbersSpec)) inferNumbersUptoCard

/-- THE SECOND FORM's CARD OF 'cordwoodlaw25.InferTests'. -/
def inferTestsUptoCard : Claim7 := { stood := { row := inferTestsUptoRow, standIns := [], harness := (true, "286b44e6ef92eb943c032e1bb8c0aa3bc2690831dc9efaef87622163ac2d07b1"), looks := false }, kinds := [], alts := [], laidByText := true, laidKinds := [.data, .pinned], laidTests := true, laidLooks := .later }
def InferTestsUptoCardSaid : Prop := Claim7.holds Tryz.pinned (.plain (OpenSpec.upto inferTestsSpec)) inferTestsUptoCard

/-- THE SECOND FORM's CARD OF 'cordwoodlaw25.InferForms'. -/
def inferFormsUptoCard : Claim7 := { stood := { row := inferFormsUptoRow, standIns := [], harness := (true, "286b44e6ef92eb943c032e1bb8c0aa3bc2690831dc9efaef87622163ac2d07b1"), looks := false }, kinds := [], alts := [], laidByText := true, laidKinds := [.data, .pinned], laidTests := true, laidLooks := .later }
def InferFormsUptoCardSaid : Prop := Claim7.holds Tryz.pinned (.plain (OpenSpec.upto inferFormsSpec)) inferFormsUptoCard

/-- THE SECOND FORM's CARD OF 'cordwoodlaw25.InferRename'. -/
def inferRenameUptoCard : Claim7 := { stood := { row := inferRenameUptoRow, standIns := [], harness := (true, "286b44e6ef92eb943c032e1bb8c0aa3bc2690831dc9efaef87622163ac2d07b1"), looks := false }, kinds := [], alts := [], laidByText := true, laidKinds := [.data, .pinned], laidTests := true, laidLooks := .later }
def InferRenameUptoCardSaid : Prop := Claim7.holds Tryz.pinned (.plain (OpenSpec.upto inferRenameSpec)) inferRenameUptoCard

/-- THE SECOND FORM's CARD OF 'cordwoodlaw25.InferTyped'. -/
def inferTypedUptoCard : Claim7 := { stood := { row := inferTypedUptoRow, standIns := [], harness := (true, "286b44e6ef92eb943c032e1bb8c0aa3bc2690831dc9efaef87622163ac2d07b1"), looks := false }, kinds := [], alts := [], laidByText := true, laidKinds := [.data, .pinned], laidTests := true, laidLooks := .later }
def InferTypedUptoCardSaid : Prop := Claim7.holds Tryz.pinned (.plain (OpenSpec.upto inferTypedSpec)) inferTypedUptoCard

/-- THE SECOND FORM's CARD OF 'cordwoodlaw25.InferPrincipal'. -/
def inferPrincipalUptoCard : Claim7 := { stood := { row := inferPrincipalUptoRow, standIns := [], harness := (true, "286b44e6ef92eb943c032e1bb8c0aa3bc2690831dc9efaef87622163ac2d07b1"), looks := false }, kinds := [], alts := [], laidByText := true, laidKinds := [.data, .pinned], laidTests := true, laidLooks := .later }
def InferPrincipalUptoCardSaid : Prop := Claim7.holds Tryz.pinned (.plain (OpenSpec.upto inferPrincipalSpec)) inferPrincipalUptoCard
end Rows
end Go.Proofs.YtmmecapgnmlaiaaGreatDoor
