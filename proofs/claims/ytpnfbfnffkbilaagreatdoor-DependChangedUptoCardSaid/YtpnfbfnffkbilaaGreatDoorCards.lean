/-
  DERIVED. GIVEN WITH THE SEED: THE CARDS: each row of YtpnfbfnffkbilaaGreatDoorRows.lean that lists a variable, with what it lists TIED to the program's text (the seventh form; the later family's looks); each row that meets fmt, with fmt's text TOLD by the authors' own Lean function (tested against real Go, not proved from fmt's source: count such statements apart). THE CARD IS WHAT COUNTS. Prove the row's statement (the work); the ties are given (YtpnfbfnffkbilaaGreatDoorTie.lean); close each card by the builder's one call (the guide's Derived/Test/ToyasCard.lean, 'card_holds'). Laid BY PROGRAM, IN A SANDBOX (cutbox-door.mjs). By AI agents, Wed Nov 11 2026. No macro, syntax, notation, axiom, sorry.
-/
import Derived.Test.YtpnfbfnffkbilaaGreatDoorRows
import GoSem.ClaimSeven
namespace Go.Proofs.YtpnfbfnffkbilaaGreatDoor
namespace Rows

/-- THE TIED CARD OF 'cordwoodlaw40.DependChanged'. -/
def dependChangedCard : Claim7 := { stood := { row := dependChangedRow, standIns := [], harness := (true, "4e055bd520fe7de1931b5979a662bde8bb1b630ac809d65f5a28cc35114356e3"), looks := false }, kinds := [], alts := [], laidByText := true, laidKinds := [.data, .pinned], laidTests := true, laidLooks := .later }
def DependChangedCardSaid : Prop := Claim7.holds Tryz.pinned (.plain (OpenSpec.ofChange dependChangedSpec)) dependChangedCard

/-- THE TIED CARD OF 'cordwoodlaw40.DependClosed'. -/
def dependClosedCard : Claim7 := { stood := { row := dependClosedRow, standIns := [], harness := (true, "4e055bd520fe7de1931b5979a662bde8bb1b630ac809d65f5a28cc35114356e3"), looks := false }, kinds := [], alts := [], laidByText := true, laidKinds := [.data, .pinned], laidTests := true, laidLooks := .later }
def DependClosedCardSaid : Prop := Claim7.holds Tryz.pinned (.plain (OpenSpec.ofChange dependClosedSpec)) dependClosedCard

/-- THE TIED CARD OF 'cordwoodlaw40.DependClosure'. -/
def dependClosureCard : Claim7 := { stood := { row := dependClosureRow, standIns := [], harness := (true, "4e055bd520fe7de1931b5979a662bde8bb1b630ac809d65f5a28cc35114356e3"), looks := false }, kinds := [], alts := [], laidByText := true, laidKinds := [.data, .pinned], laidTests := true, laidLooks := .later }
def DependClosureCardSaid : Prop := Claim7.holds Tryz.pinned (.plain (OpenSpec.ofChange dependClosureSpec)) dependClosureCard

/-- THE TIED CARD OF 'cordwoodlaw40.DependKey'. -/
def dependKeyCard : Claim7 := { stood := { row := dependKeyRow, standIns := [], harness := (true, "4e055bd520fe7de1931b5979a662bde8bb1b630ac809d65f5a28cc35114356e3"), looks := false }, kinds := [], alts := [], laidByText := true, laidKinds := [.data, .pinned], laidTests := true, laidLooks := .later }
def DependKeyCardSaid : Prop := Claim7.holds Tryz.pinned (.plain (OpenSpec.ofChange dependKeySpec)) dependKeyCard

/-- THE TIED CARD OF 'cordwoodlaw40.DependOutside'. -/
def dependOutsideCard : Claim7 := { stood := { row := dependOutsideRow, standIns := [], harness := (true, "4e055bd520fe7de1931b5979a662bde8bb1b630ac809d65f5a28cc35114356e3"), looks := false }, kinds := [], alts := [], laidByText := true, laidKinds := [.data, .pinned], laidTests := true, laidLooks := .later }
def DependOutsideCardSaid : Prop := Claim7.holds Tryz.pinned (.plain (OpenSpec.ofChange dependOutsideSpec)) dependOutsideCard

/-- THE TIED CARD OF 'cordwoodlaw40.DependSelf'. -/
def dependSelfCard : Claim7 := { stood := { row := dependSelfRow, standIns := [], harness := (true, "4e055bd520fe7de1931b5979a662bde8bb1b630ac809d65f5a28cc35114356e3"), looks := false }, kinds := [], alts := [], laidByText := true, laidKinds := [.data, .pinned], laidTests := true, laidLooks := .later }
def DependSelfCardSaid : Prop := Claim7.holds Tryz.pinned (.plain (OpenSpec.ofChange dependSelfSpec)) dependSelfCard

/-- THE TIED CARD OF 'cordwoodlaw40.DependNames'. -/
def dependNamesCard : Claim7 := { stood := { row := dependNamesRow, standIns := [], harness := (true, "4e055bd520fe7de1931b5979a662bde8bb1b630ac809d65f5a28cc35114356e3"), looks := false }, kinds := [], alts := [], laidByText := true, laidKinds := [.data, .pinned], laidTests := true, laidLooks := .later }
def DependNamesCardSaid : Prop := Claim7.holds Tryz.pinned (.plain (OpenSpec.ofChange dependNamesSpec)) dependNamesCard

/-- THE SECOND FORM's CARD OF 'cordwoodlaw40.DependChanged'. -/
def dependChangedUptoCard : Claim7 := { stood := { row := dependChangedUptoRow, standIns := [], harness := (true, "4e055bd520fe7de1931b5979a662bde8bb1b630ac809d65f5a28cc35114356e3"), looks := false }, kinds := [], alts := [], laidByText := true, laidKinds := [.data, .pinned], laidTests := true, laidLooks := .later }
def DependChangedUptoCardSaid : Prop := Claim7.holds Tryz.pinned (.plain (OpenSpec.upto dependChangedSpec)) dependChangedUptoCard

/-- THE SECOND FORM's CARD OF 'cordwoodlaw40.DependClosed'. -/
def dependClosedUptoCard : Claim7 := { stood := { row := dependClosedUptoRow, standIns := [], harness := (true, "4e055bd520fe7de1931b5979a662bde8bb1b630ac809d65f5a28cc35114356e3"), looks := false }, kinds := [], alts := [], laidByText := true, laidKinds := [.data, .pinned], laidTests := true, laidLooks := .later }
def DependClosedUptoCardSaid : Prop := Claim7.holds Tryz.pinned (.plain (OpenSpec.upto dependClosedSpec)) dependClosedUptoCard

/-- THE SECOND FORM's CARD OF 'cordwoodlaw40.DependClosure'. -/
def dependClosureUptoCard : Claim7 := { stood := { row := dependClosureUptoRow, standIns := [], harness := (true, "4e055bd520fe7de1931b5979a662bde8bb1b630ac809d65f5a28cc35114356e3"), looks := false }, kinds := [], alts := [], laidByText := true, laidKinds := [.data, .pinned], laidTests := true, laidLooks := .later }
def DependClosureUptoCardSaid : Prop := Claim7.holds Tryz.pinned (.plain (OpenSpec.upto dependClosureSpec)) dependClosureUptoCard

/-- THE SECOND FORM's CARD OF 'cordwoodlaw40.DependKey'. -/
def dependKeyUptoCard : Claim7 := { stood := { row := dependKeyUptoRow, standIns := [], harness := (true, "4e055bd520fe7de1931b5979a662bde8bb1b630ac809d65f5a28cc35114356e3"), looks := false }, kinds := [], alts := [], laidByText := true, laidKinds := [.data, .pinned], laidTests := true, laidLooks := .later }
def DependKeyUptoCardSaid : Prop := Claim7.holds Tryz.pinned (.plain (OpenSpec.upto dependKeySpec)) dependKeyUptoCard

/-- THE SECOND FORM's CARD OF 'cordwoodlaw40.DependOutside'. -/
def dependOutsideUptoCard : Claim7 := { stood := { row := dependOutsideUptoRow, standIns := [], harness := (true, "4e055bd520fe7de1931b5979a662bde8bb1b630ac809d65f5a28cc35114356e3"), looks := false }, kinds := [], alts := [], laidByText := true, laidKinds := [.data, .pinned], laidTests := true, laidLooks := .later }
def DependOutsideUptoCardSaid : Prop := Claim7.holds Tryz.pinned (.plain (OpenSpec.upto dependOutsideSpec)) dependOutsideUptoCard

/-- THE SECOND FORM's CARD OF 'cordwoodlaw40.DependSelf'. -/
def dependSelfUptoCard : Claim7 := { stood := { row := dependSelfUptoRow, standIns := [], harness := (true, "4e055bd520fe7de1931b5979a662bde8bb1b630ac809d65f5a28cc35114356e3"), looks := false }, kinds := [], alts := [], laidByText := true, laidKinds := [.data, .pinned], laidTests := true, laidLooks := .later }
def DependSelfUptoCardSaid : Prop := Claim7.holds Tryz.pinned (.plain (OpenSpec.upto dependSelfSpec)) dependSelfUptoCard

/-- THE SECOND FORM's CARD OF 'cordwoodlaw40.DependNames'. -/
def dependNamesUptoCard : Claim7 := { stood := { row := dependNamesUptoRow, standIns := [], harness := (true, "4e055bd520fe7de1931b5979a662bde8bb1b630ac809d65f5a28cc35114356e3"), looks := false }, kinds := [], alts := [], laidByText := true, laidKinds := [.data, .pinned], laidTests := true, laidLooks := .later }
def DependNamesUptoCardSaid : Prop := Claim7.holds Tryz.pinned (.plain (OpenSpec.upto dependNamesSpec)) dependNamesUptoCard
end Rows
end Go.Proofs.YtpnfbfnffkbilaaGreatDoor
