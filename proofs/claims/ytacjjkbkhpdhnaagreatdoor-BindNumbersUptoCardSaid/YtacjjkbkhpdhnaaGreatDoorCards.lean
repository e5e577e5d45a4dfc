/-
  DERIVED. GIVEN WITH THE SEED: THE CARDS: each row of YtacjjkbkhpdhnaaGreatDoorRows.lean that lists a variable, with what it lists TIED to the program's text (the seventh form; the later family's looks); each row that meets fmt, with fmt's text TOLD by the authors' own Lean function (tested against real Go, not proved from fmt's source: count such statements apart). THE CARD IS WHAT COUNTS. Prove the row's statement (the work); the ties are given (YtacjjkbkhpdhnaaGreatDoorTie.lean); close each card by the builder's one call (the guide's Derived/Test/ToyasCard.lean, 'card_holds'). Laid BY PROGRAM, IN A SANDBOX (cutbox-door.mjs). By AI agents, Wed Nov 11 2026. No macro, syntax, notation, axiom, sorry.
-/
import Derived.Test.YtacjjkbkhpdhnaaGreatDoorRows
import GoSem.ClaimSeven
namespace Go.Proofs.YtacjjkbkhpdhnaaGreatDoor
namespace Rows

/-- THE TIED CARD OF 'cordwoodlaw24.BindCheck'. -/
def bindCheckCard : Claim7 := { stood := { row := bindCheckRow, standIns := [], harness := (true, "4b11dee96b9ff648497b9c0942610c3b8858cfd7b5540f51dc0c349bd8989ee5"), looks := true }, kinds := [], alts := [], laidByText := true, laidKinds := [.data, .pinned], laidTests := true, laidLooks := .later }
def BindCheckCardSaid : Prop := Claim7.holds Tryz.pinned (.plain (OpenSpec.ofChange bindCheckSpec)) bindCheckCard

/-- THE TIED CARD OF 'cordwoodlaw24.BindBind'. -/
def bindBindCard : Claim7 := { stood := { row := bindBindRow, standIns := [], harness := (true, "4b11dee96b9ff648497b9c0942610c3b8858cfd7b5540f51dc0c349bd8989ee5"), looks := true }, kinds := [], alts := [], laidByText := true, laidKinds := [.data, .pinned], laidTests := true, laidLooks := .later }
def BindBindCardSaid : Prop := Claim7.holds Tryz.pinned (.plain (OpenSpec.ofChange bindBindSpec)) bindBindCard

/-- THE TIED CARD OF 'cordwoodlaw24.BindUnbind'. -/
def bindUnbindCard : Claim7 := { stood := { row := bindUnbindRow, standIns := [], harness := (true, "4b11dee96b9ff648497b9c0942610c3b8858cfd7b5540f51dc0c349bd8989ee5"), looks := true }, kinds := [], alts := [], laidByText := true, laidKinds := [.data, .pinned], laidTests := true, laidLooks := .later }
def BindUnbindCardSaid : Prop := Claim7.holds Tryz.pinned (.plain (OpenSpec.ofChange bindUnbindSpec)) bindUnbindCard

/-- THE TIED CARD OF 'cordwoodlaw24.BindRoundTrip'. -/
def bindRoundTripCard : Claim7 := { stood := { row := bindRoundTripRow, standIns := [], harness := (true, "4b11dee96b9ff648497b9c0942610c3b8858cfd7b5540f51dc0c349bd8989ee5"), looks := true }, kinds := [], alts := [], laidByText := true, laidKinds := [.data, .pinned], laidTests := true, laidLooks := .later }
def BindRoundTripCardSaid : Prop := Claim7.holds Tryz.pinned (.plain (OpenSpec.ofChange bindRoundTripSpec)) bindRoundTripCard

/-- THE TIED CARD OF 'cordwoodlaw24.BindNumber'. -/
def bindNumberCard : Claim7 := { stood := { row := bindNumberRow, standIns := [], harness := (true, "4b11dee96b9ff648497b9c0942610c3b8858cfd7b5540f51dc0c349bd8989ee5"), looks := true }, kinds := [], alts := [], laidByText := true, laidKinds := [.data, .pinned], laidTests := true, laidLooks := .later }
def BindNumberCardSaid : Prop := Claim7.holds Tryz.pinned (.plain (OpenSpec.ofChange bindNumberSpec)) bindNumberCard

/-- THE TIED CARD OF 'cordwoodlaw24.BindNumbers'. -/
def bindNumbersCard : Claim7 := { stood := { row := bindNumbersRow, standIns := [], harness := (true, "4b11dee96b9ff648497b9c0942610c3b8858cfd7b5540f51dc0c349bd8989ee5"), looks := true }, kinds := [], alts := [], laidByText := true, laidKinds := [.data, .pinned], laidTests := true, laidLooks := .later }
def BindNumbersCardSaid : Prop := Claim7.holds Tryz.pinned (.plain (OpenSpec.ofChange bindNumbersSpec)) bindNumbersCard

/-- THE SECOND FORM's CARD OF 'cordwoodlaw24.BindCheck'. -/
def bindCheckUptoCard : Claim7 := { stood := { row := bindCheckUptoRow, standIns := [], harness := (true, "4b11dee96b9ff648497b9c0942610c3b8858cfd7b5540f51dc0c349bd8989ee5"), looks := true }, kinds := [], alts := [], laidByText := true, laidKinds := [.data, .pinned], laidTests := true, laidLooks := .later }
def BindCheckUptoCardSaid : Prop := Claim7.holds Tryz.pinned (.plain (OpenSpec.upto bindCheckSpec)) bindCheckUptoCard

/-- THE SECOND FORM's CARD OF 'cordwoodlaw24.BindBind'. -/
def bindBindUptoCard : Claim7 := { stood := { row := bindBindUptoRow, standIns := [], harness := (true, "4b11dee96b9ff648497b9c0942610c3b8858cfd7b5540f51dc0c349bd8989ee5"), looks := true }, kinds := [], alts := [], laidByText := true, laidKinds := [.data, .pinned], laidTests := true, laidLooks := .later }
def BindBindUptoCardSaid : Prop := Claim7.holds Tryz.pinned (.plain (OpenSpec.upto bindBindSpec)) bindBindUptoCard

/-- THE SECOND FORM's CARD OF 'cordwoodlaw24.BindUnbind'. -/
def bindUnbindUptoCard : Claim7 := { stood := { row := bindUnbindUptoRow, standIns := [], harness := (true, "4b11dee96b9ff648497b9c0942610c3b8858cfd7b5540f51dc0c349bd8989ee5"), looks := true }, kinds := [], alts := [], laidByText := true, laidKinds := [.data, .pinned], laidTests := true, laidLooks := .later }
def BindUnbindUptoCardSaid : Prop := Claim7.holds Tryz.pinned (.plain (OpenSpec.upto bindUnbindSpec)) bindUnbindUptoCard

/-- THE SECOND FORM's CARD OF 'cordwoodlaw24.BindRoundTrip'. -/
def bindRoundTripUptoCard : Claim7 := { stood := { row := bindRoundTripUptoRow, standIns := [], harness := (true, "4b11dee96b9ff648497b9c0942610c3b8858cfd7b5540f51dc0c349bd8989ee5"), looks := true }, kinds := [], alts := [], laidByText := true, laidKinds := [.data, .pinned], laidTests := true, laidLooks := .later }
def BindRoundTripUptoCardSaid : Prop := Claim7.holds Tryz.pinned (.plain (OpenSpec.upto bindRoundTripSpec)) bindRoundTripUptoCard

/-- THE SECOND FORM's CARD OF 'cordwoodlaw24.BindNumber'. -/
def bindNumberUptoCard : Claim7 := { stood := { row := bindNumberUptoRow, standIns := [], harness := (true, "4b11dee96b9ff648497b9c0942610c3b8858cfd7b5540f51dc0c349bd8989ee5"), looks := true }, kinds := [], alts := [], laidByText := true, laidKinds := [.data, .pinned], laidTests := true, laidLooks := .later }
def BindNumberUptoCardSaid : Prop := Claim7.holds Tryz.pinned (.plain (OpenSpec.upto bindNumberSpec)) bindNumberUptoCard

/-- THE SECOND FORM's CARD OF 'cordwoodlaw24.BindNumbers'. -/
def bindNumbersUptoCard : Claim7 := { stood := { row := bindNumbersUptoRow, standIns := [], harness := (true, "4b11dee96b9ff648497b9c0942610c3b8858cfd7b5540f51dc0c349bd8989ee5"), looks := true }, kinds := [], alts := [], laidByText := true, laidKinds := [.data, .pinned], laidTests := true, laidLooks := .later }
def BindNumbersUptoCardSaid : Prop := Claim7.holds Tryz.pinned (.plain (OpenSpec.upto bindNumbersSpec)) bindNumbersUptoCard
end Rows
end Go.Proofs.YtacjjkbkhpdhnaaGreatDoor
