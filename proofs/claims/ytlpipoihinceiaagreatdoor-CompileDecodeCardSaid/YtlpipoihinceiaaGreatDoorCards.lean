/-
  DERIVED. GIVEN WITH THE SEED: THE CARDS: each row of YtlpipoihinceiaaGreatDoorRows.lean that lists a variable, with what it lists TIED to the program's text (the seventh form; the later family's looks); each row that meets fmt, with fmt's text TOLD by the authors' own Lean function (tested against real Go, not proved from fmt's source: count such statements apart). THE CARD IS WHAT COUNTS. Prove the row's statement (the work); the ties are given (YtlpipoihinceiaaGreatDoorTie.lean); close each card by the builder's one call (the guide's Derived/Test/ToyasCard.lean, 'card_holds'). Laid BY PROGRAM, IN A SANDBOX (cutbox-door.mjs). By AI agents, Wed Nov 11 2026. No macro, syntax, notation, axiom, sorry.
-/
import Derived.Test.YtlpipoihinceiaaGreatDoorRows
import GoSem.ClaimSeven
namespace Go.Proofs.YtlpipoihinceiaaGreatDoor
namespace Rows

/-- THE TIED CARD OF 'cordwoodlaw24.BindCheck'. -/
def bindCheckCard : Claim7 := { stood := { row := bindCheckRow, standIns := [], harness := (true, "6c111eab7f72a5eb5c86e29c7db4c9ac376c6051fddc32b6090c7722fe30a0a5"), looks := true }, kinds := [], alts := [], laidByText := true, laidKinds := [.data, .pinned], laidTests := true, laidLooks := .later }
def BindCheckCardSaid : Prop := Claim7.holds Tryz.pinned (.plain (OpenSpec.ofChange bindCheckSpec)) bindCheckCard

/-- THE TIED CARD OF 'cordwoodlaw24.BindBind'. -/
def bindBindCard : Claim7 := { stood := { row := bindBindRow, standIns := [], harness := (true, "6c111eab7f72a5eb5c86e29c7db4c9ac376c6051fddc32b6090c7722fe30a0a5"), looks := true }, kinds := [], alts := [], laidByText := true, laidKinds := [.data, .pinned], laidTests := true, laidLooks := .later }
def BindBindCardSaid : Prop := Claim7.holds Tryz.pinned (.plain (OpenSpec.ofChange bindBindSpec)) bindBindCard

/-- THE TIED CARD OF 'cordwoodlaw24.BindUnbind'. -/
def bindUnbindCard : Claim7 := { stood := { row := bindUnbindRow, standIns := [], harness := (true, "6c111eab7f72a5eb5c86e29c7db4c9ac376c6051fddc32b6090c7722fe30a0a5"), looks := true }, kinds := [], alts := [], laidByText := true, laidKinds := [.data, .pinned], laidTests := true, laidLooks := .later }
def BindUnbindCardSaid : Prop := Claim7.holds Tryz.pinned (.plain (OpenSpec.ofChange bindUnbindSpec)) bindUnbindCard

/-- THE TIED CARD OF 'cordwoodlaw24.BindRoundTrip'. -/
def bindRoundTripCard : Claim7 := { stood := { row := bindRoundTripRow, standIns := [], harness := (true, "6c111eab7f72a5eb5c86e29c7db4c9ac376c6051fddc32b6090c7722fe30a0a5"), looks := true }, kinds := [], alts := [], laidByText := true, laidKinds := [.data, .pinned], laidTests := true, laidLooks := .later }
def BindRoundTripCardSaid : Prop := Claim7.holds Tryz.pinned (.plain (OpenSpec.ofChange bindRoundTripSpec)) bindRoundTripCard

/-- THE TIED CARD OF 'cordwoodlaw28.CompileDecode'. -/
def compileDecodeCard : Claim7 := { stood := { row := compileDecodeRow, standIns := [], harness := (true, "6c111eab7f72a5eb5c86e29c7db4c9ac376c6051fddc32b6090c7722fe30a0a5"), looks := true }, kinds := [], alts := [], laidByText := true, laidKinds := [.data, .pinned], laidTests := true, laidLooks := .later }
def CompileDecodeCardSaid : Prop := Claim7.holds Tryz.pinned (.plain (OpenSpec.ofChange compileDecodeSpec)) compileDecodeCard

/-- THE TIED CARD OF 'cordwoodlaw28.CompileCheck'. -/
def compileCheckCard : Claim7 := { stood := { row := compileCheckRow, standIns := [], harness := (true, "6c111eab7f72a5eb5c86e29c7db4c9ac376c6051fddc32b6090c7722fe30a0a5"), looks := true }, kinds := [], alts := [], laidByText := true, laidKinds := [.data, .pinned], laidTests := true, laidLooks := .later }
def CompileCheckCardSaid : Prop := Claim7.holds Tryz.pinned (.plain (OpenSpec.ofChange compileCheckSpec)) compileCheckCard

/-- THE TIED CARD OF 'cordwoodlaw28.CompileEncoding'. -/
def compileEncodingCard : Claim7 := { stood := { row := compileEncodingRow, standIns := [], harness := (true, "6c111eab7f72a5eb5c86e29c7db4c9ac376c6051fddc32b6090c7722fe30a0a5"), looks := true }, kinds := [], alts := [], laidByText := true, laidKinds := [.data, .pinned], laidTests := true, laidLooks := .later }
def CompileEncodingCardSaid : Prop := Claim7.holds Tryz.pinned (.plain (OpenSpec.ofChange compileEncodingSpec)) compileEncodingCard

/-- THE SECOND FORM's CARD OF 'cordwoodlaw24.BindCheck'. -/
def bindCheckUptoCard : Claim7 := { stood := { row := bindCheckUptoRow, standIns := [], harness := (true, "6c111eab7f72a5eb5c86e29c7db4c9ac376c6051fddc32b6090c7722fe30a0a5"), looks := true }, kinds := [], alts := [], laidByText := true, laidKinds := [.data, .pinned], laidTests := true, laidLooks := .later }
def BindCheckUptoCardSaid : Prop := Claim7.holds Tryz.pinned (.plain (OpenSpec.upto bindCheckSpec)) bindCheckUptoCard

/-- THE SECOND FORM's CARD OF 'cordwoodlaw24.BindBind'. -/
def bindBindUptoCard : Claim7 := { stood := { row := bindBindUptoRow, standIns := [], harness := (true, "6c111eab7f72a5eb5c86e29c7db4c9ac376c6051fddc32b6090c7722fe30a0a5"), looks := true }, kinds := [], alts := [], laidByText := true, laidKinds := [.data, .pinned], laidTests := true, laidLooks := .later }
def BindBindUptoCardSaid : Prop := Claim7.holds Tryz.pinned (.plain (OpenSpec.upto bindBindSpec)) bindBindUptoCard

/-- THE SECOND FORM's CARD OF 'cordwoodlaw24.BindUnbind'. -/
def bindUnbindUptoCard : Claim7 := { stood := { row := bindUnbindUptoRow, standIns := [], harness := (true, "6c111eab7f72a5eb5c86e29c7db4c9ac376c6051fddc32b6090c7722fe30a0a5"), looks := true }, kinds := [], alts := [], laidByText := true, laidKinds := [.data, .pinned], laidTests := true, laidLooks := .later }
def BindUnbindUptoCardSaid : Prop := Claim7.holds Tryz.pinned (.plain (OpenSpec.upto bindUnbindSpec)) bindUnbindUptoCard

/-- THE SECOND FORM's CARD OF 'cordwoodlaw24.BindRoundTrip'. -/
def bindRoundTripUptoCard : Claim7 := { stood := { row := bindRoundTripUptoRow, standIns := [], harness := (true, "6c111eab7f72a5eb5c86e29c7db4c9ac376c6051fddc32b6090c7722fe30a0a5"), looks := true }, kinds := [], alts := [], laidByText := true, laidKinds := [.data, .pinned], laidTests := true, laidLooks := .later }
def BindRoundTripUptoCardSaid : Prop := Claim7.holds Tryz.pinned (.plain (OpenSpec.upto bindRoundTripSpec)) bindRoundTripUptoCard

/-- THE SECOND FORM's CARD OF 'cordwoodlaw28.CompileDecode'. -/
def compileDecodeUptoCard : Claim7 := { stood := { row := compileDecodeUptoRow, standIns := [], harness := (true, "6c111eab7f72a5eb5c86e29c7db4c9ac376c6051fddc32b6090c7722fe30a0a5"), looks := true }, kinds := [], alts := [], laidByText := true, laidKinds := [.data, .pinned], laidTests := true, laidLooks := .later }
def CompileDecodeUptoCardSaid : Prop := Claim7.holds Tryz.pinned (.plain (OpenSpec.upto compileDecodeSpec)) compileDecodeUptoCard

/-- THE SECOND FORM's CARD OF 'cordwoodlaw28.CompileCheck'. -/
def compileCheckUptoCard : Claim7 := { stood := { row := compileCheckUptoRow, standIns := [], harness := (true, "6c111eab7f72a5eb5c86e29c7db4c9ac376c6051fddc32b6090c7722fe30a0a5"), looks := true }, kinds := [], alts := [], laidByText := true, laidKinds := [.data, .pinned], laidTests := true, laidLooks := .later }
def CompileCheckUptoCardSaid : Prop := Claim7.holds Tryz.pinned (.plain (OpenSpec.upto compileCheckSpec)) compileCheckUptoCard

/-- THE SECOND FORM's CARD OF 'cordwoodlaw28.CompileEncoding'. -/
def compileEncodingUptoCard : Claim7 := { stood := { row := compileEncodingUptoRow, standIns := [], harness := (true, "6c111eab7f72a5eb5c86e29c7db4c9ac376c6051fddc32b6090c7722fe30a0a5"), looks := true }, kinds := [], alts := [], laidByText := true, laidKinds := [.data, .pinned], laidTests := true, laidLooks := .later }
def CompileEncodingUptoCardSaid : Prop := Claim7.holds Tryz.pinned (.plain (OpenSpec.upto compileEncodingSpec)) compileEncodingUptoCard
end Rows
end Go.Proofs.YtlpipoihinceiaaGreatDoor
