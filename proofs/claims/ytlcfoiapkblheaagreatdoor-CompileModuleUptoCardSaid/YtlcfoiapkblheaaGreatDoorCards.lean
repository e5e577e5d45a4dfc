/-
  DERIVED. GIVEN WITH THE SEED: THE CARDS: each row of YtlcfoiapkblheaaGreatDoorRows.lean that lists a variable, with what it lists TIED to the program's text (the seventh form; the later family's looks); each row that meets fmt, with fmt's text TOLD by the authors' own Lean function (tested against real Go, not proved from fmt's source: count such statements apart). THE CARD IS WHAT COUNTS. Prove the row's statement (the work); the ties are given (YtlcfoiapkblheaaGreatDoorTie.lean); close each card by the builder's one call (the guide's Derived/Test/ToyasCard.lean, 'card_holds'). Laid BY PROGRAM, IN A SANDBOX (cutbox-door.mjs). By AI agents, Wed Nov 11 2026. No macro, syntax, notation, axiom, sorry.
-/
import Derived.Test.YtlcfoiapkblheaaGreatDoorRows
import GoSem.ClaimSeven
namespace Go.Proofs.YtlcfoiapkblheaaGreatDoor
namespace Rows

/-- THE TIED CARD OF 'cordwoodlaw28.CompileModule'. -/
def compileModuleCard : Claim7 := { stood := { row := compileModuleRow, standIns := [], harness := (true, "43d6e871712c65132c51608b40ac495b85f9424df82d1e2b041bf55921f1b43c"), looks := true }, kinds := [], alts := [], laidByText := true, laidKinds := [.data, .pinned], laidTests := true, laidLooks := .later }
def CompileModuleCardSaid : Prop := Claim7.holds Tryz.pinned (.plain (OpenSpec.ofChange compileModuleSpec)) compileModuleCard

/-- THE TIED CARD OF 'cordwoodlaw28.CompileRefusals'. -/
def compileRefusalsCard : Claim7 := { stood := { row := compileRefusalsRow, standIns := [], harness := (true, "43d6e871712c65132c51608b40ac495b85f9424df82d1e2b041bf55921f1b43c"), looks := true }, kinds := [], alts := [], laidByText := true, laidKinds := [.data, .pinned], laidTests := true, laidLooks := .later }
def CompileRefusalsCardSaid : Prop := Claim7.holds Tryz.pinned (.plain (OpenSpec.ofChange compileRefusalsSpec)) compileRefusalsCard

/-- THE TIED CARD OF 'cordwoodlaw28.CompileSize'. -/
def compileSizeCard : Claim7 := { stood := { row := compileSizeRow, standIns := [], harness := (true, "43d6e871712c65132c51608b40ac495b85f9424df82d1e2b041bf55921f1b43c"), looks := true }, kinds := [], alts := [], laidByText := true, laidKinds := [.data, .pinned], laidTests := true, laidLooks := .later }
def CompileSizeCardSaid : Prop := Claim7.holds Tryz.pinned (.plain (OpenSpec.ofChange compileSizeSpec)) compileSizeCard

/-- THE TIED CARD OF 'cordwoodlaw28.CompileNames'. -/
def compileNamesCard : Claim7 := { stood := { row := compileNamesRow, standIns := [], harness := (true, "43d6e871712c65132c51608b40ac495b85f9424df82d1e2b041bf55921f1b43c"), looks := true }, kinds := [], alts := [], laidByText := true, laidKinds := [.data, .pinned], laidTests := true, laidLooks := .later }
def CompileNamesCardSaid : Prop := Claim7.holds Tryz.pinned (.plain (OpenSpec.ofChange compileNamesSpec)) compileNamesCard

/-- THE TIED CARD OF 'cordwoodlaw24.BindCheck'. -/
def bindCheckCard : Claim7 := { stood := { row := bindCheckRow, standIns := [], harness := (true, "43d6e871712c65132c51608b40ac495b85f9424df82d1e2b041bf55921f1b43c"), looks := true }, kinds := [], alts := [], laidByText := true, laidKinds := [.data, .pinned], laidTests := true, laidLooks := .later }
def BindCheckCardSaid : Prop := Claim7.holds Tryz.pinned (.plain (OpenSpec.ofChange bindCheckSpec)) bindCheckCard

/-- THE TIED CARD OF 'cordwoodlaw24.BindBind'. -/
def bindBindCard : Claim7 := { stood := { row := bindBindRow, standIns := [], harness := (true, "43d6e871712c65132c51608b40ac495b85f9424df82d1e2b041bf55921f1b43c"), looks := true }, kinds := [], alts := [], laidByText := true, laidKinds := [.data, .pinned], laidTests := true, laidLooks := .later }
def BindBindCardSaid : Prop := Claim7.holds Tryz.pinned (.plain (OpenSpec.ofChange bindBindSpec)) bindBindCard

/-- THE TIED CARD OF 'cordwoodlaw24.BindUnbind'. -/
def bindUnbindCard : Claim7 := { stood := { row := bindUnbindRow, standIns := [], harness := (true, "43d6e871712c65132c51608b40ac495b85f9424df82d1e2b041bf55921f1b43c"), looks := true }, kinds := [], alts := [], laidByText := true, laidKinds := [.data, .pinned], laidTests := true, laidLooks := .later }
def BindUnbindCardSaid : Prop := Claim7.holds Tryz.pinned (.plain (OpenSpec.ofChange bindUnbindSpec)) bindUnbindCard

/-- THE TIED CARD OF 'cordwoodlaw24.BindRoundTrip'. -/
def bindRoundTripCard : Claim7 := { stood := { row := bindRoundTripRow, standIns := [], harness := (true, "43d6e871712c65132c51608b40ac495b85f9424df82d1e2b041bf55921f1b43c"), looks := true }, kinds := [], alts := [], laidByText := true, laidKinds := [.data, .pinned], laidTests := true, laidLooks := .later }
def BindRoundTripCardSaid : Prop := Claim7.holds Tryz.pinned (.plain (OpenSpec.ofChange bindRoundTripSpec)) bindRoundTripCard

/-- THE TIED CARD OF 'cordwoodlaw28.CompileValid'. -/
def compileValidCard : Claim7 := { stood := { row := compileValidRow, standIns := [], harness := (true, "43d6e871712c65132c51608b40ac495b85f9424df82d1e2b041bf55921f1b43c"), looks := true }, kinds := [], alts := [], laidByText := true, laidKinds := [.data, .pinned], laidTests := true, laidLooks := .later }
def CompileValidCardSaid : Prop := Claim7.holds Tryz.pinned (.plain (OpenSpec.ofChange compileValidSpec)) compileValidCard

/-- THE TIED CARD OF 'cordwoodlaw28.CompileDecode'. -/
def compileDecodeCard : Claim7 := { stood := { row := compileDecodeRow, standIns := [], harness := (true, "43d6e871712c65132c51608b40ac495b85f9424df82d1e2b041bf55921f1b43c"), looks := true }, kinds := [], alts := [], laidByText := true, laidKinds := [.data, .pinned], laidTests := true, laidLooks := .later }
def CompileDecodeCardSaid : Prop := Claim7.holds Tryz.pinned (.plain (OpenSpec.ofChange compileDecodeSpec)) compileDecodeCard

/-- THE TIED CARD OF 'cordwoodlaw28.CompileCheck'. -/
def compileCheckCard : Claim7 := { stood := { row := compileCheckRow, standIns := [], harness := (true, "43d6e871712c65132c51608b40ac495b85f9424df82d1e2b041bf55921f1b43c"), looks := true }, kinds := [], alts := [], laidByText := true, laidKinds := [.data, .pinned], laidTests := true, laidLooks := .later }
def CompileCheckCardSaid : Prop := Claim7.holds Tryz.pinned (.plain (OpenSpec.ofChange compileCheckSpec)) compileCheckCard

/-- THE TIED CARD OF 'cordwoodlaw28.CompileEncoding'. -/
def compileEncodingCard : Claim7 := { stood := { row := compileEncodingRow, standIns := [], harness := (true, "43d6e871712c65132c51608b40ac495b85f9424df82d1e2b041bf55921f1b43c"), looks := true }, kinds := [], alts := [], laidByText := true, laidKinds := [.data, .pinned], laidTests := true, laidLooks := .later }
def CompileEncodingCardSaid : Prop := Claim7.holds Tryz.pinned (.plain (OpenSpec.ofChange compileEncodingSpec)) compileEncodingCard

/-- THE SECOND FORM's CARD OF 'cordwoodlaw28.CompileModule'. -/
def compileModuleUptoCard : Claim7 := { stood := { row := compileModuleUptoRow, standIns := [], harness := (true, "43d6e871712c65132c51608b40ac495b85f9424df82d1e2b041bf55921f1b43c"), looks := true }, kinds := [], alts := [], laidByText := true, laidKinds := [.data, .pinned], laidTests := true, laidLooks := .later }
def CompileModuleUptoCardSaid : Prop := Claim7.holds Tryz.pinned (.plain (OpenSpec.upto compileModuleSpec)) compileModuleUptoCard

/-- THE SECOND FORM's CARD OF 'cordwoodlaw28.CompileRefusals'. -/
def compileRefusalsUptoCard : Claim7 := { stood := { row := compileRefusalsUptoRow, standIns := [], harness := (true, "43d6e871712c65132c51608b40ac495b85f9424df82d1e2b041bf55921f1b43c"), looks := true }, kinds := [], alts := [], laidByText := true, laidKinds := [.data, .pinned], laidTests := true, laidLooks := .later }
def CompileRefusalsUptoCardSaid : Prop := Claim7.holds Tryz.pinned (.plain (OpenSpec.upto compileRefusalsSpec)) compileRefusalsUptoCard

/-- THE SECOND FORM's CARD OF 'cordwoodlaw28.CompileSize'. -/
def compileSizeUptoCard : Claim7 := { stood := { row := compileSizeUptoRow, standIns := [], harness := (true, "43d6e871712c65132c51608b40ac495b85f9424df82d1e2b041bf55921f1b43c"), looks := true }, kinds := [], alts := [], laidByText := true, laidKinds := [.data, .pinned], laidTests := true, laidLooks := .later }
def CompileSizeUptoCardSaid : Prop := Claim7.holds Tryz.pinned (.plain (OpenSpec.upto compileSizeSpec)) compileSizeUptoCard

/-- THE SECOND FORM's CARD OF 'cordwoodlaw28.CompileNames'. -/
def compileNamesUptoCard : Claim7 := { stood := { row := compileNamesUptoRow, standIns := [], harness := (true, "43d6e871712c65132c51608b40ac495b85f9424df82d1e2b041bf55921f1b43c"), looks := true }, kinds := [], alts := [], laidByText := true, laidKinds := [.data, .pinned], laidTests := true, laidLooks := .later }
def CompileNamesUptoCardSaid : Prop := Claim7.holds Tryz.pinned (.plain (OpenSpec.upto compileNamesSpec)) compileNamesUptoCard

/-- THE SECOND FORM's CARD OF 'cordwoodlaw24.BindCheck'. -/
def bindCheckUptoCard : Claim7 := { stood := { row := bindCheckUptoRow, standIns := [], harness := (true, "43d6e871712c65132c51608b40ac495b85f9424df82d1e2b041bf55921f1b43c"), looks := true }, kinds := [], alts := [], laidByText := true, laidKinds := [.data, .pinned], laidTests := true, laidLooks := .later }
def BindCheckUptoCardSaid : Prop := Claim7.holds Tryz.pinned (.plain (OpenSpec.upto bindCheckSpec)) bindCheckUptoCard

/-- THE SECOND FORM's CARD OF 'cordwoodlaw24.BindBind'. -/
def bindBindUptoCard : Claim7 := { stood := { row := bindBindUptoRow, standIns := [], harness := (true, "43d6e871712c65132c51608b40ac495b85f9424df82d1e2b041bf55921f1b43c"), looks := true }, kinds := [], alts := [], laidByText := true, laidKinds := [.data, .pinned], laidTests := true, laidLooks := .later }
def BindBindUptoCardSaid : Prop := Claim7.holds Tryz.pinned (.plain (OpenSpec.upto bindBindSpec)) bindBindUptoCard

/-- THE SECOND FORM's CARD OF 'cordwoodlaw24.BindUnbind'. -/
def bindUnbindUptoCard : Claim7 := { stood := { row := bindUnbindUptoRow, standIns := [], harness := (true, "43d6e871712c65132c51608b40ac495b85f9424df82d1e2b041bf55921f1b43c"), looks := true }, kinds := [], alts := [], laidByText := true, laidKinds := [.data, .pinned], laidTests := true, laidLooks := .later }
def BindUnbindUptoCardSaid : Prop := Claim7.holds Tryz.pinned (.plain (OpenSpec.upto bindUnbindSpec)) bindUnbindUptoCard

/-- THE SECOND FORM's CARD OF 'cordwoodlaw24.BindRoundTrip'. -/
def bindRoundTripUptoCard : Claim7 := { stood := { row := bindRoundTripUptoRow, standIns := [], harness := (true, "43d6e871712c65132c51608b40ac495b85f9424df82d1e2b041bf55921f1b43c"), looks := true }, kinds := [], alts := [], laidByText := true, laidKinds := [.data, .pinned], laidTests := true, laidLooks := .later }
def BindRoundTripUptoCardSaid : Prop := Claim7.holds Tryz.pinned (.plain (OpenSpec.upto bindRoundTripSpec)) bindRoundTripUptoCard

/-- THE SECOND FORM's CARD OF 'cordwoodlaw28.CompileValid'. -/
def compileValidUptoCard : Claim7 := { stood := { row := compileValidUptoRow, standIns := [], harness := (true, "43d6e871712c65132c51608b40ac495b85f9424df82d1e2b041bf55921f1b43c"), looks := true }, kinds := [], alts := [], laidByText := true, laidKinds := [.data, .pinned], laidTests := true, laidLooks := .later }
def CompileValidUptoCardSaid : Prop := Claim7.holds Tryz.pinned (.plain (OpenSpec.upto compileValidSpec)) compileValidUptoCard

/-- THE SECOND FORM's CARD OF 'cordwoodlaw28.CompileDecode'. -/
def compileDecodeUptoCard : Claim7 := { stood := { row := compileDecodeUptoRow, standIns := [], harness := (true, "43d6e871712c65132c51608b40ac495b85f9424df82d1e2b041bf55921f1b43c"), looks := true }, kinds := [], alts := [], laidByText := true, laidKinds := [.data, .pinned], laidTests := true, laidLooks := .later }
def CompileDecodeUptoCardSaid : Prop := Claim7.holds Tryz.pinned (.plain (OpenSpec.upto compileDecodeSpec)) compileDecodeUptoCard

/-- THE SECOND FORM's CARD OF 'cordwoodlaw28.CompileCheck'. -/
def compileCheckUptoCard : Claim7 := { stood := { row := compileCheckUptoRow, standIns := [], harness := (true, "43d6e871712c65132c51608b40ac495b85f9424df82d1e2b041bf55921f1b43c"), looks := true }, kinds := [], alts := [], laidByText := true, laidKinds := [.data, .pinned], laidTests := true, laidLooks := .later }
def CompileCheckUptoCardSaid : Prop := Claim7.holds Tryz.pinned (.plain (OpenSpec.upto compileCheckSpec)) compileCheckUptoCard

/-- THE SECOND FORM's CARD OF 'cordwoodlaw28.CompileEncoding'. -/
def compileEncodingUptoCard : Claim7 := { stood := { row := compileEncodingUptoRow, standIns := [], harness := (true, "43d6e871712c65132c51608b40ac495b85f9424df82d1e2b041bf55921f1b43c"), looks := true }, kinds := [], alts := [], laidByText := true, laidKinds := [.data, .pinned], laidTests := true, laidLooks := .later }
def CompileEncodingUptoCardSaid : Prop := Claim7.holds Tryz.pinned (.plain (OpenSpec.upto compileEncodingSpec)) compileEncodingUptoCard
end Rows
end Go.Proofs.YtlcfoiapkblheaaGreatDoor
