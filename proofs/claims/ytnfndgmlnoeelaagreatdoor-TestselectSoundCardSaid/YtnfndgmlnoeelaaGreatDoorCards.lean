/-
  DERIVED. GIVEN WITH THE SEED: THE CARDS: each row of YtnfndgmlnoeelaaGreatDoorRows.lean that lists a variable, with what it lists TIED to the program's text (the seventh form; the later family's looks); each row that meets fmt, with fmt's text TOLD by the authors' own Lean function (tested against real Go, not proved from fmt's source: count such statements apart). THE CARD IS WHAT COUNTS. Prove the row's statement (the work); the ties are given (YtnfndgmlnoeelaaGreatDoorTie.lean); close each card by the builder's one call (the guide's Derived/Test/ToyasCard.lean, 'card_holds'). Laid BY PROGRAM, IN A SANDBOX (cutbox-door.mjs). By AI agents, Wed Nov 11 2026. No macro, syntax, notation, axiom, sorry.
-/
import Derived.Test.YtnfndgmlnoeelaaGreatDoorRows
import GoSem.ClaimSeven
namespace Go.Proofs.YtnfndgmlnoeelaaGreatDoor
namespace Rows

/-- THE TIED CARD OF 'cordwoodlaw40.DependChance'. -/
def dependChanceCard : Claim7 := { stood := { row := dependChanceRow, standIns := [], harness := (true, "59100e81e8d5525067b6b62de3ca3a27d4b050d1bbe2ecce5f37716903ead22f"), looks := true }, kinds := [], alts := [], laidByText := true, laidKinds := [.data, .pinned], laidTests := true, laidLooks := .later }
def DependChanceCardSaid : Prop := Claim7.holds Tryz.pinned (.plain (OpenSpec.ofChange dependChanceSpec)) dependChanceCard

/-- THE TIED CARD OF 'cordwoodlaw40.DependSufficient'. -/
def dependSufficientCard : Claim7 := { stood := { row := dependSufficientRow, standIns := [], harness := (true, "59100e81e8d5525067b6b62de3ca3a27d4b050d1bbe2ecce5f37716903ead22f"), looks := true }, kinds := [], alts := [], laidByText := true, laidKinds := [.data, .pinned], laidTests := true, laidLooks := .later }
def DependSufficientCardSaid : Prop := Claim7.holds Tryz.pinned (.plain (OpenSpec.ofChange dependSufficientSpec)) dependSufficientCard

/-- THE TIED CARD OF 'cordwoodlaw50.TestselectSound'. -/
def testselectSoundCard : Claim7 := { stood := { row := testselectSoundRow, standIns := [], harness := (true, "59100e81e8d5525067b6b62de3ca3a27d4b050d1bbe2ecce5f37716903ead22f"), looks := true }, kinds := [], alts := [], laidByText := true, laidKinds := [.data, .pinned], laidTests := true, laidLooks := .later }
def TestselectSoundCardSaid : Prop := Claim7.holds Tryz.pinned (.plain (OpenSpec.ofChange testselectSoundSpec)) testselectSoundCard

/-- THE SECOND FORM's CARD OF 'cordwoodlaw40.DependChance'. -/
def dependChanceUptoCard : Claim7 := { stood := { row := dependChanceUptoRow, standIns := [], harness := (true, "59100e81e8d5525067b6b62de3ca3a27d4b050d1bbe2ecce5f37716903ead22f"), looks := true }, kinds := [], alts := [], laidByText := true, laidKinds := [.data, .pinned], laidTests := true, laidLooks := .later }
def DependChanceUptoCardSaid : Prop := Claim7.holds Tryz.pinned (.plain (OpenSpec.upto dependChanceSpec)) dependChanceUptoCard

/-- THE SECOND FORM's CARD OF 'cordwoodlaw40.DependSufficient'. -/
def dependSufficientUptoCard : Claim7 := { stood := { row := dependSufficientUptoRow, standIns := [], harness := (true, "59100e81e8d5525067b6b62de3ca3a27d4b050d1bbe2ecce5f37716903ead22f"), looks := true }, kinds := [], alts := [], laidByText := true, laidKinds := [.data, .pinned], laidTests := true, laidLooks := .later }
def DependSufficientUptoCardSaid : Prop := Claim7.holds Tryz.pinned (.plain (OpenSpec.upto dependSufficientSpec)) dependSufficientUptoCard

/-- THE SECOND FORM's CARD OF 'cordwoodlaw50.TestselectSound'. -/
def testselectSoundUptoCard : Claim7 := { stood := { row := testselectSoundUptoRow, standIns := [], harness := (true, "59100e81e8d5525067b6b62de3ca3a27d4b050d1bbe2ecce5f37716903ead22f"), looks := true }, kinds := [], alts := [], laidByText := true, laidKinds := [.data, .pinned], laidTests := true, laidLooks := .later }
def TestselectSoundUptoCardSaid : Prop := Claim7.holds Tryz.pinned (.plain (OpenSpec.upto testselectSoundSpec)) testselectSoundUptoCard
end Rows
end Go.Proofs.YtnfndgmlnoeelaaGreatDoor
