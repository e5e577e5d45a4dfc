/-
  DERIVED. GIVEN WITH THE SEED: THE CARDS: each row of YtdobpmbgngomlaaGreatDoorRows.lean that lists a variable, with what it lists TIED to the program's text (the seventh form; the later family's looks); each row that meets fmt, with fmt's text TOLD by the authors' own Lean function (tested against real Go, not proved from fmt's source: count such statements apart). THE CARD IS WHAT COUNTS. Prove the row's statement (the work); the ties are given (YtdobpmbgngomlaaGreatDoorTie.lean); close each card by the builder's one call (the guide's Derived/Test/ToyasCard.lean, 'card_holds'). Laid BY PROGRAM, IN A SANDBOX (cutbox-door.mjs). By AI agents, Wed Nov 11 2026. No macro, syntax, notation, axiom, sorry.
-/
import Derived.Test.YtdobpmbgngomlaaGreatDoorRows
import GoSem.ClaimSeven
namespace Go.Proofs.YtdobpmbgngomlaaGreatDoor
namespace Rows

/-- THE TIED CARD OF 'cordwoodlaw40.DependOutside'. -/
def dependOutsideCard : Claim7 := { stood := { row := dependOutsideRow, standIns := [], harness := (true, "9ac874da267de461de197e6fcc2d2a5f6567af84301abb0ca48e38fbf1386377"), looks := false }, kinds := [], alts := [], laidByText := true, laidKinds := [.data, .pinned], laidTests := true, laidLooks := .later }
def DependOutsideCardSaid : Prop := Claim7.holds Tryz.pinned (.plain (OpenSpec.ofChange dependOutsideSpec)) dependOutsideCard

/-- THE TIED CARD OF 'cordwoodlaw50.TestselectSelect'. -/
def testselectSelectCard : Claim7 := { stood := { row := testselectSelectRow, standIns := [], harness := (true, "9ac874da267de461de197e6fcc2d2a5f6567af84301abb0ca48e38fbf1386377"), looks := false }, kinds := [], alts := [], laidByText := true, laidKinds := [.data, .pinned], laidTests := true, laidLooks := .later }
def TestselectSelectCardSaid : Prop := Claim7.holds Tryz.pinned (.plain (OpenSpec.ofChange testselectSelectSpec)) testselectSelectCard

/-- THE TIED CARD OF 'cordwoodlaw50.TestselectCertify'. -/
def testselectCertifyCard : Claim7 := { stood := { row := testselectCertifyRow, standIns := [], harness := (true, "9ac874da267de461de197e6fcc2d2a5f6567af84301abb0ca48e38fbf1386377"), looks := false }, kinds := [], alts := [], laidByText := true, laidKinds := [.data, .pinned], laidTests := true, laidLooks := .later }
def TestselectCertifyCardSaid : Prop := Claim7.holds Tryz.pinned (.plain (OpenSpec.ofChange testselectCertifySpec)) testselectCertifyCard

/-- THE TIED CARD OF 'cordwoodlaw50.TestselectParts'. -/
def testselectPartsCard : Claim7 := { stood := { row := testselectPartsRow, standIns := [], harness := (true, "9ac874da267de461de197e6fcc2d2a5f6567af84301abb0ca48e38fbf1386377"), looks := false }, kinds := [], alts := [], laidByText := true, laidKinds := [.data, .pinned], laidTests := true, laidLooks := .later }
def TestselectPartsCardSaid : Prop := Claim7.holds Tryz.pinned (.plain (OpenSpec.ofChange testselectPartsSpec)) testselectPartsCard

/-- THE TIED CARD OF 'cordwoodlaw50.TestselectCertificates'. -/
def testselectCertificatesCard : Claim7 := { stood := { row := testselectCertificatesRow, standIns := [], harness := (true, "9ac874da267de461de197e6fcc2d2a5f6567af84301abb0ca48e38fbf1386377"), looks := false }, kinds := [], alts := [], laidByText := true, laidKinds := [.data, .pinned], laidTests := true, laidLooks := .later }
def TestselectCertificatesCardSaid : Prop := Claim7.holds Tryz.pinned (.plain (OpenSpec.ofChange testselectCertificatesSpec)) testselectCertificatesCard

/-- THE TIED CARD OF 'cordwoodlaw50.TestselectExact'. -/
def testselectExactCard : Claim7 := { stood := { row := testselectExactRow, standIns := [], harness := (true, "9ac874da267de461de197e6fcc2d2a5f6567af84301abb0ca48e38fbf1386377"), looks := false }, kinds := [], alts := [], laidByText := true, laidKinds := [.data, .pinned], laidTests := true, laidLooks := .later }
def TestselectExactCardSaid : Prop := Claim7.holds Tryz.pinned (.plain (OpenSpec.ofChange testselectExactSpec)) testselectExactCard

/-- THE TIED CARD OF 'cordwoodlaw40.DependNames'. -/
def dependNamesCard : Claim7 := { stood := { row := dependNamesRow, standIns := [], harness := (true, "9ac874da267de461de197e6fcc2d2a5f6567af84301abb0ca48e38fbf1386377"), looks := false }, kinds := [], alts := [], laidByText := true, laidKinds := [.data, .pinned], laidTests := true, laidLooks := .later }
def DependNamesCardSaid : Prop := Claim7.holds Tryz.pinned (.plain (OpenSpec.ofChange dependNamesSpec)) dependNamesCard

/-- THE SECOND FORM's CARD OF 'cordwoodlaw40.DependOutside'. -/
def dependOutsideUptoCard : Claim7 := { stood := { row := dependOutsideUptoRow, standIns := [], harness := (true, "9ac874da267de461de197e6fcc2d2a5f6567af84301abb0ca48e38fbf1386377"), looks := false }, kinds := [], alts := [], laidByText := true, laidKinds := [.data, .pinned], laidTests := true, laidLooks := .later }
def DependOutsideUptoCardSaid : Prop := Claim7.holds Tryz.pinned (.plain (OpenSpec.upto dependOutsideSpec)) dependOutsideUptoCard

/-- THE SECOND FORM's CARD OF 'cordwoodlaw50.TestselectSelect'. -/
def testselectSelectUptoCard : Claim7 := { stood := { row := testselectSelectUptoRow, standIns := [], harness := (true, "9ac874da267de461de197e6fcc2d2a5f6567af84301abb0ca48e38fbf1386377"), looks := false }, kinds := [], alts := [], laidByText := true, laidKinds := [.data, .pinned], laidTests := true, laidLooks := .later }
def TestselectSelectUptoCardSaid : Prop := Claim7.holds Tryz.pinned (.plain (OpenSpec.upto testselectSelectSpec)) testselectSelectUptoCard

/-- THE SECOND FORM's CARD OF 'cordwoodlaw50.TestselectCertify'. -/
def testselectCertifyUptoCard : Claim7 := { stood := { row := testselectCertifyUptoRow, standIns := [], harness := (true, "9ac874da267de461de197e6fcc2d2a5f6567af84301abb0ca48e38fbf1386377"), looks := false }, kinds := [], alts := [], laidByText := true, laidKinds := [.data, .pinned], laidTests := true, laidLooks := .later }
def TestselectCertifyUptoCardSaid : Prop := Claim7.holds Tryz.pinned (.plain (OpenSpec.upto testselectCertifySpec)) testselectCertifyUptoCard

/-- THE SECOND FORM's CARD OF 'cordwoodlaw50.TestselectParts'. -/
def testselectPartsUptoCard : Claim7 := { stood := { row := testselectPartsUptoRow, standIns := [], harness := (true, "9ac874da267de461de197e6fcc2d2a5f6567af84301abb0ca48e38fbf1386377"), looks := false }, kinds := [], alts := [], laidByText := true, laidKinds := [.data, .pinned], laidTests := true, laidLooks := .later }
def TestselectPartsUptoCardSaid : Prop := Claim7.holds Tryz.pinned (.plain (OpenSpec.upto testselectPartsSpec)) testselectPartsUptoCard

/-- THE SECOND FORM's CARD OF 'cordwoodlaw50.TestselectCertificates'. -/
def testselectCertificatesUptoCard : Claim7 := { stood := { row := testselectCertificatesUptoRow, standIns := [], harness := (true, "9ac874da267de461de197e6fcc2d2a5f6567af84301abb0ca48e38fbf1386377"), looks := false }, kinds := [], alts := [], laidByText := true, laidKinds := [.data, .pinned], laidTests := true, laidLooks := .later }
def TestselectCertificatesUptoCardSaid : Prop := Claim7.holds Tryz.pinned (.plain (OpenSpec.upto testselectCertificatesSpec)) testselectCertificatesUptoCard

/-- THE SECOND FORM's CARD OF 'cordwoodlaw50.TestselectExact'. -/
def testselectExactUptoCard : Claim7 := { stood := { row := testselectExactUptoRow, standIns := [], harness := (true, "9ac874da267de461de197e6fcc2d2a5f6567af84301abb0ca48e38fbf1386377"), looks := false }, kinds := [], alts := [], laidByText := true, laidKinds := [.data, .pinned], laidTests := true, laidLooks := .later }
def TestselectExactUptoCardSaid : Prop := Claim7.holds Tryz.pinned (.plain (OpenSpec.upto testselectExactSpec)) testselectExactUptoCard

/-- THE SECOND FORM's CARD OF 'cordwoodlaw40.DependNames'. -/
def dependNamesUptoCard : Claim7 := { stood := { row := dependNamesUptoRow, standIns := [], harness := (true, "9ac874da267de461de197e6fcc2d2a5f6567af84301abb0ca48e38fbf1386377"), looks := false }, kinds := [], alts := [], laidByText := true, laidKinds := [.data, .pinned], laidTests := true, laidLooks := .later }
def DependNamesUptoCardSaid : Prop := Claim7.holds Tryz.pinned (.plain (OpenSpec.upto dependNamesSpec)) dependNamesUptoCard
end Rows
end Go.Proofs.YtdobpmbgngomlaaGreatDoor
