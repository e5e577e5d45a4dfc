/-
  NARROWER THAN 'FOR EVERY INPUT', by the rows' own cells (each row's printed sentence says how): DependOutside: loops, laid · TestselectSelect: loops, laid · TestselectCertify: loops, laid · TestselectParts: loops, laid · TestselectCertificates: loops, laid · TestselectExact: loops, laid · DependNames: loops, laid.
  DERIVED. THE GIVEN ROWS OF THIS SEAT. 7 by the template 'for every input the law returns true; each argument reads behind the call as it read before'; 0 by the template 'total and deterministic' (their statements: YtdobpmbgngomlaaGreatDoorTotals.lean).
  GIVEN WITH THE SEED: the statements are not yours to turn. If you find one false, say at which input.
  Laid BY PROGRAM, IN A SANDBOX (cutbox-rows.mjs): the forced cells as the released guide's own fill.sh prints them over the translation 6291b1dff6082028… (all of the seat's roots in one cut). By AI agents, Wed Nov 11 2026. No macro, syntax, notation, axiom, sorry.
-/
import Derived.Test.YtdobpmbgngomlaaGreatDoorChecked
import GoSem.PinnedTables
import GoSem.Claim
import GoSem.ClaimJoined
import GoSem.ClaimMapViews
import Derived.JoinedTies
import Derived.KernelRfl
namespace Go.Proofs.YtdobpmbgngomlaaGreatDoor
/- THE CELL 'sum', in the pinned program and in every row, IS THE sha256 OF THE DUMP (.gsa) THAT YtdobpmbgngomlaaGreatDoorProg.lean LOADS. Nothing in Lean hashes anything: it is a label: what it is worth is what the hold of that sum in a sandbox is worth. -/
noncomputable def Tryz.pinned : Pinned := { name := "ytdobpmbgngomlaagreatdoor", sum := "6291b1dff60820282602a5124cc4b4d00cada9de4ba98b74dc152809698437d0", checked := Tryz.checked }
namespace Rows
def none {H : Type} : Left H := { results := [], args := [] }

/- WHAT THE LISTED PACKAGE-LEVEL VARIABLES READ AS WHEN THE CALL BEGINS. Each datum BY PROGRAM (the guide's laid-datum.mjs) off the statement by which the dump's own 'gosem.cut.vars' lays the variable. In a bare row this is a premise. The card (YtdobpmbgngomlaaGreatDoorCards.lean) ties it to the program's text. -/
def laid_unicode_utf8_acceptRanges {H : Type} : DataW H := .agg [.agg [.lit (.int .u8 128), .lit (.int .u8 191)], .agg [.lit (.int .u8 160), .lit (.int .u8 191)], .agg [.lit (.int .u8 128), .lit (.int .u8 159)], .agg [.lit (.int .u8 144), .lit (.int .u8 191)], .agg [.lit (.int .u8 128), .lit (.int .u8 143)], .agg [.lit (.int .u8 0), .lit (.int .u8 0)], .agg [.lit (.int .u8 0), .lit (.int .u8 0)], .agg [.lit (.int .u8 0), .lit (.int .u8 0)], .agg [.lit (.int .u8 0), .lit (.int .u8 0)], .agg [.lit (.int .u8 0), .lit (.int .u8 0)], .agg [.lit (.int .u8 0), .lit (.int .u8 0)], .agg [.lit (.int .u8 0), .lit (.int .u8 0)], .agg [.lit (.int .u8 0), .lit (.int .u8 0)], .agg [.lit (.int .u8 0), .lit (.int .u8 0)], .agg [.lit (.int .u8 0), .lit (.int .u8 0)], .agg [.lit (.int .u8 0), .lit (.int .u8 0)]]
/-- One of Go's own tables, pinned by name: the form's constant. -/
def laid_unicode_utf8_first : DataW Unit := Go.Pinned.utf8First

/-- 'cordwoodlaw40.DependOutside': WHATEVER THE INPUT: true; the input reads as it did. -/
def dependOutsideSpec : ChangeSpec := { name := "dependOutside", fn := fun _ => fun
  | [d1, d2, d3, d4] => { results := [.lit (.bool true)], args := [d1, d2, d3, d4] }
  | _ => none }
def dependOutsideRow : OpenClaim := { program := "ytdobpmbgngomlaagreatdoor", sum := "6291b1dff60820282602a5124cc4b4d00cada9de4ba98b74dc152809698437d0", func := "cordwood/cordwoodlaw40.DependOutside", spec := "dependOutside", inPlace := ["internal/bytealg.IndexByteString", "internal/bytealg.IndexString", "internal/bytealg.abigen_runtime_cmpstring", "internal/abi.NoEscape"], unfollowed := true, recurses := true, named := ["unicode/utf8.first", "unicode/utf8.acceptRanges", "internal/bytealg.MaxLen"], loops := true, plainKeys := false, apart := false, laid := [("unicode/utf8.acceptRanges", laid_unicode_utf8_acceptRanges), ("unicode/utf8.first", laid_unicode_utf8_first)] }
def DependOutsideSaid : Prop := dependOutsideRow.holds Tryz.pinned (OpenSpec.ofChange dependOutsideSpec)

/-- ITS FALSE NEIGHBOUR: 'it returns false'. Refute it at one input. -/
def dependOutsideWrong : ChangeSpec := { name := "dependOutside", fn := fun _ => fun
  | [d1, d2, d3, d4] => { results := [.lit (.bool false)], args := [d1, d2, d3, d4] }
  | _ => none }
def DependOutsideWrongFalsely : Prop := dependOutsideRow.holds Tryz.pinned (OpenSpec.ofChange dependOutsideWrong)

/-- 'cordwoodlaw50.TestselectSelect': WHATEVER THE INPUT: true; the input reads as it did. -/
def testselectSelectSpec : ChangeSpec := { name := "testselectSelect", fn := fun _ => fun
  | [d1, d2] => { results := [.lit (.bool true)], args := [d1, d2] }
  | _ => none }
def testselectSelectRow : OpenClaim := { program := "ytdobpmbgngomlaagreatdoor", sum := "6291b1dff60820282602a5124cc4b4d00cada9de4ba98b74dc152809698437d0", func := "cordwood/cordwoodlaw50.TestselectSelect", spec := "testselectSelect", inPlace := ["internal/bytealg.abigen_runtime_cmpstring", "internal/bytealg.IndexByteString", "internal/bytealg.IndexString", "internal/abi.NoEscape"], unfollowed := true, recurses := true, named := ["unicode/utf8.first", "unicode/utf8.acceptRanges", "internal/bytealg.MaxLen"], loops := true, plainKeys := false, apart := false, laid := [("unicode/utf8.acceptRanges", laid_unicode_utf8_acceptRanges), ("unicode/utf8.first", laid_unicode_utf8_first)] }
def TestselectSelectSaid : Prop := testselectSelectRow.holds Tryz.pinned (OpenSpec.ofChange testselectSelectSpec)

/-- ITS FALSE NEIGHBOUR: 'it returns false'. Refute it at one input. -/
def testselectSelectWrong : ChangeSpec := { name := "testselectSelect", fn := fun _ => fun
  | [d1, d2] => { results := [.lit (.bool false)], args := [d1, d2] }
  | _ => none }
def TestselectSelectWrongFalsely : Prop := testselectSelectRow.holds Tryz.pinned (OpenSpec.ofChange testselectSelectWrong)

/-- 'cordwoodlaw50.TestselectCertify': WHATEVER THE INPUT: true; the input reads as it did. -/
def testselectCertifySpec : ChangeSpec := { name := "testselectCertify", fn := fun _ => fun
  | [d1, d2, d3] => { results := [.lit (.bool true)], args := [d1, d2, d3] }
  | _ => none }
def testselectCertifyRow : OpenClaim := { program := "ytdobpmbgngomlaagreatdoor", sum := "6291b1dff60820282602a5124cc4b4d00cada9de4ba98b74dc152809698437d0", func := "cordwood/cordwoodlaw50.TestselectCertify", spec := "testselectCertify", inPlace := ["internal/bytealg.abigen_runtime_cmpstring", "internal/bytealg.IndexByteString", "internal/bytealg.IndexString", "internal/abi.NoEscape"], unfollowed := true, recurses := true, named := ["unicode/utf8.first", "unicode/utf8.acceptRanges", "internal/bytealg.MaxLen"], loops := true, plainKeys := false, apart := false, laid := [("unicode/utf8.acceptRanges", laid_unicode_utf8_acceptRanges), ("unicode/utf8.first", laid_unicode_utf8_first)] }
def TestselectCertifySaid : Prop := testselectCertifyRow.holds Tryz.pinned (OpenSpec.ofChange testselectCertifySpec)

/-- ITS FALSE NEIGHBOUR: 'it returns false'. Refute it at one input. -/
def testselectCertifyWrong : ChangeSpec := { name := "testselectCertify", fn := fun _ => fun
  | [d1, d2, d3] => { results := [.lit (.bool false)], args := [d1, d2, d3] }
  | _ => none }
def TestselectCertifyWrongFalsely : Prop := testselectCertifyRow.holds Tryz.pinned (OpenSpec.ofChange testselectCertifyWrong)

/-- 'cordwoodlaw50.TestselectParts': WHATEVER THE INPUT: true; the input reads as it did. -/
def testselectPartsSpec : ChangeSpec := { name := "testselectParts", fn := fun _ => fun
  | [d1, d2] => { results := [.lit (.bool true)], args := [d1, d2] }
  | _ => none }
def testselectPartsRow : OpenClaim := { program := "ytdobpmbgngomlaagreatdoor", sum := "6291b1dff60820282602a5124cc4b4d00cada9de4ba98b74dc152809698437d0", func := "cordwood/cordwoodlaw50.TestselectParts", spec := "testselectParts", inPlace := ["internal/bytealg.abigen_runtime_cmpstring", "internal/bytealg.IndexByteString", "internal/bytealg.IndexString", "internal/abi.NoEscape"], unfollowed := true, recurses := true, named := ["unicode/utf8.first", "unicode/utf8.acceptRanges", "internal/bytealg.MaxLen"], loops := true, plainKeys := false, apart := false, laid := [("unicode/utf8.acceptRanges", laid_unicode_utf8_acceptRanges), ("unicode/utf8.first", laid_unicode_utf8_first)] }
def TestselectPartsSaid : Prop := testselectPartsRow.holds Tryz.pinned (OpenSpec.ofChange testselectPartsSpec)

/-- ITS FALSE NEIGHBOUR: 'it returns false'. Refute it at one input. -/
def testselectPartsWrong : ChangeSpec := { name := "testselectParts", fn := fun _ => fun
  | [d1, d2] => { results := [.lit (.bool false)], args := [d1, d2] }
  | _ => none }
def TestselectPartsWrongFalsely : Prop := testselectPartsRow.holds Tryz.pinned (OpenSpec.ofChange testselectPartsWrong)

/-- 'cordwoodlaw50.TestselectCertificates': WHATEVER THE INPUT: true; the input reads as it did. -/
def testselectCertificatesSpec : ChangeSpec := { name := "testselectCertificates", fn := fun _ => fun
  | [d1, d2, d3] => { results := [.lit (.bool true)], args := [d1, d2, d3] }
  | _ => none }
def testselectCertificatesRow : OpenClaim := { program := "ytdobpmbgngomlaagreatdoor", sum := "6291b1dff60820282602a5124cc4b4d00cada9de4ba98b74dc152809698437d0", func := "cordwood/cordwoodlaw50.TestselectCertificates", spec := "testselectCertificates", inPlace := ["internal/bytealg.abigen_runtime_cmpstring", "internal/bytealg.IndexByteString", "internal/bytealg.IndexString", "internal/abi.NoEscape"], unfollowed := true, recurses := true, named := ["unicode/utf8.first", "unicode/utf8.acceptRanges", "internal/bytealg.MaxLen"], loops := true, plainKeys := false, apart := false, laid := [("unicode/utf8.acceptRanges", laid_unicode_utf8_acceptRanges), ("unicode/utf8.first", laid_unicode_utf8_first)] }
def TestselectCertificatesSaid : Prop := testselectCertificatesRow.holds Tryz.pinned (OpenSpec.ofChange testselectCertificatesSpec)

/-- ITS FALSE NEIGHBOUR: 'it returns false'. Refute it at one input. -/
def testselectCertificatesWrong : ChangeSpec := { name := "testselectCertificates", fn := fun _ => fun
  | [d1, d2, d3] => { results := [.lit (.bool false)], args := [d1, d2, d3] }
  | _ => none }
def TestselectCertificatesWrongFalsely : Prop := testselectCertificatesRow.holds Tryz.pinned (OpenSpec.ofChange testselectCertificatesWrong)

/-- 'cordwoodlaw50.TestselectExact': WHATEVER THE INPUT: true; the input reads as it did. -/
def testselectExactSpec : ChangeSpec := { name := "testselectExact", fn := fun _ => fun
  | [d1, d2, d3] => { results := [.lit (.bool true)], args := [d1, d2, d3] }
  | _ => none }
def testselectExactRow : OpenClaim := { program := "ytdobpmbgngomlaagreatdoor", sum := "6291b1dff60820282602a5124cc4b4d00cada9de4ba98b74dc152809698437d0", func := "cordwood/cordwoodlaw50.TestselectExact", spec := "testselectExact", inPlace := ["internal/bytealg.abigen_runtime_cmpstring", "internal/bytealg.IndexByteString", "internal/bytealg.IndexString", "internal/abi.NoEscape"], unfollowed := true, recurses := true, named := ["unicode/utf8.first", "unicode/utf8.acceptRanges", "internal/bytealg.MaxLen"], loops := true, plainKeys := false, apart := false, laid := [("unicode/utf8.acceptRanges", laid_unicode_utf8_acceptRanges), ("unicode/utf8.first", laid_unicode_utf8_first)] }
def TestselectExactSaid : Prop := testselectExactRow.holds Tryz.pinned (OpenSpec.ofChange testselectExactSpec)

/-- ITS FALSE NEIGHBOUR: 'it returns false'. Refute it at one input. -/
def testselectExactWrong : ChangeSpec := { name := "testselectExact", fn := fun _ => fun
  | [d1, d2, d3] => { results := [.lit (.bool false)], args := [d1, d2, d3] }
  | _ => none }
def TestselectExactWrongFalsely : Prop := testselectExactRow.holds Tryz.pinned (OpenSpec.ofChange testselectExactWrong)

/-- 'cordwoodlaw40.DependNames': WHATEVER THE INPUT: true; the input reads as it did. -/
def dependNamesSpec : ChangeSpec := { name := "dependNames", fn := fun _ => fun
  | [d1, d2, d3, d4, d5] => { results := [.lit (.bool true)], args := [d1, d2, d3, d4, d5] }
  | _ => none }
def dependNamesRow : OpenClaim := { program := "ytdobpmbgngomlaagreatdoor", sum := "6291b1dff60820282602a5124cc4b4d00cada9de4ba98b74dc152809698437d0", func := "cordwood/cordwoodlaw40.DependNames", spec := "dependNames", inPlace := ["internal/bytealg.IndexByteString", "internal/bytealg.IndexString", "internal/bytealg.abigen_runtime_cmpstring", "internal/abi.NoEscape"], unfollowed := true, recurses := true, named := ["unicode/utf8.first", "unicode/utf8.acceptRanges", "internal/bytealg.MaxLen"], loops := true, plainKeys := false, apart := false, laid := [("unicode/utf8.acceptRanges", laid_unicode_utf8_acceptRanges), ("unicode/utf8.first", laid_unicode_utf8_first)] }
def DependNamesSaid : Prop := dependNamesRow.holds Tryz.pinned (OpenSpec.ofChange dependNamesSpec)

/-- ITS FALSE NEIGHBOUR: 'it returns false'. Refute it at one input. -/
def dependNamesWrong : ChangeSpec := { name := "dependNames", fn := fun _ => fun
  | [d1, d2, d3, d4, d5] => { results := [.lit (.bool false)], args := [d1, d2, d3, d4, d5] }
  | _ => none }
def DependNamesWrongFalsely : Prop := dependNamesRow.holds Tryz.pinned (OpenSpec.ofChange dependNamesWrong)

/- THE SECOND FORM. 'bulk': how many values and letters a reading holds, each counted each time it is reached (what is shared counts as often as it is met; a slice's spare places count too). A statement '..UptoSaid' is the law's where the arguments, and the package variables that the reading takes, are together of bulk at most 1048576: NARROWER than '..Said'. Prove '..Said' where nothing that the law and all that it calls make is longer than what came in: it says more and counts as full. Else prove '..UptoSaid'. A law counts once. -/
mutual
def uptoBulk {H : Type} : DataW H → Nat
  | .lit (.string bytes) => bytes.length + 1
  | .lit _ => 1
  | .nil => 1
  | .ptr d => uptoBulk d + 1
  | .slice elems spare => uptoBulkAll elems + uptoBulkAll spare + 1
  | .agg parts => uptoBulkAll parts + 1
  | .iface _ d => uptoBulk d + 1
  | .map entries => uptoBulkEntries entries + 1
  | .held _ => 1
def uptoBulkAll {H : Type} : List (DataW H) → Nat
  | [] => 0
  | d :: r => uptoBulk d + uptoBulkAll r
def uptoBulkEntries {H : Type} : List (Lit × DataW H) → Nat
  | [] => 0
  | x :: r => uptoBulkEntry x + uptoBulkEntries r
def uptoBulkEntry {H : Type} : Lit × DataW H → Nat
  | (.string bytes, d) => bytes.length + uptoBulk d + 1
  | (_, d) => uptoBulk d + 1
 end
def uptoSmall : (H : Type) → List (DataW H) → Bool := fun _ ds => decide (uptoBulkAll ds ≤ 1048576)
def OpenSpec.upto (s : _root_.Go.ChangeSpec) : _root_.Go.OpenSpec := { _root_.Go.OpenSpec.ofChange s with cond := some uptoSmall }

/-- 'cordwoodlaw40.DependOutside', WHERE WHAT IT READS IS OF BULK AT MOST 1048576: true; the input reads as it did. -/
def dependOutsideUptoRow : OpenClaim := { program := "ytdobpmbgngomlaagreatdoor", sum := "6291b1dff60820282602a5124cc4b4d00cada9de4ba98b74dc152809698437d0", func := "cordwood/cordwoodlaw40.DependOutside", spec := "dependOutside", inPlace := ["internal/bytealg.IndexByteString", "internal/bytealg.IndexString", "internal/bytealg.abigen_runtime_cmpstring", "internal/abi.NoEscape"], unfollowed := true, recurses := true, named := ["unicode/utf8.first", "unicode/utf8.acceptRanges", "internal/bytealg.MaxLen"], loops := true, plainKeys := false, apart := false, laid := [("unicode/utf8.acceptRanges", laid_unicode_utf8_acceptRanges), ("unicode/utf8.first", laid_unicode_utf8_first)], narrowed := true }
def DependOutsideUptoSaid : Prop := dependOutsideUptoRow.holds Tryz.pinned (OpenSpec.upto dependOutsideSpec)

/-- 'cordwoodlaw50.TestselectSelect', WHERE WHAT IT READS IS OF BULK AT MOST 1048576: true; the input reads as it did. -/
def testselectSelectUptoRow : OpenClaim := { program := "ytdobpmbgngomlaagreatdoor", sum := "6291b1dff60820282602a5124cc4b4d00cada9de4ba98b74dc152809698437d0", func := "cordwood/cordwoodlaw50.TestselectSelect", spec := "testselectSelect", inPlace := ["internal/bytealg.abigen_runtime_cmpstring", "internal/bytealg.IndexByteString", "internal/bytealg.IndexString", "internal/abi.NoEscape"], unfollowed := true, recurses := true, named := ["unicode/utf8.first", "unicode/utf8.acceptRanges", "internal/bytealg.MaxLen"], loops := true, plainKeys := false, apart := false, laid := [("unicode/utf8.acceptRanges", laid_unicode_utf8_acceptRanges), ("unicode/utf8.first", laid_unicode_utf8_first)], narrowed := true }
def TestselectSelectUptoSaid : Prop := testselectSelectUptoRow.holds Tryz.pinned (OpenSpec.upto testselectSelectSpec)

/-- 'cordwoodlaw50.TestselectCertify', WHERE WHAT IT READS IS OF BULK AT MOST 1048576: true; the input reads as it did. -/
def testselectCertifyUptoRow : OpenClaim := { program := "ytdobpmbgngomlaagreatdoor", sum := "6291b1dff60820282602a5124cc4b4d00cada9de4ba98b74dc152809698437d0", func := "cordwood/cordwoodlaw50.TestselectCertify", spec := "testselectCertify", inPlace := ["internal/bytealg.abigen_runtime_cmpstring", "internal/bytealg.IndexByteString", "internal/bytealg.IndexString", "internal/abi.NoEscape"], unfollowed := true, recurses := true, named := ["unicode/utf8.first", "unicode/utf8.acceptRanges", "internal/bytealg.MaxLen"], loops := true, plainKeys := false, apart := false, laid := [("unicode/utf8.acceptRanges", laid_unicode_utf8_acceptRanges), ("unicode/utf8.first", laid_unicode_utf8_first)], narrowed := true }
def TestselectCertifyUptoSaid : Prop := testselectCertifyUptoRow.holds Tryz.pinned (OpenSpec.upto testselectCertifySpec)

/-- 'cordwoodlaw50.TestselectParts', WHERE WHAT IT READS IS OF BULK AT MOST 1048576: true; the input reads as it did. -/
def testselectPartsUptoRow : OpenClaim := { program := "ytdobpmbgngomlaagreatdoor", sum := "6291b1dff60820282602a5124cc4b4d00cada9de4ba98b74dc152809698437d0", func := "cordwood/cordwoodlaw50.TestselectParts", spec := "testselectParts", inPlace := ["internal/bytealg.abigen_runtime_cmpstring", "internal/bytealg.IndexByteString", "internal/bytealg.IndexString", "internal/abi.NoEscape"], unfollowed := true, recurses := true, named := ["unicode/utf8.first", "unicode/utf8.acceptRanges", "internal/bytealg.MaxLen"], loops := true, plainKeys := false, apart := false, laid := [("unicode/utf8.acceptRanges", laid_unicode_utf8_acceptRanges), ("unicode/utf8.first", laid_unicode_utf8_first)], narrowed := true }
def TestselectPartsUptoSaid : Prop := testselectPartsUptoRow.holds Tryz.pinned (OpenSpec.upto testselectPartsSpec)

/-- 'cordwoodlaw50.TestselectCertificates', WHERE WHAT IT READS IS OF BULK AT MOST 1048576: true; the input reads as it did. -/
def testselectCertificatesUptoRow : OpenClaim := { program := "ytdobpmbgngomlaagreatdoor", sum := "6291b1dff60820282602a5124cc4b4d00cada9de4ba98b74dc152809698437d0", func := "cordwood/cordwoodlaw50.TestselectCertificates", spec := "testselectCertificates", inPlace := ["internal/bytealg.abigen_runtime_cmpstring", "internal/bytealg.IndexByteString", "internal/bytealg.IndexString", "internal/abi.NoEscape"], unfollowed := true, recurses := true, named := ["unicode/utf8.first", "unicode/utf8.acceptRanges", "internal/bytealg.MaxLen"], loops := true, plainKeys := false, apart := false, laid := [("unicode/utf8.acceptRanges", laid_unicode_utf8_acceptRanges), ("unicode/utf8.first", laid_unicode_utf8_first)], narrowed := true }
def TestselectCertificatesUptoSaid : Prop := testselectCertificatesUptoRow.holds Tryz.pinned (OpenSpec.upto testselectCertificatesSpec)

/-- 'cordwoodlaw50.TestselectExact', WHERE WHAT IT READS IS OF BULK AT MOST 1048576: true; the input reads as it did. -/
def testselectExactUptoRow : OpenClaim := { program := "ytdobpmbgngomlaagreatdoor", sum := "6291b1dff60820282602a5124cc4b4d00cada9de4ba98b74dc152809698437d0", func := "cordwood/cordwoodlaw50.TestselectExact", spec := "testselectExact", inPlace := ["internal/bytealg.abigen_runtime_cmpstring", "internal/bytealg.IndexByteString", "internal/bytealg.IndexString", "internal/abi.NoEscape"], unfollowed := true, recurses := true, named := ["unicode/utf8.first", "unicode/utf8.acceptRanges", "internal/bytealg.MaxLen"], loops := true, plainKeys := false, apart := false, laid := [("unicode/utf8.acceptRanges", laid_unicode_utf8_acceptRanges), ("unicode/utf8.first", laid_unicode_utf8_first)], narrowed := true }
def TestselectExactUptoSaid : Prop := testselectExactUptoRow.holds Tryz.pinned (OpenSpec.upto testselectExactSpec)

/-- 'cordwoodlaw40.DependNames', WHERE WHAT IT READS IS OF BULK AT MOST 1048576: true; the input reads as it did. -/
def dependNamesUptoRow : OpenClaim := { program := "ytdobpmbgngomlaagreatdoor", sum := "6291b1dff60820282602a5124cc4b4d00cada9de4ba98b74dc152809698437d0", func := "cordwood/cordwoodlaw40.DependNames", spec := "dependNames", inPlace := ["internal/bytealg.IndexByteString", "internal/bytealg.IndexString", "internal/bytealg.abigen_runtime_cmpstring", "internal/abi.NoEscape"], unfollowed := true, recurses := true, named := ["unicode/utf8.first", "unicode/utf8.acceptRanges", "internal/bytealg.MaxLen"], loops := true, plainKeys := false, apart := false, laid := [("unicode/utf8.acceptRanges", laid_unicode_utf8_acceptRanges), ("unicode/utf8.first", laid_unicode_utf8_first)], narrowed := true }
def DependNamesUptoSaid : Prop := dependNamesUptoRow.holds Tryz.pinned (OpenSpec.upto dependNamesSpec)

end Rows
end Go.Proofs.YtdobpmbgngomlaaGreatDoor
