/-
  NARROWER THAN 'FOR EVERY INPUT', by the rows' own cells (each row's printed sentence says how): BindCheck: loops, laid · BindBind: loops, laid · BindUnbind: loops, laid · BindRoundTrip: loops, laid · BindNumber: loops, laid · BindNumbers: loops, laid.
  DERIVED. THE GIVEN ROWS OF THIS SEAT. 6 by the template 'for every input the law returns true; each argument reads behind the call as it read before'; 0 by the template 'total and deterministic' (their statements: YtacjjkbkhpdhnaaGreatDoorTotals.lean).
  GIVEN WITH THE SEED: the statements are not yours to turn. If you find one false, say at which input.
  Laid BY PROGRAM, IN A SANDBOX (cutbox-rows.mjs): the forced cells as the released guide's own fill.sh prints them over the translation 32c6e17dbfac75a6… (all of the seat's roots in one cut). By AI agents, Wed Nov 11 2026. No macro, syntax, notation, axiom, sorry.
-/
import Derived.Test.YtacjjkbkhpdhnaaGreatDoorChecked
import GoSem.PinnedTables
import GoSem.Claim
import GoSem.ClaimJoined
import GoSem.ClaimMapViews
import Derived.JoinedTies
import Derived.KernelRfl
namespace Go.Proofs.YtacjjkbkhpdhnaaGreatDoor
/- THE CELL 'sum', in the pinned program and in every row, IS THE sha256 OF THE DUMP (.gsa) THAT YtacjjkbkhpdhnaaGreatDoorProg.lean LOADS. Nothing in Lean hashes anything: it is a label: what it is worth is what the hold of that sum in a sandbox is worth. -/
noncomputable def Tryz.pinned : Pinned := { name := "ytacjjkbkhpdhnaagreatdoor", sum := "32c6e17dbfac75a6000fff18f1d47de82a4a1f80421605499f8bf4acc958519a", checked := Tryz.checked }
namespace Rows
def none {H : Type} : Left H := { results := [], args := [] }

/- WHAT THE LISTED PACKAGE-LEVEL VARIABLES READ AS WHEN THE CALL BEGINS. Each datum BY PROGRAM (the guide's laid-datum.mjs) off the statement by which the dump's own 'gosem.cut.vars' lays the variable. In a bare row this is a premise. The card (YtacjjkbkhpdhnaaGreatDoorCards.lean) ties it to the program's text. -/
def laid_unicode_utf8_acceptRanges {H : Type} : DataW H := .agg [.agg [.lit (.int .u8 128), .lit (.int .u8 191)], .agg [.lit (.int .u8 160), .lit (.int .u8 191)], .agg [.lit (.int .u8 128), .lit (.int .u8 159)], .agg [.lit (.int .u8 144), .lit (.int .u8 191)], .agg [.lit (.int .u8 128), .lit (.int .u8 143)], .agg [.lit (.int .u8 0), .lit (.int .u8 0)], .agg [.lit (.int .u8 0), .lit (.int .u8 0)], .agg [.lit (.int .u8 0), .lit (.int .u8 0)], .agg [.lit (.int .u8 0), .lit (.int .u8 0)], .agg [.lit (.int .u8 0), .lit (.int .u8 0)], .agg [.lit (.int .u8 0), .lit (.int .u8 0)], .agg [.lit (.int .u8 0), .lit (.int .u8 0)], .agg [.lit (.int .u8 0), .lit (.int .u8 0)], .agg [.lit (.int .u8 0), .lit (.int .u8 0)], .agg [.lit (.int .u8 0), .lit (.int .u8 0)], .agg [.lit (.int .u8 0), .lit (.int .u8 0)]]
/-- One of Go's own tables, pinned by name: the form's constant. -/
def laid_unicode_utf8_first : DataW Unit := Go.Pinned.utf8First

/-- 'cordwoodlaw24.BindCheck': WHATEVER THE INPUT: true; the input reads as it did. -/
def bindCheckSpec : ChangeSpec := { name := "bindCheck", fn := fun _ => fun
  | [d1, d2, d3] => { results := [.lit (.bool true)], args := [d1, d2, d3] }
  | _ => none }
def bindCheckRow : OpenClaim := { program := "ytacjjkbkhpdhnaagreatdoor", sum := "32c6e17dbfac75a6000fff18f1d47de82a4a1f80421605499f8bf4acc958519a", func := "cordwood/cordwoodlaw24.BindCheck", spec := "bindCheck", inPlace := ["internal/bytealg.IndexByteString", "internal/bytealg.IndexString", "maps.clone"], unfollowed := true, recurses := true, named := ["unicode/utf8.first", "unicode/utf8.acceptRanges", "internal/bytealg.MaxLen"], loops := true, apart := false, laid := [("unicode/utf8.acceptRanges", laid_unicode_utf8_acceptRanges), ("unicode/utf8.first", laid_unicode_utf8_first)] }
def BindCheckSaid : Prop := bindCheckRow.holds Tryz.pinned (OpenSpec.ofChange bindCheckSpec)

/-- ITS FALSE NEIGHBOUR: 'it returns false'. Refute it at one input. -/
def bindCheckWrong : ChangeSpec := { name := "bindCheck", fn := fun _ => fun
  | [d1, d2, d3] => { results := [.lit (.bool false)], args := [d1, d2, d3] }
  | _ => none }
def BindCheckWrongFalsely : Prop := bindCheckRow.holds Tryz.pinned (OpenSpec.ofChange bindCheckWrong)

/-- 'cordwoodlaw24.BindBind': WHATEVER THE INPUT: true; the input reads as it did. -/
def bindBindSpec : ChangeSpec := { name := "bindBind", fn := fun _ => fun
  | [d1, d2, d3] => { results := [.lit (.bool true)], args := [d1, d2, d3] }
  | _ => none }
def bindBindRow : OpenClaim := { program := "ytacjjkbkhpdhnaagreatdoor", sum := "32c6e17dbfac75a6000fff18f1d47de82a4a1f80421605499f8bf4acc958519a", func := "cordwood/cordwoodlaw24.BindBind", spec := "bindBind", inPlace := ["internal/bytealg.IndexByteString", "internal/bytealg.IndexString", "maps.clone"], unfollowed := true, recurses := true, named := ["unicode/utf8.first", "unicode/utf8.acceptRanges", "internal/bytealg.MaxLen"], loops := true, apart := false, laid := [("unicode/utf8.acceptRanges", laid_unicode_utf8_acceptRanges), ("unicode/utf8.first", laid_unicode_utf8_first)] }
def BindBindSaid : Prop := bindBindRow.holds Tryz.pinned (OpenSpec.ofChange bindBindSpec)

/-- ITS FALSE NEIGHBOUR: 'it returns false'. Refute it at one input. -/
def bindBindWrong : ChangeSpec := { name := "bindBind", fn := fun _ => fun
  | [d1, d2, d3] => { results := [.lit (.bool false)], args := [d1, d2, d3] }
  | _ => none }
def BindBindWrongFalsely : Prop := bindBindRow.holds Tryz.pinned (OpenSpec.ofChange bindBindWrong)

/-- 'cordwoodlaw24.BindUnbind': WHATEVER THE INPUT: true; the input reads as it did. -/
def bindUnbindSpec : ChangeSpec := { name := "bindUnbind", fn := fun _ => fun
  | [d1, d2, d3, d4] => { results := [.lit (.bool true)], args := [d1, d2, d3, d4] }
  | _ => none }
def bindUnbindRow : OpenClaim := { program := "ytacjjkbkhpdhnaagreatdoor", sum := "32c6e17dbfac75a6000fff18f1d47de82a4a1f80421605499f8bf4acc958519a", func := "cordwood/cordwoodlaw24.BindUnbind", spec := "bindUnbind", inPlace := ["internal/bytealg.IndexByteString", "internal/bytealg.IndexString", "maps.clone"], unfollowed := true, recurses := true, named := ["unicode/utf8.first", "unicode/utf8.acceptRanges", "internal/bytealg.MaxLen"], loops := true, apart := false, laid := [("unicode/utf8.acceptRanges", laid_unicode_utf8_acceptRanges), ("unicode/utf8.first", laid_unicode_utf8_first)] }
def BindUnbindSaid : Prop := bindUnbindRow.holds Tryz.pinned (OpenSpec.ofChange bindUnbindSpec)

/-- ITS FALSE NEIGHBOUR: 'it returns false'. Refute it at one input. -/
def bindUnbindWrong : ChangeSpec := { name := "bindUnbind", fn := fun _ => fun
  | [d1, d2, d3, d4] => { results := [.lit (.bool false)], args := [d1, d2, d3, d4] }
  | _ => none }
def BindUnbindWrongFalsely : Prop := bindUnbindRow.holds Tryz.pinned (OpenSpec.ofChange bindUnbindWrong)

/-- 'cordwoodlaw24.BindRoundTrip': WHATEVER THE INPUT: true; the input reads as it did. -/
def bindRoundTripSpec : ChangeSpec := { name := "bindRoundTrip", fn := fun _ => fun
  | [d1, d2, d3, d4] => { results := [.lit (.bool true)], args := [d1, d2, d3, d4] }
  | _ => none }
def bindRoundTripRow : OpenClaim := { program := "ytacjjkbkhpdhnaagreatdoor", sum := "32c6e17dbfac75a6000fff18f1d47de82a4a1f80421605499f8bf4acc958519a", func := "cordwood/cordwoodlaw24.BindRoundTrip", spec := "bindRoundTrip", inPlace := ["internal/bytealg.IndexByteString", "internal/bytealg.IndexString", "maps.clone"], unfollowed := true, recurses := true, named := ["unicode/utf8.first", "unicode/utf8.acceptRanges", "internal/bytealg.MaxLen"], loops := true, apart := false, laid := [("unicode/utf8.acceptRanges", laid_unicode_utf8_acceptRanges), ("unicode/utf8.first", laid_unicode_utf8_first)] }
def BindRoundTripSaid : Prop := bindRoundTripRow.holds Tryz.pinned (OpenSpec.ofChange bindRoundTripSpec)

/-- ITS FALSE NEIGHBOUR: 'it returns false'. Refute it at one input. -/
def bindRoundTripWrong : ChangeSpec := { name := "bindRoundTrip", fn := fun _ => fun
  | [d1, d2, d3, d4] => { results := [.lit (.bool false)], args := [d1, d2, d3, d4] }
  | _ => none }
def BindRoundTripWrongFalsely : Prop := bindRoundTripRow.holds Tryz.pinned (OpenSpec.ofChange bindRoundTripWrong)

/-- 'cordwoodlaw24.BindNumber': WHATEVER THE INPUT: true; the input reads as it did. -/
def bindNumberSpec : ChangeSpec := { name := "bindNumber", fn := fun _ => fun
  | [d1, d2] => { results := [.lit (.bool true)], args := [d1, d2] }
  | _ => none }
def bindNumberRow : OpenClaim := { program := "ytacjjkbkhpdhnaagreatdoor", sum := "32c6e17dbfac75a6000fff18f1d47de82a4a1f80421605499f8bf4acc958519a", func := "cordwood/cordwoodlaw24.BindNumber", spec := "bindNumber", inPlace := ["internal/bytealg.IndexByteString", "internal/bytealg.IndexString", "maps.clone"], unfollowed := true, recurses := true, named := ["unicode/utf8.first", "unicode/utf8.acceptRanges", "internal/bytealg.MaxLen"], loops := true, apart := false, laid := [("unicode/utf8.acceptRanges", laid_unicode_utf8_acceptRanges), ("unicode/utf8.first", laid_unicode_utf8_first)] }
def BindNumberSaid : Prop := bindNumberRow.holds Tryz.pinned (OpenSpec.ofChange bindNumberSpec)

/-- ITS FALSE NEIGHBOUR: 'it returns false'. Refute it at one input. -/
def bindNumberWrong : ChangeSpec := { name := "bindNumber", fn := fun _ => fun
  | [d1, d2] => { results := [.lit (.bool false)], args := [d1, d2] }
  | _ => none }
def BindNumberWrongFalsely : Prop := bindNumberRow.holds Tryz.pinned (OpenSpec.ofChange bindNumberWrong)

/-- 'cordwoodlaw24.BindNumbers': WHATEVER THE INPUT: true; the input reads as it did. -/
def bindNumbersSpec : ChangeSpec := { name := "bindNumbers", fn := fun _ => fun
  | [d1, d2] => { results := [.lit (.bool true)], args := [d1, d2] }
  | _ => none }
def bindNumbersRow : OpenClaim := { program := "ytacjjkbkhpdhnaagreatdoor", sum := "32c6e17dbfac75a6000fff18f1d47de82a4a1f80421605499f8bf4acc958519a", func := "cordwood/cordwoodlaw24.BindNumbers", spec := "bindNumbers", inPlace := ["internal/bytealg.IndexByteString", "internal/bytealg.IndexString", "maps.clone"], unfollowed := true, recurses := true, named := ["unicode/utf8.first", "unicode/utf8.acceptRanges", "internal/bytealg.MaxLen"], loops := true, apart := false, laid := [("unicode/utf8.acceptRanges", laid_unicode_utf8_acceptRanges), ("unicode/utf8.first", laid_unicode_utf8_first)] }
def BindNumbersSaid : Prop := bindNumbersRow.holds Tryz.pinned (OpenSpec.ofChange bindNumbersSpec)

/-- ITS FALSE NEIGHBOUR: 'it returns false'. Refute it at one input. -/
def bindNumbersWrong : ChangeSpec := { name := "bindNumbers", fn := fun _ => fun
  | [d1, d2] => { results := [.lit (.bool false)], args := [d1, d2] }
  | _ => none }
def BindNumbersWrongFalsely : Prop := bindNumbersRow.holds Tryz.pinned (OpenSpec.ofChange bindNumbersWrong)

/- THE SECOND FORM. 'bulk': how many values and letters a reading holds, each counted each time it is reached (what is shared counts as often as it is met; a slice's spare places count too). A statement '..UptoSaid' is the law's where the arguments, and the package variables that the reading takes, are together of bulk at most 1048576: NARROWER than '..Said'. Prove '..Said' where nothing that the law and all that it calls make is longer than what came in: it says more and counts as full. Else prove '..UptoSaid'. A law counts once. -/
mutual
def uptoBulk {H : Type} : DataW H → Nat
  | .lit (.string bytes) => bytes.length + 1
  | .lit _ => 1
  | .nil => 1
  | .ptr d => uptoBulk d + 1
  | .slice elems spare => uptoBulkAll elems + uptoBulkAll spare + 1
  | .agg parts => uptoBulkAll parts + 1
  | .iface _ d => uptoBulk d + 1
  | .map entries => uptoBulkEntries entries + 1
  | .held _ => 1
def uptoBulkAll {H : Type} : List (DataW H) → Nat
  | [] => 0
  | d :: r => uptoBulk d + uptoBulkAll r
def uptoBulkEntries {H : Type} : List (Lit × DataW H) → Nat
  | [] => 0
  | x :: r => uptoBulkEntry x + uptoBulkEntries r
def uptoBulkEntry {H : Type} : Lit × DataW H → Nat
  | (.string bytes, d) => bytes.length + uptoBulk d + 1
  | (_, d) => uptoBulk d + 1
 end
def uptoSmall : (H : Type) → List (DataW H) → Bool := fun _ ds => decide (uptoBulkAll ds ≤ 1048576)
def OpenSpec.upto (s : _root_.Go.ChangeSpec) : _root_.Go.OpenSpec := { _root_.Go.OpenSpec.ofChange s with cond := some uptoSmall }

/-- 'cordwoodlaw24.BindCheck', WHERE WHAT IT READS IS OF BULK AT MOST 1048576: true; the input reads as it did. -/
def bindCheckUptoRow : OpenClaim := { program := "ytacjjkbkhpdhnaagreatdoor", sum := "32c6e17dbfac75a6000fff18f1d47de82a4a1f80421605499f8bf4acc958519a", func := "cordwood/cordwoodlaw24.BindCheck", spec := "bindCheck", inPlace := ["internal/bytealg.IndexByteString", "internal/bytealg.IndexString", "maps.clone"], unfollowed := true, recurses := true, named := ["unicode/utf8.first", "unicode/utf8.acceptRanges", "internal/bytealg.MaxLen"], loops := true, apart := false, laid := [("unicode/utf8.acceptRanges", laid_unicode_utf8_acceptRanges), ("unicode/utf8.first", laid_unicode_utf8_first)], narrowed := true }
def BindCheckUptoSaid : Prop := bindCheckUptoRow.holds Tryz.pinned (OpenSpec.upto bindCheckSpec)

/-- 'cordwoodlaw24.BindBind', WHERE WHAT IT READS IS OF BULK AT MOST 1048576: true; the input reads as it did. -/
def bindBindUptoRow : OpenClaim := { program := "ytacjjkbkhpdhnaagreatdoor", sum := "32c6e17dbfac75a6000fff18f1d47de82a4a1f80421605499f8bf4acc958519a", func := "cordwood/cordwoodlaw24.BindBind", spec := "bindBind", inPlace := ["internal/bytealg.IndexByteString", "internal/bytealg.IndexString", "maps.clone"], unfollowed := true, recurses := true, named := ["unicode/utf8.first", "unicode/utf8.acceptRanges", "internal/bytealg.MaxLen"], loops := true, apart := false, laid := [("unicode/utf8.acceptRanges", laid_unicode_utf8_acceptRanges), ("unicode/utf8.first", laid_unicode_utf8_first)], narrowed := true }
def BindBindUptoSaid : Prop := bindBindUptoRow.holds Tryz.pinned (OpenSpec.upto bindBindSpec)

/-- 'cordwoodlaw24.BindUnbind', WHERE WHAT IT READS IS OF BULK AT MOST 1048576: true; the input reads as it did. -/
def bindUnbindUptoRow : OpenClaim := { program := "ytacjjkbkhpdhnaagreatdoor", sum := "32c6e17dbfac75a6000fff18f1d47de82a4a1f80421605499f8bf4acc958519a", func := "cordwood/cordwoodlaw24.BindUnbind", spec := "bindUnbind", inPlace := ["internal/bytealg.IndexByteString", "internal/bytealg.IndexString", "maps.clone"], unfollowed := true, recurses := true, named := ["unicode/utf8.first", "unicode/utf8.acceptRanges", "internal/bytealg.MaxLen"], loops := true, apart := false, laid := [("unicode/utf8.acceptRanges", laid_unicode_utf8_acceptRanges), ("unicode/utf8.first", laid_unicode_utf8_first)], narrowed := true }
def BindUnbindUptoSaid : Prop := bindUnbindUptoRow.holds Tryz.pinned (OpenSpec.upto bindUnbindSpec)

/-- 'cordwoodlaw24.BindRoundTrip', WHERE WHAT IT READS IS OF BULK AT MOST 1048576: true; the input reads as it did. -/
def bindRoundTripUptoRow : OpenClaim := { program := "ytacjjkbkhpdhnaagreatdoor", sum := "32c6e17dbfac75a6000fff18f1d47de82a4a1f80421605499f8bf4acc958519a", func := "cordwood/cordwoodlaw24.BindRoundTrip", spec := "bindRoundTrip", inPlace := ["internal/bytealg.IndexByteString", "internal/bytealg.IndexString", "maps.clone"], unfollowed := true, recurses := true, named := ["unicode/utf8.first", "unicode/utf8.acceptRanges", "internal/bytealg.MaxLen"], loops := true, apart := false, laid := [("unicode/utf8.acceptRanges", laid_unicode_utf8_acceptRanges), ("unicode/utf8.first", laid_unicode_utf8_first)], narrowed := true }
def BindRoundTripUptoSaid : Prop := bindRoundTripUptoRow.holds Tryz.pinned (OpenSpec.upto bindRoundTripSpec)

/-- 'cordwoodlaw24.BindNumber', WHERE WHAT IT READS IS OF BULK AT MOST 1048576: true; the input reads as it did. -/
def bindNumberUptoRow : OpenClaim := { program := "ytacjjkbkhpdhnaagreatdoor", sum := "32c6e17dbfac75a6000fff18f1d47de82a4a1f80421605499f8bf4acc958519a", func := "cordwood/cordwoodlaw24.BindNumber", spec := "bindNumber", inPlace := ["internal/bytealg.IndexByteString", "internal/bytealg.IndexString", "maps.clone"], unfollowed := true, recurses := true, named := ["unicode/utf8.first", "unicode/utf8.acceptRanges", "internal/bytealg.MaxLen"], loops := true, apart := false, laid := [("unicode/utf8.acceptRanges", laid_unicode_utf8_acceptRanges), ("unicode/utf8.first", laid_unicode_utf8_first)], narrowed := true }
def BindNumberUptoSaid : Prop := bindNumberUptoRow.holds Tryz.pinned (OpenSpec.upto bindNumberSpec)

/-- 'cordwoodlaw24.BindNumbers', WHERE WHAT IT READS IS OF BULK AT MOST 1048576: true; the input reads as it did. -/
def bindNumbersUptoRow : OpenClaim := { program := "ytacjjkbkhpdhnaagreatdoor", sum := "32c6e17dbfac75a6000fff18f1d47de82a4a1f80421605499f8bf4acc958519a", func := "cordwood/cordwoodlaw24.BindNumbers", spec := "bindNumbers", inPlace := ["internal/bytealg.IndexByteString", "internal/bytealg.IndexString", "maps.clone"], unfollowed := true, recurses := true, named := ["unicode/utf8.first", "unicode/utf8.acceptRanges", "internal/bytealg.MaxLen"], loops := true, apart := false, laid := [("unicode/utf8.acceptRanges", laid_unicode_utf8_acceptRanges), ("unicode/utf8.first", laid_unicode_utf8_first)], narrowed := true }
def BindNumbersUptoSaid : Prop := bindNumbersUptoRow.holds Tryz.pinned (OpenSpec.upto bindNumbersSpec)

end Rows
end Go.Proofs.YtacjjkbkhpdhnaaGreatDoor
