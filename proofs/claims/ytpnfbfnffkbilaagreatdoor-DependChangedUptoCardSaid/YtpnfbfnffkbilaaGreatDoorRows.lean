/-
  NARROWER THAN 'FOR EVERY INPUT', by the rows' own cells (each row's printed sentence says how): DependChanged: loops, laid · DependClosed: loops, laid · DependClosure: loops, laid · DependKey: loops, laid · DependOutside: loops, laid · DependSelf: loops, laid · DependNames: loops, laid.
  DERIVED. THE GIVEN ROWS OF THIS SEAT. 7 by the template 'for every input the law returns true; each argument reads behind the call as it read before'; 0 by the template 'total and deterministic' (their statements: YtpnfbfnffkbilaaGreatDoorTotals.lean).
  GIVEN WITH THE SEED: the statements are not yours to turn. If you find one false, say at which input.
  Laid BY PROGRAM, IN A SANDBOX (cutbox-rows.mjs): the forced cells as the released guide's own fill.sh prints them over the translation af674978d827465c… (all of the seat's roots in one cut). By AI agents, Wed Nov 11 2026. No macro, syntax, notation, axiom, sorry.
-/
import Derived.Test.YtpnfbfnffkbilaaGreatDoorChecked
import GoSem.PinnedTables
import GoSem.Claim
import GoSem.ClaimJoined
import GoSem.ClaimMapViews
import Derived.JoinedTies
import Derived.KernelRfl
namespace Go.Proofs.YtpnfbfnffkbilaaGreatDoor
/- THE CELL 'sum', in the pinned program and in every row, IS THE sha256 OF THE DUMP (.gsa) THAT YtpnfbfnffkbilaaGreatDoorProg.lean LOADS. Nothing in Lean hashes anything: it is a label: what it is worth is what the hold of that sum in a sandbox is worth. -/
noncomputable def Tryz.pinned : Pinned := { name := "ytpnfbfnffkbilaagreatdoor", sum := "af674978d827465c8e8c0a07ca085812f02a11604c4c14f93670c07033bfe84d", checked := Tryz.checked }
namespace Rows
def none {H : Type} : Left H := { results := [], args := [] }

/- WHAT THE LISTED PACKAGE-LEVEL VARIABLES READ AS WHEN THE CALL BEGINS. Each datum BY PROGRAM (the guide's laid-datum.mjs) off the statement by which the dump's own 'gosem.cut.vars' lays the variable. In a bare row this is a premise. The card (YtpnfbfnffkbilaaGreatDoorCards.lean) ties it to the program's text. -/
def laid_unicode_utf8_acceptRanges {H : Type} : DataW H := .agg [.agg [.lit (.int .u8 128), .lit (.int .u8 191)], .agg [.lit (.int .u8 160), .lit (.int .u8 191)], .agg [.lit (.int .u8 128), .lit (.int .u8 159)], .agg [.lit (.int .u8 144), .lit (.int .u8 191)], .agg [.lit (.int .u8 128), .lit (.int .u8 143)], .agg [.lit (.int .u8 0), .lit (.int .u8 0)], .agg [.lit (.int .u8 0), .lit (.int .u8 0)], .agg [.lit (.int .u8 0), .lit (.int .u8 0)], .agg [.lit (.int .u8 0), .lit (.int .u8 0)], .agg [.lit (.int .u8 0), .lit (.int .u8 0)], .agg [.lit (.int .u8 0), .lit (.int .u8 0)], .agg [.lit (.int .u8 0), .lit (.int .u8 0)], .agg [.lit (.int .u8 0), .lit (.int .u8 0)], .agg [.lit (.int .u8 0), .lit (.int .u8 0)], .agg [.lit (.int .u8 0), .lit (.int .u8 0)], .agg [.lit (.int .u8 0), .lit (.int .u8 0)]]
/-- One of Go's own tables, pinned by name: the form's constant. -/
def laid_unicode_utf8_first : DataW Unit := Go.Pinned.utf8First

/-- 'cordwoodlaw40.DependChanged': WHATEVER THE INPUT: true; the input reads as it did. -/
def dependChangedSpec : ChangeSpec := { name := "dependChanged", fn := fun _ => fun
  | [d1, d2] => { results := [.lit (.bool true)], args := [d1, d2] }
  | _ => none }
def dependChangedRow : OpenClaim := { program := "ytpnfbfnffkbilaagreatdoor", sum := "af674978d827465c8e8c0a07ca085812f02a11604c4c14f93670c07033bfe84d", func := "cordwood/cordwoodlaw40.DependChanged", spec := "dependChanged", inPlace := ["internal/bytealg.IndexByteString", "internal/bytealg.IndexString", "internal/bytealg.abigen_runtime_cmpstring"], unfollowed := true, recurses := true, named := ["unicode/utf8.first", "unicode/utf8.acceptRanges", "internal/bytealg.MaxLen"], loops := true, plainKeys := false, apart := false, laid := [("unicode/utf8.acceptRanges", laid_unicode_utf8_acceptRanges), ("unicode/utf8.first", laid_unicode_utf8_first)] }
def DependChangedSaid : Prop := dependChangedRow.holds Tryz.pinned (OpenSpec.ofChange dependChangedSpec)

/-- ITS FALSE NEIGHBOUR: 'it returns false'. Refute it at one input. -/
def dependChangedWrong : ChangeSpec := { name := "dependChanged", fn := fun _ => fun
  | [d1, d2] => { results := [.lit (.bool false)], args := [d1, d2] }
  | _ => none }
def DependChangedWrongFalsely : Prop := dependChangedRow.holds Tryz.pinned (OpenSpec.ofChange dependChangedWrong)

/-- 'cordwoodlaw40.DependClosed': WHATEVER THE INPUT: true; the input reads as it did. -/
def dependClosedSpec : ChangeSpec := { name := "dependClosed", fn := fun _ => fun
  | [d1, d2] => { results := [.lit (.bool true)], args := [d1, d2] }
  | _ => none }
def dependClosedRow : OpenClaim := { program := "ytpnfbfnffkbilaagreatdoor", sum := "af674978d827465c8e8c0a07ca085812f02a11604c4c14f93670c07033bfe84d", func := "cordwood/cordwoodlaw40.DependClosed", spec := "dependClosed", inPlace := ["internal/bytealg.IndexByteString", "internal/bytealg.IndexString", "internal/bytealg.abigen_runtime_cmpstring"], unfollowed := true, recurses := true, named := ["unicode/utf8.first", "unicode/utf8.acceptRanges", "internal/bytealg.MaxLen"], loops := true, plainKeys := false, apart := false, laid := [("unicode/utf8.acceptRanges", laid_unicode_utf8_acceptRanges), ("unicode/utf8.first", laid_unicode_utf8_first)] }
def DependClosedSaid : Prop := dependClosedRow.holds Tryz.pinned (OpenSpec.ofChange dependClosedSpec)

/-- ITS FALSE NEIGHBOUR: 'it returns false'. Refute it at one input. -/
def dependClosedWrong : ChangeSpec := { name := "dependClosed", fn := fun _ => fun
  | [d1, d2] => { results := [.lit (.bool false)], args := [d1, d2] }
  | _ => none }
def DependClosedWrongFalsely : Prop := dependClosedRow.holds Tryz.pinned (OpenSpec.ofChange dependClosedWrong)

/-- 'cordwoodlaw40.DependClosure': WHATEVER THE INPUT: true; the input reads as it did. -/
def dependClosureSpec : ChangeSpec := { name := "dependClosure", fn := fun _ => fun
  | [d1, d2] => { results := [.lit (.bool true)], args := [d1, d2] }
  | _ => none }
def dependClosureRow : OpenClaim := { program := "ytpnfbfnffkbilaagreatdoor", sum := "af674978d827465c8e8c0a07ca085812f02a11604c4c14f93670c07033bfe84d", func := "cordwood/cordwoodlaw40.DependClosure", spec := "dependClosure", inPlace := ["internal/bytealg.IndexByteString", "internal/bytealg.IndexString", "internal/bytealg.abigen_runtime_cmpstring"], unfollowed := true, recurses := true, named := ["unicode/utf8.first", "unicode/utf8.acceptRanges", "internal/bytealg.MaxLen"], loops := true, plainKeys := false, apart := false, laid := [("unicode/utf8.acceptRanges", laid_unicode_utf8_acceptRanges), ("unicode/utf8.first", laid_unicode_utf8_first)] }
def DependClosureSaid : Prop := dependClosureRow.holds Tryz.pinned (OpenSpec.ofChange dependClosureSpec)

/-- ITS FALSE NEIGHBOUR: 'it returns false'. Refute it at one input. -/
def dependClosureWrong : ChangeSpec := { name := "dependClosure", fn := fun _ => fun
  | [d1, d2] => { results := [.lit (.bool false)], args := [d1, d2] }
  | _ => none }
def DependClosureWrongFalsely : Prop := dependClosureRow.holds Tryz.pinned (OpenSpec.ofChange dependClosureWrong)

/-- 'cordwoodlaw40.DependKey': WHATEVER THE INPUT: true; the input reads as it did. -/
def dependKeySpec : ChangeSpec := { name := "dependKey", fn := fun _ => fun
  | [d1, d2] => { results := [.lit (.bool true)], args := [d1, d2] }
  | _ => none }
def dependKeyRow : OpenClaim := { program := "ytpnfbfnffkbilaagreatdoor", sum := "af674978d827465c8e8c0a07ca085812f02a11604c4c14f93670c07033bfe84d", func := "cordwood/cordwoodlaw40.DependKey", spec := "dependKey", inPlace := ["internal/bytealg.IndexByteString", "internal/bytealg.IndexString", "internal/bytealg.abigen_runtime_cmpstring", "internal/abi.NoEscape"], unfollowed := true, recurses := true, named := ["unicode/utf8.first", "unicode/utf8.acceptRanges", "internal/bytealg.MaxLen"], loops := true, plainKeys := false, apart := false, laid := [("unicode/utf8.acceptRanges", laid_unicode_utf8_acceptRanges), ("unicode/utf8.first", laid_unicode_utf8_first)] }
def DependKeySaid : Prop := dependKeyRow.holds Tryz.pinned (OpenSpec.ofChange dependKeySpec)

/-- ITS FALSE NEIGHBOUR: 'it returns false'. Refute it at one input. -/
def dependKeyWrong : ChangeSpec := { name := "dependKey", fn := fun _ => fun
  | [d1, d2] => { results := [.lit (.bool false)], args := [d1, d2] }
  | _ => none }
def DependKeyWrongFalsely : Prop := dependKeyRow.holds Tryz.pinned (OpenSpec.ofChange dependKeyWrong)

/-- 'cordwoodlaw40.DependOutside': WHATEVER THE INPUT: true; the input reads as it did. -/
def dependOutsideSpec : ChangeSpec := { name := "dependOutside", fn := fun _ => fun
  | [d1, d2, d3, d4] => { results := [.lit (.bool true)], args := [d1, d2, d3, d4] }
  | _ => none }
def dependOutsideRow : OpenClaim := { program := "ytpnfbfnffkbilaagreatdoor", sum := "af674978d827465c8e8c0a07ca085812f02a11604c4c14f93670c07033bfe84d", func := "cordwood/cordwoodlaw40.DependOutside", spec := "dependOutside", inPlace := ["internal/bytealg.IndexByteString", "internal/bytealg.IndexString", "internal/bytealg.abigen_runtime_cmpstring", "internal/abi.NoEscape"], unfollowed := true, recurses := true, named := ["unicode/utf8.first", "unicode/utf8.acceptRanges", "internal/bytealg.MaxLen"], loops := true, plainKeys := false, apart := false, laid := [("unicode/utf8.acceptRanges", laid_unicode_utf8_acceptRanges), ("unicode/utf8.first", laid_unicode_utf8_first)] }
def DependOutsideSaid : Prop := dependOutsideRow.holds Tryz.pinned (OpenSpec.ofChange dependOutsideSpec)

/-- ITS FALSE NEIGHBOUR: 'it returns false'. Refute it at one input. -/
def dependOutsideWrong : ChangeSpec := { name := "dependOutside", fn := fun _ => fun
  | [d1, d2, d3, d4] => { results := [.lit (.bool false)], args := [d1, d2, d3, d4] }
  | _ => none }
def DependOutsideWrongFalsely : Prop := dependOutsideRow.holds Tryz.pinned (OpenSpec.ofChange dependOutsideWrong)

/-- 'cordwoodlaw40.DependSelf': WHATEVER THE INPUT: true; the input reads as it did. -/
def dependSelfSpec : ChangeSpec := { name := "dependSelf", fn := fun _ => fun
  | [d1, d2] => { results := [.lit (.bool true)], args := [d1, d2] }
  | _ => none }
def dependSelfRow : OpenClaim := { program := "ytpnfbfnffkbilaagreatdoor", sum := "af674978d827465c8e8c0a07ca085812f02a11604c4c14f93670c07033bfe84d", func := "cordwood/cordwoodlaw40.DependSelf", spec := "dependSelf", inPlace := ["internal/bytealg.IndexByteString", "internal/bytealg.IndexString", "internal/bytealg.abigen_runtime_cmpstring", "internal/abi.NoEscape"], unfollowed := true, recurses := true, named := ["unicode/utf8.first", "unicode/utf8.acceptRanges", "internal/bytealg.MaxLen"], loops := true, plainKeys := false, apart := false, laid := [("unicode/utf8.acceptRanges", laid_unicode_utf8_acceptRanges), ("unicode/utf8.first", laid_unicode_utf8_first)] }
def DependSelfSaid : Prop := dependSelfRow.holds Tryz.pinned (OpenSpec.ofChange dependSelfSpec)

/-- ITS FALSE NEIGHBOUR: 'it returns false'. Refute it at one input. -/
def dependSelfWrong : ChangeSpec := { name := "dependSelf", fn := fun _ => fun
  | [d1, d2] => { results := [.lit (.bool false)], args := [d1, d2] }
  | _ => none }
def DependSelfWrongFalsely : Prop := dependSelfRow.holds Tryz.pinned (OpenSpec.ofChange dependSelfWrong)

/-- 'cordwoodlaw40.DependNames': WHATEVER THE INPUT: true; the input reads as it did. -/
def dependNamesSpec : ChangeSpec := { name := "dependNames", fn := fun _ => fun
  | [d1, d2, d3, d4, d5] => { results := [.lit (.bool true)], args := [d1, d2, d3, d4, d5] }
  | _ => none }
def dependNamesRow : OpenClaim := { program := "ytpnfbfnffkbilaagreatdoor", sum := "af674978d827465c8e8c0a07ca085812f02a11604c4c14f93670c07033bfe84d", func := "cordwood/cordwoodlaw40.DependNames", spec := "dependNames", inPlace := ["internal/bytealg.IndexByteString", "internal/bytealg.IndexString", "internal/bytealg.abigen_runtime_cmpstring", "internal/abi.NoEscape"], unfollowed := true, recurses := true, named := ["unicode/utf8.first", "unicode/utf8.acceptRanges", "internal/bytealg.MaxLen"], loops := true, plainKeys := false, apart := false, laid := [("unicode/utf8.acceptRanges", laid_unicode_utf8_acceptRanges), ("unicode/utf8.first", laid_unicode_utf8_first)] }
def DependNamesSaid : Prop := dependNamesRow.holds Tryz.pinned (OpenSpec.ofChange dependNamesSpec)

/-- ITS FALSE NEIGHBOUR: 'it returns false'. Refute it at one input. -/
def dependNamesWrong : ChangeSpec := { name := "dependNames", fn := fun _ => fun
  | [d1, d2, d3, d4, d5] => { results := [.lit (.bool false)], args := [d1, d2, d3, d4, d5] }
  | _ => none }
def DependNamesWrongFalsely : Prop := dependNamesRow.holds Tryz.pinned (OpenSpec.ofChange dependNamesWrong)

/- THE SECOND FORM. 'bulk': how many values and letters a reading holds, each counted each time it is reached (what is shared counts as often as it is met; a slice's spare places count too). A statement '..UptoSaid' is the law's where the arguments, and the package variables that the reading takes, are together of bulk at most 1048576: NARROWER than '..Said'. Prove '..Said' where nothing that the law and all that it calls make is longer than what came in: it says more and counts as full. Else prove '..UptoSaid'. A law counts once. -/
mutual
def uptoBulk {H : Type} : DataW H → Nat
  | .lit (.string bytes) => bytes.length + 1
  | .lit _ => 1
  | .nil => 1
  | .ptr d => uptoBulk d + 1
  | .slice elems spare => uptoBulkAll elems + uptoBulkAll spare + 1
  | .agg parts => uptoBulkAll parts + 1
  | .iface _ d => uptoBulk d + 1
  | .map entries => uptoBulkEntries entries + 1
  | .held _ => 1
def uptoBulkAll {H : Type} : List (DataW H) → Nat
  | [] => 0
  | d :: r => uptoBulk d + uptoBulkAll r
def uptoBulkEntries {H : Type} : List (Lit × DataW H) → Nat
  | [] => 0
  | x :: r => uptoBulkEntry x + uptoBulkEntries r
def uptoBulkEntry {H : Type} : Lit × DataW H → Nat
  | (.string bytes, d) => bytes.length + uptoBulk d + 1
  | (_, d) => uptoBulk d + 1
 end
def uptoSmall : (H : Type) → List (DataW H) → Bool := fun _ ds => decide (uptoBulkAll ds ≤ 1048576)
def OpenSpec.upto (s : _root_.Go.ChangeSpec) : _root_.Go.OpenSpec := { _root_.Go.OpenSpec.ofChange s with cond := some uptoSmall }

/-- 'cordwoodlaw40.DependChanged', WHERE WHAT IT READS IS OF BULK AT MOST 1048576: true; the input reads as it did. -/
def dependChangedUptoRow : OpenClaim := { program := "ytpnfbfnffkbilaagreatdoor", sum := "af674978d827465c8e8c0a07ca085812f02a11604c4c14f93670c07033bfe84d", func := "cordwood/cordwoodlaw40.DependChanged", spec := "dependChanged", inPlace := ["internal/bytealg.IndexByteString", "internal/bytealg.IndexString", "internal/bytealg.abigen_runtime_cmpstring"], unfollowed := true, recurses := true, named := ["unicode/utf8.first", "unicode/utf8.acceptRanges", "internal/bytealg.MaxLen"], loops := true, plainKeys := false, apart := false, laid := [("unicode/utf8.acceptRanges", laid_unicode_utf8_acceptRanges), ("unicode/utf8.first", laid_unicode_utf8_first)], narrowed := true }
def DependChangedUptoSaid : Prop := dependChangedUptoRow.holds Tryz.pinned (OpenSpec.upto dependChangedSpec)

/-- 'cordwoodlaw40.DependClosed', WHERE WHAT IT READS IS OF BULK AT MOST 1048576: true; the input reads as it did. -/
def dependClosedUptoRow : OpenClaim := { program := "ytpnfbfnffkbilaagreatdoor", sum := "af674978d827465c8e8c0a07ca085812f02a11604c4c14f93670c07033bfe84d", func := "cordwood/cordwoodlaw40.DependClosed", spec := "dependClosed", inPlace := ["internal/bytealg.IndexByteString", "internal/bytealg.IndexString", "internal/bytealg.abigen_runtime_cmpstring"], unfollowed := true, recurses := true, named := ["unicode/utf8.first", "unicode/utf8.acceptRanges", "internal/bytealg.MaxLen"], loops := true, plainKeys := false, apart := false, laid := [("unicode/utf8.acceptRanges", laid_unicode_utf8_acceptRanges), ("unicode/utf8.first", laid_unicode_utf8_first)], narrowed := true }
def DependClosedUptoSaid : Prop := dependClosedUptoRow.holds Tryz.pinned (OpenSpec.upto dependClosedSpec)

/-- 'cordwoodlaw40.DependClosure', WHERE WHAT IT READS IS OF BULK AT MOST 1048576: true; the input reads as it did. -/
def dependClosureUptoRow : OpenClaim := { program := "ytpnfbfnffkbilaagreatdoor", sum := "af674978d827465c8e8c0a07ca085812f02a11604c4c14f93670c07033bfe84d", func := "cordwood/cordwoodlaw40.DependClosure", spec := "dependClosure", inPlace := ["internal/bytealg.IndexByteString", "internal/bytealg.IndexString", "internal/bytealg.abigen_runtime_cmpstring"], unfollowed := true, recurses := true, named := ["unicode/utf8.first", "unicode/utf8.acceptRanges", "internal/bytealg.MaxLen"], loops := true, plainKeys := false, apart := false, laid := [("unicode/utf8.acceptRanges", laid_unicode_utf8_acceptRanges), ("unicode/utf8.first", laid_unicode_utf8_first)], narrowed := true }
def DependClosureUptoSaid : Prop := dependClosureUptoRow.holds Tryz.pinned (OpenSpec.upto dependClosureSpec)

/-- 'cordwoodlaw40.DependKey', WHERE WHAT IT READS IS OF BULK AT MOST 1048576: true; the input reads as it did. -/
def dependKeyUptoRow : OpenClaim := { program := "ytpnfbfnffkbilaagreatdoor", sum := "af674978d827465c8e8c0a07ca085812f02a11604c4c14f93670c07033bfe84d", func := "cordwood/cordwoodlaw40.DependKey", spec := "dependKey", inPlace := ["internal/bytealg.IndexByteString", "internal/bytealg.IndexString", "internal/bytealg.abigen_runtime_cmpstring", "internal/abi.NoEscape"], unfollowed := true, recurses := true, named := ["unicode/utf8.first", "unicode/utf8.acceptRanges", "internal/bytealg.MaxLen"], loops := true, plainKeys := false, apart := false, laid := [("unicode/utf8.acceptRanges", laid_unicode_utf8_acceptRanges), ("unicode/utf8.first", laid_unicode_utf8_first)], narrowed := true }
def DependKeyUptoSaid : Prop := dependKeyUptoRow.holds Tryz.pinned (OpenSpec.upto dependKeySpec)

/-- 'cordwoodlaw40.DependOutside', WHERE WHAT IT READS IS OF BULK AT MOST 1048576: true; the input reads as it did. -/
def dependOutsideUptoRow : OpenClaim := { program := "ytpnfbfnffkbilaagreatdoor", sum := "af674978d827465c8e8c0a07ca085812f02a11604c4c14f93670c07033bfe84d", func := "cordwood/cordwoodlaw40.DependOutside", spec := "dependOutside", inPlace := ["internal/bytealg.IndexByteString", "internal/bytealg.IndexString", "internal/bytealg.abigen_runtime_cmpstring", "internal/abi.NoEscape"], unfollowed := true, recurses := true, named := ["unicode/utf8.first", "unicode/utf8.acceptRanges", "internal/bytealg.MaxLen"], loops := true, plainKeys := false, apart := false, laid := [("unicode/utf8.acceptRanges", laid_unicode_utf8_acceptRanges), ("unicode/utf8.first", laid_unicode_utf8_first)], narrowed := true }
def DependOutsideUptoSaid : Prop := dependOutsideUptoRow.holds Tryz.pinned (OpenSpec.upto dependOutsideSpec)

/-- 'cordwoodlaw40.DependSelf', WHERE WHAT IT READS IS OF BULK AT MOST 1048576: true; the input reads as it did. -/
def dependSelfUptoRow : OpenClaim := { program := "ytpnfbfnffkbilaagreatdoor", sum := "af674978d827465c8e8c0a07ca085812f02a11604c4c14f93670c07033bfe84d", func := "cordwood/cordwoodlaw40.DependSelf", spec := "dependSelf", inPlace := ["internal/bytealg.IndexByteString", "internal/bytealg.IndexString", "internal/bytealg.abigen_runtime_cmpstring", "internal/abi.NoEscape"], unfollowed := true, recurses := true, named := ["unicode/utf8.first", "unicode/utf8.acceptRanges", "internal/bytealg.MaxLen"], loops := true, plainKeys := false, apart := false, laid := [("unicode/utf8.acceptRanges", laid_unicode_utf8_acceptRanges), ("unicode/utf8.first", laid_unicode_utf8_first)], narrowed := true }
def DependSelfUptoSaid : Prop := dependSelfUptoRow.holds Tryz.pinned (OpenSpec.upto dependSelfSpec)

/-- 'cordwoodlaw40.DependNames', WHERE WHAT IT READS IS OF BULK AT MOST 1048576: true; the input reads as it did. -/
def dependNamesUptoRow : OpenClaim := { program := "ytpnfbfnffkbilaagreatdoor", sum := "af674978d827465c8e8c0a07ca085812f02a11604c4c14f93670c07033bfe84d", func := "cordwood/cordwoodlaw40.DependNames", spec := "dependNames", inPlace := ["internal/bytealg.IndexByteString", "internal/bytealg.IndexString", "internal/bytealg.abigen_runtime_cmpstring", "internal/abi.NoEscape"], unfollowed := true, recurses := true, named := ["unicode/utf8.first", "unicode/utf8.acceptRanges", "internal/bytealg.MaxLen"], loops := true, plainKeys := false, apart := false, laid := [("unicode/utf8.acceptRanges", laid_unicode_utf8_acceptRanges), ("unicode/utf8.first", laid_unicode_utf8_first)], narrowed := true }
def DependNamesUptoSaid : Prop := dependNamesUptoRow.holds Tryz.pinned (OpenSpec.upto dependNamesSpec)

end Rows
end Go.Proofs.YtpnfbfnffkbilaaGreatDoor
