/-
  NARROWER THAN 'FOR EVERY INPUT', by the rows' own cells (each row's printed sentence says how): BindCheck: loops, laid · BindBind: loops, laid · BindUnbind: loops, laid · BindRoundTrip: loops, laid · CompileDecode: laid · CompileCheck: laid · CompileEncoding: laid.
  DERIVED. THE GIVEN ROWS OF THIS SEAT. 7 by the template 'for every input the law returns true; each argument reads behind the call as it read before'; 0 by the template 'total and deterministic' (their statements: YtlpipoihinceiaaGreatDoorTotals.lean).
  GIVEN WITH THE SEED: the statements are not yours to turn. If you find one false, say at which input.
  Laid BY PROGRAM, IN A SANDBOX (cutbox-rows.mjs): the forced cells as the released guide's own fill.sh prints them over the translation 4cd2c059c6122950… (all of the seat's roots in one cut). By AI agents, Wed Nov 11 2026. No macro, syntax, notation, axiom, sorry.
-/
import Derived.Test.YtlpipoihinceiaaGreatDoorChecked
import GoSem.PinnedTables
import GoSem.Claim
import GoSem.ClaimJoined
import GoSem.ClaimMapViews
import Derived.JoinedTies
import Derived.KernelRfl
namespace Go.Proofs.YtlpipoihinceiaaGreatDoor
/- THE CELL 'sum', in the pinned program and in every row, IS THE sha256 OF THE DUMP (.gsa) THAT YtlpipoihinceiaaGreatDoorProg.lean LOADS. Nothing in Lean hashes anything: it is a label: what it is worth is what the hold of that sum in a sandbox is worth. -/
noncomputable def Tryz.pinned : Pinned := { name := "ytlpipoihinceiaagreatdoor", sum := "4cd2c059c6122950d642032020cb57079f1b55a8390b9f8743408e30454654c3", checked := Tryz.checked }
namespace Rows
def none {H : Type} : Left H := { results := [], args := [] }

/- WHAT THE LISTED PACKAGE-LEVEL VARIABLES READ AS WHEN THE CALL BEGINS. Each datum BY PROGRAM (the guide's laid-datum.mjs) off the statement by which the dump's own 'gosem.cut.vars' lays the variable. In a bare row this is a premise. The card (YtlpipoihinceiaaGreatDoorCards.lean) ties it to the program's text. -/
def laid_unicode_utf8_acceptRanges {H : Type} : DataW H := .agg [.agg [.lit (.int .u8 128), .lit (.int .u8 191)], .agg [.lit (.int .u8 160), .lit (.int .u8 191)], .agg [.lit (.int .u8 128), .lit (.int .u8 159)], .agg [.lit (.int .u8 144), .lit (.int .u8 191)], .agg [.lit (.int .u8 128), .lit (.int .u8 143)], .agg [.lit (.int .u8 0), .lit (.int .u8 0)], .agg [.lit (.int .u8 0), .lit (.int .u8 0)], .agg [.lit (.int .u8 0), .lit (.int .u8 0)], .agg [.lit (.int .u8 0), .lit (.int .u8 0)], .agg [.lit (.int .u8 0), .lit (.int .u8 0)], .agg [.lit (.int .u8 0), .lit (.int .u8 0)], .agg [.lit (.int .u8 0), .lit (.int .u8 0)], .agg [.lit (.int .u8 0), .lit (.int .u8 0)], .agg [.lit (.int .u8 0), .lit (.int .u8 0)], .agg [.lit (.int .u8 0), .lit (.int .u8 0)], .agg [.lit (.int .u8 0), .lit (.int .u8 0)]]
/-- One of Go's own tables, pinned by name: the form's constant. -/
def laid_unicode_utf8_first : DataW Unit := Go.Pinned.utf8First

/-- 'cordwoodlaw24.BindCheck': WHATEVER THE INPUT: true; the input reads as it did. -/
def bindCheckSpec : ChangeSpec := { name := "bindCheck", fn := fun _ => fun
  | [d1, d2, d3] => { results := [.lit (.bool true)], args := [d1, d2, d3] }
  | _ => none }
def bindCheckRow : OpenClaim := { program := "ytlpipoihinceiaagreatdoor", sum := "4cd2c059c6122950d642032020cb57079f1b55a8390b9f8743408e30454654c3", func := "cordwood/cordwoodlaw24.BindCheck", spec := "bindCheck", inPlace := ["internal/bytealg.IndexByteString", "internal/bytealg.IndexString", "maps.clone"], unfollowed := true, recurses := true, named := ["unicode/utf8.first", "unicode/utf8.acceptRanges", "internal/bytealg.MaxLen"], loops := true, apart := false, laid := [("unicode/utf8.acceptRanges", laid_unicode_utf8_acceptRanges), ("unicode/utf8.first", laid_unicode_utf8_first)] }
def BindCheckSaid : Prop := bindCheckRow.holds Tryz.pinned (OpenSpec.ofChange bindCheckSpec)

/-- ITS FALSE NEIGHBOUR: 'it returns false'. Refute it at one input. -/
def bindCheckWrong : ChangeSpec := { name := "bindCheck", fn := fun _ => fun
  | [d1, d2, d3] => { results := [.lit (.bool false)], args := [d1, d2, d3] }
  | _ => none }
def BindCheckWrongFalsely : Prop := bindCheckRow.holds Tryz.pinned (OpenSpec.ofChange bindCheckWrong)

/-- 'cordwoodlaw24.BindBind': WHATEVER THE INPUT: true; the input reads as it did. -/
def bindBindSpec : ChangeSpec := { name := "bindBind", fn := fun _ => fun
  | [d1, d2, d3] => { results := [.lit (.bool true)], args := [d1, d2, d3] }
  | _ => none }
def bindBindRow : OpenClaim := { program := "ytlpipoihinceiaagreatdoor", sum := "4cd2c059c6122950d642032020cb57079f1b55a8390b9f8743408e30454654c3", func := "cordwood/cordwoodlaw24.BindBind", spec := "bindBind", inPlace := ["internal/bytealg.IndexByteString", "internal/bytealg.IndexString", "maps.clone"], unfollowed := true, recurses := true, named := ["unicode/utf8.first", "unicode/utf8.acceptRanges", "internal/bytealg.MaxLen"], loops := true, apart := false, laid := [("unicode/utf8.acceptRanges", laid_unicode_utf8_acceptRanges), ("unicode/utf8.first", laid_unicode_utf8_first)] }
def BindBindSaid : Prop := bindBindRow.holds Tryz.pinned (OpenSpec.ofChange bindBindSpec)

/-- ITS FALSE NEIGHBOUR: 'it returns false'. Refute it at one input. -/
def bindBindWrong : ChangeSpec := { name := "bindBind", fn := fun _ => fun
  | [d1, d2, d3] => { results := [.lit (.bool false)], args := [d1, d2, d3] }
  | _ => none }
def BindBindWrongFalsely : Prop := bindBindRow.holds Tryz.pinned (OpenSpec.ofChange bindBindWrong)

/-- 'cordwoodlaw24.BindUnbind': WHATEVER THE INPUT: true; the input reads as it did. -/
def bindUnbindSpec : ChangeSpec := { name := "bindUnbind", fn := fun _ => fun
  | [d1, d2, d3, d4] => { results := [.lit (.bool true)], args := [d1, d2, d3, d4] }
  | _ => none }
def bindUnbindRow : OpenClaim := { program := "ytlpipoihinceiaagreatdoor", sum := "4cd2c059c6122950d642032020cb57079f1b55a8390b9f8743408e30454654c3", func := "cordwood/cordwoodlaw24.BindUnbind", spec := "bindUnbind", inPlace := ["internal/bytealg.IndexByteString", "internal/bytealg.IndexString", "maps.clone"], unfollowed := true, recurses := true, named := ["unicode/utf8.first", "unicode/utf8.acceptRanges", "internal/bytealg.MaxLen"], loops := true, apart := false, laid := [("unicode/utf8.acceptRanges", laid_unicode_utf8_acceptRanges), ("unicode/utf8.first", laid_unicode_utf8_first)] }
def BindUnbindSaid : Prop := bindUnbindRow.holds Tryz.pinned (OpenSpec.ofChange bindUnbindSpec)

/-- ITS FALSE NEIGHBOUR: 'it returns false'. Refute it at one input. -/
def bindUnbindWrong : ChangeSpec := { name := "bindUnbind", fn := fun _ => fun
  | [d1, d2, d3, d4] => { results := [.lit (.bool false)], args := [d1, d2, d3, d4] }
  | _ => none }
def BindUnbindWrongFalsely : Prop := bindUnbindRow.holds Tryz.pinned (OpenSpec.ofChange bindUnbindWrong)

/-- 'cordwoodlaw24.BindRoundTrip': WHATEVER THE INPUT: true; the input reads as it did. -/
def bindRoundTripSpec : ChangeSpec := { name := "bindRoundTrip", fn := fun _ => fun
  | [d1, d2, d3, d4] => { results := [.lit (.bool true)], args := [d1, d2, d3, d4] }
  | _ => none }
def bindRoundTripRow : OpenClaim := { program := "ytlpipoihinceiaagreatdoor", sum := "4cd2c059c6122950d642032020cb57079f1b55a8390b9f8743408e30454654c3", func := "cordwood/cordwoodlaw24.BindRoundTrip", spec := "bindRoundTrip", inPlace := ["internal/bytealg.IndexByteString", "internal/bytealg.IndexString", "maps.clone"], unfollowed := true, recurses := true, named := ["unicode/utf8.first", "unicode/utf8.acceptRanges", "internal/bytealg.MaxLen"], loops := true, apart := false, laid := [("unicode/utf8.acceptRanges", laid_unicode_utf8_acceptRanges), ("unicode/utf8.first", laid_unicode_utf8_first)] }
def BindRoundTripSaid : Prop := bindRoundTripRow.holds Tryz.pinned (OpenSpec.ofChange bindRoundTripSpec)

/-- ITS FALSE NEIGHBOUR: 'it returns false'. Refute it at one input. -/
def bindRoundTripWrong : ChangeSpec := { name := "bindRoundTrip", fn := fun _ => fun
  | [d1, d2, d3, d4] => { results := [.lit (.bool false)], args := [d1, d2, d3, d4] }
  | _ => none }
def BindRoundTripWrongFalsely : Prop := bindRoundTripRow.holds Tryz.pinned (OpenSpec.ofChange bindRoundTripWrong)

/-- 'cordwoodlaw28.CompileDecode': WHATEVER THE INPUT: true; the input reads as it did. -/
def compileDecodeSpec : ChangeSpec := { name := "compileDecode", fn := fun _ => fun
  | [d] => { results := [.lit (.bool true)], args := [d] }
  | _ => none }
def compileDecodeRow : OpenClaim := { program := "ytlpipoihinceiaagreatdoor", sum := "4cd2c059c6122950d642032020cb57079f1b55a8390b9f8743408e30454654c3", func := "cordwood/cordwoodlaw28.CompileDecode", spec := "compileDecode", inPlace := ["internal/bytealg.IndexByteString", "internal/bytealg.IndexString"], unfollowed := true, recurses := true, named := ["unicode/utf8.first", "unicode/utf8.acceptRanges", "internal/bytealg.MaxLen"], apart := false, laid := [("unicode/utf8.acceptRanges", laid_unicode_utf8_acceptRanges), ("unicode/utf8.first", laid_unicode_utf8_first)] }
def CompileDecodeSaid : Prop := compileDecodeRow.holds Tryz.pinned (OpenSpec.ofChange compileDecodeSpec)

/-- ITS FALSE NEIGHBOUR: 'it returns false'. Refute it at one input. -/
def compileDecodeWrong : ChangeSpec := { name := "compileDecode", fn := fun _ => fun
  | [d] => { results := [.lit (.bool false)], args := [d] }
  | _ => none }
def CompileDecodeWrongFalsely : Prop := compileDecodeRow.holds Tryz.pinned (OpenSpec.ofChange compileDecodeWrong)

/-- 'cordwoodlaw28.CompileCheck': WHATEVER THE INPUT: true; the input reads as it did. -/
def compileCheckSpec : ChangeSpec := { name := "compileCheck", fn := fun _ => fun
  | [d] => { results := [.lit (.bool true)], args := [d] }
  | _ => none }
def compileCheckRow : OpenClaim := { program := "ytlpipoihinceiaagreatdoor", sum := "4cd2c059c6122950d642032020cb57079f1b55a8390b9f8743408e30454654c3", func := "cordwood/cordwoodlaw28.CompileCheck", spec := "compileCheck", inPlace := ["internal/bytealg.IndexByteString", "internal/bytealg.IndexString", "internal/abi.NoEscape"], unfollowed := true, recurses := true, named := ["unicode/utf8.first", "unicode/utf8.acceptRanges", "internal/bytealg.MaxLen"], apart := false, laid := [("unicode/utf8.acceptRanges", laid_unicode_utf8_acceptRanges), ("unicode/utf8.first", laid_unicode_utf8_first)] }
def CompileCheckSaid : Prop := compileCheckRow.holds Tryz.pinned (OpenSpec.ofChange compileCheckSpec)

/-- ITS FALSE NEIGHBOUR: 'it returns false'. Refute it at one input. -/
def compileCheckWrong : ChangeSpec := { name := "compileCheck", fn := fun _ => fun
  | [d] => { results := [.lit (.bool false)], args := [d] }
  | _ => none }
def CompileCheckWrongFalsely : Prop := compileCheckRow.holds Tryz.pinned (OpenSpec.ofChange compileCheckWrong)

/-- 'cordwoodlaw28.CompileEncoding': WHATEVER THE INPUT: true; the input reads as it did. -/
def compileEncodingSpec : ChangeSpec := { name := "compileEncoding", fn := fun _ => fun
  | [d1, d2] => { results := [.lit (.bool true)], args := [d1, d2] }
  | _ => none }
def compileEncodingRow : OpenClaim := { program := "ytlpipoihinceiaagreatdoor", sum := "4cd2c059c6122950d642032020cb57079f1b55a8390b9f8743408e30454654c3", func := "cordwood/cordwoodlaw28.CompileEncoding", spec := "compileEncoding", inPlace := ["internal/bytealg.IndexByteString", "internal/bytealg.IndexString", "internal/abi.NoEscape"], unfollowed := true, recurses := true, named := ["unicode/utf8.first", "unicode/utf8.acceptRanges", "internal/bytealg.MaxLen"], apart := false, laid := [("unicode/utf8.acceptRanges", laid_unicode_utf8_acceptRanges), ("unicode/utf8.first", laid_unicode_utf8_first)] }
def CompileEncodingSaid : Prop := compileEncodingRow.holds Tryz.pinned (OpenSpec.ofChange compileEncodingSpec)

/-- ITS FALSE NEIGHBOUR: 'it returns false'. Refute it at one input. -/
def compileEncodingWrong : ChangeSpec := { name := "compileEncoding", fn := fun _ => fun
  | [d1, d2] => { results := [.lit (.bool false)], args := [d1, d2] }
  | _ => none }
def CompileEncodingWrongFalsely : Prop := compileEncodingRow.holds Tryz.pinned (OpenSpec.ofChange compileEncodingWrong)

/- THE SECOND FORM. 'bulk': how many values and letters a reading holds, each counted each time it is reached (what is shared counts as often as it is met; a slice's spare places count too). A statement '..UptoSaid' is the law's where the arguments, and the package variables that the reading takes, are together of bulk at most 1048576: NARROWER than '..Said'. Prove '..Said' where nothing that the law and all that it calls make is longer than what came in: it says more and counts as full. Else prove '..UptoSaid'. A law counts once. -/
mutual
def uptoBulk {H : Type} : DataW H → Nat
  | .lit (.string bytes) => bytes.length + 1
  | .lit _ => 1
  | .nil => 1
  | .ptr d => uptoBulk d + 1
  | .slice elems spare => uptoBulkAll elems + uptoBulkAll spare + 1
  | .agg parts => uptoBulkAll parts + 1
  | .iface _ d => uptoBulk d + 1
  | .map entries => uptoBulkEntries entries + 1
  | .held _ => 1
def uptoBulkAll {H : Type} : List (DataW H) → Nat
  | [] => 0
  | d :: r => uptoBulk d + uptoBulkAll r
def uptoBulkEntries {H : Type} : List (Lit × DataW H) → Nat
  | [] => 0
  | x :: r => uptoBulkEntry x + uptoBulkEntries r
def uptoBulkEntry {H : Type} : Lit × DataW H → Nat
  | (.string bytes, d) => bytes.length + uptoBulk d + 1
  | (_, d) => uptoBulk d + 1
 end
def uptoSmall : (H : Type) → List (DataW H) → Bool := fun _ ds => decide (uptoBulkAll ds ≤ 1048576)
def OpenSpec.upto (s : _root_.Go.ChangeSpec) : _root_.Go.OpenSpec := { _root_.Go.OpenSpec.ofChange s with cond := some uptoSmall }

/-- 'cordwoodlaw24.BindCheck', WHERE WHAT IT READS IS OF BULK AT MOST 1048576: true; the input reads as it did. -/
def bindCheckUptoRow : OpenClaim := { program := "ytlpipoihinceiaagreatdoor", sum := "4cd2c059c6122950d642032020cb57079f1b55a8390b9f8743408e30454654c3", func := "cordwood/cordwoodlaw24.BindCheck", spec := "bindCheck", inPlace := ["internal/bytealg.IndexByteString", "internal/bytealg.IndexString", "maps.clone"], unfollowed := true, recurses := true, named := ["unicode/utf8.first", "unicode/utf8.acceptRanges", "internal/bytealg.MaxLen"], loops := true, apart := false, laid := [("unicode/utf8.acceptRanges", laid_unicode_utf8_acceptRanges), ("unicode/utf8.first", laid_unicode_utf8_first)], narrowed := true }
def BindCheckUptoSaid : Prop := bindCheckUptoRow.holds Tryz.pinned (OpenSpec.upto bindCheckSpec)

/-- 'cordwoodlaw24.BindBind', WHERE WHAT IT READS IS OF BULK AT MOST 1048576: true; the input reads as it did. -/
def bindBindUptoRow : OpenClaim := { program := "ytlpipoihinceiaagreatdoor", sum := "4cd2c059c6122950d642032020cb57079f1b55a8390b9f8743408e30454654c3", func := "cordwood/cordwoodlaw24.BindBind", spec := "bindBind", inPlace := ["internal/bytealg.IndexByteString", "internal/bytealg.IndexString", "maps.clone"], unfollowed := true, recurses := true, named := ["unicode/utf8.first", "unicode/utf8.acceptRanges", "internal/bytealg.MaxLen"], loops := true, apart := false, laid := [("unicode/utf8.acceptRanges", laid_unicode_utf8_acceptRanges), ("unicode/utf8.first", laid_unicode_utf8_first)], narrowed := true }
def BindBindUptoSaid : Prop := bindBindUptoRow.holds Tryz.pinned (OpenSpec.upto bindBindSpec)

/-- 'cordwoodlaw24.BindUnbind', WHERE WHAT IT READS IS OF BULK AT MOST 1048576: true; the input reads as it did. -/
def bindUnbindUptoRow : OpenClaim := { program := "ytlpipoihinceiaagreatdoor", sum := "4cd2c059c6122950d642032020cb57079f1b55a8390b9f8743408e30454654c3", func := "cordwood/cordwoodlaw24.BindUnbind", spec := "bindUnbind", inPlace := ["internal/bytealg.IndexByteString", "internal/bytealg.IndexString", "maps.clone"], unfollowed := true, recurses := true, named := ["unicode/utf8.first", "unicode/utf8.acceptRanges", "internal/bytealg.MaxLen"], loops := true, apart := false, laid := [("unicode/utf8.acceptRanges", laid_unicode_utf8_acceptRanges), ("unicode/utf8.first", laid_unicode_utf8_first)], narrowed := true }
def BindUnbindUptoSaid : Prop := bindUnbindUptoRow.holds Tryz.pinned (OpenSpec.upto bindUnbindSpec)

/-- 'cordwoodlaw24.BindRoundTrip', WHERE WHAT IT READS IS OF BULK AT MOST 1048576: true; the input reads as it did. -/
def bindRoundTripUptoRow : OpenClaim := { program := "ytlpipoihinceiaagreatdoor", sum := "4cd2c059c6122950d642032020cb57079f1b55a8390b9f8743408e30454654c3", func := "cordwood/cordwoodlaw24.BindRoundTrip", spec := "bindRoundTrip", inPlace := ["internal/bytealg.IndexByteString", "internal/bytealg.IndexString", "maps.clone"], unfollowed := true, recurses := true, named := ["unicode/utf8.first", "unicode/utf8.acceptRanges", "internal/bytealg.MaxLen"], loops := true, apart := false, laid := [("unicode/utf8.acceptRanges", laid_unicode_utf8_acceptRanges), ("unicode/utf8.first", laid_unicode_utf8_first)], narrowed := true }
def BindRoundTripUptoSaid : Prop := bindRoundTripUptoRow.holds Tryz.pinned (OpenSpec.upto bindRoundTripSpec)

/-- 'cordwoodlaw28.CompileDecode', WHERE WHAT IT READS IS OF BULK AT MOST 1048576: true; the input reads as it did. -/
def compileDecodeUptoRow : OpenClaim := { program := "ytlpipoihinceiaagreatdoor", sum := "4cd2c059c6122950d642032020cb57079f1b55a8390b9f8743408e30454654c3", func := "cordwood/cordwoodlaw28.CompileDecode", spec := "compileDecode", inPlace := ["internal/bytealg.IndexByteString", "internal/bytealg.IndexString"], unfollowed := true, recurses := true, named := ["unicode/utf8.first", "unicode/utf8.acceptRanges", "internal/bytealg.MaxLen"], apart := false, laid := [("unicode/utf8.acceptRanges", laid_unicode_utf8_acceptRanges), ("unicode/utf8.first", laid_unicode_utf8_first)], narrowed := true }
def CompileDecodeUptoSaid : Prop := compileDecodeUptoRow.holds Tryz.pinned (OpenSpec.upto compileDecodeSpec)

/-- 'cordwoodlaw28.CompileCheck', WHERE WHAT IT READS IS OF BULK AT MOST 1048576: true; the input reads as it did. -/
def compileCheckUptoRow : OpenClaim := { program := "ytlpipoihinceiaagreatdoor", sum := "4cd2c059c6122950d642032020cb57079f1b55a8390b9f8743408e30454654c3", func := "cordwood/cordwoodlaw28.CompileCheck", spec := "compileCheck", inPlace := ["internal/bytealg.IndexByteString", "internal/bytealg.IndexString", "internal/abi.NoEscape"], unfollowed := true, recurses := true, named := ["unicode/utf8.first", "unicode/utf8.acceptRanges", "internal/bytealg.MaxLen"], apart := false, laid := [("unicode/utf8.acceptRanges", laid_unicode_utf8_acceptRanges), ("unicode/utf8.first", laid_unicode_utf8_first)], narrowed := true }
def CompileCheckUptoSaid : Prop := compileCheckUptoRow.holds Tryz.pinned (OpenSpec.upto compileCheckSpec)

/-- 'cordwoodlaw28.CompileEncoding', WHERE WHAT IT READS IS OF BULK AT MOST 1048576: true; the input reads as it did. -/
def compileEncodingUptoRow : OpenClaim := { program := "ytlpipoihinceiaagreatdoor", sum := "4cd2c059c6122950d642032020cb57079f1b55a8390b9f8743408e30454654c3", func := "cordwood/cordwoodlaw28.CompileEncoding", spec := "compileEncoding", inPlace := ["internal/bytealg.IndexByteString", "internal/bytealg.IndexString", "internal/abi.NoEscape"], unfollowed := true, recurses := true, named := ["unicode/utf8.first", "unicode/utf8.acceptRanges", "internal/bytealg.MaxLen"], apart := false, laid := [("unicode/utf8.acceptRanges", laid_unicode_utf8_acceptRanges), ("unicode/utf8.first", laid_unicode_utf8_first)], narrowed := true }
def CompileEncodingUptoSaid : Prop := compileEncodingUptoRow.holds Tryz.pinned (OpenSpec.upto compileEncodingSpec)

end Rows
end Go.Proofs.YtlpipoihinceiaaGreatDoor
