/-
  NARROWER THAN 'FOR EVERY INPUT', by the rows' own cells (each row's printed sentence says how): InferGroups: loops, laid · InferModule: loops, laid · InferOrder: loops, laid · InferNumbers: loops, laid · InferTests: loops, laid · InferForms: loops, laid · InferRename: loops, laid · InferTyped: loops, laid · InferPrincipal: loops, laid.
  DERIVED. THE GIVEN ROWS OF THIS SEAT. 9 by the template 'for every input the law returns true; each argument reads behind the call as it read before'; 0 by the template 'total and deterministic' (their statements: YtmmecapgnmlaiaaGreatDoorTotals.lean).
  GIVEN WITH THE SEED: the statements are not yours to turn. If you find one false, say at which input.
  Laid BY PROGRAM, IN A SANDBOX (cutbox-rows.mjs): the forced cells as the released guide's own fill.sh prints them over the translation 1043479c5b53be53… (all of the seat's roots in one cut). By AI agents, Wed Nov 11 2026. No macro, syntax, notation, axiom, sorry.
-/
import Derived.Test.YtmmecapgnmlaiaaGreatDoorChecked
import GoSem.PinnedTables
import GoSem.Claim
import GoSem.ClaimJoined
import GoSem.ClaimMapViews
import Derived.JoinedTies
import Derived.KernelRfl
namespace Go.Proofs.YtmmecapgnmlaiaaGreatDoor
/- THE CELL 'sum', in the pinned program and in every row, IS THE sha256 OF THE DUMP (.gsa) THAT YtmmecapgnmlaiaaGreatDoorProg.lean LOADS. Nothing in Lean hashes anything: it is a label: what it is worth is what the hold of that sum in a sandbox is worth. -/
noncomputable def Tryz.pinned : Pinned := { name := "ytmmecapgnmlaiaagreatdoor", sum := "1043479c5b53be53374f8bd2b2747775f84139d1bdd85f6754676d441598dbfd", checked := Tryz.checked }
namespace Rows
def none {H : Type} : Left H := { results := [], args := [] }

/- WHAT THE LISTED PACKAGE-LEVEL VARIABLES READ AS WHEN THE CALL BEGINS. Each datum BY PROGRAM (the guide's laid-datum.mjs) off the statement by which the dump's own 'gosem.cut.vars' lays the variable. In a bare row this is a premise. The card (YtmmecapgnmlaiaaGreatDoorCards.lean) ties it to the program's text. -/
def laid_unicode_utf8_acceptRanges {H : Type} : DataW H := .agg [.agg [.lit (.int .u8 128), .lit (.int .u8 191)], .agg [.lit (.int .u8 160), .lit (.int .u8 191)], .agg [.lit (.int .u8 128), .lit (.int .u8 159)], .agg [.lit (.int .u8 144), .lit (.int .u8 191)], .agg [.lit (.int .u8 128), .lit (.int .u8 143)], .agg [.lit (.int .u8 0), .lit (.int .u8 0)], .agg [.lit (.int .u8 0), .lit (.int .u8 0)], .agg [.lit (.int .u8 0), .lit (.int .u8 0)], .agg [.lit (.int .u8 0), .lit (.int .u8 0)], .agg [.lit (.int .u8 0), .lit (.int .u8 0)], .agg [.lit (.int .u8 0), .lit (.int .u8 0)], .agg [.lit (.int .u8 0), .lit (.int .u8 0)], .agg [.lit (.int .u8 0), .lit (.int .u8 0)], .agg [.lit (.int .u8 0), .lit (.int .u8 0)], .agg [.lit (.int .u8 0), .lit (.int .u8 0)], .agg [.lit (.int .u8 0), .lit (.int .u8 0)]]
/-- One of Go's own tables, pinned by name: the form's constant. -/
def laid_unicode_utf8_first : DataW Unit := Go.Pinned.utf8First

/-- 'cordwoodlaw25.InferGroups': WHATEVER THE INPUT: true; the input reads as it did. -/
def inferGroupsSpec : ChangeSpec := { name := "inferGroups", fn := fun _ => fun
  | [d] => { results := [.lit (.bool true)], args := [d] }
  | _ => none }
def inferGroupsRow : OpenClaim := { program := "ytmmecapgnmlaiaagreatdoor", sum := "1043479c5b53be53374f8bd2b2747775f84139d1bdd85f6754676d441598dbfd", func := "cordwood/cordwoodlaw25.InferGroups", spec := "inferGroups", inPlace := ["internal/bytealg.IndexByteString", "internal/bytealg.IndexString"], unfollowed := true, recurses := true, named := ["unicode/utf8.first", "unicode/utf8.acceptRanges", "internal/bytealg.MaxLen"], loops := true, plainKeys := false, apart := false, laid := [("unicode/utf8.acceptRanges", laid_unicode_utf8_acceptRanges), ("unicode/utf8.first", laid_unicode_utf8_first)] }
def InferGroupsSaid : Prop := inferGroupsRow.holds Tryz.pinned (OpenSpec.ofChange inferGroupsSpec)

/-- ITS FALSE NEIGHBOUR: 'it returns false'. Refute it at one input. -/
def inferGroupsWrong : ChangeSpec := { name := "inferGroups", fn := fun _ => fun
  | [d] => { results := [.lit (.bool false)], args := [d] }
  | _ => none }
def InferGroupsWrongFalsely : Prop := inferGroupsRow.holds Tryz.pinned (OpenSpec.ofChange inferGroupsWrong)

/-- 'cordwoodlaw25.InferModule': WHATEVER THE INPUT: true; the input reads as it did. -/
def inferModuleSpec : ChangeSpec := { name := "inferModule", fn := fun _ => fun
  | [d1, d2] => { results := [.lit (.bool true)], args := [d1, d2] }
  | _ => none }
def inferModuleRow : OpenClaim := { program := "ytmmecapgnmlaiaagreatdoor", sum := "1043479c5b53be53374f8bd2b2747775f84139d1bdd85f6754676d441598dbfd", func := "cordwood/cordwoodlaw25.InferModule", spec := "inferModule", inPlace := ["internal/bytealg.IndexByteString", "internal/bytealg.IndexString"], unfollowed := true, recurses := true, named := ["unicode/utf8.first", "unicode/utf8.acceptRanges", "internal/bytealg.MaxLen"], loops := true, plainKeys := false, apart := false, laid := [("unicode/utf8.acceptRanges", laid_unicode_utf8_acceptRanges), ("unicode/utf8.first", laid_unicode_utf8_first)] }
def InferModuleSaid : Prop := inferModuleRow.holds Tryz.pinned (OpenSpec.ofChange inferModuleSpec)

/-- ITS FALSE NEIGHBOUR: 'it returns false'. Refute it at one input. -/
def inferModuleWrong : ChangeSpec := { name := "inferModule", fn := fun _ => fun
  | [d1, d2] => { results := [.lit (.bool false)], args := [d1, d2] }
  | _ => none }
def InferModuleWrongFalsely : Prop := inferModuleRow.holds Tryz.pinned (OpenSpec.ofChange inferModuleWrong)

/-- 'cordwoodlaw25.InferOrder': WHATEVER THE INPUT: true; the input reads as it did. -/
def inferOrderSpec : ChangeSpec := { name := "inferOrder", fn := fun _ => fun
  | [d] => { results := [.lit (.bool true)], args := [d] }
  | _ => none }
def inferOrderRow : OpenClaim := { program := "ytmmecapgnmlaiaagreatdoor", sum := "1043479c5b53be53374f8bd2b2747775f84139d1bdd85f6754676d441598dbfd", func := "cordwood/cordwoodlaw25.InferOrder", spec := "inferOrder", inPlace := ["internal/bytealg.IndexByteString", "internal/bytealg.IndexString"], unfollowed := true, recurses := true, named := ["unicode/utf8.first", "unicode/utf8.acceptRanges", "internal/bytealg.MaxLen"], loops := true, plainKeys := false, apart := false, laid := [("unicode/utf8.acceptRanges", laid_unicode_utf8_acceptRanges), ("unicode/utf8.first", laid_unicode_utf8_first)] }
def InferOrderSaid : Prop := inferOrderRow.holds Tryz.pinned (OpenSpec.ofChange inferOrderSpec)

/-- ITS FALSE NEIGHBOUR: 'it returns false'. Refute it at one input. -/
def inferOrderWrong : ChangeSpec := { name := "inferOrder", fn := fun _ => fun
  | [d] => { results := [.lit (.bool false)], args := [d] }
  | _ => none }
def InferOrderWrongFalsely : Prop := inferOrderRow.holds Tryz.pinned (OpenSpec.ofChange inferOrderWrong)

/-- 'cordwoodlaw25.InferNumbers': WHATEVER THE INPUT: true; the input reads as it did. -/
def inferNumbersSpec : ChangeSpec := { name := "inferNumbers", fn := fun _ => fun
  | [d1, d2, d3] => { results := [.lit (.bool true)], args := [d1, d2, d3] }
  | _ => none }
def inferNumbersRow : OpenClaim := { program := "ytmmecapgnmlaiaagreatdoor", sum := "1043479c5b53be53374f8bd2b2747775f84139d1bdd85f6754676d441598dbfd", func := "cordwood/cordwoodlaw25.InferNumbers", spec := "inferNumbers", inPlace := ["internal/bytealg.IndexByteString", "internal/bytealg.IndexString"], unfollowed := true, recurses := true, named := ["unicode/utf8.first", "unicode/utf8.acceptRanges", "internal/bytealg.MaxLen"], loops := true, plainKeys := false, apart := false, laid := [("unicode/utf8.acceptRanges", laid_unicode_utf8_acceptRanges), ("unicode/utf8.first", laid_unicode_utf8_first)] }
def InferNumbersSaid : Prop := inferNumbersRow.holds Tryz.pinned (OpenSpec.ofChange inferNumbersSpec)

/-- ITS FALSE NEIGHBOUR: 'it returns false'. Refute it at one input. -/
def inferNumbersWrong : ChangeSpec := { name := "inferNumbers", fn := fun _ => fun
  | [d1, d2, d3] => { results := [.lit (.bool false)], args := [d1, d2, d3] }
  | _ => none }
def InferNumbersWrongFalsely : Prop := inferNumbersRow.holds Tryz.pinned (OpenSpec.ofChange inferNumbersWrong)

/-- 'cordwoodlaw25.InferTests': WHATEVER THE INPUT: true; the input reads as it did. -/
def inferTestsSpec : ChangeSpec := { name := "inferTests", fn := fun _ => fun
  | [d1, d2, d3] => { results := [.lit (.bool true)], args := [d1, d2, d3] }
  | _ => none }
def inferTestsRow : OpenClaim := { program := "ytmmecapgnmlaiaagreatdoor", sum := "1043479c5b53be53374f8bd2b2747775f84139d1bdd85f6754676d441598dbfd", func := "cordwood/cordwoodlaw25.InferTests", spec := "inferTests", inPlace := ["internal/bytealg.IndexByteString", "internal/bytealg.IndexString"], unfollowed := true, recurses := true, named := ["unicode/utf8.first", "unicode/utf8.acceptRanges", "internal/bytealg.MaxLen"], loops := true, plainKeys := false, apart := false, laid := [("unicode/utf8.acceptRanges", laid_unicode_utf8_acceptRanges), ("unicode/utf8.first", laid_unicode_utf8_first)] }
def InferTestsSaid : Prop := inferTestsRow.holds Tryz.pinned (OpenSpec.ofChange inferTestsSpec)

/-- ITS FALSE NEIGHBOUR: 'it returns false'. Refute it at one input. -/
def inferTestsWrong : ChangeSpec := { name := "inferTests", fn := fun _ => fun
  | [d1, d2, d3] => { results := [.lit (.bool false)], args := [d1, d2, d3] }
  | _ => none }
def InferTestsWrongFalsely : Prop := inferTestsRow.holds Tryz.pinned (OpenSpec.ofChange inferTestsWrong)

/-- 'cordwoodlaw25.InferForms': WHATEVER THE INPUT: true; the input reads as it did. -/
def inferFormsSpec : ChangeSpec := { name := "inferForms", fn := fun _ => fun
  | [d1, d2, d3] => { results := [.lit (.bool true)], args := [d1, d2, d3] }
  | _ => none }
def inferFormsRow : OpenClaim := { program := "ytmmecapgnmlaiaagreatdoor", sum := "1043479c5b53be53374f8bd2b2747775f84139d1bdd85f6754676d441598dbfd", func := "cordwood/cordwoodlaw25.InferForms", spec := "inferForms", inPlace := ["internal/bytealg.IndexByteString", "internal/bytealg.IndexString"], unfollowed := true, recurses := true, named := ["unicode/utf8.first", "unicode/utf8.acceptRanges", "internal/bytealg.MaxLen"], loops := true, plainKeys := false, apart := false, laid := [("unicode/utf8.acceptRanges", laid_unicode_utf8_acceptRanges), ("unicode/utf8.first", laid_unicode_utf8_first)] }
def InferFormsSaid : Prop := inferFormsRow.holds Tryz.pinned (OpenSpec.ofChange inferFormsSpec)

/-- ITS FALSE NEIGHBOUR: 'it returns false'. Refute it at one input. -/
def inferFormsWrong : ChangeSpec := { name := "inferForms", fn := fun _ => fun
  | [d1, d2, d3] => { results := [.lit (.bool false)], args := [d1, d2, d3] }
  | _ => none }
def InferFormsWrongFalsely : Prop := inferFormsRow.holds Tryz.pinned (OpenSpec.ofChange inferFormsWrong)

/-- 'cordwoodlaw25.InferRename': WHATEVER THE INPUT: true; the input reads as it did. -/
def inferRenameSpec : ChangeSpec := { name := "inferRename", fn := fun _ => fun
  | [d1, d2, d3, d4] => { results := [.lit (.bool true)], args := [d1, d2, d3, d4] }
  | _ => none }
def inferRenameRow : OpenClaim := { program := "ytmmecapgnmlaiaagreatdoor", sum := "1043479c5b53be53374f8bd2b2747775f84139d1bdd85f6754676d441598dbfd", func := "cordwood/cordwoodlaw25.InferRename", spec := "inferRename", inPlace := ["internal/bytealg.IndexByteString", "internal/bytealg.IndexString"], unfollowed := true, recurses := true, named := ["unicode/utf8.first", "unicode/utf8.acceptRanges", "internal/bytealg.MaxLen"], loops := true, plainKeys := false, apart := false, laid := [("unicode/utf8.acceptRanges", laid_unicode_utf8_acceptRanges), ("unicode/utf8.first", laid_unicode_utf8_first)] }
def InferRenameSaid : Prop := inferRenameRow.holds Tryz.pinned (OpenSpec.ofChange inferRenameSpec)

/-- ITS FALSE NEIGHBOUR: 'it returns false'. Refute it at one input. -/
def inferRenameWrong : ChangeSpec := { name := "inferRename", fn := fun _ => fun
  | [d1, d2, d3, d4] => { results := [.lit (.bool false)], args := [d1, d2, d3, d4] }
  | _ => none }
def InferRenameWrongFalsely : Prop := inferRenameRow.holds Tryz.pinned (OpenSpec.ofChange inferRenameWrong)

/-- 'cordwoodlaw25.InferTyped': WHATEVER THE INPUT: true; the input reads as it did. -/
def inferTypedSpec : ChangeSpec := { name := "inferTyped", fn := fun _ => fun
  | [d1, d2, d3] => { results := [.lit (.bool true)], args := [d1, d2, d3] }
  | _ => none }
def inferTypedRow : OpenClaim := { program := "ytmmecapgnmlaiaagreatdoor", sum := "1043479c5b53be53374f8bd2b2747775f84139d1bdd85f6754676d441598dbfd", func := "cordwood/cordwoodlaw25.InferTyped", spec := "inferTyped", inPlace := ["internal/bytealg.IndexByteString", "internal/bytealg.IndexString"], unfollowed := true, recurses := true, named := ["unicode/utf8.first", "unicode/utf8.acceptRanges", "internal/bytealg.MaxLen"], loops := true, plainKeys := false, apart := false, laid := [("unicode/utf8.acceptRanges", laid_unicode_utf8_acceptRanges), ("unicode/utf8.first", laid_unicode_utf8_first)] }
def InferTypedSaid : Prop := inferTypedRow.holds Tryz.pinned (OpenSpec.ofChange inferTypedSpec)

/-- ITS FALSE NEIGHBOUR: 'it returns false'. Refute it at one input. -/
def inferTypedWrong : ChangeSpec := { name := "inferTyped", fn := fun _ => fun
  | [d1, d2, d3] => { results := [.lit (.bool false)], args := [d1, d2, d3] }
  | _ => none }
def InferTypedWrongFalsely : Prop := inferTypedRow.holds Tryz.pinned (OpenSpec.ofChange inferTypedWrong)

/-- 'cordwoodlaw25.InferPrincipal': WHATEVER THE INPUT: true; the input reads as it did. -/
def inferPrincipalSpec : ChangeSpec := { name := "inferPrincipal", fn := fun _ => fun
  | [d1, d2, d3] => { results := [.lit (.bool true)], args := [d1, d2, d3] }
  | _ => none }
def inferPrincipalRow : OpenClaim := { program := "ytmmecapgnmlaiaagreatdoor", sum := "1043479c5b53be53374f8bd2b2747775f84139d1bdd85f6754676d441598dbfd", func := "cordwood/cordwoodlaw25.InferPrincipal", spec := "inferPrincipal", inPlace := ["internal/bytealg.IndexByteString", "internal/bytealg.IndexString"], unfollowed := true, recurses := true, named := ["unicode/utf8.first", "unicode/utf8.acceptRanges", "internal/bytealg.MaxLen"], loops := true, plainKeys := false, apart := false, laid := [("unicode/utf8.acceptRanges", laid_unicode_utf8_acceptRanges), ("unicode/utf8.first", laid_unicode_utf8_first)] }
def InferPrincipalSaid : Prop := inferPrincipalRow.holds Tryz.pinned (OpenSpec.ofChange inferPrincipalSpec)

/-- ITS FALSE NEIGHBOUR: 'it returns false'. Refute it at one input. -/
def inferPrincipalWrong : ChangeSpec := { name := "inferPrincipal", fn := fun _ => fun
  | [d1, d2, d3] => { results := [.lit (.bool false)], args := [d1, d2, d3] }
  | _ => none }
def InferPrincipalWrongFalsely : Prop := inferPrincipalRow.holds Tryz.pinned (OpenSpec.ofChange inferPrincipalWrong)

/- THE SECOND FORM. 'bulk': how many values and letters a reading holds, each counted each time it is reached (what is shared counts as often as it is met; a slice's spare places count too). A statement '..UptoSaid' is the law's where the arguments, and the package variables that the reading takes, are together of bulk at most 1048576: NARROWER than '..Said'. Prove '..Said' where nothing that the law and all that it calls make is longer than what came in: it says more and counts as full. Else prove '..UptoSaid'. A law counts once. -/
mutual
def uptoBulk {H : Type} : DataW H → Nat
  | .lit (.string bytes) => bytes.length + 1
  | .lit _ => 1
  | .nil => 1
  | .ptr d => uptoBulk d + 1
  | .slice elems spare => uptoBulkAll elems + uptoBulkAll spare + 1
  | .agg parts => uptoBulkAll parts + 1
  | .iface _ d => uptoBulk d + 1
  | .map entries => uptoBulkEntries entries + 1
  | .held _ => 1
def uptoBulkAll {H : Type} : List (DataW H) → Nat
  | [] => 0
  | d :: r => uptoBulk d + uptoBulkAll r
def uptoBulkEntries {H : Type} : List (Lit × DataW H) → Nat
  | [] => 0
  | x :: r => uptoBulkEntry x + uptoBulkEntries r
def uptoBulkEntry {H : Type} : Lit × DataW H → Nat
  | (.string bytes, d) => bytes.length + uptoBulk d + 1
  | (_, d) => uptoBulk d + 1
 end
def uptoSmall : (H : Type) → List (DataW H) → Bool := fun _ ds => decide (uptoBulkAll ds ≤ 1048576)
def OpenSpec.upto (s : _root_.Go.ChangeSpec) : _root_.Go.OpenSpec := { _root_.Go.OpenSpec.ofChange s with cond := some uptoSmall }

/-- 'cordwoodlaw25.InferGroups', WHERE WHAT IT READS IS OF BULK AT MOST 1048576: true; the input reads as it did. -/
def inferGroupsUptoRow : OpenClaim := { program := "ytmmecapgnmlaiaagreatdoor", sum := "1043479c5b53be53374f8bd2b2747775f84139d1bdd85f6754676d441598dbfd", func := "cordwood/cordwoodlaw25.InferGroups", spec := "inferGroups", inPlace := ["internal/bytealg.IndexByteString", "internal/bytealg.IndexString"], unfollowed := true, recurses := true, named := ["unicode/utf8.first", "unicode/utf8.acceptRanges", "internal/bytealg.MaxLen"], loops := true, plainKeys := false, apart := false, laid := [("unicode/utf8.acceptRanges", laid_unicode_utf8_acceptRanges), ("unicode/utf8.first", laid_unicode_utf8_first)], narrowed := true }
def InferGroupsUptoSaid : Prop := inferGroupsUptoRow.holds Tryz.pinned (OpenSpec.upto inferGroupsSpec)

/-- 'cordwoodlaw25.InferModule', WHERE WHAT IT READS IS OF BULK AT MOST 1048576: true; the input reads as it did. -/
def inferModuleUptoRow : OpenClaim := { program := "ytmmecapgnmlaiaagreatdoor", sum := "1043479c5b53be53374f8bd2b2747775f84139d1bdd85f6754676d441598dbfd", func := "cordwood/cordwoodlaw25.InferModule", spec := "inferModule", inPlace := ["internal/bytealg.IndexByteString", "internal/bytealg.IndexString"], unfollowed := true, recurses := true, named := ["unicode/utf8.first", "unicode/utf8.acceptRanges", "internal/bytealg.MaxLen"], loops := true, plainKeys := false, apart := false, laid := [("unicode/utf8.acceptRanges", laid_unicode_utf8_acceptRanges), ("unicode/utf8.first", laid_unicode_utf8_first)], narrowed := true }
def InferModuleUptoSaid : Prop := inferModuleUptoRow.holds Tryz.pinned (OpenSpec.upto inferModuleSpec)

/-- 'cordwoodlaw25.InferOrder', WHERE WHAT IT READS IS OF BULK AT MOST 1048576: true; the input reads as it did. -/
def inferOrderUptoRow : OpenClaim := { program := "ytmmecapgnmlaiaagreatdoor", sum := "1043479c5b53be53374f8bd2b2747775f84139d1bdd85f6754676d441598dbfd", func := "cordwood/cordwoodlaw25.InferOrder", spec := "inferOrder", inPlace := ["internal/bytealg.IndexByteString", "internal/bytealg.IndexString"], unfollowed := true, recurses := true, named := ["unicode/utf8.first", "unicode/utf8.acceptRanges", "internal/bytealg.MaxLen"], loops := true, plainKeys := false, apart := false, laid := [("unicode/utf8.acceptRanges", laid_unicode_utf8_acceptRanges), ("unicode/utf8.first", laid_unicode_utf8_first)], narrowed := true }
def InferOrderUptoSaid : Prop := inferOrderUptoRow.holds Tryz.pinned (OpenSpec.upto inferOrderSpec)

/-- 'cordwoodlaw25.InferNumbers', WHERE WHAT IT READS IS OF BULK AT MOST 1048576: true; the input reads as it did. -/
def inferNumbersUptoRow : OpenClaim := { program := "ytmmecapgnmlaiaagreatdoor", sum := "1043479c5b53be53374f8bd2b2747775f84139d1bdd85f6754676d441598dbfd", func := "cordwood/cordwoodlaw25.InferNumbers", spec := "inferNumbers", inPlace := ["internal/bytealg.IndexByteString", "internal/bytealg.IndexString"], unfollowed := true, recurses := true, named := ["unicode/utf8.first", "unicode/utf8.acceptRanges", "internal/bytealg.MaxLen"], loops := true, plainKeys := false, apart := false, laid := [("unicode/utf8.acceptRanges", laid_unicode_utf8_acceptRanges), ("unicode/utf8.first", laid_unicode_utf8_first)], narrowed := true }
def InferNumbersUptoSaid : Prop := inferNumbersUptoRow.holds Tryz.pinned (OpenSpec.upto inferNumbersSpec)

/-- 'cordwoodlaw25.InferTests', WHERE WHAT IT READS IS OF BULK AT MOST 1048576: true; the input reads as it did. -/
def inferTestsUptoRow : OpenClaim := { program := "ytmmecapgnmlaiaagreatdoor", sum := "1043479c5b53be53374f8bd2b2747775f84139d1bdd85f6754676d441598dbfd", func := "cordwood/cordwoodlaw25.InferTests", spec := "inferTests", inPlace := ["internal/bytealg.IndexByteString", "internal/bytealg.IndexString"], unfollowed := true, recurses := true, named := ["unicode/utf8.first", "unicode/utf8.acceptRanges", "internal/bytealg.MaxLen"], loops := true, plainKeys := false, apart := false, laid := [("unicode/utf8.acceptRanges", laid_unicode_utf8_acceptRanges), ("unicode/utf8.first", laid_unicode_utf8_first)], narrowed := true }
def InferTestsUptoSaid : Prop := inferTestsUptoRow.holds Tryz.pinned (OpenSpec.upto inferTestsSpec)

/-- 'cordwoodlaw25.InferForms', WHERE WHAT IT READS IS OF BULK AT MOST 1048576: true; the input reads as it did. -/
def inferFormsUptoRow : OpenClaim := { program := "ytmmecapgnmlaiaagreatdoor", sum := "1043479c5b53be53374f8bd2b2747775f84139d1bdd85f6754676d441598dbfd", func := "cordwood/cordwoodlaw25.InferForms", spec := "inferForms", inPlace := ["internal/bytealg.IndexByteString", "internal/bytealg.IndexString"], unfollowed := true, recurses := true, named := ["unicode/utf8.first", "unicode/utf8.acceptRanges", "internal/bytealg.MaxLen"], loops := true, plainKeys := false, apart := false, laid := [("unicode/utf8.acceptRanges", laid_unicode_utf8_acceptRanges), ("unicode/utf8.first", laid_unicode_utf8_first)], narrowed := true }
def InferFormsUptoSaid : Prop := inferFormsUptoRow.holds Tryz.pinned (OpenSpec.upto inferFormsSpec)

/-- 'cordwoodlaw25.InferRename', WHERE WHAT IT READS IS OF BULK AT MOST 1048576: true; the input reads as it did. -/
def inferRenameUptoRow : OpenClaim := { program := "ytmmecapgnmlaiaagreatdoor", sum := "1043479c5b53be53374f8bd2b2747775f84139d1bdd85f6754676d441598dbfd", func := "cordwood/cordwoodlaw25.InferRename", spec := "inferRename", inPlace := ["internal/bytealg.IndexByteString", "internal/bytealg.IndexString"], unfollowed := true, recurses := true, named := ["unicode/utf8.first", "unicode/utf8.acceptRanges", "internal/bytealg.MaxLen"], loops := true, plainKeys := false, apart := false, laid := [("unicode/utf8.acceptRanges", laid_unicode_utf8_acceptRanges), ("unicode/utf8.first", laid_unicode_utf8_first)], narrowed := true }
def InferRenameUptoSaid : Prop := inferRenameUptoRow.holds Tryz.pinned (OpenSpec.upto inferRenameSpec)

/-- 'cordwoodlaw25.InferTyped', WHERE WHAT IT READS IS OF BULK AT MOST 1048576: true; the input reads as it did. -/
def inferTypedUptoRow : OpenClaim := { program := "ytmmecapgnmlaiaagreatdoor", sum := "1043479c5b53be53374f8bd2b2747775f84139d1bdd85f6754676d441598dbfd", func := "cordwood/cordwoodlaw25.InferTyped", spec := "inferTyped", inPlace := ["internal/bytealg.IndexByteString", "internal/bytealg.IndexString"], unfollowed := true, recurses := true, named := ["unicode/utf8.first", "unicode/utf8.acceptRanges", "internal/bytealg.MaxLen"], loops := true, plainKeys := false, apart := false, laid := [("unicode/utf8.acceptRanges", laid_unicode_utf8_acceptRanges), ("unicode/utf8.first", laid_unicode_utf8_first)], narrowed := true }
def InferTypedUptoSaid : Prop := inferTypedUptoRow.holds Tryz.pinned (OpenSpec.upto inferTypedSpec)

/-- 'cordwoodlaw25.InferPrincipal', WHERE WHAT IT READS IS OF BULK AT MOST 1048576: true; the input reads as it did. -/
def inferPrincipalUptoRow : OpenClaim := { program := "ytmmecapgnmlaiaagreatdoor", sum := "1043479c5b53be53374f8bd2b2747775f84139d1bdd85f6754676d441598dbfd", func := "cordwood/cordwoodlaw25.InferPrincipal", spec := "inferPrincipal", inPlace := ["internal/bytealg.IndexByteString", "internal/bytealg.IndexString"], unfollowed := true, recurses := true, named := ["unicode/utf8.first", "unicode/utf8.acceptRanges", "internal/bytealg.MaxLen"], loops := true, plainKeys := false, apart := false, laid := [("unicode/utf8.acceptRanges", laid_unicode_utf8_acceptRanges), ("unicode/utf8.first", laid_unicode_utf8_first)], narrowed := true }
def InferPrincipalUptoSaid : Prop := inferPrincipalUptoRow.holds Tryz.pinned (OpenSpec.upto inferPrincipalSpec)

end Rows
end Go.Proofs.YtmmecapgnmlaiaaGreatDoor
