/-
  NARROWER THAN 'FOR EVERY INPUT', by the rows' own cells (each row's printed sentence says how): FnExactWriteHeader: laid · FnExactAddSoftLink: laid · FnExactAddLink: laid · FnExactCreateGroup: laid · FnExactPathOf: laid · FnExactRepairRefs: laid · FnExactValidShell: laid.
  DERIVED. THE GIVEN ROWS OF THIS SEAT. 7 by the template 'for every input the law returns true; each argument reads behind the call as it read before'; 0 by the template 'total and deterministic' (their statements: YtdnblconoegeaaaGreatDoorTotals.lean).
  GIVEN WITH THE SEED: the statements are not yours to turn. If you find one false, say at which input.
  Laid BY PROGRAM, IN A SANDBOX (cutbox-rows.mjs): the forced cells as the released guide's own fill.sh prints them over the translation 30f66e3ada1e0f34… (all of the seat's roots in one cut). By AI agents, Wed Nov 11 2026. No macro, syntax, notation, axiom, sorry.
-/
import Derived.Test.YtdnblconoegeaaaGreatDoorChecked
import GoSem.PinnedTables
import GoSem.Claim
import GoSem.ClaimJoined
import GoSem.ClaimMapViews
import Derived.JoinedTies
import Derived.KernelRfl
namespace Go.Proofs.YtdnblconoegeaaaGreatDoor
/- THE CELL 'sum', in the pinned program and in every row, IS THE sha256 OF THE DUMP (.gsa) THAT YtdnblconoegeaaaGreatDoorProg.lean LOADS. Nothing in Lean hashes anything: it is a label: what it is worth is what the hold of that sum in a sandbox is worth. -/
noncomputable def Tryz.pinned : Pinned := { name := "ytdnblconoegeaaagreatdoor", sum := "30f66e3ada1e0f34fb9d7fcbaef0a2a01936197570fc9886ad509a6e675b3422", checked := Tryz.checked }
namespace Rows
def none {H : Type} : Left H := { results := [], args := [] }

/- WHAT THE LISTED PACKAGE-LEVEL VARIABLES READ AS WHEN THE CALL BEGINS. Each datum BY PROGRAM (the guide's laid-datum.mjs) off the statement by which the dump's own 'gosem.cut.vars' lays the variable. In a bare row this is a premise. The card (YtdnblconoegeaaaGreatDoorCards.lean) ties it to the program's text. -/
def laid_unicode_utf8_acceptRanges {H : Type} : DataW H := .agg [.agg [.lit (.int .u8 128), .lit (.int .u8 191)], .agg [.lit (.int .u8 160), .lit (.int .u8 191)], .agg [.lit (.int .u8 128), .lit (.int .u8 159)], .agg [.lit (.int .u8 144), .lit (.int .u8 191)], .agg [.lit (.int .u8 128), .lit (.int .u8 143)], .agg [.lit (.int .u8 0), .lit (.int .u8 0)], .agg [.lit (.int .u8 0), .lit (.int .u8 0)], .agg [.lit (.int .u8 0), .lit (.int .u8 0)], .agg [.lit (.int .u8 0), .lit (.int .u8 0)], .agg [.lit (.int .u8 0), .lit (.int .u8 0)], .agg [.lit (.int .u8 0), .lit (.int .u8 0)], .agg [.lit (.int .u8 0), .lit (.int .u8 0)], .agg [.lit (.int .u8 0), .lit (.int .u8 0)], .agg [.lit (.int .u8 0), .lit (.int .u8 0)], .agg [.lit (.int .u8 0), .lit (.int .u8 0)], .agg [.lit (.int .u8 0), .lit (.int .u8 0)]]
/-- One of Go's own tables, pinned by name: the form's constant. -/
def laid_unicode_utf8_first : DataW Unit := Go.Pinned.utf8First

/-- 'laws.FnExactWriteHeader': WHATEVER THE INPUT: true; the input reads as it did. -/
def fnExactWriteHeaderSpec : ChangeSpec := { name := "fnExactWriteHeader", fn := fun _ => fun
  | [d1, d2, d3] => { results := [.lit (.bool true)], args := [d1, d2, d3] }
  | _ => none }
def fnExactWriteHeaderRow : OpenClaim := { program := "ytdnblconoegeaaagreatdoor", sum := "30f66e3ada1e0f34fb9d7fcbaef0a2a01936197570fc9886ad509a6e675b3422", func := "loop.example/g00904/laws.FnExactWriteHeader", spec := "fnExactWriteHeader", inPlace := ["internal/bytealg.IndexByteString", "internal/bytealg.IndexString", "internal/abi.NoEscape", "slices.overlaps[loop.example/g00904/impl.Page]", "internal/bytealg.MakeNoZero"], unfollowed := true, recurses := true, named := ["unicode/utf8.first", "unicode/utf8.acceptRanges", "internal/bytealg.MaxLen"], apart := false, laid := [("unicode/utf8.acceptRanges", laid_unicode_utf8_acceptRanges), ("unicode/utf8.first", laid_unicode_utf8_first)] }
def FnExactWriteHeaderSaid : Prop := fnExactWriteHeaderRow.holds Tryz.pinned (OpenSpec.ofChange fnExactWriteHeaderSpec)

/-- ITS FALSE NEIGHBOUR: 'it returns false'. Refute it at one input. -/
def fnExactWriteHeaderWrong : ChangeSpec := { name := "fnExactWriteHeader", fn := fun _ => fun
  | [d1, d2, d3] => { results := [.lit (.bool false)], args := [d1, d2, d3] }
  | _ => none }
def FnExactWriteHeaderWrongFalsely : Prop := fnExactWriteHeaderRow.holds Tryz.pinned (OpenSpec.ofChange fnExactWriteHeaderWrong)

/-- 'laws.FnExactAddSoftLink': WHATEVER THE INPUT: true; the input reads as it did. -/
def fnExactAddSoftLinkSpec : ChangeSpec := { name := "fnExactAddSoftLink", fn := fun _ => fun
  | [d1, d2, d3, d4] => { results := [.lit (.bool true)], args := [d1, d2, d3, d4] }
  | _ => none }
def fnExactAddSoftLinkRow : OpenClaim := { program := "ytdnblconoegeaaagreatdoor", sum := "30f66e3ada1e0f34fb9d7fcbaef0a2a01936197570fc9886ad509a6e675b3422", func := "loop.example/g00904/laws.FnExactAddSoftLink", spec := "fnExactAddSoftLink", inPlace := ["internal/bytealg.CountString", "internal/bytealg.IndexByteString", "internal/bytealg.IndexString", "internal/abi.NoEscape", "slices.overlaps[loop.example/g00904/impl.Link]", "slices.overlaps[loop.example/g00904/impl.Page]", "internal/bytealg.MakeNoZero"], unfollowed := true, recurses := true, named := ["unicode/utf8.first", "unicode/utf8.acceptRanges", "internal/bytealg.MaxLen"], apart := false, laid := [("unicode/utf8.acceptRanges", laid_unicode_utf8_acceptRanges), ("unicode/utf8.first", laid_unicode_utf8_first)] }
def FnExactAddSoftLinkSaid : Prop := fnExactAddSoftLinkRow.holds Tryz.pinned (OpenSpec.ofChange fnExactAddSoftLinkSpec)

/-- ITS FALSE NEIGHBOUR: 'it returns false'. Refute it at one input. -/
def fnExactAddSoftLinkWrong : ChangeSpec := { name := "fnExactAddSoftLink", fn := fun _ => fun
  | [d1, d2, d3, d4] => { results := [.lit (.bool false)], args := [d1, d2, d3, d4] }
  | _ => none }
def FnExactAddSoftLinkWrongFalsely : Prop := fnExactAddSoftLinkRow.holds Tryz.pinned (OpenSpec.ofChange fnExactAddSoftLinkWrong)

/-- 'laws.FnExactAddLink': WHATEVER THE INPUT: true; the input reads as it did. -/
def fnExactAddLinkSpec : ChangeSpec := { name := "fnExactAddLink", fn := fun _ => fun
  | [d1, d2, d3, d4] => { results := [.lit (.bool true)], args := [d1, d2, d3, d4] }
  | _ => none }
def fnExactAddLinkRow : OpenClaim := { program := "ytdnblconoegeaaagreatdoor", sum := "30f66e3ada1e0f34fb9d7fcbaef0a2a01936197570fc9886ad509a6e675b3422", func := "loop.example/g00904/laws.FnExactAddLink", spec := "fnExactAddLink", inPlace := ["internal/bytealg.IndexByteString", "internal/bytealg.IndexString", "internal/abi.NoEscape", "internal/bytealg.CountString", "slices.overlaps[loop.example/g00904/impl.Link]", "slices.overlaps[loop.example/g00904/impl.Page]", "internal/bytealg.MakeNoZero"], unfollowed := true, recurses := true, named := ["unicode/utf8.first", "unicode/utf8.acceptRanges", "internal/bytealg.MaxLen"], apart := false, laid := [("unicode/utf8.acceptRanges", laid_unicode_utf8_acceptRanges), ("unicode/utf8.first", laid_unicode_utf8_first)] }
def FnExactAddLinkSaid : Prop := fnExactAddLinkRow.holds Tryz.pinned (OpenSpec.ofChange fnExactAddLinkSpec)

/-- ITS FALSE NEIGHBOUR: 'it returns false'. Refute it at one input. -/
def fnExactAddLinkWrong : ChangeSpec := { name := "fnExactAddLink", fn := fun _ => fun
  | [d1, d2, d3, d4] => { results := [.lit (.bool false)], args := [d1, d2, d3, d4] }
  | _ => none }
def FnExactAddLinkWrongFalsely : Prop := fnExactAddLinkRow.holds Tryz.pinned (OpenSpec.ofChange fnExactAddLinkWrong)

/-- 'laws.FnExactCreateGroup': WHATEVER THE INPUT: true; the input reads as it did. -/
def fnExactCreateGroupSpec : ChangeSpec := { name := "fnExactCreateGroup", fn := fun _ => fun
  | [d1, d2, d3] => { results := [.lit (.bool true)], args := [d1, d2, d3] }
  | _ => none }
def fnExactCreateGroupRow : OpenClaim := { program := "ytdnblconoegeaaagreatdoor", sum := "30f66e3ada1e0f34fb9d7fcbaef0a2a01936197570fc9886ad509a6e675b3422", func := "loop.example/g00904/laws.FnExactCreateGroup", spec := "fnExactCreateGroup", inPlace := ["internal/bytealg.IndexByteString", "internal/bytealg.IndexString", "internal/abi.NoEscape", "internal/bytealg.CountString", "slices.overlaps[loop.example/g00904/impl.Page]", "internal/bytealg.MakeNoZero", "slices.overlaps[loop.example/g00904/impl.Link]"], unfollowed := true, recurses := true, named := ["unicode/utf8.first", "unicode/utf8.acceptRanges", "internal/bytealg.MaxLen"], apart := false, laid := [("unicode/utf8.acceptRanges", laid_unicode_utf8_acceptRanges), ("unicode/utf8.first", laid_unicode_utf8_first)] }
def FnExactCreateGroupSaid : Prop := fnExactCreateGroupRow.holds Tryz.pinned (OpenSpec.ofChange fnExactCreateGroupSpec)

/-- ITS FALSE NEIGHBOUR: 'it returns false'. Refute it at one input. -/
def fnExactCreateGroupWrong : ChangeSpec := { name := "fnExactCreateGroup", fn := fun _ => fun
  | [d1, d2, d3] => { results := [.lit (.bool false)], args := [d1, d2, d3] }
  | _ => none }
def FnExactCreateGroupWrongFalsely : Prop := fnExactCreateGroupRow.holds Tryz.pinned (OpenSpec.ofChange fnExactCreateGroupWrong)

/-- 'laws.FnExactPathOf': WHATEVER THE INPUT: true; the input reads as it did. -/
def fnExactPathOfSpec : ChangeSpec := { name := "fnExactPathOf", fn := fun _ => fun
  | [d1, d2] => { results := [.lit (.bool true)], args := [d1, d2] }
  | _ => none }
def fnExactPathOfRow : OpenClaim := { program := "ytdnblconoegeaaagreatdoor", sum := "30f66e3ada1e0f34fb9d7fcbaef0a2a01936197570fc9886ad509a6e675b3422", func := "loop.example/g00904/laws.FnExactPathOf", spec := "fnExactPathOf", inPlace := ["internal/bytealg.IndexByteString", "internal/bytealg.IndexString", "internal/abi.NoEscape", "internal/bytealg.CountString"], unfollowed := true, recurses := true, named := ["unicode/utf8.first", "unicode/utf8.acceptRanges", "internal/bytealg.MaxLen"], apart := false, laid := [("unicode/utf8.acceptRanges", laid_unicode_utf8_acceptRanges), ("unicode/utf8.first", laid_unicode_utf8_first)] }
def FnExactPathOfSaid : Prop := fnExactPathOfRow.holds Tryz.pinned (OpenSpec.ofChange fnExactPathOfSpec)

/-- ITS FALSE NEIGHBOUR: 'it returns false'. Refute it at one input. -/
def fnExactPathOfWrong : ChangeSpec := { name := "fnExactPathOf", fn := fun _ => fun
  | [d1, d2] => { results := [.lit (.bool false)], args := [d1, d2] }
  | _ => none }
def FnExactPathOfWrongFalsely : Prop := fnExactPathOfRow.holds Tryz.pinned (OpenSpec.ofChange fnExactPathOfWrong)

/-- 'laws.FnExactRepairRefs': WHATEVER THE INPUT: true; the input reads as it did. -/
def fnExactRepairRefsSpec : ChangeSpec := { name := "fnExactRepairRefs", fn := fun _ => fun
  | [d] => { results := [.lit (.bool true)], args := [d] }
  | _ => none }
def fnExactRepairRefsRow : OpenClaim := { program := "ytdnblconoegeaaagreatdoor", sum := "30f66e3ada1e0f34fb9d7fcbaef0a2a01936197570fc9886ad509a6e675b3422", func := "loop.example/g00904/laws.FnExactRepairRefs", spec := "fnExactRepairRefs", inPlace := ["internal/bytealg.IndexByteString", "internal/bytealg.IndexString", "internal/abi.NoEscape", "internal/bytealg.CountString", "slices.overlaps[loop.example/g00904/impl.Page]", "internal/bytealg.MakeNoZero"], unfollowed := true, recurses := true, named := ["unicode/utf8.first", "unicode/utf8.acceptRanges", "internal/bytealg.MaxLen"], apart := false, laid := [("unicode/utf8.acceptRanges", laid_unicode_utf8_acceptRanges), ("unicode/utf8.first", laid_unicode_utf8_first)] }
def FnExactRepairRefsSaid : Prop := fnExactRepairRefsRow.holds Tryz.pinned (OpenSpec.ofChange fnExactRepairRefsSpec)

/-- ITS FALSE NEIGHBOUR: 'it returns false'. Refute it at one input. -/
def fnExactRepairRefsWrong : ChangeSpec := { name := "fnExactRepairRefs", fn := fun _ => fun
  | [d] => { results := [.lit (.bool false)], args := [d] }
  | _ => none }
def FnExactRepairRefsWrongFalsely : Prop := fnExactRepairRefsRow.holds Tryz.pinned (OpenSpec.ofChange fnExactRepairRefsWrong)

/-- 'laws.FnExactValidShell': WHATEVER THE INPUT: true; the input reads as it did. -/
def fnExactValidShellSpec : ChangeSpec := { name := "fnExactValidShell", fn := fun _ => fun
  | [d] => { results := [.lit (.bool true)], args := [d] }
  | _ => none }
def fnExactValidShellRow : OpenClaim := { program := "ytdnblconoegeaaagreatdoor", sum := "30f66e3ada1e0f34fb9d7fcbaef0a2a01936197570fc9886ad509a6e675b3422", func := "loop.example/g00904/laws.FnExactValidShell", spec := "fnExactValidShell", inPlace := ["internal/bytealg.IndexByteString", "internal/bytealg.IndexString", "internal/abi.NoEscape", "internal/bytealg.CountString"], unfollowed := true, recurses := true, named := ["unicode/utf8.first", "unicode/utf8.acceptRanges", "internal/bytealg.MaxLen"], apart := false, laid := [("unicode/utf8.acceptRanges", laid_unicode_utf8_acceptRanges), ("unicode/utf8.first", laid_unicode_utf8_first)] }
def FnExactValidShellSaid : Prop := fnExactValidShellRow.holds Tryz.pinned (OpenSpec.ofChange fnExactValidShellSpec)

/-- ITS FALSE NEIGHBOUR: 'it returns false'. Refute it at one input. -/
def fnExactValidShellWrong : ChangeSpec := { name := "fnExactValidShell", fn := fun _ => fun
  | [d] => { results := [.lit (.bool false)], args := [d] }
  | _ => none }
def FnExactValidShellWrongFalsely : Prop := fnExactValidShellRow.holds Tryz.pinned (OpenSpec.ofChange fnExactValidShellWrong)

/- THE SECOND FORM. 'bulk': how many values and letters a reading holds, each counted each time it is reached (what is shared counts as often as it is met; a slice's spare places count too). A statement '..UptoSaid' is the law's where the arguments, and the package variables that the reading takes, are together of bulk at most 1048576: NARROWER than '..Said'. Prove '..Said' where nothing that the law and all that it calls make is longer than what came in: it says more and counts as full. Else prove '..UptoSaid'. A law counts once. -/
mutual
def uptoBulk {H : Type} : DataW H → Nat
  | .lit (.string bytes) => bytes.length + 1
  | .lit _ => 1
  | .nil => 1
  | .ptr d => uptoBulk d + 1
  | .slice elems spare => uptoBulkAll elems + uptoBulkAll spare + 1
  | .agg parts => uptoBulkAll parts + 1
  | .iface _ d => uptoBulk d + 1
  | .map entries => uptoBulkEntries entries + 1
  | .held _ => 1
def uptoBulkAll {H : Type} : List (DataW H) → Nat
  | [] => 0
  | d :: r => uptoBulk d + uptoBulkAll r
def uptoBulkEntries {H : Type} : List (Lit × DataW H) → Nat
  | [] => 0
  | x :: r => uptoBulkEntry x + uptoBulkEntries r
def uptoBulkEntry {H : Type} : Lit × DataW H → Nat
  | (.string bytes, d) => bytes.length + uptoBulk d + 1
  | (_, d) => uptoBulk d + 1
 end
def uptoSmall : (H : Type) → List (DataW H) → Bool := fun _ ds => decide (uptoBulkAll ds ≤ 1048576)
def OpenSpec.upto (s : _root_.Go.ChangeSpec) : _root_.Go.OpenSpec := { _root_.Go.OpenSpec.ofChange s with cond := some uptoSmall }

/-- 'laws.FnExactWriteHeader', WHERE WHAT IT READS IS OF BULK AT MOST 1048576: true; the input reads as it did. -/
def fnExactWriteHeaderUptoRow : OpenClaim := { program := "ytdnblconoegeaaagreatdoor", sum := "30f66e3ada1e0f34fb9d7fcbaef0a2a01936197570fc9886ad509a6e675b3422", func := "loop.example/g00904/laws.FnExactWriteHeader", spec := "fnExactWriteHeader", inPlace := ["internal/bytealg.IndexByteString", "internal/bytealg.IndexString", "internal/abi.NoEscape", "slices.overlaps[loop.example/g00904/impl.Page]", "internal/bytealg.MakeNoZero"], unfollowed := true, recurses := true, named := ["unicode/utf8.first", "unicode/utf8.acceptRanges", "internal/bytealg.MaxLen"], apart := false, laid := [("unicode/utf8.acceptRanges", laid_unicode_utf8_acceptRanges), ("unicode/utf8.first", laid_unicode_utf8_first)], narrowed := true }
def FnExactWriteHeaderUptoSaid : Prop := fnExactWriteHeaderUptoRow.holds Tryz.pinned (OpenSpec.upto fnExactWriteHeaderSpec)

/-- 'laws.FnExactAddSoftLink', WHERE WHAT IT READS IS OF BULK AT MOST 1048576: true; the input reads as it did. -/
def fnExactAddSoftLinkUptoRow : OpenClaim := { program := "ytdnblconoegeaaagreatdoor", sum := "30f66e3ada1e0f34fb9d7fcbaef0a2a01936197570fc9886ad509a6e675b3422", func := "loop.example/g00904/laws.FnExactAddSoftLink", spec := "fnExactAddSoftLink", inPlace := ["internal/bytealg.CountString", "internal/bytealg.IndexByteString", "internal/bytealg.IndexString", "internal/abi.NoEscape", "slices.overlaps[loop.example/g00904/impl.Link]", "slices.overlaps[loop.example/g00904/impl.Page]", "internal/bytealg.MakeNoZero"], unfollowed := true, recurses := true, named := ["unicode/utf8.first", "unicode/utf8.acceptRanges", "internal/bytealg.MaxLen"], apart := false, laid := [("unicode/utf8.acceptRanges", laid_unicode_utf8_acceptRanges), ("unicode/utf8.first", laid_unicode_utf8_first)], narrowed := true }
def FnExactAddSoftLinkUptoSaid : Prop := fnExactAddSoftLinkUptoRow.holds Tryz.pinned (OpenSpec.upto fnExactAddSoftLinkSpec)

/-- 'laws.FnExactAddLink', WHERE WHAT IT READS IS OF BULK AT MOST 1048576: true; the input reads as it did. -/
def fnExactAddLinkUptoRow : OpenClaim := { program := "ytdnblconoegeaaagreatdoor", sum := "30f66e3ada1e0f34fb9d7fcbaef0a2a01936197570fc9886ad509a6e675b3422", func := "loop.example/g00904/laws.FnExactAddLink", spec := "fnExactAddLink", inPlace := ["internal/bytealg.IndexByteString", "internal/bytealg.IndexString", "internal/abi.NoEscape", "internal/bytealg.CountString", "slices.overlaps[loop.example/g00904/impl.Link]", "slices.overlaps[loop.example/g00904/impl.Page]", "internal/bytealg.MakeNoZero"], unfollowed := true, recurses := true, named := ["unicode/utf8.first", "unicode/utf8.acceptRanges", "internal/bytealg.MaxLen"], apart := false, laid := [("unicode/utf8.acceptRanges", laid_unicode_utf8_acceptRanges), ("unicode/utf8.first", laid_unicode_utf8_first)], narrowed := true }
def FnExactAddLinkUptoSaid : Prop := fnExactAddLinkUptoRow.holds Tryz.pinned (OpenSpec.upto fnExactAddLinkSpec)

/-- 'laws.FnExactCreateGroup', WHERE WHAT IT READS IS OF BULK AT MOST 1048576: true; the input reads as it did. -/
def fnExactCreateGroupUptoRow : OpenClaim := { program := "ytdnblconoegeaaagreatdoor", sum := "30f66e3ada1e0f34fb9d7fcbaef0a2a01936197570fc9886ad509a6e675b3422", func := "loop.example/g00904/laws.FnExactCreateGroup", spec := "fnExactCreateGroup", inPlace := ["internal/bytealg.IndexByteString", "internal/bytealg.IndexString", "internal/abi.NoEscape", "internal/bytealg.CountString", "slices.overlaps[loop.example/g00904/impl.Page]", "internal/bytealg.MakeNoZero", "slices.overlaps[loop.example/g00904/impl.Link]"], unfollowed := true, recurses := true, named := ["unicode/utf8.first", "unicode/utf8.acceptRanges", "internal/bytealg.MaxLen"], apart := false, laid := [("unicode/utf8.acceptRanges", laid_unicode_utf8_acceptRanges), ("unicode/utf8.first", laid_unicode_utf8_first)], narrowed := true }
def FnExactCreateGroupUptoSaid : Prop := fnExactCreateGroupUptoRow.holds Tryz.pinned (OpenSpec.upto fnExactCreateGroupSpec)

/-- 'laws.FnExactPathOf', WHERE WHAT IT READS IS OF BULK AT MOST 1048576: true; the input reads as it did. -/
def fnExactPathOfUptoRow : OpenClaim := { program := "ytdnblconoegeaaagreatdoor", sum := "30f66e3ada1e0f34fb9d7fcbaef0a2a01936197570fc9886ad509a6e675b3422", func := "loop.example/g00904/laws.FnExactPathOf", spec := "fnExactPathOf", inPlace := ["internal/bytealg.IndexByteString", "internal/bytealg.IndexString", "internal/abi.NoEscape", "internal/bytealg.CountString"], unfollowed := true, recurses := true, named := ["unicode/utf8.first", "unicode/utf8.acceptRanges", "internal/bytealg.MaxLen"], apart := false, laid := [("unicode/utf8.acceptRanges", laid_unicode_utf8_acceptRanges), ("unicode/utf8.first", laid_unicode_utf8_first)], narrowed := true }
def FnExactPathOfUptoSaid : Prop := fnExactPathOfUptoRow.holds Tryz.pinned (OpenSpec.upto fnExactPathOfSpec)

/-- 'laws.FnExactRepairRefs', WHERE WHAT IT READS IS OF BULK AT MOST 1048576: true; the input reads as it did. -/
def fnExactRepairRefsUptoRow : OpenClaim := { program := "ytdnblconoegeaaagreatdoor", sum := "30f66e3ada1e0f34fb9d7fcbaef0a2a01936197570fc9886ad509a6e675b3422", func := "loop.example/g00904/laws.FnExactRepairRefs", spec := "fnExactRepairRefs", inPlace := ["internal/bytealg.IndexByteString", "internal/bytealg.IndexString", "internal/abi.NoEscape", "internal/bytealg.CountString", "slices.overlaps[loop.example/g00904/impl.Page]", "internal/bytealg.MakeNoZero"], unfollowed := true, recurses := true, named := ["unicode/utf8.first", "unicode/utf8.acceptRanges", "internal/bytealg.MaxLen"], apart := false, laid := [("unicode/utf8.acceptRanges", laid_unicode_utf8_acceptRanges), ("unicode/utf8.first", laid_unicode_utf8_first)], narrowed := true }
def FnExactRepairRefsUptoSaid : Prop := fnExactRepairRefsUptoRow.holds Tryz.pinned (OpenSpec.upto fnExactRepairRefsSpec)

/-- 'laws.FnExactValidShell', WHERE WHAT IT READS IS OF BULK AT MOST 1048576: true; the input reads as it did. -/
def fnExactValidShellUptoRow : OpenClaim := { program := "ytdnblconoegeaaagreatdoor", sum := "30f66e3ada1e0f34fb9d7fcbaef0a2a01936197570fc9886ad509a6e675b3422", func := "loop.example/g00904/laws.FnExactValidShell", spec := "fnExactValidShell", inPlace := ["internal/bytealg.IndexByteString", "internal/bytealg.IndexString", "internal/abi.NoEscape", "internal/bytealg.CountString"], unfollowed := true, recurses := true, named := ["unicode/utf8.first", "unicode/utf8.acceptRanges", "internal/bytealg.MaxLen"], apart := false, laid := [("unicode/utf8.acceptRanges", laid_unicode_utf8_acceptRanges), ("unicode/utf8.first", laid_unicode_utf8_first)], narrowed := true }
def FnExactValidShellUptoSaid : Prop := fnExactValidShellUptoRow.holds Tryz.pinned (OpenSpec.upto fnExactValidShellSpec)

end Rows
end Go.Proofs.YtdnblconoegeaaaGreatDoor
