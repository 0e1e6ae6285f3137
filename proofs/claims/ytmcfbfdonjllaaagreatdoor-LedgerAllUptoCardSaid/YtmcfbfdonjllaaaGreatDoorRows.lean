/-
  NARROWER THAN 'FOR EVERY INPUT', by the rows' own cells (each row's printed sentence says how): TopConflict: laid · TopBoth: laid · WorldTells: laid · WorldAway: laid · WorldSeen: laid · LedgerAll: laid · LedgerKept: laid · LedgerNone: laid · TopHoard: laid · TopTrace: laid.
  DERIVED. THE GIVEN ROWS OF THIS SEAT. 10 by the template 'for every input the law returns true; each argument reads behind the call as it read before'; 0 by the template 'total and deterministic' (their statements: YtmcfbfdonjllaaaGreatDoorTotals.lean).
  GIVEN WITH THE SEED: the statements are not yours to turn. If you find one false, say at which input.
  Laid BY PROGRAM, IN A SANDBOX (cutbox-rows.mjs): the forced cells as the released guide's own fill.sh prints them over the translation f6f43832f61376d0… (all of the seat's roots in one cut). By AI agents, Wed Nov 11 2026. No macro, syntax, notation, axiom, sorry.
-/
import Derived.Test.YtmcfbfdonjllaaaGreatDoorChecked
import GoSem.PinnedTables
import GoSem.Claim
import GoSem.ClaimJoined
import GoSem.ClaimMapViews
import Derived.JoinedTies
import Derived.KernelRfl
namespace Go.Proofs.YtmcfbfdonjllaaaGreatDoor
/- THE CELL 'sum', in the pinned program and in every row, IS THE sha256 OF THE DUMP (.gsa) THAT YtmcfbfdonjllaaaGreatDoorProg.lean LOADS. Nothing in Lean hashes anything: it is a label: what it is worth is what the hold of that sum in a sandbox is worth. -/
noncomputable def Tryz.pinned : Pinned := { name := "ytmcfbfdonjllaaagreatdoor", sum := "f6f43832f61376d0bd5d63cfa72d8aa9ddbe63bf07a69ff7150845f2b8b35de3", checked := Tryz.checked }
namespace Rows
def none {H : Type} : Left H := { results := [], args := [] }

/- WHAT THE LISTED PACKAGE-LEVEL VARIABLES READ AS WHEN THE CALL BEGINS. Each datum BY PROGRAM (the guide's laid-datum.mjs) off the statement by which the dump's own 'gosem.cut.vars' lays the variable. In a bare row this is a premise. The card (YtmcfbfdonjllaaaGreatDoorCards.lean) ties it to the program's text. -/
def laid_unicode_utf8_acceptRanges {H : Type} : DataW H := .agg [.agg [.lit (.int .u8 128), .lit (.int .u8 191)], .agg [.lit (.int .u8 160), .lit (.int .u8 191)], .agg [.lit (.int .u8 128), .lit (.int .u8 159)], .agg [.lit (.int .u8 144), .lit (.int .u8 191)], .agg [.lit (.int .u8 128), .lit (.int .u8 143)], .agg [.lit (.int .u8 0), .lit (.int .u8 0)], .agg [.lit (.int .u8 0), .lit (.int .u8 0)], .agg [.lit (.int .u8 0), .lit (.int .u8 0)], .agg [.lit (.int .u8 0), .lit (.int .u8 0)], .agg [.lit (.int .u8 0), .lit (.int .u8 0)], .agg [.lit (.int .u8 0), .lit (.int .u8 0)], .agg [.lit (.int .u8 0), .lit (.int .u8 0)], .agg [.lit (.int .u8 0), .lit (.int .u8 0)], .agg [.lit (.int .u8 0), .lit (.int .u8 0)], .agg [.lit (.int .u8 0), .lit (.int .u8 0)], .agg [.lit (.int .u8 0), .lit (.int .u8 0)]]
/-- One of Go's own tables, pinned by name: the form's constant. -/
def laid_unicode_utf8_first : DataW Unit := Go.Pinned.utf8First

/-- 'latop.TopConflict': WHATEVER THE INPUT: true; the input reads as it did. -/
def topConflictSpec : ChangeSpec := { name := "topConflict", fn := fun _ => fun
  | [d1, d2, d3, d4] => { results := [.lit (.bool true)], args := [d1, d2, d3, d4] }
  | _ => none }
def topConflictRow : OpenClaim := { program := "ytmcfbfdonjllaaagreatdoor", sum := "f6f43832f61376d0bd5d63cfa72d8aa9ddbe63bf07a69ff7150845f2b8b35de3", func := "longabsence/latop.TopConflict", spec := "topConflict", inPlace := ["internal/bytealg.CountString", "internal/bytealg.IndexByteString", "internal/bytealg.IndexString", "slices.overlaps[longabsence/api.Entry]", "slices.overlaps[longabsence/api.Node]"], unfollowed := true, recurses := true, named := ["unicode/utf8.first", "unicode/utf8.acceptRanges", "internal/bytealg.MaxLen"], apart := false, laid := [("unicode/utf8.acceptRanges", laid_unicode_utf8_acceptRanges), ("unicode/utf8.first", laid_unicode_utf8_first)] }
def TopConflictSaid : Prop := topConflictRow.holds Tryz.pinned (OpenSpec.ofChange topConflictSpec)

/-- ITS FALSE NEIGHBOUR: 'it returns false'. Refute it at one input. -/
def topConflictWrong : ChangeSpec := { name := "topConflict", fn := fun _ => fun
  | [d1, d2, d3, d4] => { results := [.lit (.bool false)], args := [d1, d2, d3, d4] }
  | _ => none }
def TopConflictWrongFalsely : Prop := topConflictRow.holds Tryz.pinned (OpenSpec.ofChange topConflictWrong)

/-- 'latop.TopBoth': WHATEVER THE INPUT: true; the input reads as it did. -/
def topBothSpec : ChangeSpec := { name := "topBoth", fn := fun _ => fun
  | [d1, d2, d3, d4] => { results := [.lit (.bool true)], args := [d1, d2, d3, d4] }
  | _ => none }
def topBothRow : OpenClaim := { program := "ytmcfbfdonjllaaagreatdoor", sum := "f6f43832f61376d0bd5d63cfa72d8aa9ddbe63bf07a69ff7150845f2b8b35de3", func := "longabsence/latop.TopBoth", spec := "topBoth", inPlace := ["internal/bytealg.CountString", "internal/bytealg.IndexByteString", "internal/bytealg.IndexString", "slices.overlaps[longabsence/api.Entry]", "slices.overlaps[longabsence/api.Node]"], unfollowed := true, recurses := true, named := ["unicode/utf8.first", "unicode/utf8.acceptRanges", "internal/bytealg.MaxLen"], apart := false, laid := [("unicode/utf8.acceptRanges", laid_unicode_utf8_acceptRanges), ("unicode/utf8.first", laid_unicode_utf8_first)] }
def TopBothSaid : Prop := topBothRow.holds Tryz.pinned (OpenSpec.ofChange topBothSpec)

/-- ITS FALSE NEIGHBOUR: 'it returns false'. Refute it at one input. -/
def topBothWrong : ChangeSpec := { name := "topBoth", fn := fun _ => fun
  | [d1, d2, d3, d4] => { results := [.lit (.bool false)], args := [d1, d2, d3, d4] }
  | _ => none }
def TopBothWrongFalsely : Prop := topBothRow.holds Tryz.pinned (OpenSpec.ofChange topBothWrong)

/-- 'lalaw10.WorldTells': WHATEVER THE INPUT: true; the input reads as it did. -/
def worldTellsSpec : ChangeSpec := { name := "worldTells", fn := fun _ => fun
  | [d1, d2] => { results := [.lit (.bool true)], args := [d1, d2] }
  | _ => none }
def worldTellsRow : OpenClaim := { program := "ytmcfbfdonjllaaagreatdoor", sum := "f6f43832f61376d0bd5d63cfa72d8aa9ddbe63bf07a69ff7150845f2b8b35de3", func := "longabsence/lalaw10.WorldTells", spec := "worldTells", inPlace := ["internal/bytealg.CountString", "internal/bytealg.IndexByteString", "internal/bytealg.IndexString", "slices.overlaps[longabsence/api.Entry]", "slices.overlaps[longabsence/api.Node]"], unfollowed := true, recurses := true, named := ["unicode/utf8.first", "unicode/utf8.acceptRanges", "internal/bytealg.MaxLen"], apart := false, laid := [("unicode/utf8.acceptRanges", laid_unicode_utf8_acceptRanges), ("unicode/utf8.first", laid_unicode_utf8_first)] }
def WorldTellsSaid : Prop := worldTellsRow.holds Tryz.pinned (OpenSpec.ofChange worldTellsSpec)

/-- ITS FALSE NEIGHBOUR: 'it returns false'. Refute it at one input. -/
def worldTellsWrong : ChangeSpec := { name := "worldTells", fn := fun _ => fun
  | [d1, d2] => { results := [.lit (.bool false)], args := [d1, d2] }
  | _ => none }
def WorldTellsWrongFalsely : Prop := worldTellsRow.holds Tryz.pinned (OpenSpec.ofChange worldTellsWrong)

/-- 'lalaw10.WorldAway': WHATEVER THE INPUT: true; the input reads as it did. -/
def worldAwaySpec : ChangeSpec := { name := "worldAway", fn := fun _ => fun
  | [d] => { results := [.lit (.bool true)], args := [d] }
  | _ => none }
def worldAwayRow : OpenClaim := { program := "ytmcfbfdonjllaaagreatdoor", sum := "f6f43832f61376d0bd5d63cfa72d8aa9ddbe63bf07a69ff7150845f2b8b35de3", func := "longabsence/lalaw10.WorldAway", spec := "worldAway", inPlace := ["internal/bytealg.CountString", "internal/bytealg.IndexByteString", "internal/bytealg.IndexString", "slices.overlaps[longabsence/api.Entry]", "slices.overlaps[longabsence/api.Node]"], unfollowed := true, recurses := true, named := ["unicode/utf8.first", "unicode/utf8.acceptRanges", "internal/bytealg.MaxLen"], apart := false, laid := [("unicode/utf8.acceptRanges", laid_unicode_utf8_acceptRanges), ("unicode/utf8.first", laid_unicode_utf8_first)] }
def WorldAwaySaid : Prop := worldAwayRow.holds Tryz.pinned (OpenSpec.ofChange worldAwaySpec)

/-- ITS FALSE NEIGHBOUR: 'it returns false'. Refute it at one input. -/
def worldAwayWrong : ChangeSpec := { name := "worldAway", fn := fun _ => fun
  | [d] => { results := [.lit (.bool false)], args := [d] }
  | _ => none }
def WorldAwayWrongFalsely : Prop := worldAwayRow.holds Tryz.pinned (OpenSpec.ofChange worldAwayWrong)

/-- 'lalaw10.WorldSeen': WHATEVER THE INPUT: true; the input reads as it did. -/
def worldSeenSpec : ChangeSpec := { name := "worldSeen", fn := fun _ => fun
  | [d1, d2, d3] => { results := [.lit (.bool true)], args := [d1, d2, d3] }
  | _ => none }
def worldSeenRow : OpenClaim := { program := "ytmcfbfdonjllaaagreatdoor", sum := "f6f43832f61376d0bd5d63cfa72d8aa9ddbe63bf07a69ff7150845f2b8b35de3", func := "longabsence/lalaw10.WorldSeen", spec := "worldSeen", inPlace := ["internal/bytealg.CountString", "internal/bytealg.IndexByteString", "internal/bytealg.IndexString", "slices.overlaps[longabsence/api.Entry]", "slices.overlaps[longabsence/api.Node]"], unfollowed := true, recurses := true, named := ["unicode/utf8.first", "unicode/utf8.acceptRanges", "internal/bytealg.MaxLen"], apart := false, laid := [("unicode/utf8.acceptRanges", laid_unicode_utf8_acceptRanges), ("unicode/utf8.first", laid_unicode_utf8_first)] }
def WorldSeenSaid : Prop := worldSeenRow.holds Tryz.pinned (OpenSpec.ofChange worldSeenSpec)

/-- ITS FALSE NEIGHBOUR: 'it returns false'. Refute it at one input. -/
def worldSeenWrong : ChangeSpec := { name := "worldSeen", fn := fun _ => fun
  | [d1, d2, d3] => { results := [.lit (.bool false)], args := [d1, d2, d3] }
  | _ => none }
def WorldSeenWrongFalsely : Prop := worldSeenRow.holds Tryz.pinned (OpenSpec.ofChange worldSeenWrong)

/-- 'lalaw12.LedgerAll': WHATEVER THE INPUT: true; the input reads as it did. -/
def ledgerAllSpec : ChangeSpec := { name := "ledgerAll", fn := fun _ => fun
  | [d1, d2] => { results := [.lit (.bool true)], args := [d1, d2] }
  | _ => none }
def ledgerAllRow : OpenClaim := { program := "ytmcfbfdonjllaaagreatdoor", sum := "f6f43832f61376d0bd5d63cfa72d8aa9ddbe63bf07a69ff7150845f2b8b35de3", func := "longabsence/lalaw12.LedgerAll", spec := "ledgerAll", inPlace := ["internal/bytealg.CountString", "internal/bytealg.IndexByteString", "internal/bytealg.IndexString", "slices.overlaps[longabsence/api.Entry]", "slices.overlaps[longabsence/api.Node]"], unfollowed := true, recurses := true, named := ["unicode/utf8.first", "unicode/utf8.acceptRanges", "internal/bytealg.MaxLen"], apart := false, laid := [("unicode/utf8.acceptRanges", laid_unicode_utf8_acceptRanges), ("unicode/utf8.first", laid_unicode_utf8_first)] }
def LedgerAllSaid : Prop := ledgerAllRow.holds Tryz.pinned (OpenSpec.ofChange ledgerAllSpec)

/-- ITS FALSE NEIGHBOUR: 'it returns false'. Refute it at one input. -/
def ledgerAllWrong : ChangeSpec := { name := "ledgerAll", fn := fun _ => fun
  | [d1, d2] => { results := [.lit (.bool false)], args := [d1, d2] }
  | _ => none }
def LedgerAllWrongFalsely : Prop := ledgerAllRow.holds Tryz.pinned (OpenSpec.ofChange ledgerAllWrong)

/-- 'lalaw12.LedgerKept': WHATEVER THE INPUT: true; the input reads as it did. -/
def ledgerKeptSpec : ChangeSpec := { name := "ledgerKept", fn := fun _ => fun
  | [d1, d2, d3] => { results := [.lit (.bool true)], args := [d1, d2, d3] }
  | _ => none }
def ledgerKeptRow : OpenClaim := { program := "ytmcfbfdonjllaaagreatdoor", sum := "f6f43832f61376d0bd5d63cfa72d8aa9ddbe63bf07a69ff7150845f2b8b35de3", func := "longabsence/lalaw12.LedgerKept", spec := "ledgerKept", inPlace := ["internal/bytealg.CountString", "internal/bytealg.IndexByteString", "internal/bytealg.IndexString", "slices.overlaps[longabsence/api.Entry]", "slices.overlaps[longabsence/api.Node]"], unfollowed := true, recurses := true, named := ["unicode/utf8.first", "unicode/utf8.acceptRanges", "internal/bytealg.MaxLen"], apart := false, laid := [("unicode/utf8.acceptRanges", laid_unicode_utf8_acceptRanges), ("unicode/utf8.first", laid_unicode_utf8_first)] }
def LedgerKeptSaid : Prop := ledgerKeptRow.holds Tryz.pinned (OpenSpec.ofChange ledgerKeptSpec)

/-- ITS FALSE NEIGHBOUR: 'it returns false'. Refute it at one input. -/
def ledgerKeptWrong : ChangeSpec := { name := "ledgerKept", fn := fun _ => fun
  | [d1, d2, d3] => { results := [.lit (.bool false)], args := [d1, d2, d3] }
  | _ => none }
def LedgerKeptWrongFalsely : Prop := ledgerKeptRow.holds Tryz.pinned (OpenSpec.ofChange ledgerKeptWrong)

/-- 'lalaw12.LedgerNone': WHATEVER THE INPUT: true; the input reads as it did. -/
def ledgerNoneSpec : ChangeSpec := { name := "ledgerNone", fn := fun _ => fun
  | [d1, d2] => { results := [.lit (.bool true)], args := [d1, d2] }
  | _ => none }
def ledgerNoneRow : OpenClaim := { program := "ytmcfbfdonjllaaagreatdoor", sum := "f6f43832f61376d0bd5d63cfa72d8aa9ddbe63bf07a69ff7150845f2b8b35de3", func := "longabsence/lalaw12.LedgerNone", spec := "ledgerNone", inPlace := ["internal/bytealg.CountString", "internal/bytealg.IndexByteString", "internal/bytealg.IndexString", "slices.overlaps[longabsence/api.Entry]", "slices.overlaps[longabsence/api.Node]"], unfollowed := true, recurses := true, named := ["unicode/utf8.first", "unicode/utf8.acceptRanges", "internal/bytealg.MaxLen"], apart := false, laid := [("unicode/utf8.acceptRanges", laid_unicode_utf8_acceptRanges), ("unicode/utf8.first", laid_unicode_utf8_first)] }
def LedgerNoneSaid : Prop := ledgerNoneRow.holds Tryz.pinned (OpenSpec.ofChange ledgerNoneSpec)

/-- ITS FALSE NEIGHBOUR: 'it returns false'. Refute it at one input. -/
def ledgerNoneWrong : ChangeSpec := { name := "ledgerNone", fn := fun _ => fun
  | [d1, d2] => { results := [.lit (.bool false)], args := [d1, d2] }
  | _ => none }
def LedgerNoneWrongFalsely : Prop := ledgerNoneRow.holds Tryz.pinned (OpenSpec.ofChange ledgerNoneWrong)

/-- 'latop.TopHoard': WHATEVER THE INPUT: true; the input reads as it did. -/
def topHoardSpec : ChangeSpec := { name := "topHoard", fn := fun _ => fun
  | [d1, d2, d3] => { results := [.lit (.bool true)], args := [d1, d2, d3] }
  | _ => none }
def topHoardRow : OpenClaim := { program := "ytmcfbfdonjllaaagreatdoor", sum := "f6f43832f61376d0bd5d63cfa72d8aa9ddbe63bf07a69ff7150845f2b8b35de3", func := "longabsence/latop.TopHoard", spec := "topHoard", inPlace := ["internal/bytealg.CountString", "internal/bytealg.IndexByteString", "internal/bytealg.IndexString", "slices.overlaps[longabsence/api.Entry]", "slices.overlaps[longabsence/api.Node]"], unfollowed := true, recurses := true, named := ["unicode/utf8.first", "unicode/utf8.acceptRanges", "internal/bytealg.MaxLen"], apart := false, laid := [("unicode/utf8.acceptRanges", laid_unicode_utf8_acceptRanges), ("unicode/utf8.first", laid_unicode_utf8_first)] }
def TopHoardSaid : Prop := topHoardRow.holds Tryz.pinned (OpenSpec.ofChange topHoardSpec)

/-- ITS FALSE NEIGHBOUR: 'it returns false'. Refute it at one input. -/
def topHoardWrong : ChangeSpec := { name := "topHoard", fn := fun _ => fun
  | [d1, d2, d3] => { results := [.lit (.bool false)], args := [d1, d2, d3] }
  | _ => none }
def TopHoardWrongFalsely : Prop := topHoardRow.holds Tryz.pinned (OpenSpec.ofChange topHoardWrong)

/-- 'latop.TopTrace': WHATEVER THE INPUT: true; the input reads as it did. -/
def topTraceSpec : ChangeSpec := { name := "topTrace", fn := fun _ => fun
  | [d1, d2, d3] => { results := [.lit (.bool true)], args := [d1, d2, d3] }
  | _ => none }
def topTraceRow : OpenClaim := { program := "ytmcfbfdonjllaaagreatdoor", sum := "f6f43832f61376d0bd5d63cfa72d8aa9ddbe63bf07a69ff7150845f2b8b35de3", func := "longabsence/latop.TopTrace", spec := "topTrace", inPlace := ["internal/bytealg.CountString", "internal/bytealg.IndexByteString", "internal/bytealg.IndexString", "slices.overlaps[longabsence/api.Entry]", "slices.overlaps[longabsence/api.Node]"], unfollowed := true, recurses := true, named := ["unicode/utf8.first", "unicode/utf8.acceptRanges", "internal/bytealg.MaxLen"], apart := false, laid := [("unicode/utf8.acceptRanges", laid_unicode_utf8_acceptRanges), ("unicode/utf8.first", laid_unicode_utf8_first)] }
def TopTraceSaid : Prop := topTraceRow.holds Tryz.pinned (OpenSpec.ofChange topTraceSpec)

/-- ITS FALSE NEIGHBOUR: 'it returns false'. Refute it at one input. -/
def topTraceWrong : ChangeSpec := { name := "topTrace", fn := fun _ => fun
  | [d1, d2, d3] => { results := [.lit (.bool false)], args := [d1, d2, d3] }
  | _ => none }
def TopTraceWrongFalsely : Prop := topTraceRow.holds Tryz.pinned (OpenSpec.ofChange topTraceWrong)

/- THE SECOND FORM. 'bulk': how many values and letters a reading holds, each counted each time it is reached (what is shared counts as often as it is met; a slice's spare places count too). A statement '..UptoSaid' is the law's where the arguments, and the package variables that the reading takes, are together of bulk at most 1048576: NARROWER than '..Said'. Prove '..Said' where nothing that the law and all that it calls make is longer than what came in: it says more and counts as full. Else prove '..UptoSaid'. A law counts once. -/
mutual
def uptoBulk {H : Type} : DataW H → Nat
  | .lit (.string bytes) => bytes.length + 1
  | .lit _ => 1
  | .nil => 1
  | .ptr d => uptoBulk d + 1
  | .slice elems spare => uptoBulkAll elems + uptoBulkAll spare + 1
  | .agg parts => uptoBulkAll parts + 1
  | .iface _ d => uptoBulk d + 1
  | .map entries => uptoBulkEntries entries + 1
  | .held _ => 1
def uptoBulkAll {H : Type} : List (DataW H) → Nat
  | [] => 0
  | d :: r => uptoBulk d + uptoBulkAll r
def uptoBulkEntries {H : Type} : List (Lit × DataW H) → Nat
  | [] => 0
  | x :: r => uptoBulkEntry x + uptoBulkEntries r
def uptoBulkEntry {H : Type} : Lit × DataW H → Nat
  | (.string bytes, d) => bytes.length + uptoBulk d + 1
  | (_, d) => uptoBulk d + 1
 end
def uptoSmall : (H : Type) → List (DataW H) → Bool := fun _ ds => decide (uptoBulkAll ds ≤ 1048576)
def OpenSpec.upto (s : _root_.Go.ChangeSpec) : _root_.Go.OpenSpec := { _root_.Go.OpenSpec.ofChange s with cond := some uptoSmall }

/-- 'latop.TopConflict', WHERE WHAT IT READS IS OF BULK AT MOST 1048576: true; the input reads as it did. -/
def topConflictUptoRow : OpenClaim := { program := "ytmcfbfdonjllaaagreatdoor", sum := "f6f43832f61376d0bd5d63cfa72d8aa9ddbe63bf07a69ff7150845f2b8b35de3", func := "longabsence/latop.TopConflict", spec := "topConflict", inPlace := ["internal/bytealg.CountString", "internal/bytealg.IndexByteString", "internal/bytealg.IndexString", "slices.overlaps[longabsence/api.Entry]", "slices.overlaps[longabsence/api.Node]"], unfollowed := true, recurses := true, named := ["unicode/utf8.first", "unicode/utf8.acceptRanges", "internal/bytealg.MaxLen"], apart := false, laid := [("unicode/utf8.acceptRanges", laid_unicode_utf8_acceptRanges), ("unicode/utf8.first", laid_unicode_utf8_first)], narrowed := true }
def TopConflictUptoSaid : Prop := topConflictUptoRow.holds Tryz.pinned (OpenSpec.upto topConflictSpec)

/-- 'latop.TopBoth', WHERE WHAT IT READS IS OF BULK AT MOST 1048576: true; the input reads as it did. -/
def topBothUptoRow : OpenClaim := { program := "ytmcfbfdonjllaaagreatdoor", sum := "f6f43832f61376d0bd5d63cfa72d8aa9ddbe63bf07a69ff7150845f2b8b35de3", func := "longabsence/latop.TopBoth", spec := "topBoth", inPlace := ["internal/bytealg.CountString", "internal/bytealg.IndexByteString", "internal/bytealg.IndexString", "slices.overlaps[longabsence/api.Entry]", "slices.overlaps[longabsence/api.Node]"], unfollowed := true, recurses := true, named := ["unicode/utf8.first", "unicode/utf8.acceptRanges", "internal/bytealg.MaxLen"], apart := false, laid := [("unicode/utf8.acceptRanges", laid_unicode_utf8_acceptRanges), ("unicode/utf8.first", laid_unicode_utf8_first)], narrowed := true }
def TopBothUptoSaid : Prop := topBothUptoRow.holds Tryz.pinned (OpenSpec.upto topBothSpec)

/-- 'lalaw10.WorldTells', WHERE WHAT IT READS IS OF BULK AT MOST 1048576: true; the input reads as it did. -/
def worldTellsUptoRow : OpenClaim := { program := "ytmcfbfdonjllaaagreatdoor", sum := "f6f43832f61376d0bd5d63cfa72d8aa9ddbe63bf07a69ff7150845f2b8b35de3", func := "longabsence/lalaw10.WorldTells", spec := "worldTells", inPlace := ["internal/bytealg.CountString", "internal/bytealg.IndexByteString", "internal/bytealg.IndexString", "slices.overlaps[longabsence/api.Entry]", "slices.overlaps[longabsence/api.Node]"], unfollowed := true, recurses := true, named := ["unicode/utf8.first", "unicode/utf8.acceptRanges", "internal/bytealg.MaxLen"], apart := false, laid := [("unicode/utf8.acceptRanges", laid_unicode_utf8_acceptRanges), ("unicode/utf8.first", laid_unicode_utf8_first)], narrowed := true }
def WorldTellsUptoSaid : Prop := worldTellsUptoRow.holds Tryz.pinned (OpenSpec.upto worldTellsSpec)

/-- 'lalaw10.WorldAway', WHERE WHAT IT READS IS OF BULK AT MOST 1048576: true; the input reads as it did. -/
def worldAwayUptoRow : OpenClaim := { program := "ytmcfbfdonjllaaagreatdoor", sum := "f6f43832f61376d0bd5d63cfa72d8aa9ddbe63bf07a69ff7150845f2b8b35de3", func := "longabsence/lalaw10.WorldAway", spec := "worldAway", inPlace := ["internal/bytealg.CountString", "internal/bytealg.IndexByteString", "internal/bytealg.IndexString", "slices.overlaps[longabsence/api.Entry]", "slices.overlaps[longabsence/api.Node]"], unfollowed := true, recurses := true, named := ["unicode/utf8.first", "unicode/utf8.acceptRanges", "internal/bytealg.MaxLen"], apart := false, laid := [("unicode/utf8.acceptRanges", laid_unicode_utf8_acceptRanges), ("unicode/utf8.first", laid_unicode_utf8_first)], narrowed := true }
def WorldAwayUptoSaid : Prop := worldAwayUptoRow.holds Tryz.pinned (OpenSpec.upto worldAwaySpec)

/-- 'lalaw10.WorldSeen', WHERE WHAT IT READS IS OF BULK AT MOST 1048576: true; the input reads as it did. -/
def worldSeenUptoRow : OpenClaim := { program := "ytmcfbfdonjllaaagreatdoor", sum := "f6f43832f61376d0bd5d63cfa72d8aa9ddbe63bf07a69ff7150845f2b8b35de3", func := "longabsence/lalaw10.WorldSeen", spec := "worldSeen", inPlace := ["internal/bytealg.CountString", "internal/bytealg.IndexByteString", "internal/bytealg.IndexString", "slices.overlaps[longabsence/api.Entry]", "slices.overlaps[longabsence/api.Node]"], unfollowed := true, recurses := true, named := ["unicode/utf8.first", "unicode/utf8.acceptRanges", "internal/bytealg.MaxLen"], apart := false, laid := [("unicode/utf8.acceptRanges", laid_unicode_utf8_acceptRanges), ("unicode/utf8.first", laid_unicode_utf8_first)], narrowed := true }
def WorldSeenUptoSaid : Prop := worldSeenUptoRow.holds Tryz.pinned (OpenSpec.upto worldSeenSpec)

/-- 'lalaw12.LedgerAll', WHERE WHAT IT READS IS OF BULK AT MOST 1048576: true; the input reads as it did. -/
def ledgerAllUptoRow : OpenClaim := { program := "ytmcfbfdonjllaaagreatdoor", sum := "f6f43832f61376d0bd5d63cfa72d8aa9ddbe63bf07a69ff7150845f2b8b35de3", func := "longabsence/lalaw12.LedgerAll", spec := "ledgerAll", inPlace := ["internal/bytealg.CountString", "internal/bytealg.IndexByteString", "internal/bytealg.IndexString", "slices.overlaps[longabsence/api.Entry]", "slices.overlaps[longabsence/api.Node]"], unfollowed := true, recurses := true, named := ["unicode/utf8.first", "unicode/utf8.acceptRanges", "internal/bytealg.MaxLen"], apart := false, laid := [("unicode/utf8.acceptRanges", laid_unicode_utf8_acceptRanges), ("unicode/utf8.first", laid_unicode_utf8_first)], narrowed := true }
def LedgerAllUptoSaid : Prop := ledgerAllUptoRow.holds Tryz.pinned (OpenSpec.upto ledgerAllSpec)

/-- 'lalaw12.LedgerKept', WHERE WHAT IT READS IS OF BULK AT MOST 1048576: true; the input reads as it did. -/
def ledgerKeptUptoRow : OpenClaim := { program := "ytmcfbfdonjllaaagreatdoor", sum := "f6f43832f61376d0bd5d63cfa72d8aa9ddbe63bf07a69ff7150845f2b8b35de3", func := "longabsence/lalaw12.LedgerKept", spec := "ledgerKept", inPlace := ["internal/bytealg.CountString", "internal/bytealg.IndexByteString", "internal/bytealg.IndexString", "slices.overlaps[longabsence/api.Entry]", "slices.overlaps[longabsence/api.Node]"], unfollowed := true, recurses := true, named := ["unicode/utf8.first", "unicode/utf8.acceptRanges", "internal/bytealg.MaxLen"], apart := false, laid := [("unicode/utf8.acceptRanges", laid_unicode_utf8_acceptRanges), ("unicode/utf8.first", laid_unicode_utf8_first)], narrowed := true }
def LedgerKeptUptoSaid : Prop := ledgerKeptUptoRow.holds Tryz.pinned (OpenSpec.upto ledgerKeptSpec)

/-- 'lalaw12.LedgerNone', WHERE WHAT IT READS IS OF BULK AT MOST 1048576: true; the input reads as it did. -/
def ledgerNoneUptoRow : OpenClaim := { program := "ytmcfbfdonjllaaagreatdoor", sum := "f6f43832f61376d0bd5d63cfa72d8aa9ddbe63bf07a69ff7150845f2b8b35de3", func := "longabsence/lalaw12.LedgerNone", spec := "ledgerNone", inPlace := ["internal/bytealg.CountString", "internal/bytealg.IndexByteString", "internal/bytealg.IndexString", "slices.overlaps[longabsence/api.Entry]", "slices.overlaps[longabsence/api.Node]"], unfollowed := true, recurses := true, named := ["unicode/utf8.first", "unicode/utf8.acceptRanges", "internal/bytealg.MaxLen"], apart := false, laid := [("unicode/utf8.acceptRanges", laid_unicode_utf8_acceptRanges), ("unicode/utf8.first", laid_unicode_utf8_first)], narrowed := true }
def LedgerNoneUptoSaid : Prop := ledgerNoneUptoRow.holds Tryz.pinned (OpenSpec.upto ledgerNoneSpec)

/-- 'latop.TopHoard', WHERE WHAT IT READS IS OF BULK AT MOST 1048576: true; the input reads as it did. -/
def topHoardUptoRow : OpenClaim := { program := "ytmcfbfdonjllaaagreatdoor", sum := "f6f43832f61376d0bd5d63cfa72d8aa9ddbe63bf07a69ff7150845f2b8b35de3", func := "longabsence/latop.TopHoard", spec := "topHoard", inPlace := ["internal/bytealg.CountString", "internal/bytealg.IndexByteString", "internal/bytealg.IndexString", "slices.overlaps[longabsence/api.Entry]", "slices.overlaps[longabsence/api.Node]"], unfollowed := true, recurses := true, named := ["unicode/utf8.first", "unicode/utf8.acceptRanges", "internal/bytealg.MaxLen"], apart := false, laid := [("unicode/utf8.acceptRanges", laid_unicode_utf8_acceptRanges), ("unicode/utf8.first", laid_unicode_utf8_first)], narrowed := true }
def TopHoardUptoSaid : Prop := topHoardUptoRow.holds Tryz.pinned (OpenSpec.upto topHoardSpec)

/-- 'latop.TopTrace', WHERE WHAT IT READS IS OF BULK AT MOST 1048576: true; the input reads as it did. -/
def topTraceUptoRow : OpenClaim := { program := "ytmcfbfdonjllaaagreatdoor", sum := "f6f43832f61376d0bd5d63cfa72d8aa9ddbe63bf07a69ff7150845f2b8b35de3", func := "longabsence/latop.TopTrace", spec := "topTrace", inPlace := ["internal/bytealg.CountString", "internal/bytealg.IndexByteString", "internal/bytealg.IndexString", "slices.overlaps[longabsence/api.Entry]", "slices.overlaps[longabsence/api.Node]"], unfollowed := true, recurses := true, named := ["unicode/utf8.first", "unicode/utf8.acceptRanges", "internal/bytealg.MaxLen"], apart := false, laid := [("unicode/utf8.acceptRanges", laid_unicode_utf8_acceptRanges), ("unicode/utf8.first", laid_unicode_utf8_first)], narrowed := true }
def TopTraceUptoSaid : Prop := topTraceUptoRow.holds Tryz.pinned (OpenSpec.upto topTraceSpec)

end Rows
end Go.Proofs.YtmcfbfdonjllaaaGreatDoor
