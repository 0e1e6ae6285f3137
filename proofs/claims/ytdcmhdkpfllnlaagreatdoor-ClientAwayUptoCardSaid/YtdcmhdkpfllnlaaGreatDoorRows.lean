/-
  NARROWER THAN 'FOR EVERY INPUT', by the rows' own cells (each row's printed sentence says how): ClientTells: laid · ClientHere: laid · ClientOwn: laid · ClientAway: laid · ClientBack: laid.
  DERIVED. THE GIVEN ROWS OF THIS SEAT. 5 by the template 'for every input the law returns true; each argument reads behind the call as it read before'; 0 by the template 'total and deterministic' (their statements: YtdcmhdkpfllnlaaGreatDoorTotals.lean).
  GIVEN WITH THE SEED: the statements are not yours to turn. If you find one false, say at which input.
  Laid BY PROGRAM, IN A SANDBOX (cutbox-rows.mjs): the forced cells as the released guide's own fill.sh prints them over the translation fc48448c33374e5c… (all of the seat's roots in one cut). By AI agents, Wed Nov 11 2026. No macro, syntax, notation, axiom, sorry.
-/
import Derived.Test.YtdcmhdkpfllnlaaGreatDoorChecked
import GoSem.PinnedTables
import GoSem.Claim
import GoSem.ClaimJoined
import GoSem.ClaimMapViews
import Derived.JoinedTies
import Derived.KernelRfl
namespace Go.Proofs.YtdcmhdkpfllnlaaGreatDoor
/- THE CELL 'sum', in the pinned program and in every row, IS THE sha256 OF THE DUMP (.gsa) THAT YtdcmhdkpfllnlaaGreatDoorProg.lean LOADS. Nothing in Lean hashes anything: it is a label: what it is worth is what the hold of that sum in a sandbox is worth. -/
noncomputable def Tryz.pinned : Pinned := { name := "ytdcmhdkpfllnlaagreatdoor", sum := "fc48448c33374e5c05ab816cdf333931146509cc7f81d9ff3783918d212d1915", checked := Tryz.checked }
namespace Rows
def none {H : Type} : Left H := { results := [], args := [] }

/- WHAT THE LISTED PACKAGE-LEVEL VARIABLES READ AS WHEN THE CALL BEGINS. Each datum BY PROGRAM (the guide's laid-datum.mjs) off the statement by which the dump's own 'gosem.cut.vars' lays the variable. In a bare row this is a premise. The card (YtdcmhdkpfllnlaaGreatDoorCards.lean) ties it to the program's text. -/
def laid_unicode_utf8_acceptRanges {H : Type} : DataW H := .agg [.agg [.lit (.int .u8 128), .lit (.int .u8 191)], .agg [.lit (.int .u8 160), .lit (.int .u8 191)], .agg [.lit (.int .u8 128), .lit (.int .u8 159)], .agg [.lit (.int .u8 144), .lit (.int .u8 191)], .agg [.lit (.int .u8 128), .lit (.int .u8 143)], .agg [.lit (.int .u8 0), .lit (.int .u8 0)], .agg [.lit (.int .u8 0), .lit (.int .u8 0)], .agg [.lit (.int .u8 0), .lit (.int .u8 0)], .agg [.lit (.int .u8 0), .lit (.int .u8 0)], .agg [.lit (.int .u8 0), .lit (.int .u8 0)], .agg [.lit (.int .u8 0), .lit (.int .u8 0)], .agg [.lit (.int .u8 0), .lit (.int .u8 0)], .agg [.lit (.int .u8 0), .lit (.int .u8 0)], .agg [.lit (.int .u8 0), .lit (.int .u8 0)], .agg [.lit (.int .u8 0), .lit (.int .u8 0)], .agg [.lit (.int .u8 0), .lit (.int .u8 0)]]
/-- One of Go's own tables, pinned by name: the form's constant. -/
def laid_unicode_utf8_first : DataW Unit := Go.Pinned.utf8First

/-- 'lalaw9.ClientTells': WHATEVER THE INPUT: true; the input reads as it did. -/
def clientTellsSpec : ChangeSpec := { name := "clientTells", fn := fun _ => fun
  | [d1, d2, d3] => { results := [.lit (.bool true)], args := [d1, d2, d3] }
  | _ => none }
def clientTellsRow : OpenClaim := { program := "ytdcmhdkpfllnlaagreatdoor", sum := "fc48448c33374e5c05ab816cdf333931146509cc7f81d9ff3783918d212d1915", func := "longabsence/lalaw9.ClientTells", spec := "clientTells", inPlace := ["internal/bytealg.CountString", "internal/bytealg.IndexByteString", "internal/bytealg.IndexString", "slices.overlaps[longabsence/api.Entry]", "slices.overlaps[longabsence/api.Node]"], unfollowed := true, recurses := true, named := ["unicode/utf8.first", "unicode/utf8.acceptRanges", "internal/bytealg.MaxLen"], apart := false, laid := [("unicode/utf8.acceptRanges", laid_unicode_utf8_acceptRanges), ("unicode/utf8.first", laid_unicode_utf8_first)] }
def ClientTellsSaid : Prop := clientTellsRow.holds Tryz.pinned (OpenSpec.ofChange clientTellsSpec)

/-- ITS FALSE NEIGHBOUR: 'it returns false'. Refute it at one input. -/
def clientTellsWrong : ChangeSpec := { name := "clientTells", fn := fun _ => fun
  | [d1, d2, d3] => { results := [.lit (.bool false)], args := [d1, d2, d3] }
  | _ => none }
def ClientTellsWrongFalsely : Prop := clientTellsRow.holds Tryz.pinned (OpenSpec.ofChange clientTellsWrong)

/-- 'lalaw9.ClientHere': WHATEVER THE INPUT: true; the input reads as it did. -/
def clientHereSpec : ChangeSpec := { name := "clientHere", fn := fun _ => fun
  | [d1, d2, d3, d4] => { results := [.lit (.bool true)], args := [d1, d2, d3, d4] }
  | _ => none }
def clientHereRow : OpenClaim := { program := "ytdcmhdkpfllnlaagreatdoor", sum := "fc48448c33374e5c05ab816cdf333931146509cc7f81d9ff3783918d212d1915", func := "longabsence/lalaw9.ClientHere", spec := "clientHere", inPlace := ["internal/bytealg.CountString", "internal/bytealg.IndexByteString", "internal/bytealg.IndexString", "slices.overlaps[longabsence/api.Entry]", "slices.overlaps[longabsence/api.Node]"], unfollowed := true, recurses := true, named := ["unicode/utf8.first", "unicode/utf8.acceptRanges", "internal/bytealg.MaxLen"], apart := false, laid := [("unicode/utf8.acceptRanges", laid_unicode_utf8_acceptRanges), ("unicode/utf8.first", laid_unicode_utf8_first)] }
def ClientHereSaid : Prop := clientHereRow.holds Tryz.pinned (OpenSpec.ofChange clientHereSpec)

/-- ITS FALSE NEIGHBOUR: 'it returns false'. Refute it at one input. -/
def clientHereWrong : ChangeSpec := { name := "clientHere", fn := fun _ => fun
  | [d1, d2, d3, d4] => { results := [.lit (.bool false)], args := [d1, d2, d3, d4] }
  | _ => none }
def ClientHereWrongFalsely : Prop := clientHereRow.holds Tryz.pinned (OpenSpec.ofChange clientHereWrong)

/-- 'lalaw9.ClientOwn': WHATEVER THE INPUT: true; the input reads as it did. -/
def clientOwnSpec : ChangeSpec := { name := "clientOwn", fn := fun _ => fun
  | [d1, d2, d3, d4, d5] => { results := [.lit (.bool true)], args := [d1, d2, d3, d4, d5] }
  | _ => none }
def clientOwnRow : OpenClaim := { program := "ytdcmhdkpfllnlaagreatdoor", sum := "fc48448c33374e5c05ab816cdf333931146509cc7f81d9ff3783918d212d1915", func := "longabsence/lalaw9.ClientOwn", spec := "clientOwn", inPlace := ["internal/bytealg.CountString", "internal/bytealg.IndexByteString", "internal/bytealg.IndexString", "slices.overlaps[longabsence/api.Entry]", "slices.overlaps[longabsence/api.Node]"], unfollowed := true, recurses := true, named := ["unicode/utf8.first", "unicode/utf8.acceptRanges", "internal/bytealg.MaxLen"], apart := false, laid := [("unicode/utf8.acceptRanges", laid_unicode_utf8_acceptRanges), ("unicode/utf8.first", laid_unicode_utf8_first)] }
def ClientOwnSaid : Prop := clientOwnRow.holds Tryz.pinned (OpenSpec.ofChange clientOwnSpec)

/-- ITS FALSE NEIGHBOUR: 'it returns false'. Refute it at one input. -/
def clientOwnWrong : ChangeSpec := { name := "clientOwn", fn := fun _ => fun
  | [d1, d2, d3, d4, d5] => { results := [.lit (.bool false)], args := [d1, d2, d3, d4, d5] }
  | _ => none }
def ClientOwnWrongFalsely : Prop := clientOwnRow.holds Tryz.pinned (OpenSpec.ofChange clientOwnWrong)

/-- 'lalaw9.ClientAway': WHATEVER THE INPUT: true; the input reads as it did. -/
def clientAwaySpec : ChangeSpec := { name := "clientAway", fn := fun _ => fun
  | [d1, d2, d3] => { results := [.lit (.bool true)], args := [d1, d2, d3] }
  | _ => none }
def clientAwayRow : OpenClaim := { program := "ytdcmhdkpfllnlaagreatdoor", sum := "fc48448c33374e5c05ab816cdf333931146509cc7f81d9ff3783918d212d1915", func := "longabsence/lalaw9.ClientAway", spec := "clientAway", inPlace := ["internal/bytealg.CountString", "internal/bytealg.IndexByteString", "internal/bytealg.IndexString", "slices.overlaps[longabsence/api.Entry]", "slices.overlaps[longabsence/api.Node]"], unfollowed := true, recurses := true, named := ["unicode/utf8.first", "unicode/utf8.acceptRanges", "internal/bytealg.MaxLen"], apart := false, laid := [("unicode/utf8.acceptRanges", laid_unicode_utf8_acceptRanges), ("unicode/utf8.first", laid_unicode_utf8_first)] }
def ClientAwaySaid : Prop := clientAwayRow.holds Tryz.pinned (OpenSpec.ofChange clientAwaySpec)

/-- ITS FALSE NEIGHBOUR: 'it returns false'. Refute it at one input. -/
def clientAwayWrong : ChangeSpec := { name := "clientAway", fn := fun _ => fun
  | [d1, d2, d3] => { results := [.lit (.bool false)], args := [d1, d2, d3] }
  | _ => none }
def ClientAwayWrongFalsely : Prop := clientAwayRow.holds Tryz.pinned (OpenSpec.ofChange clientAwayWrong)

/-- 'lalaw9.ClientBack': WHATEVER THE INPUT: true; the input reads as it did. -/
def clientBackSpec : ChangeSpec := { name := "clientBack", fn := fun _ => fun
  | [d1, d2, d3] => { results := [.lit (.bool true)], args := [d1, d2, d3] }
  | _ => none }
def clientBackRow : OpenClaim := { program := "ytdcmhdkpfllnlaagreatdoor", sum := "fc48448c33374e5c05ab816cdf333931146509cc7f81d9ff3783918d212d1915", func := "longabsence/lalaw9.ClientBack", spec := "clientBack", inPlace := ["internal/bytealg.CountString", "internal/bytealg.IndexByteString", "internal/bytealg.IndexString", "slices.overlaps[longabsence/api.Entry]", "slices.overlaps[longabsence/api.Node]"], unfollowed := true, recurses := true, named := ["unicode/utf8.first", "unicode/utf8.acceptRanges", "internal/bytealg.MaxLen"], apart := false, laid := [("unicode/utf8.acceptRanges", laid_unicode_utf8_acceptRanges), ("unicode/utf8.first", laid_unicode_utf8_first)] }
def ClientBackSaid : Prop := clientBackRow.holds Tryz.pinned (OpenSpec.ofChange clientBackSpec)

/-- ITS FALSE NEIGHBOUR: 'it returns false'. Refute it at one input. -/
def clientBackWrong : ChangeSpec := { name := "clientBack", fn := fun _ => fun
  | [d1, d2, d3] => { results := [.lit (.bool false)], args := [d1, d2, d3] }
  | _ => none }
def ClientBackWrongFalsely : Prop := clientBackRow.holds Tryz.pinned (OpenSpec.ofChange clientBackWrong)

/- THE SECOND FORM. 'bulk': how many values and letters a reading holds, each counted each time it is reached (what is shared counts as often as it is met; a slice's spare places count too). A statement '..UptoSaid' is the law's where the arguments, and the package variables that the reading takes, are together of bulk at most 1048576: NARROWER than '..Said'. Prove '..Said' where nothing that the law and all that it calls make is longer than what came in: it says more and counts as full. Else prove '..UptoSaid'. A law counts once. -/
mutual
def uptoBulk {H : Type} : DataW H → Nat
  | .lit (.string bytes) => bytes.length + 1
  | .lit _ => 1
  | .nil => 1
  | .ptr d => uptoBulk d + 1
  | .slice elems spare => uptoBulkAll elems + uptoBulkAll spare + 1
  | .agg parts => uptoBulkAll parts + 1
  | .iface _ d => uptoBulk d + 1
  | .map entries => uptoBulkEntries entries + 1
  | .held _ => 1
def uptoBulkAll {H : Type} : List (DataW H) → Nat
  | [] => 0
  | d :: r => uptoBulk d + uptoBulkAll r
def uptoBulkEntries {H : Type} : List (Lit × DataW H) → Nat
  | [] => 0
  | x :: r => uptoBulkEntry x + uptoBulkEntries r
def uptoBulkEntry {H : Type} : Lit × DataW H → Nat
  | (.string bytes, d) => bytes.length + uptoBulk d + 1
  | (_, d) => uptoBulk d + 1
 end
def uptoSmall : (H : Type) → List (DataW H) → Bool := fun _ ds => decide (uptoBulkAll ds ≤ 1048576)
def OpenSpec.upto (s : _root_.Go.ChangeSpec) : _root_.Go.OpenSpec := { _root_.Go.OpenSpec.ofChange s with cond := some uptoSmall }

/-- 'lalaw9.ClientTells', WHERE WHAT IT READS IS OF BULK AT MOST 1048576: true; the input reads as it did. -/
def clientTellsUptoRow : OpenClaim := { program := "ytdcmhdkpfllnlaagreatdoor", sum := "fc48448c33374e5c05ab816cdf333931146509cc7f81d9ff3783918d212d1915", func := "longabsence/lalaw9.ClientTells", spec := "clientTells", inPlace := ["internal/bytealg.CountString", "internal/bytealg.IndexByteString", "internal/bytealg.IndexString", "slices.overlaps[longabsence/api.Entry]", "slices.overlaps[longabsence/api.Node]"], unfollowed := true, recurses := true, named := ["unicode/utf8.first", "unicode/utf8.acceptRanges", "internal/bytealg.MaxLen"], apart := false, laid := [("unicode/utf8.acceptRanges", laid_unicode_utf8_acceptRanges), ("unicode/utf8.first", laid_unicode_utf8_first)], narrowed := true }
def ClientTellsUptoSaid : Prop := clientTellsUptoRow.holds Tryz.pinned (OpenSpec.upto clientTellsSpec)

/-- 'lalaw9.ClientHere', WHERE WHAT IT READS IS OF BULK AT MOST 1048576: true; the input reads as it did. -/
def clientHereUptoRow : OpenClaim := { program := "ytdcmhdkpfllnlaagreatdoor", sum := "fc48448c33374e5c05ab816cdf333931146509cc7f81d9ff3783918d212d1915", func := "longabsence/lalaw9.ClientHere", spec := "clientHere", inPlace := ["internal/bytealg.CountString", "internal/bytealg.IndexByteString", "internal/bytealg.IndexString", "slices.overlaps[longabsence/api.Entry]", "slices.overlaps[longabsence/api.Node]"], unfollowed := true, recurses := true, named := ["unicode/utf8.first", "unicode/utf8.acceptRanges", "internal/bytealg.MaxLen"], apart := false, laid := [("unicode/utf8.acceptRanges", laid_unicode_utf8_acceptRanges), ("unicode/utf8.first", laid_unicode_utf8_first)], narrowed := true }
def ClientHereUptoSaid : Prop := clientHereUptoRow.holds Tryz.pinned (OpenSpec.upto clientHereSpec)

/-- 'lalaw9.ClientOwn', WHERE WHAT IT READS IS OF BULK AT MOST 1048576: true; the input reads as it did. -/
def clientOwnUptoRow : OpenClaim := { program := "ytdcmhdkpfllnlaagreatdoor", sum := "fc48448c33374e5c05ab816cdf333931146509cc7f81d9ff3783918d212d1915", func := "longabsence/lalaw9.ClientOwn", spec := "clientOwn", inPlace := ["internal/bytealg.CountString", "internal/bytealg.IndexByteString", "internal/bytealg.IndexString", "slices.overlaps[longabsence/api.Entry]", "slices.overlaps[longabsence/api.Node]"], unfollowed := true, recurses := true, named := ["unicode/utf8.first", "unicode/utf8.acceptRanges", "internal/bytealg.MaxLen"], apart := false, laid := [("unicode/utf8.acceptRanges", laid_unicode_utf8_acceptRanges), ("unicode/utf8.first", laid_unicode_utf8_first)], narrowed := true }
def ClientOwnUptoSaid : Prop := clientOwnUptoRow.holds Tryz.pinned (OpenSpec.upto clientOwnSpec)

/-- 'lalaw9.ClientAway', WHERE WHAT IT READS IS OF BULK AT MOST 1048576: true; the input reads as it did. -/
def clientAwayUptoRow : OpenClaim := { program := "ytdcmhdkpfllnlaagreatdoor", sum := "fc48448c33374e5c05ab816cdf333931146509cc7f81d9ff3783918d212d1915", func := "longabsence/lalaw9.ClientAway", spec := "clientAway", inPlace := ["internal/bytealg.CountString", "internal/bytealg.IndexByteString", "internal/bytealg.IndexString", "slices.overlaps[longabsence/api.Entry]", "slices.overlaps[longabsence/api.Node]"], unfollowed := true, recurses := true, named := ["unicode/utf8.first", "unicode/utf8.acceptRanges", "internal/bytealg.MaxLen"], apart := false, laid := [("unicode/utf8.acceptRanges", laid_unicode_utf8_acceptRanges), ("unicode/utf8.first", laid_unicode_utf8_first)], narrowed := true }
def ClientAwayUptoSaid : Prop := clientAwayUptoRow.holds Tryz.pinned (OpenSpec.upto clientAwaySpec)

/-- 'lalaw9.ClientBack', WHERE WHAT IT READS IS OF BULK AT MOST 1048576: true; the input reads as it did. -/
def clientBackUptoRow : OpenClaim := { program := "ytdcmhdkpfllnlaagreatdoor", sum := "fc48448c33374e5c05ab816cdf333931146509cc7f81d9ff3783918d212d1915", func := "longabsence/lalaw9.ClientBack", spec := "clientBack", inPlace := ["internal/bytealg.CountString", "internal/bytealg.IndexByteString", "internal/bytealg.IndexString", "slices.overlaps[longabsence/api.Entry]", "slices.overlaps[longabsence/api.Node]"], unfollowed := true, recurses := true, named := ["unicode/utf8.first", "unicode/utf8.acceptRanges", "internal/bytealg.MaxLen"], apart := false, laid := [("unicode/utf8.acceptRanges", laid_unicode_utf8_acceptRanges), ("unicode/utf8.first", laid_unicode_utf8_first)], narrowed := true }
def ClientBackUptoSaid : Prop := clientBackUptoRow.holds Tryz.pinned (OpenSpec.upto clientBackSpec)

end Rows
end Go.Proofs.YtdcmhdkpfllnlaaGreatDoor
