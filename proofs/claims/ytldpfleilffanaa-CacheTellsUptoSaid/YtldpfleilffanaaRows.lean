/-
  No cell of these rows narrows 'for every input' (looked for: loops, veiled, ifaces, maps, wideKeys, modest, calm, conditions, laid).
  DERIVED. THE GIVEN ROWS OF THIS SEAT. 13 by the template 'for every input the law returns true; each argument reads behind the call as it read before'; 0 by the template 'total and deterministic' (their statements: YtldpfleilffanaaTotals.lean).
  GIVEN WITH THE SEED: the statements are not yours to turn. If you find one false, say at which input.
  Laid BY PROGRAM, IN A SANDBOX (cutbox-rows.mjs): the forced cells as the released guide's own fill.sh prints them over the translation 49c929c4fe8ec5dc… (all of the seat's roots in one cut). By AI agents, Wed Nov 11 2026. No macro, syntax, notation, axiom, sorry.
-/
import Derived.Test.YtldpfleilffanaaChecked
import GoSem.Claim
import GoSem.ClaimJoined
import GoSem.ClaimMapViews
import Derived.JoinedTies
import Derived.KernelRfl
namespace Go.Proofs.Ytldpfleilffanaa
/- THE CELL 'sum', in the pinned program and in every row, IS THE sha256 OF THE DUMP (.gsa) THAT YtldpfleilffanaaProg.lean LOADS. Nothing in Lean hashes anything: it is a label: what it is worth is what the hold of that sum in a sandbox is worth. -/
noncomputable def Try.pinned : Pinned := { name := "ytldpfleilffanaa", sum := "49c929c4fe8ec5dcad9f98ab9bd066e4402150b569f77b5100d4b8bb5bb06292", checked := Try.checked }
namespace Rows
def none {H : Type} : Left H := { results := [], args := [] }

/-- 'lalaw4.LogsTells': WHATEVER THE INPUT: true; the input reads as it did. -/
def logsTellsSpec : ChangeSpec := { name := "logsTells", fn := fun _ => fun
  | [d1, d2, d3, d4] => { results := [.lit (.bool true)], args := [d1, d2, d3, d4] }
  | _ => none }
def logsTellsRow : OpenClaim := { program := "ytldpfleilffanaa", sum := "49c929c4fe8ec5dcad9f98ab9bd066e4402150b569f77b5100d4b8bb5bb06292", func := "longabsence/lalaw4.LogsTells", spec := "logsTells", unfollowed := true, recurses := true, apart := false }
def LogsTellsSaid : Prop := logsTellsRow.holds Try.pinned (OpenSpec.ofChange logsTellsSpec)

/-- ITS FALSE NEIGHBOUR: 'it returns false'. Refute it at one input. -/
def logsTellsWrong : ChangeSpec := { name := "logsTells", fn := fun _ => fun
  | [d1, d2, d3, d4] => { results := [.lit (.bool false)], args := [d1, d2, d3, d4] }
  | _ => none }
def LogsTellsWrongFalsely : Prop := logsTellsRow.holds Try.pinned (OpenSpec.ofChange logsTellsWrong)

/-- 'lalaw4.LogsShort': WHATEVER THE INPUT: true; the input reads as it did. -/
def logsShortSpec : ChangeSpec := { name := "logsShort", fn := fun _ => fun
  | [d1, d2] => { results := [.lit (.bool true)], args := [d1, d2] }
  | _ => none }
def logsShortRow : OpenClaim := { program := "ytldpfleilffanaa", sum := "49c929c4fe8ec5dcad9f98ab9bd066e4402150b569f77b5100d4b8bb5bb06292", func := "longabsence/lalaw4.LogsShort", spec := "logsShort", unfollowed := true, recurses := true, apart := false }
def LogsShortSaid : Prop := logsShortRow.holds Try.pinned (OpenSpec.ofChange logsShortSpec)

/-- ITS FALSE NEIGHBOUR: 'it returns false'. Refute it at one input. -/
def logsShortWrong : ChangeSpec := { name := "logsShort", fn := fun _ => fun
  | [d1, d2] => { results := [.lit (.bool false)], args := [d1, d2] }
  | _ => none }
def LogsShortWrongFalsely : Prop := logsShortRow.holds Try.pinned (OpenSpec.ofChange logsShortWrong)

/-- 'lalaw4.LogsOrder': WHATEVER THE INPUT: true; the input reads as it did. -/
def logsOrderSpec : ChangeSpec := { name := "logsOrder", fn := fun _ => fun
  | [d1, d2] => { results := [.lit (.bool true)], args := [d1, d2] }
  | _ => none }
def logsOrderRow : OpenClaim := { program := "ytldpfleilffanaa", sum := "49c929c4fe8ec5dcad9f98ab9bd066e4402150b569f77b5100d4b8bb5bb06292", func := "longabsence/lalaw4.LogsOrder", spec := "logsOrder", unfollowed := true, recurses := true, apart := false }
def LogsOrderSaid : Prop := logsOrderRow.holds Try.pinned (OpenSpec.ofChange logsOrderSpec)

/-- ITS FALSE NEIGHBOUR: 'it returns false'. Refute it at one input. -/
def logsOrderWrong : ChangeSpec := { name := "logsOrder", fn := fun _ => fun
  | [d1, d2] => { results := [.lit (.bool false)], args := [d1, d2] }
  | _ => none }
def LogsOrderWrongFalsely : Prop := logsOrderRow.holds Try.pinned (OpenSpec.ofChange logsOrderWrong)

/-- 'lalaw2.TreePuts': WHATEVER THE INPUT: true; the input reads as it did. -/
def treePutsSpec : ChangeSpec := { name := "treePuts", fn := fun _ => fun
  | [d1, d2, d3] => { results := [.lit (.bool true)], args := [d1, d2, d3] }
  | _ => none }
def treePutsRow : OpenClaim := { program := "ytldpfleilffanaa", sum := "49c929c4fe8ec5dcad9f98ab9bd066e4402150b569f77b5100d4b8bb5bb06292", func := "longabsence/lalaw2.TreePuts", spec := "treePuts", inPlace := ["slices.overlaps[longabsence/api.Node]", "slices.overlaps[longabsence/api.Entry]"], unfollowed := true, recurses := true, apart := false }
def TreePutsSaid : Prop := treePutsRow.holds Try.pinned (OpenSpec.ofChange treePutsSpec)

/-- ITS FALSE NEIGHBOUR: 'it returns false'. Refute it at one input. -/
def treePutsWrong : ChangeSpec := { name := "treePuts", fn := fun _ => fun
  | [d1, d2, d3] => { results := [.lit (.bool false)], args := [d1, d2, d3] }
  | _ => none }
def TreePutsWrongFalsely : Prop := treePutsRow.holds Try.pinned (OpenSpec.ofChange treePutsWrong)

/-- 'lalaw2.TreeEnters': WHATEVER THE INPUT: true; the input reads as it did. -/
def treeEntersSpec : ChangeSpec := { name := "treeEnters", fn := fun _ => fun
  | [d1, d2, d3] => { results := [.lit (.bool true)], args := [d1, d2, d3] }
  | _ => none }
def treeEntersRow : OpenClaim := { program := "ytldpfleilffanaa", sum := "49c929c4fe8ec5dcad9f98ab9bd066e4402150b569f77b5100d4b8bb5bb06292", func := "longabsence/lalaw2.TreeEnters", spec := "treeEnters", inPlace := ["slices.overlaps[longabsence/api.Node]", "slices.overlaps[longabsence/api.Entry]"], unfollowed := true, recurses := true, apart := false }
def TreeEntersSaid : Prop := treeEntersRow.holds Try.pinned (OpenSpec.ofChange treeEntersSpec)

/-- ITS FALSE NEIGHBOUR: 'it returns false'. Refute it at one input. -/
def treeEntersWrong : ChangeSpec := { name := "treeEnters", fn := fun _ => fun
  | [d1, d2, d3] => { results := [.lit (.bool false)], args := [d1, d2, d3] }
  | _ => none }
def TreeEntersWrongFalsely : Prop := treeEntersRow.holds Try.pinned (OpenSpec.ofChange treeEntersWrong)

/-- 'lalaw3.ActsBack': WHATEVER THE INPUT: true; the input reads as it did. -/
def actsBackSpec : ChangeSpec := { name := "actsBack", fn := fun _ => fun
  | [d1, d2, d3, d4, d5] => { results := [.lit (.bool true)], args := [d1, d2, d3, d4, d5] }
  | _ => none }
def actsBackRow : OpenClaim := { program := "ytldpfleilffanaa", sum := "49c929c4fe8ec5dcad9f98ab9bd066e4402150b569f77b5100d4b8bb5bb06292", func := "longabsence/lalaw3.ActsBack", spec := "actsBack", inPlace := ["slices.overlaps[longabsence/api.Entry]", "slices.overlaps[longabsence/api.Node]"], unfollowed := true, recurses := true, apart := false }
def ActsBackSaid : Prop := actsBackRow.holds Try.pinned (OpenSpec.ofChange actsBackSpec)

/-- ITS FALSE NEIGHBOUR: 'it returns false'. Refute it at one input. -/
def actsBackWrong : ChangeSpec := { name := "actsBack", fn := fun _ => fun
  | [d1, d2, d3, d4, d5] => { results := [.lit (.bool false)], args := [d1, d2, d3, d4, d5] }
  | _ => none }
def ActsBackWrongFalsely : Prop := actsBackRow.holds Try.pinned (OpenSpec.ofChange actsBackWrong)

/-- 'latop.Names': WHATEVER THE INPUT: true; the input reads as it did. -/
def namesSpec : ChangeSpec := { name := "names", fn := fun _ => fun
  | [] => { results := [.lit (.bool true)], args := [] }
  | _ => none }
def namesRow : OpenClaim := { program := "ytldpfleilffanaa", sum := "49c929c4fe8ec5dcad9f98ab9bd066e4402150b569f77b5100d4b8bb5bb06292", func := "longabsence/latop.Names", spec := "names", apart := false }
def NamesSaid : Prop := namesRow.holds Try.pinned (OpenSpec.ofChange namesSpec)

/-- ITS FALSE NEIGHBOUR: 'it returns false'. Refute it at one input. -/
def namesWrong : ChangeSpec := { name := "names", fn := fun _ => fun
  | [] => { results := [.lit (.bool false)], args := [] }
  | _ => none }
def NamesWrongFalsely : Prop := namesRow.holds Try.pinned (OpenSpec.ofChange namesWrong)

/-- 'lalaw8.CacheTells': WHATEVER THE INPUT: true; the input reads as it did. -/
def cacheTellsSpec : ChangeSpec := { name := "cacheTells", fn := fun _ => fun
  | [d1, d2, d3, d4, d5, d6] => { results := [.lit (.bool true)], args := [d1, d2, d3, d4, d5, d6] }
  | _ => none }
def cacheTellsRow : OpenClaim := { program := "ytldpfleilffanaa", sum := "49c929c4fe8ec5dcad9f98ab9bd066e4402150b569f77b5100d4b8bb5bb06292", func := "longabsence/lalaw8.CacheTells", spec := "cacheTells", unfollowed := true, recurses := true, apart := false }
def CacheTellsSaid : Prop := cacheTellsRow.holds Try.pinned (OpenSpec.ofChange cacheTellsSpec)

/-- ITS FALSE NEIGHBOUR: 'it returns false'. Refute it at one input. -/
def cacheTellsWrong : ChangeSpec := { name := "cacheTells", fn := fun _ => fun
  | [d1, d2, d3, d4, d5, d6] => { results := [.lit (.bool false)], args := [d1, d2, d3, d4, d5, d6] }
  | _ => none }
def CacheTellsWrongFalsely : Prop := cacheTellsRow.holds Try.pinned (OpenSpec.ofChange cacheTellsWrong)

/-- 'lalaw8.CacheKeeps': WHATEVER THE INPUT: true; the input reads as it did. -/
def cacheKeepsSpec : ChangeSpec := { name := "cacheKeeps", fn := fun _ => fun
  | [d1, d2, d3] => { results := [.lit (.bool true)], args := [d1, d2, d3] }
  | _ => none }
def cacheKeepsRow : OpenClaim := { program := "ytldpfleilffanaa", sum := "49c929c4fe8ec5dcad9f98ab9bd066e4402150b569f77b5100d4b8bb5bb06292", func := "longabsence/lalaw8.CacheKeeps", spec := "cacheKeeps", unfollowed := true, recurses := true, apart := false }
def CacheKeepsSaid : Prop := cacheKeepsRow.holds Try.pinned (OpenSpec.ofChange cacheKeepsSpec)

/-- ITS FALSE NEIGHBOUR: 'it returns false'. Refute it at one input. -/
def cacheKeepsWrong : ChangeSpec := { name := "cacheKeeps", fn := fun _ => fun
  | [d1, d2, d3] => { results := [.lit (.bool false)], args := [d1, d2, d3] }
  | _ => none }
def CacheKeepsWrongFalsely : Prop := cacheKeepsRow.holds Try.pinned (OpenSpec.ofChange cacheKeepsWrong)

/-- 'lalaw8.CacheFresh': WHATEVER THE INPUT: true; the input reads as it did. -/
def cacheFreshSpec : ChangeSpec := { name := "cacheFresh", fn := fun _ => fun
  | [d1, d2] => { results := [.lit (.bool true)], args := [d1, d2] }
  | _ => none }
def cacheFreshRow : OpenClaim := { program := "ytldpfleilffanaa", sum := "49c929c4fe8ec5dcad9f98ab9bd066e4402150b569f77b5100d4b8bb5bb06292", func := "longabsence/lalaw8.CacheFresh", spec := "cacheFresh", unfollowed := true, recurses := true, apart := false }
def CacheFreshSaid : Prop := cacheFreshRow.holds Try.pinned (OpenSpec.ofChange cacheFreshSpec)

/-- ITS FALSE NEIGHBOUR: 'it returns false'. Refute it at one input. -/
def cacheFreshWrong : ChangeSpec := { name := "cacheFresh", fn := fun _ => fun
  | [d1, d2] => { results := [.lit (.bool false)], args := [d1, d2] }
  | _ => none }
def CacheFreshWrongFalsely : Prop := cacheFreshRow.holds Try.pinned (OpenSpec.ofChange cacheFreshWrong)

/-- 'lalaw11.RepairDrop': WHATEVER THE INPUT: true; the input reads as it did. -/
def repairDropSpec : ChangeSpec := { name := "repairDrop", fn := fun _ => fun
  | [d1, d2] => { results := [.lit (.bool true)], args := [d1, d2] }
  | _ => none }
def repairDropRow : OpenClaim := { program := "ytldpfleilffanaa", sum := "49c929c4fe8ec5dcad9f98ab9bd066e4402150b569f77b5100d4b8bb5bb06292", func := "longabsence/lalaw11.RepairDrop", spec := "repairDrop", inPlace := ["slices.overlaps[longabsence/api.Entry]", "slices.overlaps[longabsence/api.Node]"], unfollowed := true, recurses := true, apart := false }
def RepairDropSaid : Prop := repairDropRow.holds Try.pinned (OpenSpec.ofChange repairDropSpec)

/-- ITS FALSE NEIGHBOUR: 'it returns false'. Refute it at one input. -/
def repairDropWrong : ChangeSpec := { name := "repairDrop", fn := fun _ => fun
  | [d1, d2] => { results := [.lit (.bool false)], args := [d1, d2] }
  | _ => none }
def RepairDropWrongFalsely : Prop := repairDropRow.holds Try.pinned (OpenSpec.ofChange repairDropWrong)

/-- 'lalaw7.ServerReplay': WHATEVER THE INPUT: true; the input reads as it did. -/
def serverReplaySpec : ChangeSpec := { name := "serverReplay", fn := fun _ => fun
  | [d1, d2] => { results := [.lit (.bool true)], args := [d1, d2] }
  | _ => none }
def serverReplayRow : OpenClaim := { program := "ytldpfleilffanaa", sum := "49c929c4fe8ec5dcad9f98ab9bd066e4402150b569f77b5100d4b8bb5bb06292", func := "longabsence/lalaw7.ServerReplay", spec := "serverReplay", inPlace := ["slices.overlaps[longabsence/api.Entry]", "slices.overlaps[longabsence/api.Node]"], unfollowed := true, recurses := true, apart := false }
def ServerReplaySaid : Prop := serverReplayRow.holds Try.pinned (OpenSpec.ofChange serverReplaySpec)

/-- ITS FALSE NEIGHBOUR: 'it returns false'. Refute it at one input. -/
def serverReplayWrong : ChangeSpec := { name := "serverReplay", fn := fun _ => fun
  | [d1, d2] => { results := [.lit (.bool false)], args := [d1, d2] }
  | _ => none }
def ServerReplayWrongFalsely : Prop := serverReplayRow.holds Try.pinned (OpenSpec.ofChange serverReplayWrong)

/-- 'lalaw7.ServerWhole': WHATEVER THE INPUT: true; the input reads as it did. -/
def serverWholeSpec : ChangeSpec := { name := "serverWhole", fn := fun _ => fun
  | [d1, d2] => { results := [.lit (.bool true)], args := [d1, d2] }
  | _ => none }
def serverWholeRow : OpenClaim := { program := "ytldpfleilffanaa", sum := "49c929c4fe8ec5dcad9f98ab9bd066e4402150b569f77b5100d4b8bb5bb06292", func := "longabsence/lalaw7.ServerWhole", spec := "serverWhole", inPlace := ["slices.overlaps[longabsence/api.Entry]", "slices.overlaps[longabsence/api.Node]"], unfollowed := true, recurses := true, apart := false }
def ServerWholeSaid : Prop := serverWholeRow.holds Try.pinned (OpenSpec.ofChange serverWholeSpec)

/-- ITS FALSE NEIGHBOUR: 'it returns false'. Refute it at one input. -/
def serverWholeWrong : ChangeSpec := { name := "serverWhole", fn := fun _ => fun
  | [d1, d2] => { results := [.lit (.bool false)], args := [d1, d2] }
  | _ => none }
def ServerWholeWrongFalsely : Prop := serverWholeRow.holds Try.pinned (OpenSpec.ofChange serverWholeWrong)

/- THE SECOND FORM. 'bulk': how many values and letters a reading holds, each counted each time it is reached (what is shared counts as often as it is met; a slice's spare places count too). A statement '..UptoSaid' is the law's where the arguments, and the package variables that the reading takes, are together of bulk at most 1048576: NARROWER than '..Said'. Prove '..Said' where nothing that the law and all that it calls make is longer than what came in: it says more and counts as full. Else prove '..UptoSaid'. A law counts once. -/
mutual
def uptoBulk {H : Type} : DataW H → Nat
  | .lit (.string bytes) => bytes.length + 1
  | .lit _ => 1
  | .nil => 1
  | .ptr d => uptoBulk d + 1
  | .slice elems spare => uptoBulkAll elems + uptoBulkAll spare + 1
  | .agg parts => uptoBulkAll parts + 1
  | .iface _ d => uptoBulk d + 1
  | .map entries => uptoBulkEntries entries + 1
  | .held _ => 1
def uptoBulkAll {H : Type} : List (DataW H) → Nat
  | [] => 0
  | d :: r => uptoBulk d + uptoBulkAll r
def uptoBulkEntries {H : Type} : List (Lit × DataW H) → Nat
  | [] => 0
  | x :: r => uptoBulkEntry x + uptoBulkEntries r
def uptoBulkEntry {H : Type} : Lit × DataW H → Nat
  | (.string bytes, d) => bytes.length + uptoBulk d + 1
  | (_, d) => uptoBulk d + 1
 end
def uptoSmall : (H : Type) → List (DataW H) → Bool := fun _ ds => decide (uptoBulkAll ds ≤ 1048576)
def OpenSpec.upto (s : _root_.Go.ChangeSpec) : _root_.Go.OpenSpec := { _root_.Go.OpenSpec.ofChange s with cond := some uptoSmall }

/-- 'lalaw4.LogsTells', WHERE WHAT IT READS IS OF BULK AT MOST 1048576: true; the input reads as it did. -/
def logsTellsUptoRow : OpenClaim := { program := "ytldpfleilffanaa", sum := "49c929c4fe8ec5dcad9f98ab9bd066e4402150b569f77b5100d4b8bb5bb06292", func := "longabsence/lalaw4.LogsTells", spec := "logsTells", unfollowed := true, recurses := true, apart := false, narrowed := true }
def LogsTellsUptoSaid : Prop := logsTellsUptoRow.holds Try.pinned (OpenSpec.upto logsTellsSpec)

/-- 'lalaw4.LogsShort', WHERE WHAT IT READS IS OF BULK AT MOST 1048576: true; the input reads as it did. -/
def logsShortUptoRow : OpenClaim := { program := "ytldpfleilffanaa", sum := "49c929c4fe8ec5dcad9f98ab9bd066e4402150b569f77b5100d4b8bb5bb06292", func := "longabsence/lalaw4.LogsShort", spec := "logsShort", unfollowed := true, recurses := true, apart := false, narrowed := true }
def LogsShortUptoSaid : Prop := logsShortUptoRow.holds Try.pinned (OpenSpec.upto logsShortSpec)

/-- 'lalaw4.LogsOrder', WHERE WHAT IT READS IS OF BULK AT MOST 1048576: true; the input reads as it did. -/
def logsOrderUptoRow : OpenClaim := { program := "ytldpfleilffanaa", sum := "49c929c4fe8ec5dcad9f98ab9bd066e4402150b569f77b5100d4b8bb5bb06292", func := "longabsence/lalaw4.LogsOrder", spec := "logsOrder", unfollowed := true, recurses := true, apart := false, narrowed := true }
def LogsOrderUptoSaid : Prop := logsOrderUptoRow.holds Try.pinned (OpenSpec.upto logsOrderSpec)

/-- 'lalaw2.TreePuts', WHERE WHAT IT READS IS OF BULK AT MOST 1048576: true; the input reads as it did. -/
def treePutsUptoRow : OpenClaim := { program := "ytldpfleilffanaa", sum := "49c929c4fe8ec5dcad9f98ab9bd066e4402150b569f77b5100d4b8bb5bb06292", func := "longabsence/lalaw2.TreePuts", spec := "treePuts", inPlace := ["slices.overlaps[longabsence/api.Node]", "slices.overlaps[longabsence/api.Entry]"], unfollowed := true, recurses := true, apart := false, narrowed := true }
def TreePutsUptoSaid : Prop := treePutsUptoRow.holds Try.pinned (OpenSpec.upto treePutsSpec)

/-- 'lalaw2.TreeEnters', WHERE WHAT IT READS IS OF BULK AT MOST 1048576: true; the input reads as it did. -/
def treeEntersUptoRow : OpenClaim := { program := "ytldpfleilffanaa", sum := "49c929c4fe8ec5dcad9f98ab9bd066e4402150b569f77b5100d4b8bb5bb06292", func := "longabsence/lalaw2.TreeEnters", spec := "treeEnters", inPlace := ["slices.overlaps[longabsence/api.Node]", "slices.overlaps[longabsence/api.Entry]"], unfollowed := true, recurses := true, apart := false, narrowed := true }
def TreeEntersUptoSaid : Prop := treeEntersUptoRow.holds Try.pinned (OpenSpec.upto treeEntersSpec)

/-- 'lalaw3.ActsBack', WHERE WHAT IT READS IS OF BULK AT MOST 1048576: true; the input reads as it did. -/
def actsBackUptoRow : OpenClaim := { program := "ytldpfleilffanaa", sum := "49c929c4fe8ec5dcad9f98ab9bd066e4402150b569f77b5100d4b8bb5bb06292", func := "longabsence/lalaw3.ActsBack", spec := "actsBack", inPlace := ["slices.overlaps[longabsence/api.Entry]", "slices.overlaps[longabsence/api.Node]"], unfollowed := true, recurses := true, apart := false, narrowed := true }
def ActsBackUptoSaid : Prop := actsBackUptoRow.holds Try.pinned (OpenSpec.upto actsBackSpec)

/-- 'latop.Names', WHERE WHAT IT READS IS OF BULK AT MOST 1048576: true; the input reads as it did. -/
def namesUptoRow : OpenClaim := { program := "ytldpfleilffanaa", sum := "49c929c4fe8ec5dcad9f98ab9bd066e4402150b569f77b5100d4b8bb5bb06292", func := "longabsence/latop.Names", spec := "names", apart := false, narrowed := true }
def NamesUptoSaid : Prop := namesUptoRow.holds Try.pinned (OpenSpec.upto namesSpec)

/-- 'lalaw8.CacheTells', WHERE WHAT IT READS IS OF BULK AT MOST 1048576: true; the input reads as it did. -/
def cacheTellsUptoRow : OpenClaim := { program := "ytldpfleilffanaa", sum := "49c929c4fe8ec5dcad9f98ab9bd066e4402150b569f77b5100d4b8bb5bb06292", func := "longabsence/lalaw8.CacheTells", spec := "cacheTells", unfollowed := true, recurses := true, apart := false, narrowed := true }
def CacheTellsUptoSaid : Prop := cacheTellsUptoRow.holds Try.pinned (OpenSpec.upto cacheTellsSpec)

/-- 'lalaw8.CacheKeeps', WHERE WHAT IT READS IS OF BULK AT MOST 1048576: true; the input reads as it did. -/
def cacheKeepsUptoRow : OpenClaim := { program := "ytldpfleilffanaa", sum := "49c929c4fe8ec5dcad9f98ab9bd066e4402150b569f77b5100d4b8bb5bb06292", func := "longabsence/lalaw8.CacheKeeps", spec := "cacheKeeps", unfollowed := true, recurses := true, apart := false, narrowed := true }
def CacheKeepsUptoSaid : Prop := cacheKeepsUptoRow.holds Try.pinned (OpenSpec.upto cacheKeepsSpec)

/-- 'lalaw8.CacheFresh', WHERE WHAT IT READS IS OF BULK AT MOST 1048576: true; the input reads as it did. -/
def cacheFreshUptoRow : OpenClaim := { program := "ytldpfleilffanaa", sum := "49c929c4fe8ec5dcad9f98ab9bd066e4402150b569f77b5100d4b8bb5bb06292", func := "longabsence/lalaw8.CacheFresh", spec := "cacheFresh", unfollowed := true, recurses := true, apart := false, narrowed := true }
def CacheFreshUptoSaid : Prop := cacheFreshUptoRow.holds Try.pinned (OpenSpec.upto cacheFreshSpec)

/-- 'lalaw11.RepairDrop', WHERE WHAT IT READS IS OF BULK AT MOST 1048576: true; the input reads as it did. -/
def repairDropUptoRow : OpenClaim := { program := "ytldpfleilffanaa", sum := "49c929c4fe8ec5dcad9f98ab9bd066e4402150b569f77b5100d4b8bb5bb06292", func := "longabsence/lalaw11.RepairDrop", spec := "repairDrop", inPlace := ["slices.overlaps[longabsence/api.Entry]", "slices.overlaps[longabsence/api.Node]"], unfollowed := true, recurses := true, apart := false, narrowed := true }
def RepairDropUptoSaid : Prop := repairDropUptoRow.holds Try.pinned (OpenSpec.upto repairDropSpec)

/-- 'lalaw7.ServerReplay', WHERE WHAT IT READS IS OF BULK AT MOST 1048576: true; the input reads as it did. -/
def serverReplayUptoRow : OpenClaim := { program := "ytldpfleilffanaa", sum := "49c929c4fe8ec5dcad9f98ab9bd066e4402150b569f77b5100d4b8bb5bb06292", func := "longabsence/lalaw7.ServerReplay", spec := "serverReplay", inPlace := ["slices.overlaps[longabsence/api.Entry]", "slices.overlaps[longabsence/api.Node]"], unfollowed := true, recurses := true, apart := false, narrowed := true }
def ServerReplayUptoSaid : Prop := serverReplayUptoRow.holds Try.pinned (OpenSpec.upto serverReplaySpec)

/-- 'lalaw7.ServerWhole', WHERE WHAT IT READS IS OF BULK AT MOST 1048576: true; the input reads as it did. -/
def serverWholeUptoRow : OpenClaim := { program := "ytldpfleilffanaa", sum := "49c929c4fe8ec5dcad9f98ab9bd066e4402150b569f77b5100d4b8bb5bb06292", func := "longabsence/lalaw7.ServerWhole", spec := "serverWhole", inPlace := ["slices.overlaps[longabsence/api.Entry]", "slices.overlaps[longabsence/api.Node]"], unfollowed := true, recurses := true, apart := false, narrowed := true }
def ServerWholeUptoSaid : Prop := serverWholeUptoRow.holds Try.pinned (OpenSpec.upto serverWholeSpec)

end Rows
end Go.Proofs.Ytldpfleilffanaa
