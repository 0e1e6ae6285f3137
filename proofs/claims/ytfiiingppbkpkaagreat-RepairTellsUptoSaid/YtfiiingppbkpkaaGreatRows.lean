/-
  No cell of these rows narrows 'for every input' (looked for: loops, veiled, ifaces, maps, wideKeys, modest, calm, conditions, laid).
  DERIVED. THE GIVEN ROWS OF THIS SEAT. 4 by the template 'for every input the law returns true; each argument reads behind the call as it read before'; 0 by the template 'total and deterministic' (their statements: YtfiiingppbkpkaaGreatTotals.lean).
  GIVEN WITH THE SEED: the statements are not yours to turn. If you find one false, say at which input.
  Laid BY PROGRAM, IN A SANDBOX (cutbox-rows.mjs): the forced cells as the released guide's own fill.sh prints them over the translation 8d7f04b2dc1b4beb… (all of the seat's roots in one cut). By AI agents, Wed Nov 11 2026. No macro, syntax, notation, axiom, sorry.
-/
import Derived.Test.YtfiiingppbkpkaaGreatChecked
import GoSem.Claim
import GoSem.ClaimJoined
import GoSem.ClaimMapViews
import Derived.JoinedTies
import Derived.KernelRfl
namespace Go.Proofs.YtfiiingppbkpkaaGreat
/- THE CELL 'sum', in the pinned program and in every row, IS THE sha256 OF THE DUMP (.gsa) THAT YtfiiingppbkpkaaGreatProg.lean LOADS. Nothing in Lean hashes anything: it is a label: what it is worth is what the hold of that sum in a sandbox is worth. -/
noncomputable def Tryz.pinned : Pinned := { name := "ytfiiingppbkpkaagreat", sum := "8d7f04b2dc1b4beb07ba6696db593acec2ba24788f7313e864e29eacfc61c900", checked := Tryz.checked }
namespace Rows
def none {H : Type} : Left H := { results := [], args := [] }

/-- 'lalaw7.ServerTells': WHATEVER THE INPUT: true; the input reads as it did. -/
def serverTellsSpec : ChangeSpec := { name := "serverTells", fn := fun _ => fun
  | [d1, d2, d3, d4, d5] => { results := [.lit (.bool true)], args := [d1, d2, d3, d4, d5] }
  | _ => none }
def serverTellsRow : OpenClaim := { program := "ytfiiingppbkpkaagreat", sum := "8d7f04b2dc1b4beb07ba6696db593acec2ba24788f7313e864e29eacfc61c900", func := "longabsence/lalaw7.ServerTells", spec := "serverTells", inPlace := ["slices.overlaps[longabsence/api.Entry]", "slices.overlaps[longabsence/api.Node]"], unfollowed := true, recurses := true, apart := false }
def ServerTellsSaid : Prop := serverTellsRow.holds Tryz.pinned (OpenSpec.ofChange serverTellsSpec)

/-- ITS FALSE NEIGHBOUR: 'it returns false'. Refute it at one input. -/
def serverTellsWrong : ChangeSpec := { name := "serverTells", fn := fun _ => fun
  | [d1, d2, d3, d4, d5] => { results := [.lit (.bool false)], args := [d1, d2, d3, d4, d5] }
  | _ => none }
def ServerTellsWrongFalsely : Prop := serverTellsRow.holds Tryz.pinned (OpenSpec.ofChange serverTellsWrong)

/-- 'lalaw11.RepairTells': WHATEVER THE INPUT: true; the input reads as it did. -/
def repairTellsSpec : ChangeSpec := { name := "repairTells", fn := fun _ => fun
  | [d1, d2, d3, d4, d5] => { results := [.lit (.bool true)], args := [d1, d2, d3, d4, d5] }
  | _ => none }
def repairTellsRow : OpenClaim := { program := "ytfiiingppbkpkaagreat", sum := "8d7f04b2dc1b4beb07ba6696db593acec2ba24788f7313e864e29eacfc61c900", func := "longabsence/lalaw11.RepairTells", spec := "repairTells", inPlace := ["slices.overlaps[longabsence/api.Entry]", "slices.overlaps[longabsence/api.Node]"], unfollowed := true, recurses := true, apart := false }
def RepairTellsSaid : Prop := repairTellsRow.holds Tryz.pinned (OpenSpec.ofChange repairTellsSpec)

/-- ITS FALSE NEIGHBOUR: 'it returns false'. Refute it at one input. -/
def repairTellsWrong : ChangeSpec := { name := "repairTells", fn := fun _ => fun
  | [d1, d2, d3, d4, d5] => { results := [.lit (.bool false)], args := [d1, d2, d3, d4, d5] }
  | _ => none }
def RepairTellsWrongFalsely : Prop := repairTellsRow.holds Tryz.pinned (OpenSpec.ofChange repairTellsWrong)

/-- 'lalaw11.RepairForce': WHATEVER THE INPUT: true; the input reads as it did. -/
def repairForceSpec : ChangeSpec := { name := "repairForce", fn := fun _ => fun
  | [d1, d2, d3] => { results := [.lit (.bool true)], args := [d1, d2, d3] }
  | _ => none }
def repairForceRow : OpenClaim := { program := "ytfiiingppbkpkaagreat", sum := "8d7f04b2dc1b4beb07ba6696db593acec2ba24788f7313e864e29eacfc61c900", func := "longabsence/lalaw11.RepairForce", spec := "repairForce", inPlace := ["slices.overlaps[longabsence/api.Entry]", "slices.overlaps[longabsence/api.Node]"], unfollowed := true, recurses := true, apart := false }
def RepairForceSaid : Prop := repairForceRow.holds Tryz.pinned (OpenSpec.ofChange repairForceSpec)

/-- ITS FALSE NEIGHBOUR: 'it returns false'. Refute it at one input. -/
def repairForceWrong : ChangeSpec := { name := "repairForce", fn := fun _ => fun
  | [d1, d2, d3] => { results := [.lit (.bool false)], args := [d1, d2, d3] }
  | _ => none }
def RepairForceWrongFalsely : Prop := repairForceRow.holds Tryz.pinned (OpenSpec.ofChange repairForceWrong)

/-- 'lalaw12.LedgerTells': WHATEVER THE INPUT: true; the input reads as it did. -/
def ledgerTellsSpec : ChangeSpec := { name := "ledgerTells", fn := fun _ => fun
  | [d1, d2, d3] => { results := [.lit (.bool true)], args := [d1, d2, d3] }
  | _ => none }
def ledgerTellsRow : OpenClaim := { program := "ytfiiingppbkpkaagreat", sum := "8d7f04b2dc1b4beb07ba6696db593acec2ba24788f7313e864e29eacfc61c900", func := "longabsence/lalaw12.LedgerTells", spec := "ledgerTells", inPlace := ["slices.overlaps[longabsence/api.Entry]", "slices.overlaps[longabsence/api.Node]"], unfollowed := true, recurses := true, apart := false }
def LedgerTellsSaid : Prop := ledgerTellsRow.holds Tryz.pinned (OpenSpec.ofChange ledgerTellsSpec)

/-- ITS FALSE NEIGHBOUR: 'it returns false'. Refute it at one input. -/
def ledgerTellsWrong : ChangeSpec := { name := "ledgerTells", fn := fun _ => fun
  | [d1, d2, d3] => { results := [.lit (.bool false)], args := [d1, d2, d3] }
  | _ => none }
def LedgerTellsWrongFalsely : Prop := ledgerTellsRow.holds Tryz.pinned (OpenSpec.ofChange ledgerTellsWrong)

/- THE SECOND FORM. 'bulk': how many values and letters a reading holds, each counted each time it is reached (what is shared counts as often as it is met; a slice's spare places count too). A statement '..UptoSaid' is the law's where the arguments, and the package variables that the reading takes, are together of bulk at most 1048576: NARROWER than '..Said'. Prove '..Said' where nothing that the law and all that it calls make is longer than what came in: it says more and counts as full. Else prove '..UptoSaid'. A law counts once. -/
mutual
def uptoBulk {H : Type} : DataW H → Nat
  | .lit (.string bytes) => bytes.length + 1
  | .lit _ => 1
  | .nil => 1
  | .ptr d => uptoBulk d + 1
  | .slice elems spare => uptoBulkAll elems + uptoBulkAll spare + 1
  | .agg parts => uptoBulkAll parts + 1
  | .iface _ d => uptoBulk d + 1
  | .map entries => uptoBulkEntries entries + 1
  | .held _ => 1
def uptoBulkAll {H : Type} : List (DataW H) → Nat
  | [] => 0
  | d :: r => uptoBulk d + uptoBulkAll r
def uptoBulkEntries {H : Type} : List (Lit × DataW H) → Nat
  | [] => 0
  | x :: r => uptoBulkEntry x + uptoBulkEntries r
def uptoBulkEntry {H : Type} : Lit × DataW H → Nat
  | (.string bytes, d) => bytes.length + uptoBulk d + 1
  | (_, d) => uptoBulk d + 1
 end
def uptoSmall : (H : Type) → List (DataW H) → Bool := fun _ ds => decide (uptoBulkAll ds ≤ 1048576)
def OpenSpec.upto (s : _root_.Go.ChangeSpec) : _root_.Go.OpenSpec := { _root_.Go.OpenSpec.ofChange s with cond := some uptoSmall }

/-- 'lalaw7.ServerTells', WHERE WHAT IT READS IS OF BULK AT MOST 1048576: true; the input reads as it did. -/
def serverTellsUptoRow : OpenClaim := { program := "ytfiiingppbkpkaagreat", sum := "8d7f04b2dc1b4beb07ba6696db593acec2ba24788f7313e864e29eacfc61c900", func := "longabsence/lalaw7.ServerTells", spec := "serverTells", inPlace := ["slices.overlaps[longabsence/api.Entry]", "slices.overlaps[longabsence/api.Node]"], unfollowed := true, recurses := true, apart := false, narrowed := true }
def ServerTellsUptoSaid : Prop := serverTellsUptoRow.holds Tryz.pinned (OpenSpec.upto serverTellsSpec)

/-- 'lalaw11.RepairTells', WHERE WHAT IT READS IS OF BULK AT MOST 1048576: true; the input reads as it did. -/
def repairTellsUptoRow : OpenClaim := { program := "ytfiiingppbkpkaagreat", sum := "8d7f04b2dc1b4beb07ba6696db593acec2ba24788f7313e864e29eacfc61c900", func := "longabsence/lalaw11.RepairTells", spec := "repairTells", inPlace := ["slices.overlaps[longabsence/api.Entry]", "slices.overlaps[longabsence/api.Node]"], unfollowed := true, recurses := true, apart := false, narrowed := true }
def RepairTellsUptoSaid : Prop := repairTellsUptoRow.holds Tryz.pinned (OpenSpec.upto repairTellsSpec)

/-- 'lalaw11.RepairForce', WHERE WHAT IT READS IS OF BULK AT MOST 1048576: true; the input reads as it did. -/
def repairForceUptoRow : OpenClaim := { program := "ytfiiingppbkpkaagreat", sum := "8d7f04b2dc1b4beb07ba6696db593acec2ba24788f7313e864e29eacfc61c900", func := "longabsence/lalaw11.RepairForce", spec := "repairForce", inPlace := ["slices.overlaps[longabsence/api.Entry]", "slices.overlaps[longabsence/api.Node]"], unfollowed := true, recurses := true, apart := false, narrowed := true }
def RepairForceUptoSaid : Prop := repairForceUptoRow.holds Tryz.pinned (OpenSpec.upto repairForceSpec)

/-- 'lalaw12.LedgerTells', WHERE WHAT IT READS IS OF BULK AT MOST 1048576: true; the input reads as it did. -/
def ledgerTellsUptoRow : OpenClaim := { program := "ytfiiingppbkpkaagreat", sum := "8d7f04b2dc1b4beb07ba6696db593acec2ba24788f7313e864e29eacfc61c900", func := "longabsence/lalaw12.LedgerTells", spec := "ledgerTells", inPlace := ["slices.overlaps[longabsence/api.Entry]", "slices.overlaps[longabsence/api.Node]"], unfollowed := true, recurses := true, apart := false, narrowed := true }
def LedgerTellsUptoSaid : Prop := ledgerTellsUptoRow.holds Tryz.pinned (OpenSpec.upto ledgerTellsSpec)

end Rows
end Go.Proofs.YtfiiingppbkpkaaGreat
