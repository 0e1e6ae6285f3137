/-
  DERIVED. GIVEN WITH THE SEED: THE CARDS: each row of YtmcfbfdonjllaaaGreatDoorRows.lean that lists a variable, with what it lists TIED to the program's text (the seventh form; the later family's looks); each row that meets fmt, with fmt's text TOLD by the authors' own Lean function (tested against real Go, not proved from fmt's source: count such statements apart). THE CARD IS WHAT COUNTS. Prove the row's statement (the work); the ties are given (YtmcfbfdonjllaaaGreatDoorTie.lean); close each card by the builder's one call (the guide's Derived/Test/ToyasCard.lean, 'card_holds'). Laid BY PROGRAM, IN A SANDBOX (cutbox-door.mjs). By AI agents, Wed Nov 11 2026. No macro, syntax, notation, axiom, sorry.
-/
import Derived.Test.YtmcfbfdonjllaaaGreatDoorRows
import GoSem.ClaimSeven
namespace Go.Proofs.YtmcfbfdonjllaaaGreatDoor
namespace Rows

/-- THE TIED CARD OF 'latop.TopConflict'. -/
def topConflictCard : Claim7 := { stood := { row := topConflictRow, standIns := [], harness := (true, "1779890f8509d3ec9f00365bbe5d54c55c035a7a9d553d5069e2f01d9b0928a4"), looks := false }, kinds := [], alts := [], laidByText := true, laidKinds := [.data, .pinned], laidTests := true, laidLooks := .later }
def TopConflictCardSaid : Prop := Claim7.holds Tryz.pinned (.plain (OpenSpec.ofChange topConflictSpec)) topConflictCard

/-- THE TIED CARD OF 'latop.TopBoth'. -/
def topBothCard : Claim7 := { stood := { row := topBothRow, standIns := [], harness := (true, "1779890f8509d3ec9f00365bbe5d54c55c035a7a9d553d5069e2f01d9b0928a4"), looks := false }, kinds := [], alts := [], laidByText := true, laidKinds := [.data, .pinned], laidTests := true, laidLooks := .later }
def TopBothCardSaid : Prop := Claim7.holds Tryz.pinned (.plain (OpenSpec.ofChange topBothSpec)) topBothCard

/-- THE TIED CARD OF 'lalaw10.WorldTells'. -/
def worldTellsCard : Claim7 := { stood := { row := worldTellsRow, standIns := [], harness := (true, "1779890f8509d3ec9f00365bbe5d54c55c035a7a9d553d5069e2f01d9b0928a4"), looks := false }, kinds := [], alts := [], laidByText := true, laidKinds := [.data, .pinned], laidTests := true, laidLooks := .later }
def WorldTellsCardSaid : Prop := Claim7.holds Tryz.pinned (.plain (OpenSpec.ofChange worldTellsSpec)) worldTellsCard

/-- THE TIED CARD OF 'lalaw10.WorldAway'. -/
def worldAwayCard : Claim7 := { stood := { row := worldAwayRow, standIns := [], harness := (true, "1779890f8509d3ec9f00365bbe5d54c55c035a7a9d553d5069e2f01d9b0928a4"), looks := false }, kinds := [], alts := [], laidByText := true, laidKinds := [.data, .pinned], laidTests := true, laidLooks := .later }
def WorldAwayCardSaid : Prop := Claim7.holds Tryz.pinned (.plain (OpenSpec.ofChange worldAwaySpec)) worldAwayCard

/-- THE TIED CARD OF 'lalaw10.WorldSeen'. -/
def worldSeenCard : Claim7 := { stood := { row := worldSeenRow, standIns := [], harness := (true, "1779890f8509d3ec9f00365bbe5d54c55c035a7a9d553d5069e2f01d9b0928a4"), looks := false }, kinds := [], alts := [], laidByText := true, laidKinds := [.data, .pinned], laidTests := true, laidLooks := .later }
def WorldSeenCardSaid : Prop := Claim7.holds Tryz.pinned (.plain (OpenSpec.ofChange worldSeenSpec)) worldSeenCard

/-- THE TIED CARD OF 'lalaw12.LedgerAll'. -/
def ledgerAllCard : Claim7 := { stood := { row := ledgerAllRow, standIns := [], harness := (true, "1779890f8509d3ec9f00365bbe5d54c55c035a7a9d553d5069e2f01d9b0928a4"), looks := false }, kinds := [], alts := [], laidByText := true, laidKinds := [.data, .pinned], laidTests := true, laidLooks := .later }
def LedgerAllCardSaid : Prop := Claim7.holds Tryz.pinned (.plain (OpenSpec.ofChange ledgerAllSpec)) ledgerAllCard

/-- THE TIED CARD OF 'lalaw12.LedgerKept'. -/
def ledgerKeptCard : Claim7 := { stood := { row := ledgerKeptRow, standIns := [], harness := (true, "1779890f8509d3ec9f00365bbe5d54c55c035a7a9d553d5069e2f01d9b0928a4"), looks := false }, kinds := [], alts := [], laidByText := true, laidKinds := [.data, .pinned], laidTests := true, laidLooks := .later }
def LedgerKeptCardSaid : Prop := Claim7.holds Tryz.pinned (.plain (OpenSpec.ofChange ledgerKeptSpec)) ledgerKeptCard

/-- THE TIED CARD OF 'lalaw12.LedgerNone'. -/
def ledgerNoneCard : Claim7 := { stood := { row := ledgerNoneRow, standIns := [], harness := (true, "1779890f8509d3ec9f00365bbe5d54c55c035a7a9d553d5069e2f01d9b0928a4"), looks := false }, kinds := [], alts := [], laidByText := true, laidKinds := [.data, .pinned], laidTests := true, laidLooks := .later }
def LedgerNoneCardSaid : Prop := Claim7.holds Tryz.pinned (.plain (OpenSpec.ofChange ledgerNoneSpec)) ledgerNoneCard

/-- THE TIED CARD OF 'latop.TopHoard'. -/
def topHoardCard : Claim7 := { stood := { row := topHoardRow, standIns := [], harness := (true, "1779890f8509d3ec9f00365bbe5d54c55c035a7a9d553d5069e2f01d9b0928a4"), looks := false }, kinds := [], alts := [], laidByText := true, laidKinds := [.data, .pinned], laidTests := true, laidLooks := .later }
def TopHoardCardSaid : Prop := Claim7.holds Tryz.pinned (.plain (OpenSpec.ofChange topHoardSpec)) topHoardCard

/-- THE TIED CARD OF 'latop.TopTrace'. -/
def topTraceCard : Claim7 := { stood := { row := topTraceRow, standIns := [], harness := (true, "1779890f8509d3ec9f00365bbe5d54c55c035a7a9d553d5069e2f01d9b0928a4"), looks := false }, kinds := [], alts := [], laidByText := true, laidKinds := [.data, .pinned], laidTests := true, laidLooks := .later }
def TopTraceCardSaid : Prop := Claim7.holds Tryz.pinned (.plain (OpenSpec.ofChange topTraceSpec)) topTraceCard

/-- THE SECOND FORM's CARD OF 'latop.TopConflict'. -/
def topConflictUptoCard : Claim7 := { stood := { row := topConflictUptoRow, standIns := [], harness := (true, "1779890f8509d3ec9f00365bbe5d54c55c035a7a9d553d5069e2f01d9b0928a4"), looks := false }, kinds := [], alts := [], laidByText := true, laidKinds := [.data, .pinned], laidTests := true, laidLooks := .later }
def TopConflictUptoCardSaid : Prop := Claim7.holds Tryz.pinned (.plain (OpenSpec.upto topConflictSpec)) topConflictUptoCard

/-- THE SECOND FORM's CARD OF 'latop.TopBoth'. -/
def topBothUptoCard : Claim7 := { stood := { row := topBothUptoRow, standIns := [], harness := (true, "1779890f8509d3ec9f00365bbe5d54c55c035a7a9d553d5069e2f01d9b0928a4"), looks := false }, kinds := [], alts := [], laidByText := true, laidKinds := [.data, .pinned], laidTests := true, laidLooks := .later }
def TopBothUptoCardSaid : Prop := Claim7.holds Tryz.pinned (.plain (OpenSpec.upto topBothSpec)) topBothUptoCard

/-- THE SECOND FORM's CARD OF 'lalaw10.WorldTells'. -/
def worldTellsUptoCard : Claim7 := { stood := { row := worldTellsUptoRow, standIns := [], harness := (true, "1779890f8509d3ec9f00365bbe5d54c55c035a7a9d553d5069e2f01d9b0928a4"), looks := false }, kinds := [], alts := [], laidByText := true, laidKinds := [.data, .pinned], laidTests := true, laidLooks := .later }
def WorldTellsUptoCardSaid : Prop := Claim7.holds Tryz.pinned (.plain (OpenSpec.upto worldTellsSpec)) worldTellsUptoCard

/-- THE SECOND FORM's CARD OF 'lalaw10.WorldAway'. -/
def worldAwayUptoCard : Claim7 := { stood := { row := worldAwayUptoRow, standIns := [], harness := (true, "1779890f8509d3ec9f00365bbe5d54c55c035a7a9d553d5069e2f01d9b0928a4"), looks := false }, kinds := [], alts := [], laidByText := true, laidKinds := [.data, .pinned], laidTests := true, laidLooks := .later }
def WorldAwayUptoCardSaid : Prop := Claim7.holds Tryz.pinned (.plain (OpenSpec.upto worldAwaySpec)) worldAwayUptoCard

/-- THE SECOND FORM's CARD OF 'lalaw10.WorldSeen'. -/
def worldSeenUptoCard : Claim7 := { stood := { row := worldSeenUptoRow, standIns := [], harness := (true, "1779890f8509d3ec9f00365bbe5d54c55c035a7a9d553d5069e2f01d9b0928a4"), looks := false }, kinds := [], alts := [], laidByText := true, laidKinds := [.data, .pinned], laidTests := true, laidLooks := .later }
def WorldSeenUptoCardSaid : Prop := Claim7.holds Tryz.pinned (.plain (OpenSpec.upto worldSeenSpec)) worldSeenUptoCard

/-- THE SECOND FORM's CARD OF 'lalaw12.LedgerAll'. -/
def ledgerAllUptoCard : Claim7 := { stood := { row := ledgerAllUptoRow, standIns := [], harness := (true, "1779890f8509d3ec9f00365bbe5d54c55c035a7a9d553d5069e2f01d9b0928a4"), looks := false }, kinds := [], alts := [], laidByText := true, laidKinds := [.data, .pinned], laidTests := true, laidLooks := .later }
def LedgerAllUptoCardSaid : Prop := Claim7.holds Tryz.pinned (.plain (OpenSpec.upto ledgerAllSpec)) ledgerAllUptoCard

/-- THE SECOND FORM's CARD OF 'lalaw12.LedgerKept'. -/
def ledgerKeptUptoCard : Claim7 := { stood := { row := ledgerKeptUptoRow, standIns := [], harness := (true, "1779890f8509d3ec9f00365bbe5d54c55c035a7a9d553d5069e2f01d9b0928a4"), looks := false }, kinds := [], alts := [], laidByText := true, laidKinds := [.data, .pinned], laidTests := true, laidLooks := .later }
def LedgerKeptUptoCardSaid : Prop := Claim7.holds Tryz.pinned (.plain (OpenSpec.upto ledgerKeptSpec)) ledgerKeptUptoCard

/-- THE SECOND FORM's CARD OF 'lalaw12.LedgerNone'. -/
def ledgerNoneUptoCard : Claim7 := { stood := { row := ledgerNoneUptoRow, standIns := [], harness := (true, "1779890f8509d3ec9f00365bbe5d54c55c035a7a9d553d5069e2f01d9b0928a4"), looks := false }, kinds := [], alts := [], laidByText := true, laidKinds := [.data, .pinned], laidTests := true, laidLooks := .later }
def LedgerNoneUptoCardSaid : Prop := Claim7.holds Tryz.pinned (.plain (OpenSpec.upto ledgerNoneSpec)) ledgerNoneUptoCard

/-- THE SECOND FORM's CARD OF 'latop.TopHoard'. -/
def topHoardUptoCard : Claim7 := { stood := { row := topHoardUptoRow, standIns := [], harness := (true, "1779890f8509d3ec9f00365bbe5d54c55c035a7a9d553d5069e2f01d9b0928a4"), looks := false }, kinds := [], alts := [], laidByText := true, laidKinds := [.data, .pinned], laidTests := true, laidLooks := .later }
def TopHoardUptoCardSaid : Prop := Claim7.holds Tryz.pinned (.plain (OpenSpec.upto topHoardSpec)) topHoardUptoCard

/-- THE SECOND FORM's CARD OF 'latop.TopTrace'. -/
def topTraceUptoCard : Claim7 := { stood := { row := topTraceUptoRow, standIns := [], harness := (true, "1779890f8509d3ec9f00365bbe5d54c55c035a7a9d553d5069e2f01d9b0928a4"), looks := false }, kinds := [], alts := [], laidByText := true, laidKinds := [.data, .pinned], laidTests := true, laidLooks := .later }
def TopTraceUptoCardSaid : Prop := Claim7.holds Tryz.pinned (.plain (OpenSpec.upto topTraceSpec)) topTraceUptoCard
end Rows
end Go.Proofs.YtmcfbfdonjllaaaGreatDoor
