/-
  DERIVED. GIVEN WITH THE SEED: THE CARDS: each row of YtdcmhdkpfllnlaaGreatDoorRows.lean that lists a variable, with what it lists TIED to the program's text (the seventh form; the later family's looks); each row that meets fmt, with fmt's text TOLD by the authors' own Lean function (tested against real Go, not proved from fmt's source: count such statements apart). THE CARD IS WHAT COUNTS. Prove the row's statement (the work); the ties are given (YtdcmhdkpfllnlaaGreatDoorTie.lean); close each card by the builder's one call (the guide's Derived/Test/ToyasCard.lean, 'card_holds'). Laid BY PROGRAM, IN A SANDBOX (cutbox-door.mjs). By AI agents, Wed Nov 11 2026. No macro, syntax, notation, axiom, sorry.
-/
import Derived.Test.YtdcmhdkpfllnlaaGreatDoorRows
import GoSem.ClaimSeven
namespace Go.Proofs.YtdcmhdkpfllnlaaGreatDoor
namespace Rows

/-- THE TIED CARD OF 'lalaw9.ClientTells'. -/
def clientTellsCard : Claim7 := { stood := { row := clientTellsRow, standIns := [], harness := (true, "937bd232c845b0317745b4e5638bd896c64ecae647bbb07258053fb22e2d3c96"), looks := false }, kinds := [], alts := [], laidByText := true, laidKinds := [.data, .pinned], laidTests := true, laidLooks := .later }
def ClientTellsCardSaid : Prop := Claim7.holds Tryz.pinned (.plain (OpenSpec.ofChange clientTellsSpec)) clientTellsCard

/-- THE TIED CARD OF 'lalaw9.ClientHere'. -/
def clientHereCard : Claim7 := { stood := { row := clientHereRow, standIns := [], harness := (true, "937bd232c845b0317745b4e5638bd896c64ecae647bbb07258053fb22e2d3c96"), looks := false }, kinds := [], alts := [], laidByText := true, laidKinds := [.data, .pinned], laidTests := true, laidLooks := .later }
def ClientHereCardSaid : Prop := Claim7.holds Tryz.pinned (.plain (OpenSpec.ofChange clientHereSpec)) clientHereCard

/-- THE TIED CARD OF 'lalaw9.ClientOwn'. -/
def clientOwnCard : Claim7 := { stood := { row := clientOwnRow, standIns := [], harness := (true, "937bd232c845b0317745b4e5638bd896c64ecae647bbb07258053fb22e2d3c96"), looks := false }, kinds := [], alts := [], laidByText := true, laidKinds := [.data, .pinned], laidTests := true, laidLooks := .later }
def ClientOwnCardSaid : Prop := Claim7.holds Tryz.pinned (.plain (OpenSpec.ofChange clientOwnSpec)) clientOwnCard

/-- THE TIED CARD OF 'lalaw9.ClientAway'. -/
def clientAwayCard : Claim7 := { stood := { row := clientAwayRow, standIns := [], harness := (true, "937bd232c845b0317745b4e5638bd896c64ecae647bbb07258053fb22e2d3c96"), looks := false }, kinds := [], alts := [], laidByText := true, laidKinds := [.data, .pinned], laidTests := true, laidLooks := .later }
def ClientAwayCardSaid : Prop := Claim7.holds Tryz.pinned (.plain (OpenSpec.ofChange clientAwaySpec)) clientAwayCard

/-- THE TIED CARD OF 'lalaw9.ClientBack'. -/
def clientBackCard : Claim7 := { stood := { row := clientBackRow, standIns := [], harness := (true, "937bd232c845b0317745b4e5638bd896c64ecae647bbb07258053fb22e2d3c96"), looks := false }, kinds := [], alts := [], laidByText := true, laidKinds := [.data, .pinned], laidTests := true, laidLooks := .later }
def ClientBackCardSaid : Prop := Claim7.holds Tryz.pinned (.plain (OpenSpec.ofChange clientBackSpec)) clientBackCard

/-- THE SECOND FORM's CARD OF 'lalaw9.ClientTells'. -/
def clientTellsUptoCard : Claim7 := { stood := { row := clientTellsUptoRow, standIns := [], harness := (true, "937bd232c845b0317745b4e5638bd896c64ecae647bbb07258053fb22e2d3c96"), looks := false }, kinds := [], alts := [], laidByText := true, laidKinds := [.data, .pinned], laidTests := true, laidLooks := .later }
def ClientTellsUptoCardSaid : Prop := Claim7.holds Tryz.pinned (.plain (OpenSpec.upto clientTellsSpec)) clientTellsUptoCard

/-- THE SECOND FORM's CARD OF 'lalaw9.ClientHere'. -/
def clientHereUptoCard : Claim7 := { stood := { row := clientHereUptoRow, standIns := [], harness := (true, "937bd232c845b0317745b4e5638bd896c64ecae647bbb07258053fb22e2d3c96"), looks := false }, kinds := [], alts := [], laidByText := true, laidKinds := [.data, .pinned], laidTests := true, laidLooks := .later }
def ClientHereUptoCardSaid : Prop := Claim7.holds Tryz.pinned (.plain (OpenSpec.upto clientHereSpec)) clientHereUptoCard

/-- THE SECOND FORM's CARD OF 'lalaw9.ClientOwn'. -/
def clientOwnUptoCard : Claim7 := { stood := { row := clientOwnUptoRow, standIns := [], harness := (true, "937bd232c845b0317745b4e5638bd896c64ecae647bbb07258053fb22e2d3c96"), looks := false }, kinds := [], alts := [], laidByText := true, laidKinds := [.data, .pinned], laidTests := true, laidLooks := .later }
def ClientOwnUptoCardSaid : Prop := Claim7.holds Tryz.pinned (.plain (OpenSpec.upto clientOwnSpec)) clientOwnUptoCard

/-- THE SECOND FORM's CARD OF 'lalaw9.ClientAway'. -/
def clientAwayUptoCard : Claim7 := { stood := { row := clientAwayUptoRow, standIns := [], harness := (true, "937bd232c845b0317745b4e5638bd896c64ecae647bbb07258053fb22e2d3c96"), looks := false }, kinds := [], alts := [], laidByText := true, laidKinds := [.data, .pinned], laidTests := true, laidLooks := .later }
def ClientAwayUptoCardSaid : Prop := Claim7.holds Tryz.pinned (.plain (OpenSpec.upto clientAwaySpec)) clientAwayUptoCard

/-- THE SECOND FORM's CARD OF 'lalaw9.ClientBack'. -/
def clientBackUptoCard : Claim7 := { stood := { row := clientBackUptoRow, standIns := [], harness := (true, "937bd232c845b0317745b4e5638bd896c64ecae647bbb07258053fb22e2d3c96"), looks := false }, kinds := [], alts := [], laidByText := true, laidKinds := [.data, .pinned], laidTests := true, laidLooks := .later }
def ClientBackUptoCardSaid : Prop := Claim7.holds Tryz.pinned (.plain (OpenSpec.upto clientBackSpec)) clientBackUptoCard
end Rows
end Go.Proofs.YtdcmhdkpfllnlaaGreatDoor
