/-
  DERIVED. GIVEN WITH THE SEED: THE CARDS: each row of YtenlcncffplamaaDoorRows.lean that lists a variable, with what it lists TIED to the program's text (the seventh form; the later family's looks); each row that meets fmt, with fmt's text TOLD by the authors' own Lean function (tested against real Go, not proved from fmt's source: count such statements apart). THE CARD IS WHAT COUNTS. Prove the row's statement (the work); the ties are given (YtenlcncffplamaaDoorTie.lean); close each card by the builder's one call (the guide's Derived/Test/ToyasCard.lean, 'card_holds'). Laid BY PROGRAM, IN A SANDBOX (cutbox-door.mjs). By AI agents, Wed Nov 11 2026. No macro, syntax, notation, axiom, sorry.
-/
import Derived.Test.YtenlcncffplamaaDoorRows
import GoSem.ClaimSeven
namespace Go.Proofs.YtenlcncffplamaaDoor
namespace Rows

/-- THE TIED CARD OF 'lalaw1.NamesTells'. -/
def namesTellsCard : Claim7 := { stood := { row := namesTellsRow, standIns := [], harness := (true, "0ccedd57e23596e164c3731bc64de628ff2c5bf397d7abc0fafed313d210a7b5"), looks := true }, kinds := [], alts := [], laidByText := true, laidKinds := [.data, .pinned], laidTests := true, laidLooks := .later }
def NamesTellsCardSaid : Prop := Claim7.holds Tryd.pinned (.plain (OpenSpec.ofChange namesTellsSpec)) namesTellsCard

/-- THE TIED CARD OF 'lalaw1.NamesTurns'. -/
def namesTurnsCard : Claim7 := { stood := { row := namesTurnsRow, standIns := [], harness := (true, "0ccedd57e23596e164c3731bc64de628ff2c5bf397d7abc0fafed313d210a7b5"), looks := true }, kinds := [], alts := [], laidByText := true, laidKinds := [.data, .pinned], laidTests := true, laidLooks := .later }
def NamesTurnsCardSaid : Prop := Claim7.holds Tryd.pinned (.plain (OpenSpec.ofChange namesTurnsSpec)) namesTurnsCard

/-- THE TIED CARD OF 'lalaw5.WireTells'. -/
def wireTellsCard : Claim7 := { stood := { row := wireTellsRow, standIns := [], harness := (true, "0ccedd57e23596e164c3731bc64de628ff2c5bf397d7abc0fafed313d210a7b5"), looks := true }, kinds := [], alts := [], laidByText := true, laidKinds := [.data, .data, .data, .data, .sentinel, .sentinel, .pinned], laidTests := true, laidLooks := .later }
def WireTellsCardSaid : Prop := Claim7.holds Tryd.pinned (.plain (OpenSpec.ofChange wireTellsSpec)) wireTellsCard

/-- THE TIED CARD OF 'lalaw5.WireTurns'. -/
def wireTurnsCard : Claim7 := { stood := { row := wireTurnsRow, standIns := [], harness := (true, "0ccedd57e23596e164c3731bc64de628ff2c5bf397d7abc0fafed313d210a7b5"), looks := true }, kinds := [], alts := [], laidByText := true, laidKinds := [.data, .data, .data, .data, .sentinel, .sentinel, .pinned], laidTests := true, laidLooks := .later }
def WireTurnsCardSaid : Prop := Claim7.holds Tryd.pinned (.plain (OpenSpec.ofChange wireTurnsSpec)) wireTurnsCard

/-- THE TIED CARD OF 'lalaw5.WireJoined'. -/
def wireJoinedCard : Claim7 := { stood := { row := wireJoinedRow, standIns := [], harness := (true, "0ccedd57e23596e164c3731bc64de628ff2c5bf397d7abc0fafed313d210a7b5"), looks := true }, kinds := [], alts := [], laidByText := true, laidKinds := [.data, .data, .data, .data, .sentinel, .sentinel, .pinned], laidTests := true, laidLooks := .later }
def WireJoinedCardSaid : Prop := Claim7.holds Tryd.pinned (.plain (OpenSpec.ofChange wireJoinedSpec)) wireJoinedCard

/-- THE SECOND FORM's CARD OF 'lalaw1.NamesTells'. -/
def namesTellsUptoCard : Claim7 := { stood := { row := namesTellsUptoRow, standIns := [], harness := (true, "0ccedd57e23596e164c3731bc64de628ff2c5bf397d7abc0fafed313d210a7b5"), looks := true }, kinds := [], alts := [], laidByText := true, laidKinds := [.data, .pinned], laidTests := true, laidLooks := .later }
def NamesTellsUptoCardSaid : Prop := Claim7.holds Tryd.pinned (.plain (OpenSpec.upto namesTellsSpec)) namesTellsUptoCard

/-- THE SECOND FORM's CARD OF 'lalaw1.NamesTurns'. -/
def namesTurnsUptoCard : Claim7 := { stood := { row := namesTurnsUptoRow, standIns := [], harness := (true, "0ccedd57e23596e164c3731bc64de628ff2c5bf397d7abc0fafed313d210a7b5"), looks := true }, kinds := [], alts := [], laidByText := true, laidKinds := [.data, .pinned], laidTests := true, laidLooks := .later }
def NamesTurnsUptoCardSaid : Prop := Claim7.holds Tryd.pinned (.plain (OpenSpec.upto namesTurnsSpec)) namesTurnsUptoCard

/-- THE SECOND FORM's CARD OF 'lalaw5.WireTells'. -/
def wireTellsUptoCard : Claim7 := { stood := { row := wireTellsUptoRow, standIns := [], harness := (true, "0ccedd57e23596e164c3731bc64de628ff2c5bf397d7abc0fafed313d210a7b5"), looks := true }, kinds := [], alts := [], laidByText := true, laidKinds := [.data, .data, .data, .data, .sentinel, .sentinel, .pinned], laidTests := true, laidLooks := .later }
def WireTellsUptoCardSaid : Prop := Claim7.holds Tryd.pinned (.plain (OpenSpec.upto wireTellsSpec)) wireTellsUptoCard

/-- THE SECOND FORM's CARD OF 'lalaw5.WireTurns'. -/
def wireTurnsUptoCard : Claim7 := { stood := { row := wireTurnsUptoRow, standIns := [], harness := (true, "0ccedd57e23596e164c3731bc64de628ff2c5bf397d7abc0fafed313d210a7b5"), looks := true }, kinds := [], alts := [], laidByText := true, laidKinds := [.data, .data, .data, .data, .sentinel, .sentinel, .pinned], laidTests := true, laidLooks := .later }
def WireTurnsUptoCardSaid : Prop := Claim7.holds Tryd.pinned (.plain (OpenSpec.upto wireTurnsSpec)) wireTurnsUptoCard

/-- THE SECOND FORM's CARD OF 'lalaw5.WireJoined'. -/
def wireJoinedUptoCard : Claim7 := { stood := { row := wireJoinedUptoRow, standIns := [], harness := (true, "0ccedd57e23596e164c3731bc64de628ff2c5bf397d7abc0fafed313d210a7b5"), looks := true }, kinds := [], alts := [], laidByText := true, laidKinds := [.data, .data, .data, .data, .sentinel, .sentinel, .pinned], laidTests := true, laidLooks := .later }
def WireJoinedUptoCardSaid : Prop := Claim7.holds Tryd.pinned (.plain (OpenSpec.upto wireJoinedSpec)) wireJoinedUptoCard
end Rows
end Go.Proofs.YtenlcncffplamaaDoor
