/-
  DERIVED. GIVEN WITH THE SEED: THE CARDS: each row of YtonfaeenoifomaaDoorRows.lean that lists a variable, with what it lists TIED to the program's text (the seventh form; the later family's looks); each row that meets fmt, with fmt's text TOLD by the authors' own Lean function (tested against real Go, not proved from fmt's source: count such statements apart). THE CARD IS WHAT COUNTS. Prove the row's statement (the work); the ties are given (YtonfaeenoifomaaDoorTie.lean); close each card by the builder's one call (the guide's Derived/Test/ToyasCard.lean, 'card_holds'). Laid BY PROGRAM, IN A SANDBOX (cutbox-door.mjs). By AI agents, Wed Nov 11 2026. No macro, syntax, notation, axiom, sorry.
-/
import Derived.Test.YtonfaeenoifomaaDoorRows
import GoSem.ClaimSeven
namespace Go.Proofs.YtonfaeenoifomaaDoor
namespace Rows

/-- THE TIED CARD OF 'trunklinelaw08.PacketAlone'. -/
def packetAloneCard : Claim7 := { stood := { row := packetAloneRow, standIns := [], harness := (true, "c3d75c598e0adf918b435d3b5d0e32b015e9c3d150ee9d34c421acdd7380dc0f"), looks := false }, kinds := [], alts := [], laidByText := true, laidKinds := [.data], laidTests := true, laidLooks := .later }
def PacketAloneCardSaid : Prop := Claim7.holds Tryd.pinned (.plain (OpenSpec.ofChange packetAloneSpec)) packetAloneCard

/-- THE TIED CARD OF 'trunklinelaw08.PacketGets'. -/
def packetGetsCard : Claim7 := { stood := { row := packetGetsRow, standIns := [], harness := (true, "c3d75c598e0adf918b435d3b5d0e32b015e9c3d150ee9d34c421acdd7380dc0f"), looks := false }, kinds := [], alts := [], laidByText := true, laidKinds := [.data], laidTests := true, laidLooks := .later }
def PacketGetsCardSaid : Prop := Claim7.holds Tryd.pinned (.plain (OpenSpec.ofChange packetGetsSpec)) packetGetsCard

/-- THE TIED CARD OF 'trunklinelaw08.PacketBack'. -/
def packetBackCard : Claim7 := { stood := { row := packetBackRow, standIns := [], harness := (true, "c3d75c598e0adf918b435d3b5d0e32b015e9c3d150ee9d34c421acdd7380dc0f"), looks := false }, kinds := [], alts := [], laidByText := true, laidKinds := [.data], laidTests := true, laidLooks := .later }
def PacketBackCardSaid : Prop := Claim7.holds Tryd.pinned (.plain (OpenSpec.ofChange packetBackSpec)) packetBackCard

/-- THE TIED CARD OF 'trunklinelaw08.PacketTurns'. -/
def packetTurnsCard : Claim7 := { stood := { row := packetTurnsRow, standIns := [], harness := (true, "c3d75c598e0adf918b435d3b5d0e32b015e9c3d150ee9d34c421acdd7380dc0f"), looks := false }, kinds := [], alts := [], laidByText := true, laidKinds := [.data], laidTests := true, laidLooks := .later }
def PacketTurnsCardSaid : Prop := Claim7.holds Tryd.pinned (.plain (OpenSpec.ofChange packetTurnsSpec)) packetTurnsCard

/-- THE SECOND FORM's CARD OF 'trunklinelaw08.PacketAlone'. -/
def packetAloneUptoCard : Claim7 := { stood := { row := packetAloneUptoRow, standIns := [], harness := (true, "c3d75c598e0adf918b435d3b5d0e32b015e9c3d150ee9d34c421acdd7380dc0f"), looks := false }, kinds := [], alts := [], laidByText := true, laidKinds := [.data], laidTests := true, laidLooks := .later }
def PacketAloneUptoCardSaid : Prop := Claim7.holds Tryd.pinned (.plain (OpenSpec.upto packetAloneSpec)) packetAloneUptoCard

/-- THE SECOND FORM's CARD OF 'trunklinelaw08.PacketGets'. -/
def packetGetsUptoCard : Claim7 := { stood := { row := packetGetsUptoRow, standIns := [], harness := (true, "c3d75c598e0adf918b435d3b5d0e32b015e9c3d150ee9d34c421acdd7380dc0f"), looks := false }, kinds := [], alts := [], laidByText := true, laidKinds := [.data], laidTests := true, laidLooks := .later }
def PacketGetsUptoCardSaid : Prop := Claim7.holds Tryd.pinned (.plain (OpenSpec.upto packetGetsSpec)) packetGetsUptoCard

/-- THE SECOND FORM's CARD OF 'trunklinelaw08.PacketBack'. -/
def packetBackUptoCard : Claim7 := { stood := { row := packetBackUptoRow, standIns := [], harness := (true, "c3d75c598e0adf918b435d3b5d0e32b015e9c3d150ee9d34c421acdd7380dc0f"), looks := false }, kinds := [], alts := [], laidByText := true, laidKinds := [.data], laidTests := true, laidLooks := .later }
def PacketBackUptoCardSaid : Prop := Claim7.holds Tryd.pinned (.plain (OpenSpec.upto packetBackSpec)) packetBackUptoCard

/-- THE SECOND FORM's CARD OF 'trunklinelaw08.PacketTurns'. -/
def packetTurnsUptoCard : Claim7 := { stood := { row := packetTurnsUptoRow, standIns := [], harness := (true, "c3d75c598e0adf918b435d3b5d0e32b015e9c3d150ee9d34c421acdd7380dc0f"), looks := false }, kinds := [], alts := [], laidByText := true, laidKinds := [.data], laidTests := true, laidLooks := .later }
def PacketTurnsUptoCardSaid : Prop := Claim7.holds Tryd.pinned (.plain (OpenSpec.upto packetTurnsSpec)) packetTurnsUptoCard
end Rows
end Go.Proofs.YtonfaeenoifomaaDoor
