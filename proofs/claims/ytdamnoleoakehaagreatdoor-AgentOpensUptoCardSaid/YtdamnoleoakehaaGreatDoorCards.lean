/-
  DERIVED. GIVEN WITH THE SEED: THE CARDS: each row of YtdamnoleoakehaaGreatDoorRows.lean that lists a variable, with what it lists TIED to the program's text (the seventh form; the later family's looks); each row that meets fmt, with fmt's text TOLD by the authors' own Lean function (tested against real Go, not proved from fmt's source: count such statements apart). THE CARD IS WHAT COUNTS. Prove the row's statement (the work); the ties are given (YtdamnoleoakehaaGreatDoorTie.lean); close each card by the builder's one call (the guide's Derived/Test/ToyasCard.lean, 'card_holds'). Laid BY PROGRAM, IN A SANDBOX (cutbox-door.mjs). By AI agents, Wed Nov 11 2026. No macro, syntax, notation, axiom, sorry.
-/
import Derived.Test.YtdamnoleoakehaaGreatDoorRows
import GoSem.ClaimSeven
namespace Go.Proofs.YtdamnoleoakehaaGreatDoor
namespace Rows

/-- THE TIED CARD OF 'trunklinelaw23.AgentSound'. -/
def agentSoundCard : Claim7 := { stood := { row := agentSoundRow, standIns := [], harness := (true, "8d9e9a986dff8daf5e82a2c82f96ec06d0c55c92eaecf3ca09cb80033eef743f"), looks := true }, kinds := [], alts := [], laidByText := true, laidKinds := [.data, .pinned], laidTests := true, laidLooks := .later }
def AgentSoundCardSaid : Prop := Claim7.holds Tryz.pinned (.plain (OpenSpec.ofChange agentSoundSpec)) agentSoundCard

/-- THE TIED CARD OF 'trunklinelaw23.AgentOpens'. -/
def agentOpensCard : Claim7 := { stood := { row := agentOpensRow, standIns := [], harness := (true, "8d9e9a986dff8daf5e82a2c82f96ec06d0c55c92eaecf3ca09cb80033eef743f"), looks := true }, kinds := [], alts := [], laidByText := true, laidKinds := [.data, .pinned], laidTests := true, laidLooks := .later }
def AgentOpensCardSaid : Prop := Claim7.holds Tryz.pinned (.plain (OpenSpec.ofChange agentOpensSpec)) agentOpensCard

/-- THE TIED CARD OF 'trunklinelaw23.AgentAsks'. -/
def agentAsksCard : Claim7 := { stood := { row := agentAsksRow, standIns := [], harness := (true, "8d9e9a986dff8daf5e82a2c82f96ec06d0c55c92eaecf3ca09cb80033eef743f"), looks := true }, kinds := [], alts := [], laidByText := true, laidKinds := [.data, .pinned], laidTests := true, laidLooks := .later }
def AgentAsksCardSaid : Prop := Claim7.holds Tryz.pinned (.plain (OpenSpec.ofChange agentAsksSpec)) agentAsksCard

/-- THE TIED CARD OF 'trunklinelaw23.AgentTwice'. -/
def agentTwiceCard : Claim7 := { stood := { row := agentTwiceRow, standIns := [], harness := (true, "8d9e9a986dff8daf5e82a2c82f96ec06d0c55c92eaecf3ca09cb80033eef743f"), looks := true }, kinds := [], alts := [], laidByText := true, laidKinds := [.data, .pinned], laidTests := true, laidLooks := .later }
def AgentTwiceCardSaid : Prop := Claim7.holds Tryz.pinned (.plain (OpenSpec.ofChange agentTwiceSpec)) agentTwiceCard

/-- THE TIED CARD OF 'trunklinelaw23.AgentSame'. -/
def agentSameCard : Claim7 := { stood := { row := agentSameRow, standIns := [], harness := (true, "8d9e9a986dff8daf5e82a2c82f96ec06d0c55c92eaecf3ca09cb80033eef743f"), looks := true }, kinds := [], alts := [], laidByText := true, laidKinds := [.data, .pinned], laidTests := true, laidLooks := .later }
def AgentSameCardSaid : Prop := Claim7.holds Tryz.pinned (.plain (OpenSpec.ofChange agentSameSpec)) agentSameCard

/-- THE TIED CARD OF 'trunklinelaw23.AgentLate'. -/
def agentLateCard : Claim7 := { stood := { row := agentLateRow, standIns := [], harness := (true, "8d9e9a986dff8daf5e82a2c82f96ec06d0c55c92eaecf3ca09cb80033eef743f"), looks := true }, kinds := [], alts := [], laidByText := true, laidKinds := [.data, .pinned], laidTests := true, laidLooks := .later }
def AgentLateCardSaid : Prop := Claim7.holds Tryz.pinned (.plain (OpenSpec.ofChange agentLateSpec)) agentLateCard

/-- THE TIED CARD OF 'trunklinelaw23.AgentOnce'. -/
def agentOnceCard : Claim7 := { stood := { row := agentOnceRow, standIns := [], harness := (true, "8d9e9a986dff8daf5e82a2c82f96ec06d0c55c92eaecf3ca09cb80033eef743f"), looks := true }, kinds := [], alts := [], laidByText := true, laidKinds := [.data, .pinned], laidTests := true, laidLooks := .later }
def AgentOnceCardSaid : Prop := Claim7.holds Tryz.pinned (.plain (OpenSpec.ofChange agentOnceSpec)) agentOnceCard

/-- THE TIED CARD OF 'trunklinelaw23.AgentNil'. -/
def agentNilCard : Claim7 := { stood := { row := agentNilRow, standIns := [], harness := (true, "8d9e9a986dff8daf5e82a2c82f96ec06d0c55c92eaecf3ca09cb80033eef743f"), looks := true }, kinds := [], alts := [], laidByText := true, laidKinds := [.data, .pinned], laidTests := true, laidLooks := .later }
def AgentNilCardSaid : Prop := Claim7.holds Tryz.pinned (.plain (OpenSpec.ofChange agentNilSpec)) agentNilCard

/-- THE TIED CARD OF 'trunklinelaw23.AgentWatches'. -/
def agentWatchesCard : Claim7 := { stood := { row := agentWatchesRow, standIns := [], harness := (true, "8d9e9a986dff8daf5e82a2c82f96ec06d0c55c92eaecf3ca09cb80033eef743f"), looks := true }, kinds := [], alts := [], laidByText := true, laidKinds := [.data, .pinned], laidTests := true, laidLooks := .later }
def AgentWatchesCardSaid : Prop := Claim7.holds Tryz.pinned (.plain (OpenSpec.ofChange agentWatchesSpec)) agentWatchesCard

/-- THE SECOND FORM's CARD OF 'trunklinelaw23.AgentSound'. -/
def agentSoundUptoCard : Claim7 := { stood := { row := agentSoundUptoRow, standIns := [], harness := (true, "8d9e9a986dff8daf5e82a2c82f96ec06d0c55c92eaecf3ca09cb80033eef743f"), looks := true }, kinds := [], alts := [], laidByText := true, laidKinds := [.data, .pinned], laidTests := true, laidLooks := .later }
def AgentSoundUptoCardSaid : Prop := Claim7.holds Tryz.pinned (.plain (OpenSpec.upto agentSoundSpec)) agentSoundUptoCard

/-- THE SECOND FORM's CARD OF 'trunklinelaw23.AgentOpens'. -/
def agentOpensUptoCard : Claim7 := { stood := { row := agentOpensUptoRow, standIns := [], harness := (true, "8d9e9a986dff8daf5e82a2c82f96ec06d0c55c92eaecf3ca09cb80033eef743f"), looks := true }, kinds := [], alts := [], laidByText := true, laidKinds := [.data, .pinned], laidTests := true, laidLooks := .later }
def AgentOpensUptoCardSaid : Prop := Claim7.holds Tryz.pinned (.plain (OpenSpec.upto agentOpensSpec)) agentOpensUptoCard

/-- THE SECOND FORM's CARD OF 'trunklinelaw23.AgentAsks'. -/
def agentAsksUptoCard : Claim7 := { stood := { row := agentAsksUptoRow, standIns := [], harness := (true, "8d9e9a986dff8daf5e82a2c82f96ec06d0c55c92eaecf3ca09cb80033eef743f"), looks := true }, kinds := [], alts := [], laidByText := true, laidKinds := [.data, .pinned], laidTests := true, laidLooks := .later }
def AgentAsksUptoCardSaid : Prop := Claim7.holds Tryz.pinned (.plain (OpenSpec.upto agentAsksSpec)) agentAsksUptoCard

/-- THE SECOND FORM's CARD OF 'trunklinelaw23.AgentTwice'. -/
def agentTwiceUptoCard : Claim7 := { stood := { row := agentTwiceUptoRow, standIns := [], harness := (true, "8d9e9a986dff8daf5e82a2c82f96ec06d0c55c92eaecf3ca09cb80033eef743f"), looks := true }, kinds := [], alts := [], laidByText := true, laidKinds := [.data, .pinned], laidTests := true, laidLooks := .later }
def AgentTwiceUptoCardSaid : Prop := Claim7.holds Tryz.pinned (.plain (OpenSpec.upto agentTwiceSpec)) agentTwiceUptoCard

/-- THE SECOND FORM's CARD OF 'trunklinelaw23.AgentSame'. -/
def agentSameUptoCard : Claim7 := { stood := { row := agentSameUptoRow, standIns := [], harness := (true, "8d9e9a986dff8daf5e82a2c82f96ec06d0c55c92eaecf3ca09cb80033eef743f"), looks := true }, kinds := [], alts := [], laidByText := true, laidKinds := [.data, .pinned], laidTests := true, laidLooks := .later }
def AgentSameUptoCardSaid : Prop := Claim7.holds Tryz.pinned (.plain (OpenSpec.upto agentSameSpec)) agentSameUptoCard

/-- THE SECOND FORM's CARD OF 'trunklinelaw23.AgentLate'. -/
def agentLateUptoCard : Claim7 := { stood := { row := agentLateUptoRow, standIns := [], harness := (true, "8d9e9a986dff8daf5e82a2c82f96ec06d0c55c92eaecf3ca09cb80033eef743f"), looks := true }, kinds := [], alts := [], laidByText := true, laidKinds := [.data, .pinned], laidTests := true, laidLooks := .later }
def AgentLateUptoCardSaid : Prop := Claim7.holds Tryz.pinned (.plain (OpenSpec.upto agentLateSpec)) agentLateUptoCard

/-- THE SECOND FORM's CARD OF 'trunklinelaw23.AgentOnce'. -/
def agentOnceUptoCard : Claim7 := { stood := { row := agentOnceUptoRow, standIns := [], harness := (true, "8d9e9a986dff8daf5e82a2c82f96ec06d0c55c92eaecf3ca09cb80033eef743f"), looks := true }, kinds := [], alts := [], laidByText := true, laidKinds := [.data, .pinned], laidTests := true, laidLooks := .later }
def AgentOnceUptoCardSaid : Prop := Claim7.holds Tryz.pinned (.plain (OpenSpec.upto agentOnceSpec)) agentOnceUptoCard

/-- THE SECOND FORM's CARD OF 'trunklinelaw23.AgentNil'. -/
def agentNilUptoCard : Claim7 := { stood := { row := agentNilUptoRow, standIns := [], harness := (true, "8d9e9a986dff8daf5e82a2c82f96ec06d0c55c92eaecf3ca09cb80033eef743f"), looks := true }, kinds := [], alts := [], laidByText := true, laidKinds := [.data, .pinned], laidTests := true, laidLooks := .later }
def AgentNilUptoCardSaid : Prop := Claim7.holds Tryz.pinned (.plain (OpenSpec.upto agentNilSpec)) agentNilUptoCard

/-- THE SECOND FORM's CARD OF 'trunklinelaw23.AgentWatches'. -/
def agentWatchesUptoCard : Claim7 := { stood := { row := agentWatchesUptoRow, standIns := [], harness := (true, "8d9e9a986dff8daf5e82a2c82f96ec06d0c55c92eaecf3ca09cb80033eef743f"), looks := true }, kinds := [], alts := [], laidByText := true, laidKinds := [.data, .pinned], laidTests := true, laidLooks := .later }
def AgentWatchesUptoCardSaid : Prop := Claim7.holds Tryz.pinned (.plain (OpenSpec.upto agentWatchesSpec)) agentWatchesUptoCard
end Rows
end Go.Proofs.YtdamnoleoakehaaGreatDoor
