/-
  DERIVED. GIVEN WITH THE SEED: THE CARDS: each row of YtnlnkchlcpfehaaGreatDoorRows.lean that lists a variable, with what it lists TIED to the program's text (the seventh form; the later family's looks); each row that meets fmt, with fmt's text TOLD by the authors' own Lean function (tested against real Go, not proved from fmt's source: count such statements apart). THE CARD IS WHAT COUNTS. Prove the row's statement (the work); the ties are given (YtnlnkchlcpfehaaGreatDoorTie.lean); close each card by the builder's one call (the guide's Derived/Test/ToyasCard.lean, 'card_holds'). Laid BY PROGRAM, IN A SANDBOX (cutbox-door.mjs). By AI agents, Wed Nov 11 2026. No macro, syntax, notation, axiom, sorry.
-/
import Derived.Test.YtnlnkchlcpfehaaGreatDoorRows
import GoSem.ClaimSeven
namespace Go.Proofs.YtnlnkchlcpfehaaGreatDoor
namespace Rows

/-- THE TIED CARD OF 'overseerlaw56.UpdateEdits'. -/
def updateEditsCard : Claim7 := { stood := { row := updateEditsRow, standIns := [], harness := (true, "e995ae75cd4cf4b754d7f901a88cdfcf3d7684c5795a6bc3a5d780dc25555f9f"), looks := false }, kinds := [], alts := [], laidByText := true, laidKinds := [.data, .data, .data], laidTests := true, laidLooks := .later }
def UpdateEditsCardSaid : Prop := Claim7.holds Tryz.pinned (.plain (OpenSpec.ofChange updateEditsSpec)) updateEditsCard

/-- THE TIED CARD OF 'overseerlaw56.UpdateScratch'. -/
def updateScratchCard : Claim7 := { stood := { row := updateScratchRow, standIns := [], harness := (true, "e995ae75cd4cf4b754d7f901a88cdfcf3d7684c5795a6bc3a5d780dc25555f9f"), looks := false }, kinds := [], alts := [], laidByText := true, laidKinds := [.data, .data, .data], laidTests := true, laidLooks := .later }
def UpdateScratchCardSaid : Prop := Claim7.holds Tryz.pinned (.plain (OpenSpec.ofChange updateScratchSpec)) updateScratchCard

/-- THE SECOND FORM's CARD OF 'overseerlaw56.UpdateEdits'. -/
def updateEditsUptoCard : Claim7 := { stood := { row := updateEditsUptoRow, standIns := [], harness := (true, "e995ae75cd4cf4b754d7f901a88cdfcf3d7684c5795a6bc3a5d780dc25555f9f"), looks := false }, kinds := [], alts := [], laidByText := true, laidKinds := [.data, .data, .data], laidTests := true, laidLooks := .later }
def UpdateEditsUptoCardSaid : Prop := Claim7.holds Tryz.pinned (.plain (OpenSpec.upto updateEditsSpec)) updateEditsUptoCard

/-- THE SECOND FORM's CARD OF 'overseerlaw56.UpdateScratch'. -/
def updateScratchUptoCard : Claim7 := { stood := { row := updateScratchUptoRow, standIns := [], harness := (true, "e995ae75cd4cf4b754d7f901a88cdfcf3d7684c5795a6bc3a5d780dc25555f9f"), looks := false }, kinds := [], alts := [], laidByText := true, laidKinds := [.data, .data, .data], laidTests := true, laidLooks := .later }
def UpdateScratchUptoCardSaid : Prop := Claim7.holds Tryz.pinned (.plain (OpenSpec.upto updateScratchSpec)) updateScratchUptoCard
end Rows
end Go.Proofs.YtnlnkchlcpfehaaGreatDoor
