/-
  DERIVED. GIVEN WITH THE SEED: THE CARDS: each row of YtgmednfaaljjjaaGreatDoorRows.lean that lists a variable, with what it lists TIED to the program's text (the seventh form; the later family's looks); each row that meets fmt, with fmt's text TOLD by the authors' own Lean function (tested against real Go, not proved from fmt's source: count such statements apart). THE CARD IS WHAT COUNTS. Prove the row's statement (the work); the ties are given (YtgmednfaaljjjaaGreatDoorTie.lean); close each card by the builder's one call (the guide's Derived/Test/ToyasCard.lean, 'card_holds'). Laid BY PROGRAM, IN A SANDBOX (cutbox-door.mjs). By AI agents, Wed Nov 11 2026. No macro, syntax, notation, axiom, sorry.
-/
import Derived.Test.YtgmednfaaljjjaaGreatDoorRows
import GoSem.ClaimSeven
namespace Go.Proofs.YtgmednfaaljjjaaGreatDoor
namespace Rows

/-- THE TIED CARD OF 'overseerlaw56.UpdateClones'. -/
def updateClonesCard : Claim7 := { stood := { row := updateClonesRow, standIns := [], harness := (true, "6f02cc93fa3e9f2668537d94536917454bb7a9a73e378bba732416d8ec73d17d"), looks := false }, kinds := [], alts := [], laidByText := true, laidKinds := [.data, .data, .data], laidTests := true, laidLooks := .later }
def UpdateClonesCardSaid : Prop := Claim7.holds Tryz.pinned (.plain (OpenSpec.ofChange updateClonesSpec)) updateClonesCard

/-- THE SECOND FORM's CARD OF 'overseerlaw56.UpdateClones'. -/
def updateClonesUptoCard : Claim7 := { stood := { row := updateClonesUptoRow, standIns := [], harness := (true, "6f02cc93fa3e9f2668537d94536917454bb7a9a73e378bba732416d8ec73d17d"), looks := false }, kinds := [], alts := [], laidByText := true, laidKinds := [.data, .data, .data], laidTests := true, laidLooks := .later }
def UpdateClonesUptoCardSaid : Prop := Claim7.holds Tryz.pinned (.plain (OpenSpec.upto updateClonesSpec)) updateClonesUptoCard
end Rows
end Go.Proofs.YtgmednfaaljjjaaGreatDoor
