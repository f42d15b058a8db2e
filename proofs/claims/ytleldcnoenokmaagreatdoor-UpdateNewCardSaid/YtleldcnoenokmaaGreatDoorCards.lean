/-
  DERIVED. GIVEN WITH THE SEED: THE CARDS: each row of YtleldcnoenokmaaGreatDoorRows.lean that lists a variable, with what it lists TIED to the program's text (the seventh form; the later family's looks); each row that meets fmt, with fmt's text TOLD by the authors' own Lean function (tested against real Go, not proved from fmt's source: count such statements apart). THE CARD IS WHAT COUNTS. Prove the row's statement (the work); the ties are given (YtleldcnoenokmaaGreatDoorTie.lean); close each card by the builder's one call (the guide's Derived/Test/ToyasCard.lean, 'card_holds'). Laid BY PROGRAM, IN A SANDBOX (cutbox-door.mjs). By AI agents, Wed Nov 11 2026. No macro, syntax, notation, axiom, sorry.
-/
import Derived.Test.YtleldcnoenokmaaGreatDoorRows
import GoSem.ClaimSeven
namespace Go.Proofs.YtleldcnoenokmaaGreatDoor
namespace Rows

/-- THE TIED CARD OF 'overseerlaw56.UpdateNew'. -/
def updateNewCard : Claim7 := { stood := { row := updateNewRow, standIns := [], harness := (true, "aa84a71a7ba66a7493b7918971ef736ce7e002c23109246aee4004edaa624c6d"), looks := false }, kinds := [], alts := [], laidByText := true, laidKinds := [.data, .data, .data], laidTests := true, laidLooks := .later }
def UpdateNewCardSaid : Prop := Claim7.holds Tryz.pinned (.plain (OpenSpec.ofChange updateNewSpec)) updateNewCard

/-- THE SECOND FORM's CARD OF 'overseerlaw56.UpdateNew'. -/
def updateNewUptoCard : Claim7 := { stood := { row := updateNewUptoRow, standIns := [], harness := (true, "aa84a71a7ba66a7493b7918971ef736ce7e002c23109246aee4004edaa624c6d"), looks := false }, kinds := [], alts := [], laidByText := true, laidKinds := [.data, .data, .data], laidTests := true, laidLooks := .later }
def UpdateNewUptoCardSaid : Prop := Claim7.holds Tryz.pinned (.plain (OpenSpec.upto updateNewSpec)) updateNewUptoCard
end Rows
end Go.Proofs.YtleldcnoenokmaaGreatDoor
