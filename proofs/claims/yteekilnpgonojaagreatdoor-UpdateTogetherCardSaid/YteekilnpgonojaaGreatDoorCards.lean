/-
  DERIVED. GIVEN WITH THE SEED: THE CARDS: each row of YteekilnpgonojaaGreatDoorRows.lean that lists a variable, with what it lists TIED to the program's text (the seventh form; the later family's looks); each row that meets fmt, with fmt's text TOLD by the authors' own Lean function (tested against real Go, not proved from fmt's source: count such statements apart). THE CARD IS WHAT COUNTS. Prove the row's statement (the work); the ties are given (YteekilnpgonojaaGreatDoorTie.lean); close each card by the builder's one call (the guide's Derived/Test/ToyasCard.lean, 'card_holds'). Laid BY PROGRAM, IN A SANDBOX (cutbox-door.mjs). By AI agents, Wed Nov 11 2026. No macro, syntax, notation, axiom, sorry.
-/
import Derived.Test.YteekilnpgonojaaGreatDoorRows
import GoSem.ClaimSeven
namespace Go.Proofs.YteekilnpgonojaaGreatDoor
namespace Rows

/-- THE TIED CARD OF 'overseerlaw56.UpdateSpares'. -/
def updateSparesCard : Claim7 := { stood := { row := updateSparesRow, standIns := [], harness := (true, "2f54040c77bc06dd918a3bf4dde98a2bf5c7559f2e0a75d1941ed6a489a72ca6"), looks := false }, kinds := [], alts := [], laidByText := true, laidKinds := [.data, .data, .data], laidTests := true, laidLooks := .later }
def UpdateSparesCardSaid : Prop := Claim7.holds Tryz.pinned (.plain (OpenSpec.ofChange updateSparesSpec)) updateSparesCard

/-- THE TIED CARD OF 'overseerlaw56.UpdateUndoes'. -/
def updateUndoesCard : Claim7 := { stood := { row := updateUndoesRow, standIns := [], harness := (true, "2f54040c77bc06dd918a3bf4dde98a2bf5c7559f2e0a75d1941ed6a489a72ca6"), looks := false }, kinds := [], alts := [], laidByText := true, laidKinds := [.data, .data, .data], laidTests := true, laidLooks := .later }
def UpdateUndoesCardSaid : Prop := Claim7.holds Tryz.pinned (.plain (OpenSpec.ofChange updateUndoesSpec)) updateUndoesCard

/-- THE TIED CARD OF 'overseerlaw56.UpdateEdits'. -/
def updateEditsCard : Claim7 := { stood := { row := updateEditsRow, standIns := [], harness := (true, "2f54040c77bc06dd918a3bf4dde98a2bf5c7559f2e0a75d1941ed6a489a72ca6"), looks := false }, kinds := [], alts := [], laidByText := true, laidKinds := [.data, .data, .data], laidTests := true, laidLooks := .later }
def UpdateEditsCardSaid : Prop := Claim7.holds Tryz.pinned (.plain (OpenSpec.ofChange updateEditsSpec)) updateEditsCard

/-- THE TIED CARD OF 'overseerlaw56.UpdateTogether'. -/
def updateTogetherCard : Claim7 := { stood := { row := updateTogetherRow, standIns := [], harness := (true, "2f54040c77bc06dd918a3bf4dde98a2bf5c7559f2e0a75d1941ed6a489a72ca6"), looks := false }, kinds := [], alts := [], laidByText := true, laidKinds := [.data, .data, .data], laidTests := true, laidLooks := .later }
def UpdateTogetherCardSaid : Prop := Claim7.holds Tryz.pinned (.plain (OpenSpec.ofChange updateTogetherSpec)) updateTogetherCard

/-- THE TIED CARD OF 'overseerlaw56.UpdateNil'. -/
def updateNilCard : Claim7 := { stood := { row := updateNilRow, standIns := [], harness := (true, "2f54040c77bc06dd918a3bf4dde98a2bf5c7559f2e0a75d1941ed6a489a72ca6"), looks := false }, kinds := [], alts := [], laidByText := true, laidKinds := [.data, .data, .data], laidTests := true, laidLooks := .later }
def UpdateNilCardSaid : Prop := Claim7.holds Tryz.pinned (.plain (OpenSpec.ofChange updateNilSpec)) updateNilCard

/-- THE SECOND FORM's CARD OF 'overseerlaw56.UpdateSpares'. -/
def updateSparesUptoCard : Claim7 := { stood := { row := updateSparesUptoRow, standIns := [], harness := (true, "2f54040c77bc06dd918a3bf4dde98a2bf5c7559f2e0a75d1941ed6a489a72ca6"), looks := false }, kinds := [], alts := [], laidByText := true, laidKinds := [.data, .data, .data], laidTests := true, laidLooks := .later }
def UpdateSparesUptoCardSaid : Prop := Claim7.holds Tryz.pinned (.plain (OpenSpec.upto updateSparesSpec)) updateSparesUptoCard

/-- THE SECOND FORM's CARD OF 'overseerlaw56.UpdateUndoes'. -/
def updateUndoesUptoCard : Claim7 := { stood := { row := updateUndoesUptoRow, standIns := [], harness := (true, "2f54040c77bc06dd918a3bf4dde98a2bf5c7559f2e0a75d1941ed6a489a72ca6"), looks := false }, kinds := [], alts := [], laidByText := true, laidKinds := [.data, .data, .data], laidTests := true, laidLooks := .later }
def UpdateUndoesUptoCardSaid : Prop := Claim7.holds Tryz.pinned (.plain (OpenSpec.upto updateUndoesSpec)) updateUndoesUptoCard

/-- THE SECOND FORM's CARD OF 'overseerlaw56.UpdateEdits'. -/
def updateEditsUptoCard : Claim7 := { stood := { row := updateEditsUptoRow, standIns := [], harness := (true, "2f54040c77bc06dd918a3bf4dde98a2bf5c7559f2e0a75d1941ed6a489a72ca6"), looks := false }, kinds := [], alts := [], laidByText := true, laidKinds := [.data, .data, .data], laidTests := true, laidLooks := .later }
def UpdateEditsUptoCardSaid : Prop := Claim7.holds Tryz.pinned (.plain (OpenSpec.upto updateEditsSpec)) updateEditsUptoCard

/-- THE SECOND FORM's CARD OF 'overseerlaw56.UpdateTogether'. -/
def updateTogetherUptoCard : Claim7 := { stood := { row := updateTogetherUptoRow, standIns := [], harness := (true, "2f54040c77bc06dd918a3bf4dde98a2bf5c7559f2e0a75d1941ed6a489a72ca6"), looks := false }, kinds := [], alts := [], laidByText := true, laidKinds := [.data, .data, .data], laidTests := true, laidLooks := .later }
def UpdateTogetherUptoCardSaid : Prop := Claim7.holds Tryz.pinned (.plain (OpenSpec.upto updateTogetherSpec)) updateTogetherUptoCard

/-- THE SECOND FORM's CARD OF 'overseerlaw56.UpdateNil'. -/
def updateNilUptoCard : Claim7 := { stood := { row := updateNilUptoRow, standIns := [], harness := (true, "2f54040c77bc06dd918a3bf4dde98a2bf5c7559f2e0a75d1941ed6a489a72ca6"), looks := false }, kinds := [], alts := [], laidByText := true, laidKinds := [.data, .data, .data], laidTests := true, laidLooks := .later }
def UpdateNilUptoCardSaid : Prop := Claim7.holds Tryz.pinned (.plain (OpenSpec.upto updateNilSpec)) updateNilUptoCard
end Rows
end Go.Proofs.YteekilnpgonojaaGreatDoor
