/-
  DERIVED. GIVEN WITH THE SEED: THE CARDS: each row of YtgmifemhkjdblaaGreatDoorRows.lean that lists a variable, with what it lists TIED to the program's text (the seventh form; the later family's looks); each row that meets fmt, with fmt's text TOLD by the authors' own Lean function (tested against real Go, not proved from fmt's source: count such statements apart). THE CARD IS WHAT COUNTS. Prove the row's statement (the work); the ties are given (YtgmifemhkjdblaaGreatDoorTie.lean); close each card by the builder's one call (the guide's Derived/Test/ToyasCard.lean, 'card_holds'). Laid BY PROGRAM, IN A SANDBOX (cutbox-door.mjs). By AI agents, Wed Nov 11 2026. No macro, syntax, notation, axiom, sorry.
-/
import Derived.Test.YtgmifemhkjdblaaGreatDoorRows
import GoSem.ClaimSeven
namespace Go.Proofs.YtgmifemhkjdblaaGreatDoor
namespace Rows

/-- THE TIED CARD OF 'overseerlaw34.ModularPermits'. -/
def modularPermitsCard : Claim7 := { stood := { row := modularPermitsRow, standIns := [], harness := (true, "0b715f369de004747e3114ef5ba17c3732b891b7b2d38ace5528af3324c3d1c5"), looks := false }, kinds := [], alts := [], laidByText := true, laidKinds := [.data, .data, .data], laidTests := true, laidLooks := .later }
def ModularPermitsCardSaid : Prop := Claim7.holds Tryz.pinned (.plain (OpenSpec.ofChange modularPermitsSpec)) modularPermitsCard

/-- THE TIED CARD OF 'overseerlaw34.ModularBlocks'. -/
def modularBlocksCard : Claim7 := { stood := { row := modularBlocksRow, standIns := [], harness := (true, "0b715f369de004747e3114ef5ba17c3732b891b7b2d38ace5528af3324c3d1c5"), looks := false }, kinds := [], alts := [], laidByText := true, laidKinds := [.data, .data, .data], laidTests := true, laidLooks := .later }
def ModularBlocksCardSaid : Prop := Claim7.holds Tryz.pinned (.plain (OpenSpec.ofChange modularBlocksSpec)) modularBlocksCard

/-- THE TIED CARD OF 'overseerlaw34.ModularCoordinates'. -/
def modularCoordinatesCard : Claim7 := { stood := { row := modularCoordinatesRow, standIns := [], harness := (true, "0b715f369de004747e3114ef5ba17c3732b891b7b2d38ace5528af3324c3d1c5"), looks := false }, kinds := [], alts := [], laidByText := true, laidKinds := [.data, .data, .data], laidTests := true, laidLooks := .later }
def ModularCoordinatesCardSaid : Prop := Claim7.holds Tryz.pinned (.plain (OpenSpec.ofChange modularCoordinatesSpec)) modularCoordinatesCard

/-- THE TIED CARD OF 'overseerlaw34.ModularReports'. -/
def modularReportsCard : Claim7 := { stood := { row := modularReportsRow, standIns := [], harness := (true, "0b715f369de004747e3114ef5ba17c3732b891b7b2d38ace5528af3324c3d1c5"), looks := false }, kinds := [], alts := [], laidByText := true, laidKinds := [.data, .data, .data], laidTests := true, laidLooks := .later }
def ModularReportsCardSaid : Prop := Claim7.holds Tryz.pinned (.plain (OpenSpec.ofChange modularReportsSpec)) modularReportsCard

/-- THE TIED CARD OF 'overseerlaw34.ModularErrors'. -/
def modularErrorsCard : Claim7 := { stood := { row := modularErrorsRow, standIns := [], harness := (true, "0b715f369de004747e3114ef5ba17c3732b891b7b2d38ace5528af3324c3d1c5"), looks := false }, kinds := [], alts := [], laidByText := true, laidKinds := [.data, .data, .data], laidTests := true, laidLooks := .later }
def ModularErrorsCardSaid : Prop := Claim7.holds Tryz.pinned (.plain (OpenSpec.ofChange modularErrorsSpec)) modularErrorsCard

/-- THE TIED CARD OF 'overseerlaw34.ModularCompares'. -/
def modularComparesCard : Claim7 := { stood := { row := modularComparesRow, standIns := [], harness := (true, "0b715f369de004747e3114ef5ba17c3732b891b7b2d38ace5528af3324c3d1c5"), looks := false }, kinds := [], alts := [], laidByText := true, laidKinds := [.data, .data, .data], laidTests := true, laidLooks := .later }
def ModularComparesCardSaid : Prop := Claim7.holds Tryz.pinned (.plain (OpenSpec.ofChange modularComparesSpec)) modularComparesCard

/-- THE SECOND FORM's CARD OF 'overseerlaw34.ModularPermits'. -/
def modularPermitsUptoCard : Claim7 := { stood := { row := modularPermitsUptoRow, standIns := [], harness := (true, "0b715f369de004747e3114ef5ba17c3732b891b7b2d38ace5528af3324c3d1c5"), looks := false }, kinds := [], alts := [], laidByText := true, laidKinds := [.data, .data, .data], laidTests := true, laidLooks := .later }
def ModularPermitsUptoCardSaid : Prop := Claim7.holds Tryz.pinned (.plain (OpenSpec.upto modularPermitsSpec)) modularPermitsUptoCard

/-- THE SECOND FORM's CARD OF 'overseerlaw34.ModularBlocks'. -/
def modularBlocksUptoCard : Claim7 := { stood := { row := modularBlocksUptoRow, standIns := [], harness := (true, "0b715f369de004747e3114ef5ba17c3732b891b7b2d38ace5528af3324c3d1c5"), looks := false }, kinds := [], alts := [], laidByText := true, laidKinds := [.data, .data, .data], laidTests := true, laidLooks := .later }
def ModularBlocksUptoCardSaid : Prop := Claim7.holds Tryz.pinned (.plain (OpenSpec.upto modularBlocksSpec)) modularBlocksUptoCard

/-- THE SECOND FORM's CARD OF 'overseerlaw34.ModularCoordinates'. -/
def modularCoordinatesUptoCard : Claim7 := { stood := { row := modularCoordinatesUptoRow, standIns := [], harness := (true, "0b715f369de004747e3114ef5ba17c3732b891b7b2d38ace5528af3324c3d1c5"), looks := false }, kinds := [], alts := [], laidByText := true, laidKinds := [.data, .data, .data], laidTests := true, laidLooks := .later }
def ModularCoordinatesUptoCardSaid : Prop := Claim7.holds Tryz.pinned (.plain (OpenSpec.upto modularCoordinatesSpec)) modularCoordinatesUptoCard

/-- THE SECOND FORM's CARD OF 'overseerlaw34.ModularReports'. -/
def modularReportsUptoCard : Claim7 := { stood := { row := modularReportsUptoRow, standIns := [], harness := (true, "0b715f369de004747e3114ef5ba17c3732b891b7b2d38ace5528af3324c3d1c5"), looks := false }, kinds := [], alts := [], laidByText := true, laidKinds := [.data, .data, .data], laidTests := true, laidLooks := .later }
def ModularReportsUptoCardSaid : Prop := Claim7.holds Tryz.pinned (.plain (OpenSpec.upto modularReportsSpec)) modularReportsUptoCard

/-- THE SECOND FORM's CARD OF 'overseerlaw34.ModularErrors'. -/
def modularErrorsUptoCard : Claim7 := { stood := { row := modularErrorsUptoRow, standIns := [], harness := (true, "0b715f369de004747e3114ef5ba17c3732b891b7b2d38ace5528af3324c3d1c5"), looks := false }, kinds := [], alts := [], laidByText := true, laidKinds := [.data, .data, .data], laidTests := true, laidLooks := .later }
def ModularErrorsUptoCardSaid : Prop := Claim7.holds Tryz.pinned (.plain (OpenSpec.upto modularErrorsSpec)) modularErrorsUptoCard

/-- THE SECOND FORM's CARD OF 'overseerlaw34.ModularCompares'. -/
def modularComparesUptoCard : Claim7 := { stood := { row := modularComparesUptoRow, standIns := [], harness := (true, "0b715f369de004747e3114ef5ba17c3732b891b7b2d38ace5528af3324c3d1c5"), looks := false }, kinds := [], alts := [], laidByText := true, laidKinds := [.data, .data, .data], laidTests := true, laidLooks := .later }
def ModularComparesUptoCardSaid : Prop := Claim7.holds Tryz.pinned (.plain (OpenSpec.upto modularComparesSpec)) modularComparesUptoCard
end Rows
end Go.Proofs.YtgmifemhkjdblaaGreatDoor
