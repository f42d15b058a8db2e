/-
  DERIVED. GIVEN WITH THE SEED: THE CARDS: each row of YtjcgijbhaemldaaGreatDoorRows.lean that lists a variable, with what it lists TIED to the program's text (the seventh form; the later family's looks); each row that meets fmt, with fmt's text TOLD by the authors' own Lean function (tested against real Go, not proved from fmt's source: count such statements apart). THE CARD IS WHAT COUNTS. Prove the row's statement (the work); the ties are given (YtjcgijbhaemldaaGreatDoorTie.lean); close each card by the builder's one call (the guide's Derived/Test/ToyasCard.lean, 'card_holds'). Laid BY PROGRAM, IN A SANDBOX (cutbox-door.mjs). By AI agents, Wed Nov 11 2026. No macro, syntax, notation, axiom, sorry.
-/
import Derived.Test.YtjcgijbhaemldaaGreatDoorRows
import GoSem.ClaimSeven
namespace Go.Proofs.YtjcgijbhaemldaaGreatDoor
namespace Rows

/-- THE TIED CARD OF 'overseerlaw34.ModularEqual'. -/
def modularEqualCard : Claim7 := { stood := { row := modularEqualRow, standIns := [], harness := (true, "0087da35e19dff2b1c72cbf1a82bebf57530b191c9b8d180c93c2df9ec22b342"), looks := false }, kinds := [], alts := [], laidByText := true, laidKinds := [.data, .data, .data], laidTests := true, laidLooks := .later }
def ModularEqualCardSaid : Prop := Claim7.holds Tryz.pinned (.plain (OpenSpec.ofChange modularEqualSpec)) modularEqualCard

/-- THE TIED CARD OF 'overseerlaw34.ModularWhole'. -/
def modularWholeCard : Claim7 := { stood := { row := modularWholeRow, standIns := [], harness := (true, "0087da35e19dff2b1c72cbf1a82bebf57530b191c9b8d180c93c2df9ec22b342"), looks := false }, kinds := [], alts := [], laidByText := true, laidKinds := [.data, .data, .data], laidTests := true, laidLooks := .later }
def ModularWholeCardSaid : Prop := Claim7.holds Tryz.pinned (.plain (OpenSpec.ofChange modularWholeSpec)) modularWholeCard

/-- THE TIED CARD OF 'overseerlaw34.ModularReports'. -/
def modularReportsCard : Claim7 := { stood := { row := modularReportsRow, standIns := [], harness := (true, "0087da35e19dff2b1c72cbf1a82bebf57530b191c9b8d180c93c2df9ec22b342"), looks := false }, kinds := [], alts := [], laidByText := true, laidKinds := [.data, .data, .data], laidTests := true, laidLooks := .later }
def ModularReportsCardSaid : Prop := Claim7.holds Tryz.pinned (.plain (OpenSpec.ofChange modularReportsSpec)) modularReportsCard

/-- THE TIED CARD OF 'overseerlaw34.ModularErrors'. -/
def modularErrorsCard : Claim7 := { stood := { row := modularErrorsRow, standIns := [], harness := (true, "0087da35e19dff2b1c72cbf1a82bebf57530b191c9b8d180c93c2df9ec22b342"), looks := false }, kinds := [], alts := [], laidByText := true, laidKinds := [.data, .data, .data], laidTests := true, laidLooks := .later }
def ModularErrorsCardSaid : Prop := Claim7.holds Tryz.pinned (.plain (OpenSpec.ofChange modularErrorsSpec)) modularErrorsCard

/-- THE TIED CARD OF 'overseerlaw34.ModularCompares'. -/
def modularComparesCard : Claim7 := { stood := { row := modularComparesRow, standIns := [], harness := (true, "0087da35e19dff2b1c72cbf1a82bebf57530b191c9b8d180c93c2df9ec22b342"), looks := false }, kinds := [], alts := [], laidByText := true, laidKinds := [.data, .data, .data], laidTests := true, laidLooks := .later }
def ModularComparesCardSaid : Prop := Claim7.holds Tryz.pinned (.plain (OpenSpec.ofChange modularComparesSpec)) modularComparesCard

/-- THE SECOND FORM's CARD OF 'overseerlaw34.ModularEqual'. -/
def modularEqualUptoCard : Claim7 := { stood := { row := modularEqualUptoRow, standIns := [], harness := (true, "0087da35e19dff2b1c72cbf1a82bebf57530b191c9b8d180c93c2df9ec22b342"), looks := false }, kinds := [], alts := [], laidByText := true, laidKinds := [.data, .data, .data], laidTests := true, laidLooks := .later }
def ModularEqualUptoCardSaid : Prop := Claim7.holds Tryz.pinned (.plain (OpenSpec.upto modularEqualSpec)) modularEqualUptoCard

/-- THE SECOND FORM's CARD OF 'overseerlaw34.ModularWhole'. -/
def modularWholeUptoCard : Claim7 := { stood := { row := modularWholeUptoRow, standIns := [], harness := (true, "0087da35e19dff2b1c72cbf1a82bebf57530b191c9b8d180c93c2df9ec22b342"), looks := false }, kinds := [], alts := [], laidByText := true, laidKinds := [.data, .data, .data], laidTests := true, laidLooks := .later }
def ModularWholeUptoCardSaid : Prop := Claim7.holds Tryz.pinned (.plain (OpenSpec.upto modularWholeSpec)) modularWholeUptoCard

/-- THE SECOND FORM's CARD OF 'overseerlaw34.ModularReports'. -/
def modularReportsUptoCard : Claim7 := { stood := { row := modularReportsUptoRow, standIns := [], harness := (true, "0087da35e19dff2b1c72cbf1a82bebf57530b191c9b8d180c93c2df9ec22b342"), looks := false }, kinds := [], alts := [], laidByText := true, laidKinds := [.data, .data, .data], laidTests := true, laidLooks := .later }
def ModularReportsUptoCardSaid : Prop := Claim7.holds Tryz.pinned (.plain (OpenSpec.upto modularReportsSpec)) modularReportsUptoCard

/-- THE SECOND FORM's CARD OF 'overseerlaw34.ModularErrors'. -/
def modularErrorsUptoCard : Claim7 := { stood := { row := modularErrorsUptoRow, standIns := [], harness := (true, "0087da35e19dff2b1c72cbf1a82bebf57530b191c9b8d180c93c2df9ec22b342"), looks := false }, kinds := [], alts := [], laidByText := true, laidKinds := [.data, .data, .data], laidTests := true, laidLooks := .later }
def ModularErrorsUptoCardSaid : Prop := Claim7.holds Tryz.pinned (.plain (OpenSpec.upto modularErrorsSpec)) modularErrorsUptoCard

/-- THE SECOND FORM's CARD OF 'overseerlaw34.ModularCompares'. -/
def modularComparesUptoCard : Claim7 := { stood := { row := modularComparesUptoRow, standIns := [], harness := (true, "0087da35e19dff2b1c72cbf1a82bebf57530b191c9b8d180c93c2df9ec22b342"), looks := false }, kinds := [], alts := [], laidByText := true, laidKinds := [.data, .data, .data], laidTests := true, laidLooks := .later }
def ModularComparesUptoCardSaid : Prop := Claim7.holds Tryz.pinned (.plain (OpenSpec.upto modularComparesSpec)) modularComparesUptoCard
end Rows
end Go.Proofs.YtjcgijbhaemldaaGreatDoor
