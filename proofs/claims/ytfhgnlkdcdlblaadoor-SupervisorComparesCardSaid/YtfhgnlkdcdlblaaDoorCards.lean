/-
  DERIVED. GIVEN WITH THE SEED: THE CARDS: each row of YtfhgnlkdcdlblaaDoorRows.lean that lists a variable, with what it lists TIED to the program's text (the seventh form; the later family's looks); each row that meets fmt, with fmt's text TOLD by the authors' own Lean function (tested against real Go, not proved from fmt's source: count such statements apart). THE CARD IS WHAT COUNTS. Prove the row's statement (the work); the ties are given (YtfhgnlkdcdlblaaDoorTie.lean); close each card by the builder's one call (the guide's Derived/Test/ToyasCard.lean, 'card_holds'). Laid BY PROGRAM, IN A SANDBOX (cutbox-door.mjs). By AI agents, Wed Nov 11 2026. No macro, syntax, notation, axiom, sorry.
-/
import Derived.Test.YtfhgnlkdcdlblaaDoorRows
import GoSem.ClaimSeven
namespace Go.Proofs.YtfhgnlkdcdlblaaDoor
namespace Rows

/-- THE TIED CARD OF 'overseerlaw30.SupervisorReduces'. -/
def supervisorReducesCard : Claim7 := { stood := { row := supervisorReducesRow, standIns := [], harness := (true, "3dfebf28e8da3e9e2267c9c15379e57bd614cb44eba0049038ba477408d0f9d0"), looks := false }, kinds := [], alts := [], laidByText := true, laidKinds := [.data, .data, .data], laidTests := true, laidLooks := .later }
def SupervisorReducesCardSaid : Prop := Claim7.holds Tryd.pinned (.plain (OpenSpec.ofChange supervisorReducesSpec)) supervisorReducesCard

/-- THE TIED CARD OF 'overseerlaw30.SupervisorMaps'. -/
def supervisorMapsCard : Claim7 := { stood := { row := supervisorMapsRow, standIns := [], harness := (true, "3dfebf28e8da3e9e2267c9c15379e57bd614cb44eba0049038ba477408d0f9d0"), looks := false }, kinds := [], alts := [], laidByText := true, laidKinds := [.data, .data, .data], laidTests := true, laidLooks := .later }
def SupervisorMapsCardSaid : Prop := Claim7.holds Tryd.pinned (.plain (OpenSpec.ofChange supervisorMapsSpec)) supervisorMapsCard

/-- THE TIED CARD OF 'overseerlaw30.SupervisorConsistent'. -/
def supervisorConsistentCard : Claim7 := { stood := { row := supervisorConsistentRow, standIns := [], harness := (true, "3dfebf28e8da3e9e2267c9c15379e57bd614cb44eba0049038ba477408d0f9d0"), looks := false }, kinds := [], alts := [], laidByText := true, laidKinds := [.data, .data, .data], laidTests := true, laidLooks := .later }
def SupervisorConsistentCardSaid : Prop := Claim7.holds Tryd.pinned (.plain (OpenSpec.ofChange supervisorConsistentSpec)) supervisorConsistentCard

/-- THE TIED CARD OF 'overseerlaw30.SupervisorKeeps'. -/
def supervisorKeepsCard : Claim7 := { stood := { row := supervisorKeepsRow, standIns := [], harness := (true, "3dfebf28e8da3e9e2267c9c15379e57bd614cb44eba0049038ba477408d0f9d0"), looks := false }, kinds := [], alts := [], laidByText := true, laidKinds := [.data, .data, .data], laidTests := true, laidLooks := .later }
def SupervisorKeepsCardSaid : Prop := Claim7.holds Tryd.pinned (.plain (OpenSpec.ofChange supervisorKeepsSpec)) supervisorKeepsCard

/-- THE TIED CARD OF 'overseerlaw30.SupervisorAfter'. -/
def supervisorAfterCard : Claim7 := { stood := { row := supervisorAfterRow, standIns := [], harness := (true, "3dfebf28e8da3e9e2267c9c15379e57bd614cb44eba0049038ba477408d0f9d0"), looks := false }, kinds := [], alts := [], laidByText := true, laidKinds := [.data, .data, .data], laidTests := true, laidLooks := .later }
def SupervisorAfterCardSaid : Prop := Claim7.holds Tryd.pinned (.plain (OpenSpec.ofChange supervisorAfterSpec)) supervisorAfterCard

/-- THE TIED CARD OF 'overseerlaw30.SupervisorCompares'. -/
def supervisorComparesCard : Claim7 := { stood := { row := supervisorComparesRow, standIns := [], harness := (true, "3dfebf28e8da3e9e2267c9c15379e57bd614cb44eba0049038ba477408d0f9d0"), looks := false }, kinds := [], alts := [], laidByText := true, laidKinds := [.data, .data, .data], laidTests := true, laidLooks := .later }
def SupervisorComparesCardSaid : Prop := Claim7.holds Tryd.pinned (.plain (OpenSpec.ofChange supervisorComparesSpec)) supervisorComparesCard

/-- THE SECOND FORM's CARD OF 'overseerlaw30.SupervisorReduces'. -/
def supervisorReducesUptoCard : Claim7 := { stood := { row := supervisorReducesUptoRow, standIns := [], harness := (true, "3dfebf28e8da3e9e2267c9c15379e57bd614cb44eba0049038ba477408d0f9d0"), looks := false }, kinds := [], alts := [], laidByText := true, laidKinds := [.data, .data, .data], laidTests := true, laidLooks := .later }
def SupervisorReducesUptoCardSaid : Prop := Claim7.holds Tryd.pinned (.plain (OpenSpec.upto supervisorReducesSpec)) supervisorReducesUptoCard

/-- THE SECOND FORM's CARD OF 'overseerlaw30.SupervisorMaps'. -/
def supervisorMapsUptoCard : Claim7 := { stood := { row := supervisorMapsUptoRow, standIns := [], harness := (true, "3dfebf28e8da3e9e2267c9c15379e57bd614cb44eba0049038ba477408d0f9d0"), looks := false }, kinds := [], alts := [], laidByText := true, laidKinds := [.data, .data, .data], laidTests := true, laidLooks := .later }
def SupervisorMapsUptoCardSaid : Prop := Claim7.holds Tryd.pinned (.plain (OpenSpec.upto supervisorMapsSpec)) supervisorMapsUptoCard

/-- THE SECOND FORM's CARD OF 'overseerlaw30.SupervisorConsistent'. -/
def supervisorConsistentUptoCard : Claim7 := { stood := { row := supervisorConsistentUptoRow, standIns := [], harness := (true, "3dfebf28e8da3e9e2267c9c15379e57bd614cb44eba0049038ba477408d0f9d0"), looks := false }, kinds := [], alts := [], laidByText := true, laidKinds := [.data, .data, .data], laidTests := true, laidLooks := .later }
def SupervisorConsistentUptoCardSaid : Prop := Claim7.holds Tryd.pinned (.plain (OpenSpec.upto supervisorConsistentSpec)) supervisorConsistentUptoCard

/-- THE SECOND FORM's CARD OF 'overseerlaw30.SupervisorKeeps'. -/
def supervisorKeepsUptoCard : Claim7 := { stood := { row := supervisorKeepsUptoRow, standIns := [], harness := (true, "3dfebf28e8da3e9e2267c9c15379e57bd614cb44eba0049038ba477408d0f9d0"), looks := false }, kinds := [], alts := [], laidByText := true, laidKinds := [.data, .data, .data], laidTests := true, laidLooks := .later }
def SupervisorKeepsUptoCardSaid : Prop := Claim7.holds Tryd.pinned (.plain (OpenSpec.upto supervisorKeepsSpec)) supervisorKeepsUptoCard

/-- THE SECOND FORM's CARD OF 'overseerlaw30.SupervisorAfter'. -/
def supervisorAfterUptoCard : Claim7 := { stood := { row := supervisorAfterUptoRow, standIns := [], harness := (true, "3dfebf28e8da3e9e2267c9c15379e57bd614cb44eba0049038ba477408d0f9d0"), looks := false }, kinds := [], alts := [], laidByText := true, laidKinds := [.data, .data, .data], laidTests := true, laidLooks := .later }
def SupervisorAfterUptoCardSaid : Prop := Claim7.holds Tryd.pinned (.plain (OpenSpec.upto supervisorAfterSpec)) supervisorAfterUptoCard

/-- THE SECOND FORM's CARD OF 'overseerlaw30.SupervisorCompares'. -/
def supervisorComparesUptoCard : Claim7 := { stood := { row := supervisorComparesUptoRow, standIns := [], harness := (true, "3dfebf28e8da3e9e2267c9c15379e57bd614cb44eba0049038ba477408d0f9d0"), looks := false }, kinds := [], alts := [], laidByText := true, laidKinds := [.data, .data, .data], laidTests := true, laidLooks := .later }
def SupervisorComparesUptoCardSaid : Prop := Claim7.holds Tryd.pinned (.plain (OpenSpec.upto supervisorComparesSpec)) supervisorComparesUptoCard
end Rows
end Go.Proofs.YtfhgnlkdcdlblaaDoor
