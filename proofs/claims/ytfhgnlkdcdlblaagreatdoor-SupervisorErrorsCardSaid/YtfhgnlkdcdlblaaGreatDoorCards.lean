/-
  DERIVED. GIVEN WITH THE SEED: THE CARDS: each row of YtfhgnlkdcdlblaaGreatDoorRows.lean that lists a variable, with what it lists TIED to the program's text (the seventh form; the later family's looks); each row that meets fmt, with fmt's text TOLD by the authors' own Lean function (tested against real Go, not proved from fmt's source: count such statements apart). THE CARD IS WHAT COUNTS. Prove the row's statement (the work); the ties are given (YtfhgnlkdcdlblaaGreatDoorTie.lean); close each card by the builder's one call (the guide's Derived/Test/ToyasCard.lean, 'card_holds'). Laid BY PROGRAM, IN A SANDBOX (cutbox-door.mjs). By AI agents, Wed Nov 11 2026. No macro, syntax, notation, axiom, sorry.
-/
import Derived.Test.YtfhgnlkdcdlblaaGreatDoorRows
import GoSem.ClaimSeven
namespace Go.Proofs.YtfhgnlkdcdlblaaGreatDoor
namespace Rows

/-- THE TIED CARD OF 'overseerlaw30.SupervisorConforms'. -/
def supervisorConformsCard : Claim7 := { stood := { row := supervisorConformsRow, standIns := [], harness := (true, "3908dd87054a6a09a8bc69ae4e77bda2719c115b925563c5d0a76567a8d28279"), looks := false }, kinds := [], alts := [], laidByText := true, laidKinds := [.data, .data, .data], laidTests := true, laidLooks := .later }
def SupervisorConformsCardSaid : Prop := Claim7.holds Tryz.pinned (.plain (OpenSpec.ofChange supervisorConformsSpec)) supervisorConformsCard

/-- THE TIED CARD OF 'overseerlaw30.SupervisorErrors'. -/
def supervisorErrorsCard : Claim7 := { stood := { row := supervisorErrorsRow, standIns := [], harness := (true, "3908dd87054a6a09a8bc69ae4e77bda2719c115b925563c5d0a76567a8d28279"), looks := false }, kinds := [], alts := [], laidByText := true, laidKinds := [.data, .data, .data], laidTests := true, laidLooks := .later }
def SupervisorErrorsCardSaid : Prop := Claim7.holds Tryz.pinned (.plain (OpenSpec.ofChange supervisorErrorsSpec)) supervisorErrorsCard

/-- THE SECOND FORM's CARD OF 'overseerlaw30.SupervisorConforms'. -/
def supervisorConformsUptoCard : Claim7 := { stood := { row := supervisorConformsUptoRow, standIns := [], harness := (true, "3908dd87054a6a09a8bc69ae4e77bda2719c115b925563c5d0a76567a8d28279"), looks := false }, kinds := [], alts := [], laidByText := true, laidKinds := [.data, .data, .data], laidTests := true, laidLooks := .later }
def SupervisorConformsUptoCardSaid : Prop := Claim7.holds Tryz.pinned (.plain (OpenSpec.upto supervisorConformsSpec)) supervisorConformsUptoCard

/-- THE SECOND FORM's CARD OF 'overseerlaw30.SupervisorErrors'. -/
def supervisorErrorsUptoCard : Claim7 := { stood := { row := supervisorErrorsUptoRow, standIns := [], harness := (true, "3908dd87054a6a09a8bc69ae4e77bda2719c115b925563c5d0a76567a8d28279"), looks := false }, kinds := [], alts := [], laidByText := true, laidKinds := [.data, .data, .data], laidTests := true, laidLooks := .later }
def SupervisorErrorsUptoCardSaid : Prop := Claim7.holds Tryz.pinned (.plain (OpenSpec.upto supervisorErrorsSpec)) supervisorErrorsUptoCard
end Rows
end Go.Proofs.YtfhgnlkdcdlblaaGreatDoor
