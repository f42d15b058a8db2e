/-
  DERIVED. GIVEN WITH THE SEED: THE CARDS: each row of YtdffckgdcegpaaaGreatDoorRows.lean that lists a variable, with what it lists TIED to the program's text (the seventh form; the later family's looks); each row that meets fmt, with fmt's text TOLD by the authors' own Lean function (tested against real Go, not proved from fmt's source: count such statements apart). THE CARD IS WHAT COUNTS. Prove the row's statement (the work); the ties are given (YtdffckgdcegpaaaGreatDoorTie.lean); close each card by the builder's one call (the guide's Derived/Test/ToyasCard.lean, 'card_holds'). Laid BY PROGRAM, IN A SANDBOX (cutbox-door.mjs). By AI agents, Wed Nov 11 2026. No macro, syntax, notation, axiom, sorry.
-/
import Derived.Test.YtdffckgdcegpaaaGreatDoorRows
import GoSem.ClaimSeven
namespace Go.Proofs.YtdffckgdcegpaaaGreatDoor
namespace Rows

/-- THE TIED CARD OF 'overseerlaw32.ModuleChecks'. -/
def moduleChecksCard : Claim7 := { stood := { row := moduleChecksRow, standIns := [], harness := (true, "7f1d7774d707b6ca2907d0280b916f7dc62d5f843e98687e905a54f8355f1b07"), looks := false }, kinds := [], alts := [], laidByText := true, laidKinds := [.data, .data, .data], laidTests := true, laidLooks := .later }
def ModuleChecksCardSaid : Prop := Claim7.holds Tryz.pinned (.plain (OpenSpec.ofChange moduleChecksSpec)) moduleChecksCard

/-- THE TIED CARD OF 'overseerlaw32.ModuleShared'. -/
def moduleSharedCard : Claim7 := { stood := { row := moduleSharedRow, standIns := [], harness := (true, "7f1d7774d707b6ca2907d0280b916f7dc62d5f843e98687e905a54f8355f1b07"), looks := false }, kinds := [], alts := [], laidByText := true, laidKinds := [.data, .data, .data], laidTests := true, laidLooks := .later }
def ModuleSharedCardSaid : Prop := Claim7.holds Tryz.pinned (.plain (OpenSpec.ofChange moduleSharedSpec)) moduleSharedCard

/-- THE TIED CARD OF 'overseerlaw32.ModuleTogether'. -/
def moduleTogetherCard : Claim7 := { stood := { row := moduleTogetherRow, standIns := [], harness := (true, "7f1d7774d707b6ca2907d0280b916f7dc62d5f843e98687e905a54f8355f1b07"), looks := false }, kinds := [], alts := [], laidByText := true, laidKinds := [.data, .data, .data], laidTests := true, laidLooks := .later }
def ModuleTogetherCardSaid : Prop := Claim7.holds Tryz.pinned (.plain (OpenSpec.ofChange moduleTogetherSpec)) moduleTogetherCard

/-- THE TIED CARD OF 'overseerlaw32.ModuleSafe'. -/
def moduleSafeCard : Claim7 := { stood := { row := moduleSafeRow, standIns := [], harness := (true, "7f1d7774d707b6ca2907d0280b916f7dc62d5f843e98687e905a54f8355f1b07"), looks := false }, kinds := [], alts := [], laidByText := true, laidKinds := [.data, .data, .data], laidTests := true, laidLooks := .later }
def ModuleSafeCardSaid : Prop := Claim7.holds Tryz.pinned (.plain (OpenSpec.ofChange moduleSafeSpec)) moduleSafeCard

/-- THE TIED CARD OF 'overseerlaw32.ModuleWhole'. -/
def moduleWholeCard : Claim7 := { stood := { row := moduleWholeRow, standIns := [], harness := (true, "7f1d7774d707b6ca2907d0280b916f7dc62d5f843e98687e905a54f8355f1b07"), looks := false }, kinds := [], alts := [], laidByText := true, laidKinds := [.data, .data, .data], laidTests := true, laidLooks := .later }
def ModuleWholeCardSaid : Prop := Claim7.holds Tryz.pinned (.plain (OpenSpec.ofChange moduleWholeSpec)) moduleWholeCard

/-- THE TIED CARD OF 'overseerlaw32.ModuleCells'. -/
def moduleCellsCard : Claim7 := { stood := { row := moduleCellsRow, standIns := [], harness := (true, "7f1d7774d707b6ca2907d0280b916f7dc62d5f843e98687e905a54f8355f1b07"), looks := false }, kinds := [], alts := [], laidByText := true, laidKinds := [.data, .data, .data], laidTests := true, laidLooks := .later }
def ModuleCellsCardSaid : Prop := Claim7.holds Tryz.pinned (.plain (OpenSpec.ofChange moduleCellsSpec)) moduleCellsCard

/-- THE TIED CARD OF 'overseerlaw32.ModuleRefuses'. -/
def moduleRefusesCard : Claim7 := { stood := { row := moduleRefusesRow, standIns := [], harness := (true, "7f1d7774d707b6ca2907d0280b916f7dc62d5f843e98687e905a54f8355f1b07"), looks := false }, kinds := [], alts := [], laidByText := true, laidKinds := [.data, .data, .data], laidTests := true, laidLooks := .later }
def ModuleRefusesCardSaid : Prop := Claim7.holds Tryz.pinned (.plain (OpenSpec.ofChange moduleRefusesSpec)) moduleRefusesCard

/-- THE TIED CARD OF 'overseerlaw32.ModuleLists'. -/
def moduleListsCard : Claim7 := { stood := { row := moduleListsRow, standIns := [], harness := (true, "7f1d7774d707b6ca2907d0280b916f7dc62d5f843e98687e905a54f8355f1b07"), looks := false }, kinds := [], alts := [], laidByText := true, laidKinds := [.data, .data, .data], laidTests := true, laidLooks := .later }
def ModuleListsCardSaid : Prop := Claim7.holds Tryz.pinned (.plain (OpenSpec.ofChange moduleListsSpec)) moduleListsCard

/-- THE TIED CARD OF 'overseerlaw30.SupervisorCells'. -/
def supervisorCellsCard : Claim7 := { stood := { row := supervisorCellsRow, standIns := [], harness := (true, "7f1d7774d707b6ca2907d0280b916f7dc62d5f843e98687e905a54f8355f1b07"), looks := false }, kinds := [], alts := [], laidByText := true, laidKinds := [.data, .data, .data], laidTests := true, laidLooks := .later }
def SupervisorCellsCardSaid : Prop := Claim7.holds Tryz.pinned (.plain (OpenSpec.ofChange supervisorCellsSpec)) supervisorCellsCard

/-- THE SECOND FORM's CARD OF 'overseerlaw32.ModuleChecks'. -/
def moduleChecksUptoCard : Claim7 := { stood := { row := moduleChecksUptoRow, standIns := [], harness := (true, "7f1d7774d707b6ca2907d0280b916f7dc62d5f843e98687e905a54f8355f1b07"), looks := false }, kinds := [], alts := [], laidByText := true, laidKinds := [.data, .data, .data], laidTests := true, laidLooks := .later }
def ModuleChecksUptoCardSaid : Prop := Claim7.holds Tryz.pinned (.plain (OpenSpec.upto moduleChecksSpec)) moduleChecksUptoCard

/-- THE SECOND FORM's CARD OF 'overseerlaw32.ModuleShared'. -/
def moduleSharedUptoCard : Claim7 := { stood := { row := moduleSharedUptoRow, standIns := [], harness := (true, "7f1d7774d707b6ca2907d0280b916f7dc62d5f843e98687e905a54f8355f1b07"), looks := false }, kinds := [], alts := [], laidByText := true, laidKinds := [.data, .data, .data], laidTests := true, laidLooks := .later }
def ModuleSharedUptoCardSaid : Prop := Claim7.holds Tryz.pinned (.plain (OpenSpec.upto moduleSharedSpec)) moduleSharedUptoCard

/-- THE SECOND FORM's CARD OF 'overseerlaw32.ModuleTogether'. -/
def moduleTogetherUptoCard : Claim7 := { stood := { row := moduleTogetherUptoRow, standIns := [], harness := (true, "7f1d7774d707b6ca2907d0280b916f7dc62d5f843e98687e905a54f8355f1b07"), looks := false }, kinds := [], alts := [], laidByText := true, laidKinds := [.data, .data, .data], laidTests := true, laidLooks := .later }
def ModuleTogetherUptoCardSaid : Prop := Claim7.holds Tryz.pinned (.plain (OpenSpec.upto moduleTogetherSpec)) moduleTogetherUptoCard

/-- THE SECOND FORM's CARD OF 'overseerlaw32.ModuleSafe'. -/
def moduleSafeUptoCard : Claim7 := { stood := { row := moduleSafeUptoRow, standIns := [], harness := (true, "7f1d7774d707b6ca2907d0280b916f7dc62d5f843e98687e905a54f8355f1b07"), looks := false }, kinds := [], alts := [], laidByText := true, laidKinds := [.data, .data, .data], laidTests := true, laidLooks := .later }
def ModuleSafeUptoCardSaid : Prop := Claim7.holds Tryz.pinned (.plain (OpenSpec.upto moduleSafeSpec)) moduleSafeUptoCard

/-- THE SECOND FORM's CARD OF 'overseerlaw32.ModuleWhole'. -/
def moduleWholeUptoCard : Claim7 := { stood := { row := moduleWholeUptoRow, standIns := [], harness := (true, "7f1d7774d707b6ca2907d0280b916f7dc62d5f843e98687e905a54f8355f1b07"), looks := false }, kinds := [], alts := [], laidByText := true, laidKinds := [.data, .data, .data], laidTests := true, laidLooks := .later }
def ModuleWholeUptoCardSaid : Prop := Claim7.holds Tryz.pinned (.plain (OpenSpec.upto moduleWholeSpec)) moduleWholeUptoCard

/-- THE SECOND FORM's CARD OF 'overseerlaw32.ModuleCells'. -/
def moduleCellsUptoCard : Claim7 := { stood := { row := moduleCellsUptoRow, standIns := [], harness := (true, "7f1d7774d707b6ca2907d0280b916f7dc62d5f843e98687e905a54f8355f1b07"), looks := false }, kinds := [], alts := [], laidByText := true, laidKinds := [.data, .data, .data], laidTests := true, laidLooks := .later }
def ModuleCellsUptoCardSaid : Prop := Claim7.holds Tryz.pinned (.plain (OpenSpec.upto moduleCellsSpec)) moduleCellsUptoCard

/-- THE SECOND FORM's CARD OF 'overseerlaw32.ModuleRefuses'. -/
def moduleRefusesUptoCard : Claim7 := { stood := { row := moduleRefusesUptoRow, standIns := [], harness := (true, "7f1d7774d707b6ca2907d0280b916f7dc62d5f843e98687e905a54f8355f1b07"), looks := false }, kinds := [], alts := [], laidByText := true, laidKinds := [.data, .data, .data], laidTests := true, laidLooks := .later }
def ModuleRefusesUptoCardSaid : Prop := Claim7.holds Tryz.pinned (.plain (OpenSpec.upto moduleRefusesSpec)) moduleRefusesUptoCard

/-- THE SECOND FORM's CARD OF 'overseerlaw32.ModuleLists'. -/
def moduleListsUptoCard : Claim7 := { stood := { row := moduleListsUptoRow, standIns := [], harness := (true, "7f1d7774d707b6ca2907d0280b916f7dc62d5f843e98687e905a54f8355f1b07"), looks := false }, kinds := [], alts := [], laidByText := true, laidKinds := [.data, .data, .data], laidTests := true, laidLooks := .later }
def ModuleListsUptoCardSaid : Prop := Claim7.holds Tryz.pinned (.plain (OpenSpec.upto moduleListsSpec)) moduleListsUptoCard

/-- THE SECOND FORM's CARD OF 'overseerlaw30.SupervisorCells'. -/
def supervisorCellsUptoCard : Claim7 := { stood := { row := supervisorCellsUptoRow, standIns := [], harness := (true, "7f1d7774d707b6ca2907d0280b916f7dc62d5f843e98687e905a54f8355f1b07"), looks := false }, kinds := [], alts := [], laidByText := true, laidKinds := [.data, .data, .data], laidTests := true, laidLooks := .later }
def SupervisorCellsUptoCardSaid : Prop := Claim7.holds Tryz.pinned (.plain (OpenSpec.upto supervisorCellsSpec)) supervisorCellsUptoCard
end Rows
end Go.Proofs.YtdffckgdcegpaaaGreatDoor
