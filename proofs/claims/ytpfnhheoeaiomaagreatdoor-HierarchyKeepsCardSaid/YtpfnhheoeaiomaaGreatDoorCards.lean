/-
  DERIVED. GIVEN WITH THE SEED: THE CARDS: each row of YtpfnhheoeaiomaaGreatDoorRows.lean that lists a variable, with what it lists TIED to the program's text (the seventh form; the later family's looks); each row that meets fmt, with fmt's text TOLD by the authors' own Lean function (tested against real Go, not proved from fmt's source: count such statements apart). THE CARD IS WHAT COUNTS. Prove the row's statement (the work); the ties are given (YtpfnhheoeaiomaaGreatDoorTie.lean); close each card by the builder's one call (the guide's Derived/Test/ToyasCard.lean, 'card_holds'). Laid BY PROGRAM, IN A SANDBOX (cutbox-door.mjs). By AI agents, Wed Nov 11 2026. No macro, syntax, notation, axiom, sorry.
-/
import Derived.Test.YtpfnhheoeaiomaaGreatDoorRows
import GoSem.ClaimSeven
namespace Go.Proofs.YtpfnhheoeaiomaaGreatDoor
namespace Rows

/-- THE TIED CARD OF 'overseerlaw36.HierarchyTests'. -/
def hierarchyTestsCard : Claim7 := { stood := { row := hierarchyTestsRow, standIns := [], harness := (true, "7e6c111e63cd6b879c1f82077465bee9620edb040a7287706e5c7dbd129b5c95"), looks := false }, kinds := [], alts := [], laidByText := true, laidKinds := [.data, .data, .data], laidTests := true, laidLooks := .later }
def HierarchyTestsCardSaid : Prop := Claim7.holds Tryz.pinned (.plain (OpenSpec.ofChange hierarchyTestsSpec)) hierarchyTestsCard

/-- THE TIED CARD OF 'overseerlaw36.HierarchySame'. -/
def hierarchySameCard : Claim7 := { stood := { row := hierarchySameRow, standIns := [], harness := (true, "7e6c111e63cd6b879c1f82077465bee9620edb040a7287706e5c7dbd129b5c95"), looks := false }, kinds := [], alts := [], laidByText := true, laidKinds := [.data, .data, .data], laidTests := true, laidLooks := .later }
def HierarchySameCardSaid : Prop := Claim7.holds Tryz.pinned (.plain (OpenSpec.ofChange hierarchySameSpec)) hierarchySameCard

/-- THE TIED CARD OF 'overseerlaw36.HierarchyAll'. -/
def hierarchyAllCard : Claim7 := { stood := { row := hierarchyAllRow, standIns := [], harness := (true, "7e6c111e63cd6b879c1f82077465bee9620edb040a7287706e5c7dbd129b5c95"), looks := false }, kinds := [], alts := [], laidByText := true, laidKinds := [.data, .data, .data], laidTests := true, laidLooks := .later }
def HierarchyAllCardSaid : Prop := Claim7.holds Tryz.pinned (.plain (OpenSpec.ofChange hierarchyAllSpec)) hierarchyAllCard

/-- THE TIED CARD OF 'overseerlaw36.HierarchyCompares'. -/
def hierarchyComparesCard : Claim7 := { stood := { row := hierarchyComparesRow, standIns := [], harness := (true, "7e6c111e63cd6b879c1f82077465bee9620edb040a7287706e5c7dbd129b5c95"), looks := false }, kinds := [], alts := [], laidByText := true, laidKinds := [.data, .data, .data], laidTests := true, laidLooks := .later }
def HierarchyComparesCardSaid : Prop := Claim7.holds Tryz.pinned (.plain (OpenSpec.ofChange hierarchyComparesSpec)) hierarchyComparesCard

/-- THE TIED CARD OF 'overseerlaw36.HierarchyKeeps'. -/
def hierarchyKeepsCard : Claim7 := { stood := { row := hierarchyKeepsRow, standIns := [], harness := (true, "7e6c111e63cd6b879c1f82077465bee9620edb040a7287706e5c7dbd129b5c95"), looks := false }, kinds := [], alts := [], laidByText := true, laidKinds := [.data, .data, .data], laidTests := true, laidLooks := .later }
def HierarchyKeepsCardSaid : Prop := Claim7.holds Tryz.pinned (.plain (OpenSpec.ofChange hierarchyKeepsSpec)) hierarchyKeepsCard

/-- THE TIED CARD OF 'overseerlaw36.HierarchyRefuses'. -/
def hierarchyRefusesCard : Claim7 := { stood := { row := hierarchyRefusesRow, standIns := [], harness := (true, "7e6c111e63cd6b879c1f82077465bee9620edb040a7287706e5c7dbd129b5c95"), looks := false }, kinds := [], alts := [], laidByText := true, laidKinds := [.data, .data, .data], laidTests := true, laidLooks := .later }
def HierarchyRefusesCardSaid : Prop := Claim7.holds Tryz.pinned (.plain (OpenSpec.ofChange hierarchyRefusesSpec)) hierarchyRefusesCard

/-- THE TIED CARD OF 'overseerlaw36.HierarchyAbstracts'. -/
def hierarchyAbstractsCard : Claim7 := { stood := { row := hierarchyAbstractsRow, standIns := [], harness := (true, "7e6c111e63cd6b879c1f82077465bee9620edb040a7287706e5c7dbd129b5c95"), looks := false }, kinds := [], alts := [], laidByText := true, laidKinds := [.data, .data, .data], laidTests := true, laidLooks := .later }
def HierarchyAbstractsCardSaid : Prop := Claim7.holds Tryz.pinned (.plain (OpenSpec.ofChange hierarchyAbstractsSpec)) hierarchyAbstractsCard

/-- THE SECOND FORM's CARD OF 'overseerlaw36.HierarchyTests'. -/
def hierarchyTestsUptoCard : Claim7 := { stood := { row := hierarchyTestsUptoRow, standIns := [], harness := (true, "7e6c111e63cd6b879c1f82077465bee9620edb040a7287706e5c7dbd129b5c95"), looks := false }, kinds := [], alts := [], laidByText := true, laidKinds := [.data, .data, .data], laidTests := true, laidLooks := .later }
def HierarchyTestsUptoCardSaid : Prop := Claim7.holds Tryz.pinned (.plain (OpenSpec.upto hierarchyTestsSpec)) hierarchyTestsUptoCard

/-- THE SECOND FORM's CARD OF 'overseerlaw36.HierarchySame'. -/
def hierarchySameUptoCard : Claim7 := { stood := { row := hierarchySameUptoRow, standIns := [], harness := (true, "7e6c111e63cd6b879c1f82077465bee9620edb040a7287706e5c7dbd129b5c95"), looks := false }, kinds := [], alts := [], laidByText := true, laidKinds := [.data, .data, .data], laidTests := true, laidLooks := .later }
def HierarchySameUptoCardSaid : Prop := Claim7.holds Tryz.pinned (.plain (OpenSpec.upto hierarchySameSpec)) hierarchySameUptoCard

/-- THE SECOND FORM's CARD OF 'overseerlaw36.HierarchyAll'. -/
def hierarchyAllUptoCard : Claim7 := { stood := { row := hierarchyAllUptoRow, standIns := [], harness := (true, "7e6c111e63cd6b879c1f82077465bee9620edb040a7287706e5c7dbd129b5c95"), looks := false }, kinds := [], alts := [], laidByText := true, laidKinds := [.data, .data, .data], laidTests := true, laidLooks := .later }
def HierarchyAllUptoCardSaid : Prop := Claim7.holds Tryz.pinned (.plain (OpenSpec.upto hierarchyAllSpec)) hierarchyAllUptoCard

/-- THE SECOND FORM's CARD OF 'overseerlaw36.HierarchyCompares'. -/
def hierarchyComparesUptoCard : Claim7 := { stood := { row := hierarchyComparesUptoRow, standIns := [], harness := (true, "7e6c111e63cd6b879c1f82077465bee9620edb040a7287706e5c7dbd129b5c95"), looks := false }, kinds := [], alts := [], laidByText := true, laidKinds := [.data, .data, .data], laidTests := true, laidLooks := .later }
def HierarchyComparesUptoCardSaid : Prop := Claim7.holds Tryz.pinned (.plain (OpenSpec.upto hierarchyComparesSpec)) hierarchyComparesUptoCard

/-- THE SECOND FORM's CARD OF 'overseerlaw36.HierarchyKeeps'. -/
def hierarchyKeepsUptoCard : Claim7 := { stood := { row := hierarchyKeepsUptoRow, standIns := [], harness := (true, "7e6c111e63cd6b879c1f82077465bee9620edb040a7287706e5c7dbd129b5c95"), looks := false }, kinds := [], alts := [], laidByText := true, laidKinds := [.data, .data, .data], laidTests := true, laidLooks := .later }
def HierarchyKeepsUptoCardSaid : Prop := Claim7.holds Tryz.pinned (.plain (OpenSpec.upto hierarchyKeepsSpec)) hierarchyKeepsUptoCard

/-- THE SECOND FORM's CARD OF 'overseerlaw36.HierarchyRefuses'. -/
def hierarchyRefusesUptoCard : Claim7 := { stood := { row := hierarchyRefusesUptoRow, standIns := [], harness := (true, "7e6c111e63cd6b879c1f82077465bee9620edb040a7287706e5c7dbd129b5c95"), looks := false }, kinds := [], alts := [], laidByText := true, laidKinds := [.data, .data, .data], laidTests := true, laidLooks := .later }
def HierarchyRefusesUptoCardSaid : Prop := Claim7.holds Tryz.pinned (.plain (OpenSpec.upto hierarchyRefusesSpec)) hierarchyRefusesUptoCard

/-- THE SECOND FORM's CARD OF 'overseerlaw36.HierarchyAbstracts'. -/
def hierarchyAbstractsUptoCard : Claim7 := { stood := { row := hierarchyAbstractsUptoRow, standIns := [], harness := (true, "7e6c111e63cd6b879c1f82077465bee9620edb040a7287706e5c7dbd129b5c95"), looks := false }, kinds := [], alts := [], laidByText := true, laidKinds := [.data, .data, .data], laidTests := true, laidLooks := .later }
def HierarchyAbstractsUptoCardSaid : Prop := Claim7.holds Tryz.pinned (.plain (OpenSpec.upto hierarchyAbstractsSpec)) hierarchyAbstractsUptoCard
end Rows
end Go.Proofs.YtpfnhheoeaiomaaGreatDoor
