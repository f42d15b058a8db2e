/-
  NARROWER THAN 'FOR EVERY INPUT', by the rows' own cells (each row's printed sentence says how): ModuleChecks: laid · ModuleShared: laid · ModuleTogether: laid · ModuleSafe: laid · ModuleWhole: laid · ModuleCells: laid · ModuleRefuses: laid · ModuleLists: laid · SupervisorCells: laid.
  DERIVED. THE GIVEN ROWS OF THIS SEAT. 9 by the template 'for every input the law returns true; each argument reads behind the call as it read before'; 0 by the template 'total and deterministic' (their statements: YtdffckgdcegpaaaGreatDoorTotals.lean).
  GIVEN WITH THE SEED: the statements are not yours to turn. If you find one false, say at which input.
  Laid BY PROGRAM, IN A SANDBOX (cutbox-rows.mjs): the forced cells as the released guide's own fill.sh prints them over the translation 3886a40e9c1e5f90… (all of the seat's roots in one cut). By AI agents, Wed Nov 11 2026. No macro, syntax, notation, axiom, sorry.
-/
import Derived.Test.YtdffckgdcegpaaaGreatDoorChecked
import GoSem.Claim
import GoSem.ClaimJoined
import GoSem.ClaimMapViews
import Derived.JoinedTies
import Derived.KernelRfl
namespace Go.Proofs.YtdffckgdcegpaaaGreatDoor
/- THE CELL 'sum', in the pinned program and in every row, IS THE sha256 OF THE DUMP (.gsa) THAT YtdffckgdcegpaaaGreatDoorProg.lean LOADS. Nothing in Lean hashes anything: it is a label: what it is worth is what the hold of that sum in a sandbox is worth. -/
noncomputable def Tryz.pinned : Pinned := { name := "ytdffckgdcegpaaagreatdoor", sum := "3886a40e9c1e5f907e32c5be93322f1861d4b4d13556793fc9375377fd60849e", checked := Tryz.checked }
namespace Rows
def none {H : Type} : Left H := { results := [], args := [] }

/- WHAT THE LISTED PACKAGE-LEVEL VARIABLES READ AS WHEN THE CALL BEGINS. Each datum BY PROGRAM (the guide's laid-datum.mjs) off the statement by which the dump's own 'gosem.cut.vars' lays the variable. In a bare row this is a premise. The card (YtdffckgdcegpaaaGreatDoorCards.lean) ties it to the program's text. -/
def laid_math_bits_deBruijn32tab {H : Type} : DataW H := .agg [.lit (.int .u8 0), .lit (.int .u8 1), .lit (.int .u8 28), .lit (.int .u8 2), .lit (.int .u8 29), .lit (.int .u8 14), .lit (.int .u8 24), .lit (.int .u8 3), .lit (.int .u8 30), .lit (.int .u8 22), .lit (.int .u8 20), .lit (.int .u8 15), .lit (.int .u8 25), .lit (.int .u8 17), .lit (.int .u8 4), .lit (.int .u8 8), .lit (.int .u8 31), .lit (.int .u8 27), .lit (.int .u8 13), .lit (.int .u8 23), .lit (.int .u8 21), .lit (.int .u8 19), .lit (.int .u8 16), .lit (.int .u8 7), .lit (.int .u8 26), .lit (.int .u8 12), .lit (.int .u8 18), .lit (.int .u8 6), .lit (.int .u8 11), .lit (.int .u8 5), .lit (.int .u8 10), .lit (.int .u8 9)]
def laid_math_bits_deBruijn64tab {H : Type} : DataW H := .agg [.lit (.int .u8 0), .lit (.int .u8 1), .lit (.int .u8 56), .lit (.int .u8 2), .lit (.int .u8 57), .lit (.int .u8 49), .lit (.int .u8 28), .lit (.int .u8 3), .lit (.int .u8 61), .lit (.int .u8 58), .lit (.int .u8 42), .lit (.int .u8 50), .lit (.int .u8 38), .lit (.int .u8 29), .lit (.int .u8 17), .lit (.int .u8 4), .lit (.int .u8 62), .lit (.int .u8 47), .lit (.int .u8 59), .lit (.int .u8 36), .lit (.int .u8 45), .lit (.int .u8 43), .lit (.int .u8 51), .lit (.int .u8 22), .lit (.int .u8 53), .lit (.int .u8 39), .lit (.int .u8 33), .lit (.int .u8 30), .lit (.int .u8 24), .lit (.int .u8 18), .lit (.int .u8 12), .lit (.int .u8 5), .lit (.int .u8 63), .lit (.int .u8 55), .lit (.int .u8 48), .lit (.int .u8 27), .lit (.int .u8 60), .lit (.int .u8 41), .lit (.int .u8 37), .lit (.int .u8 16), .lit (.int .u8 46), .lit (.int .u8 35), .lit (.int .u8 44), .lit (.int .u8 21), .lit (.int .u8 52), .lit (.int .u8 32), .lit (.int .u8 23), .lit (.int .u8 11), .lit (.int .u8 54), .lit (.int .u8 26), .lit (.int .u8 40), .lit (.int .u8 15), .lit (.int .u8 34), .lit (.int .u8 20), .lit (.int .u8 31), .lit (.int .u8 10), .lit (.int .u8 25), .lit (.int .u8 14), .lit (.int .u8 19), .lit (.int .u8 9), .lit (.int .u8 13), .lit (.int .u8 8), .lit (.int .u8 7), .lit (.int .u8 6)]
def laid_internal_strconv_uint64pow10 {H : Type} : DataW H := .agg [.lit (.int .u64 1), .lit (.int .u64 10), .lit (.int .u64 100), .lit (.int .u64 1000), .lit (.int .u64 10000), .lit (.int .u64 100000), .lit (.int .u64 1000000), .lit (.int .u64 10000000), .lit (.int .u64 100000000), .lit (.int .u64 1000000000), .lit (.int .u64 10000000000), .lit (.int .u64 100000000000), .lit (.int .u64 1000000000000), .lit (.int .u64 10000000000000), .lit (.int .u64 100000000000000), .lit (.int .u64 1000000000000000), .lit (.int .u64 10000000000000000), .lit (.int .u64 100000000000000000), .lit (.int .u64 1000000000000000000), .lit (.int .u64 10000000000000000000)]

/-- 'overseerlaw32.ModuleChecks': WHATEVER THE INPUT: true; the input reads as it did. -/
def moduleChecksSpec : ChangeSpec := { name := "moduleChecks", fn := fun _ => fun
  | [d1, d2] => { results := [.lit (.bool true)], args := [d1, d2] }
  | _ => none }
def moduleChecksRow : OpenClaim := { program := "ytdffckgdcegpaaagreatdoor", sum := "3886a40e9c1e5f907e32c5be93322f1861d4b4d13556793fc9375377fd60849e", func := "overseer/overseerlaw32.ModuleChecks", spec := "moduleChecks", inPlace := ["internal/abi.NoEscape"], unfollowed := true, recurses := true, named := ["internal/strconv.uint64pow10", "math/bits.deBruijn32tab", "math/bits.deBruijn64tab"], plainKeys := false, apart := false, laid := [("math/bits.deBruijn32tab", laid_math_bits_deBruijn32tab), ("math/bits.deBruijn64tab", laid_math_bits_deBruijn64tab), ("internal/strconv.uint64pow10", laid_internal_strconv_uint64pow10)] }
def ModuleChecksSaid : Prop := moduleChecksRow.holds Tryz.pinned (OpenSpec.ofChange moduleChecksSpec)

/-- ITS FALSE NEIGHBOUR: 'it returns false'. Refute it at one input. -/
def moduleChecksWrong : ChangeSpec := { name := "moduleChecks", fn := fun _ => fun
  | [d1, d2] => { results := [.lit (.bool false)], args := [d1, d2] }
  | _ => none }
def ModuleChecksWrongFalsely : Prop := moduleChecksRow.holds Tryz.pinned (OpenSpec.ofChange moduleChecksWrong)

/-- 'overseerlaw32.ModuleShared': WHATEVER THE INPUT: true; the input reads as it did. -/
def moduleSharedSpec : ChangeSpec := { name := "moduleShared", fn := fun _ => fun
  | [d] => { results := [.lit (.bool true)], args := [d] }
  | _ => none }
def moduleSharedRow : OpenClaim := { program := "ytdffckgdcegpaaagreatdoor", sum := "3886a40e9c1e5f907e32c5be93322f1861d4b4d13556793fc9375377fd60849e", func := "overseer/overseerlaw32.ModuleShared", spec := "moduleShared", inPlace := ["internal/abi.NoEscape"], unfollowed := true, recurses := true, named := ["internal/strconv.uint64pow10", "math/bits.deBruijn32tab", "math/bits.deBruijn64tab"], plainKeys := false, apart := false, laid := [("math/bits.deBruijn32tab", laid_math_bits_deBruijn32tab), ("math/bits.deBruijn64tab", laid_math_bits_deBruijn64tab), ("internal/strconv.uint64pow10", laid_internal_strconv_uint64pow10)] }
def ModuleSharedSaid : Prop := moduleSharedRow.holds Tryz.pinned (OpenSpec.ofChange moduleSharedSpec)

/-- ITS FALSE NEIGHBOUR: 'it returns false'. Refute it at one input. -/
def moduleSharedWrong : ChangeSpec := { name := "moduleShared", fn := fun _ => fun
  | [d] => { results := [.lit (.bool false)], args := [d] }
  | _ => none }
def ModuleSharedWrongFalsely : Prop := moduleSharedRow.holds Tryz.pinned (OpenSpec.ofChange moduleSharedWrong)

/-- 'overseerlaw32.ModuleTogether': WHATEVER THE INPUT: true; the input reads as it did. -/
def moduleTogetherSpec : ChangeSpec := { name := "moduleTogether", fn := fun _ => fun
  | [d] => { results := [.lit (.bool true)], args := [d] }
  | _ => none }
def moduleTogetherRow : OpenClaim := { program := "ytdffckgdcegpaaagreatdoor", sum := "3886a40e9c1e5f907e32c5be93322f1861d4b4d13556793fc9375377fd60849e", func := "overseer/overseerlaw32.ModuleTogether", spec := "moduleTogether", inPlace := ["internal/abi.NoEscape"], unfollowed := true, recurses := true, named := ["internal/strconv.uint64pow10", "math/bits.deBruijn32tab", "math/bits.deBruijn64tab"], plainKeys := false, apart := false, laid := [("math/bits.deBruijn32tab", laid_math_bits_deBruijn32tab), ("math/bits.deBruijn64tab", laid_math_bits_deBruijn64tab), ("internal/strconv.uint64pow10", laid_internal_strconv_uint64pow10)] }
def ModuleTogetherSaid : Prop := moduleTogetherRow.holds Tryz.pinned (OpenSpec.ofChange moduleTogetherSpec)

/-- ITS FALSE NEIGHBOUR: 'it returns false'. Refute it at one input. -/
def moduleTogetherWrong : ChangeSpec := { name := "moduleTogether", fn := fun _ => fun
  | [d] => { results := [.lit (.bool false)], args := [d] }
  | _ => none }
def ModuleTogetherWrongFalsely : Prop := moduleTogetherRow.holds Tryz.pinned (OpenSpec.ofChange moduleTogetherWrong)

/-- 'overseerlaw32.ModuleSafe': WHATEVER THE INPUT: true; the input reads as it did. -/
def moduleSafeSpec : ChangeSpec := { name := "moduleSafe", fn := fun _ => fun
  | [d1, d2] => { results := [.lit (.bool true)], args := [d1, d2] }
  | _ => none }
def moduleSafeRow : OpenClaim := { program := "ytdffckgdcegpaaagreatdoor", sum := "3886a40e9c1e5f907e32c5be93322f1861d4b4d13556793fc9375377fd60849e", func := "overseer/overseerlaw32.ModuleSafe", spec := "moduleSafe", inPlace := ["internal/abi.NoEscape"], unfollowed := true, recurses := true, named := ["internal/strconv.uint64pow10", "math/bits.deBruijn32tab", "math/bits.deBruijn64tab"], plainKeys := false, apart := false, laid := [("math/bits.deBruijn32tab", laid_math_bits_deBruijn32tab), ("math/bits.deBruijn64tab", laid_math_bits_deBruijn64tab), ("internal/strconv.uint64pow10", laid_internal_strconv_uint64pow10)] }
def ModuleSafeSaid : Prop := moduleSafeRow.holds Tryz.pinned (OpenSpec.ofChange moduleSafeSpec)

/-- ITS FALSE NEIGHBOUR: 'it returns false'. Refute it at one input. -/
def moduleSafeWrong : ChangeSpec := { name := "moduleSafe", fn := fun _ => fun
  | [d1, d2] => { results := [.lit (.bool false)], args := [d1, d2] }
  | _ => none }
def ModuleSafeWrongFalsely : Prop := moduleSafeRow.holds Tryz.pinned (OpenSpec.ofChange moduleSafeWrong)

/-- 'overseerlaw32.ModuleWhole': WHATEVER THE INPUT: true; the input reads as it did. -/
def moduleWholeSpec : ChangeSpec := { name := "moduleWhole", fn := fun _ => fun
  | [d] => { results := [.lit (.bool true)], args := [d] }
  | _ => none }
def moduleWholeRow : OpenClaim := { program := "ytdffckgdcegpaaagreatdoor", sum := "3886a40e9c1e5f907e32c5be93322f1861d4b4d13556793fc9375377fd60849e", func := "overseer/overseerlaw32.ModuleWhole", spec := "moduleWhole", inPlace := ["internal/abi.NoEscape"], unfollowed := true, recurses := true, named := ["internal/strconv.uint64pow10", "math/bits.deBruijn32tab", "math/bits.deBruijn64tab"], plainKeys := false, apart := false, laid := [("math/bits.deBruijn32tab", laid_math_bits_deBruijn32tab), ("math/bits.deBruijn64tab", laid_math_bits_deBruijn64tab), ("internal/strconv.uint64pow10", laid_internal_strconv_uint64pow10)] }
def ModuleWholeSaid : Prop := moduleWholeRow.holds Tryz.pinned (OpenSpec.ofChange moduleWholeSpec)

/-- ITS FALSE NEIGHBOUR: 'it returns false'. Refute it at one input. -/
def moduleWholeWrong : ChangeSpec := { name := "moduleWhole", fn := fun _ => fun
  | [d] => { results := [.lit (.bool false)], args := [d] }
  | _ => none }
def ModuleWholeWrongFalsely : Prop := moduleWholeRow.holds Tryz.pinned (OpenSpec.ofChange moduleWholeWrong)

/-- 'overseerlaw32.ModuleCells': WHATEVER THE INPUT: true; the input reads as it did. -/
def moduleCellsSpec : ChangeSpec := { name := "moduleCells", fn := fun _ => fun
  | [d] => { results := [.lit (.bool true)], args := [d] }
  | _ => none }
def moduleCellsRow : OpenClaim := { program := "ytdffckgdcegpaaagreatdoor", sum := "3886a40e9c1e5f907e32c5be93322f1861d4b4d13556793fc9375377fd60849e", func := "overseer/overseerlaw32.ModuleCells", spec := "moduleCells", inPlace := ["internal/abi.NoEscape"], unfollowed := true, recurses := true, named := ["internal/strconv.uint64pow10", "math/bits.deBruijn32tab", "math/bits.deBruijn64tab"], plainKeys := false, apart := false, laid := [("math/bits.deBruijn32tab", laid_math_bits_deBruijn32tab), ("math/bits.deBruijn64tab", laid_math_bits_deBruijn64tab), ("internal/strconv.uint64pow10", laid_internal_strconv_uint64pow10)] }
def ModuleCellsSaid : Prop := moduleCellsRow.holds Tryz.pinned (OpenSpec.ofChange moduleCellsSpec)

/-- ITS FALSE NEIGHBOUR: 'it returns false'. Refute it at one input. -/
def moduleCellsWrong : ChangeSpec := { name := "moduleCells", fn := fun _ => fun
  | [d] => { results := [.lit (.bool false)], args := [d] }
  | _ => none }
def ModuleCellsWrongFalsely : Prop := moduleCellsRow.holds Tryz.pinned (OpenSpec.ofChange moduleCellsWrong)

/-- 'overseerlaw32.ModuleRefuses': WHATEVER THE INPUT: true; the input reads as it did. -/
def moduleRefusesSpec : ChangeSpec := { name := "moduleRefuses", fn := fun _ => fun
  | [d1, d2] => { results := [.lit (.bool true)], args := [d1, d2] }
  | _ => none }
def moduleRefusesRow : OpenClaim := { program := "ytdffckgdcegpaaagreatdoor", sum := "3886a40e9c1e5f907e32c5be93322f1861d4b4d13556793fc9375377fd60849e", func := "overseer/overseerlaw32.ModuleRefuses", spec := "moduleRefuses", inPlace := ["internal/abi.NoEscape"], unfollowed := true, recurses := true, named := ["internal/strconv.uint64pow10", "math/bits.deBruijn32tab", "math/bits.deBruijn64tab"], plainKeys := false, apart := false, laid := [("math/bits.deBruijn32tab", laid_math_bits_deBruijn32tab), ("math/bits.deBruijn64tab", laid_math_bits_deBruijn64tab), ("internal/strconv.uint64pow10", laid_internal_strconv_uint64pow10)] }
def ModuleRefusesSaid : Prop := moduleRefusesRow.holds Tryz.pinned (OpenSpec.ofChange moduleRefusesSpec)

/-- ITS FALSE NEIGHBOUR: 'it returns false'. Refute it at one input. -/
def moduleRefusesWrong : ChangeSpec := { name := "moduleRefuses", fn := fun _ => fun
  | [d1, d2] => { results := [.lit (.bool false)], args := [d1, d2] }
  | _ => none }
def ModuleRefusesWrongFalsely : Prop := moduleRefusesRow.holds Tryz.pinned (OpenSpec.ofChange moduleRefusesWrong)

/-- 'overseerlaw32.ModuleLists': WHATEVER THE INPUT: true; the input reads as it did. -/
def moduleListsSpec : ChangeSpec := { name := "moduleLists", fn := fun _ => fun
  | [d] => { results := [.lit (.bool true)], args := [d] }
  | _ => none }
def moduleListsRow : OpenClaim := { program := "ytdffckgdcegpaaagreatdoor", sum := "3886a40e9c1e5f907e32c5be93322f1861d4b4d13556793fc9375377fd60849e", func := "overseer/overseerlaw32.ModuleLists", spec := "moduleLists", inPlace := ["internal/abi.NoEscape"], unfollowed := true, recurses := true, named := ["internal/strconv.uint64pow10", "math/bits.deBruijn32tab", "math/bits.deBruijn64tab"], plainKeys := false, apart := false, laid := [("math/bits.deBruijn32tab", laid_math_bits_deBruijn32tab), ("math/bits.deBruijn64tab", laid_math_bits_deBruijn64tab), ("internal/strconv.uint64pow10", laid_internal_strconv_uint64pow10)] }
def ModuleListsSaid : Prop := moduleListsRow.holds Tryz.pinned (OpenSpec.ofChange moduleListsSpec)

/-- ITS FALSE NEIGHBOUR: 'it returns false'. Refute it at one input. -/
def moduleListsWrong : ChangeSpec := { name := "moduleLists", fn := fun _ => fun
  | [d] => { results := [.lit (.bool false)], args := [d] }
  | _ => none }
def ModuleListsWrongFalsely : Prop := moduleListsRow.holds Tryz.pinned (OpenSpec.ofChange moduleListsWrong)

/-- 'overseerlaw30.SupervisorCells': WHATEVER THE INPUT: true; the input reads as it did. -/
def supervisorCellsSpec : ChangeSpec := { name := "supervisorCells", fn := fun _ => fun
  | [d] => { results := [.lit (.bool true)], args := [d] }
  | _ => none }
def supervisorCellsRow : OpenClaim := { program := "ytdffckgdcegpaaagreatdoor", sum := "3886a40e9c1e5f907e32c5be93322f1861d4b4d13556793fc9375377fd60849e", func := "overseer/overseerlaw30.SupervisorCells", spec := "supervisorCells", inPlace := ["internal/abi.NoEscape"], unfollowed := true, recurses := true, named := ["internal/strconv.uint64pow10", "math/bits.deBruijn32tab", "math/bits.deBruijn64tab"], plainKeys := false, apart := false, laid := [("math/bits.deBruijn32tab", laid_math_bits_deBruijn32tab), ("math/bits.deBruijn64tab", laid_math_bits_deBruijn64tab), ("internal/strconv.uint64pow10", laid_internal_strconv_uint64pow10)] }
def SupervisorCellsSaid : Prop := supervisorCellsRow.holds Tryz.pinned (OpenSpec.ofChange supervisorCellsSpec)

/-- ITS FALSE NEIGHBOUR: 'it returns false'. Refute it at one input. -/
def supervisorCellsWrong : ChangeSpec := { name := "supervisorCells", fn := fun _ => fun
  | [d] => { results := [.lit (.bool false)], args := [d] }
  | _ => none }
def SupervisorCellsWrongFalsely : Prop := supervisorCellsRow.holds Tryz.pinned (OpenSpec.ofChange supervisorCellsWrong)

/- THE SECOND FORM. 'bulk': how many values and letters a reading holds, each counted each time it is reached (what is shared counts as often as it is met; a slice's spare places count too). A statement '..UptoSaid' is the law's where the arguments, and the package variables that the reading takes, are together of bulk at most 1048576: NARROWER than '..Said'. Prove '..Said' where nothing that the law and all that it calls make is longer than what came in: it says more and counts as full. Else prove '..UptoSaid'. A law counts once. -/
mutual
def uptoBulk {H : Type} : DataW H → Nat
  | .lit (.string bytes) => bytes.length + 1
  | .lit _ => 1
  | .nil => 1
  | .ptr d => uptoBulk d + 1
  | .slice elems spare => uptoBulkAll elems + uptoBulkAll spare + 1
  | .agg parts => uptoBulkAll parts + 1
  | .iface _ d => uptoBulk d + 1
  | .map entries => uptoBulkEntries entries + 1
  | .held _ => 1
def uptoBulkAll {H : Type} : List (DataW H) → Nat
  | [] => 0
  | d :: r => uptoBulk d + uptoBulkAll r
def uptoBulkEntries {H : Type} : List (Lit × DataW H) → Nat
  | [] => 0
  | x :: r => uptoBulkEntry x + uptoBulkEntries r
def uptoBulkEntry {H : Type} : Lit × DataW H → Nat
  | (.string bytes, d) => bytes.length + uptoBulk d + 1
  | (_, d) => uptoBulk d + 1
 end
def uptoSmall : (H : Type) → List (DataW H) → Bool := fun _ ds => decide (uptoBulkAll ds ≤ 1048576)
def OpenSpec.upto (s : _root_.Go.ChangeSpec) : _root_.Go.OpenSpec := { _root_.Go.OpenSpec.ofChange s with cond := some uptoSmall }

/-- 'overseerlaw32.ModuleChecks', WHERE WHAT IT READS IS OF BULK AT MOST 1048576: true; the input reads as it did. -/
def moduleChecksUptoRow : OpenClaim := { program := "ytdffckgdcegpaaagreatdoor", sum := "3886a40e9c1e5f907e32c5be93322f1861d4b4d13556793fc9375377fd60849e", func := "overseer/overseerlaw32.ModuleChecks", spec := "moduleChecks", inPlace := ["internal/abi.NoEscape"], unfollowed := true, recurses := true, named := ["internal/strconv.uint64pow10", "math/bits.deBruijn32tab", "math/bits.deBruijn64tab"], plainKeys := false, apart := false, laid := [("math/bits.deBruijn32tab", laid_math_bits_deBruijn32tab), ("math/bits.deBruijn64tab", laid_math_bits_deBruijn64tab), ("internal/strconv.uint64pow10", laid_internal_strconv_uint64pow10)], narrowed := true }
def ModuleChecksUptoSaid : Prop := moduleChecksUptoRow.holds Tryz.pinned (OpenSpec.upto moduleChecksSpec)

/-- 'overseerlaw32.ModuleShared', WHERE WHAT IT READS IS OF BULK AT MOST 1048576: true; the input reads as it did. -/
def moduleSharedUptoRow : OpenClaim := { program := "ytdffckgdcegpaaagreatdoor", sum := "3886a40e9c1e5f907e32c5be93322f1861d4b4d13556793fc9375377fd60849e", func := "overseer/overseerlaw32.ModuleShared", spec := "moduleShared", inPlace := ["internal/abi.NoEscape"], unfollowed := true, recurses := true, named := ["internal/strconv.uint64pow10", "math/bits.deBruijn32tab", "math/bits.deBruijn64tab"], plainKeys := false, apart := false, laid := [("math/bits.deBruijn32tab", laid_math_bits_deBruijn32tab), ("math/bits.deBruijn64tab", laid_math_bits_deBruijn64tab), ("internal/strconv.uint64pow10", laid_internal_strconv_uint64pow10)], narrowed := true }
def ModuleSharedUptoSaid : Prop := moduleSharedUptoRow.holds Tryz.pinned (OpenSpec.upto moduleSharedSpec)

/-- 'overseerlaw32.ModuleTogether', WHERE WHAT IT READS IS OF BULK AT MOST 1048576: true; the input reads as it did. -/
def moduleTogetherUptoRow : OpenClaim := { program := "ytdffckgdcegpaaagreatdoor", sum := "3886a40e9c1e5f907e32c5be93322f1861d4b4d13556793fc9375377fd60849e", func := "overseer/overseerlaw32.ModuleTogether", spec := "moduleTogether", inPlace := ["internal/abi.NoEscape"], unfollowed := true, recurses := true, named := ["internal/strconv.uint64pow10", "math/bits.deBruijn32tab", "math/bits.deBruijn64tab"], plainKeys := false, apart := false, laid := [("math/bits.deBruijn32tab", laid_math_bits_deBruijn32tab), ("math/bits.deBruijn64tab", laid_math_bits_deBruijn64tab), ("internal/strconv.uint64pow10", laid_internal_strconv_uint64pow10)], narrowed := true }
def ModuleTogetherUptoSaid : Prop := moduleTogetherUptoRow.holds Tryz.pinned (OpenSpec.upto moduleTogetherSpec)

/-- 'overseerlaw32.ModuleSafe', WHERE WHAT IT READS IS OF BULK AT MOST 1048576: true; the input reads as it did. -/
def moduleSafeUptoRow : OpenClaim := { program := "ytdffckgdcegpaaagreatdoor", sum := "3886a40e9c1e5f907e32c5be93322f1861d4b4d13556793fc9375377fd60849e", func := "overseer/overseerlaw32.ModuleSafe", spec := "moduleSafe", inPlace := ["internal/abi.NoEscape"], unfollowed := true, recurses := true, named := ["internal/strconv.uint64pow10", "math/bits.deBruijn32tab", "math/bits.deBruijn64tab"], plainKeys := false, apart := false, laid := [("math/bits.deBruijn32tab", laid_math_bits_deBruijn32tab), ("math/bits.deBruijn64tab", laid_math_bits_deBruijn64tab), ("internal/strconv.uint64pow10", laid_internal_strconv_uint64pow10)], narrowed := true }
def ModuleSafeUptoSaid : Prop := moduleSafeUptoRow.holds Tryz.pinned (OpenSpec.upto moduleSafeSpec)

/-- 'overseerlaw32.ModuleWhole', WHERE WHAT IT READS IS OF BULK AT MOST 1048576: true; the input reads as it did. -/
def moduleWholeUptoRow : OpenClaim := { program := "ytdffckgdcegpaaagreatdoor", sum := "3886a40e9c1e5f907e32c5be93322f1861d4b4d13556793fc9375377fd60849e", func := "overseer/overseerlaw32.ModuleWhole", spec := "moduleWhole", inPlace := ["internal/abi.NoEscape"], unfollowed := true, recurses := true, named := ["internal/strconv.uint64pow10", "math/bits.deBruijn32tab", "math/bits.deBruijn64tab"], plainKeys := false, apart := false, laid := [("math/bits.deBruijn32tab", laid_math_bits_deBruijn32tab), ("math/bits.deBruijn64tab", laid_math_bits_deBruijn64tab), ("internal/strconv.uint64pow10", laid_internal_strconv_uint64pow10)], narrowed := true }
def ModuleWholeUptoSaid : Prop := moduleWholeUptoRow.holds Tryz.pinned (OpenSpec.upto moduleWholeSpec)

/-- 'overseerlaw32.ModuleCells', WHERE WHAT IT READS IS OF BULK AT MOST 1048576: true; the input reads as it did. -/
def moduleCellsUptoRow : OpenClaim := { program := "ytdffckgdcegpaaagreatdoor", sum := "3886a40e9c1e5f907e32c5be93322f1861d4b4d13556793fc9375377fd60849e", func := "overseer/overseerlaw32.ModuleCells", spec := "moduleCells", inPlace := ["internal/abi.NoEscape"], unfollowed := true, recurses := true, named := ["internal/strconv.uint64pow10", "math/bits.deBruijn32tab", "math/bits.deBruijn64tab"], plainKeys := false, apart := false, laid := [("math/bits.deBruijn32tab", laid_math_bits_deBruijn32tab), ("math/bits.deBruijn64tab", laid_math_bits_deBruijn64tab), ("internal/strconv.uint64pow10", laid_internal_strconv_uint64pow10)], narrowed := true }
def ModuleCellsUptoSaid : Prop := moduleCellsUptoRow.holds Tryz.pinned (OpenSpec.upto moduleCellsSpec)

/-- 'overseerlaw32.ModuleRefuses', WHERE WHAT IT READS IS OF BULK AT MOST 1048576: true; the input reads as it did. -/
def moduleRefusesUptoRow : OpenClaim := { program := "ytdffckgdcegpaaagreatdoor", sum := "3886a40e9c1e5f907e32c5be93322f1861d4b4d13556793fc9375377fd60849e", func := "overseer/overseerlaw32.ModuleRefuses", spec := "moduleRefuses", inPlace := ["internal/abi.NoEscape"], unfollowed := true, recurses := true, named := ["internal/strconv.uint64pow10", "math/bits.deBruijn32tab", "math/bits.deBruijn64tab"], plainKeys := false, apart := false, laid := [("math/bits.deBruijn32tab", laid_math_bits_deBruijn32tab), ("math/bits.deBruijn64tab", laid_math_bits_deBruijn64tab), ("internal/strconv.uint64pow10", laid_internal_strconv_uint64pow10)], narrowed := true }
def ModuleRefusesUptoSaid : Prop := moduleRefusesUptoRow.holds Tryz.pinned (OpenSpec.upto moduleRefusesSpec)

/-- 'overseerlaw32.ModuleLists', WHERE WHAT IT READS IS OF BULK AT MOST 1048576: true; the input reads as it did. -/
def moduleListsUptoRow : OpenClaim := { program := "ytdffckgdcegpaaagreatdoor", sum := "3886a40e9c1e5f907e32c5be93322f1861d4b4d13556793fc9375377fd60849e", func := "overseer/overseerlaw32.ModuleLists", spec := "moduleLists", inPlace := ["internal/abi.NoEscape"], unfollowed := true, recurses := true, named := ["internal/strconv.uint64pow10", "math/bits.deBruijn32tab", "math/bits.deBruijn64tab"], plainKeys := false, apart := false, laid := [("math/bits.deBruijn32tab", laid_math_bits_deBruijn32tab), ("math/bits.deBruijn64tab", laid_math_bits_deBruijn64tab), ("internal/strconv.uint64pow10", laid_internal_strconv_uint64pow10)], narrowed := true }
def ModuleListsUptoSaid : Prop := moduleListsUptoRow.holds Tryz.pinned (OpenSpec.upto moduleListsSpec)

/-- 'overseerlaw30.SupervisorCells', WHERE WHAT IT READS IS OF BULK AT MOST 1048576: true; the input reads as it did. -/
def supervisorCellsUptoRow : OpenClaim := { program := "ytdffckgdcegpaaagreatdoor", sum := "3886a40e9c1e5f907e32c5be93322f1861d4b4d13556793fc9375377fd60849e", func := "overseer/overseerlaw30.SupervisorCells", spec := "supervisorCells", inPlace := ["internal/abi.NoEscape"], unfollowed := true, recurses := true, named := ["internal/strconv.uint64pow10", "math/bits.deBruijn32tab", "math/bits.deBruijn64tab"], plainKeys := false, apart := false, laid := [("math/bits.deBruijn32tab", laid_math_bits_deBruijn32tab), ("math/bits.deBruijn64tab", laid_math_bits_deBruijn64tab), ("internal/strconv.uint64pow10", laid_internal_strconv_uint64pow10)], narrowed := true }
def SupervisorCellsUptoSaid : Prop := supervisorCellsUptoRow.holds Tryz.pinned (OpenSpec.upto supervisorCellsSpec)

end Rows
end Go.Proofs.YtdffckgdcegpaaaGreatDoor
