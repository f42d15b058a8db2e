/-
  NARROWER THAN 'FOR EVERY INPUT', by the rows' own cells (each row's printed sentence says how): HierarchyTests: laid · HierarchySame: laid · HierarchyAll: laid · HierarchyCompares: laid · HierarchyKeeps: laid · HierarchyRefuses: laid · HierarchyAbstracts: laid.
  DERIVED. THE GIVEN ROWS OF THIS SEAT. 7 by the template 'for every input the law returns true; each argument reads behind the call as it read before'; 0 by the template 'total and deterministic' (their statements: YtpfnhheoeaiomaaGreatDoorTotals.lean).
  GIVEN WITH THE SEED: the statements are not yours to turn. If you find one false, say at which input.
  Laid BY PROGRAM, IN A SANDBOX (cutbox-rows.mjs): the forced cells as the released guide's own fill.sh prints them over the translation 7ece79b0b076b183… (all of the seat's roots in one cut). By AI agents, Wed Nov 11 2026. No macro, syntax, notation, axiom, sorry.
-/
import Derived.Test.YtpfnhheoeaiomaaGreatDoorChecked
import GoSem.Claim
import GoSem.ClaimJoined
import GoSem.ClaimMapViews
import Derived.JoinedTies
import Derived.KernelRfl
namespace Go.Proofs.YtpfnhheoeaiomaaGreatDoor
/- THE CELL 'sum', in the pinned program and in every row, IS THE sha256 OF THE DUMP (.gsa) THAT YtpfnhheoeaiomaaGreatDoorProg.lean LOADS. Nothing in Lean hashes anything: it is a label: what it is worth is what the hold of that sum in a sandbox is worth. -/
noncomputable def Tryz.pinned : Pinned := { name := "ytpfnhheoeaiomaagreatdoor", sum := "7ece79b0b076b1830bdcb0382accc621fa8528979e2f8ff22628d8f451bf1d68", checked := Tryz.checked }
namespace Rows
def none {H : Type} : Left H := { results := [], args := [] }

/- WHAT THE LISTED PACKAGE-LEVEL VARIABLES READ AS WHEN THE CALL BEGINS. Each datum BY PROGRAM (the guide's laid-datum.mjs) off the statement by which the dump's own 'gosem.cut.vars' lays the variable. In a bare row this is a premise. The card (YtpfnhheoeaiomaaGreatDoorCards.lean) ties it to the program's text. -/
def laid_math_bits_deBruijn32tab {H : Type} : DataW H := .agg [.lit (.int .u8 0), .lit (.int .u8 1), .lit (.int .u8 28), .lit (.int .u8 2), .lit (.int .u8 29), .lit (.int .u8 14), .lit (.int .u8 24), .lit (.int .u8 3), .lit (.int .u8 30), .lit (.int .u8 22), .lit (.int .u8 20), .lit (.int .u8 15), .lit (.int .u8 25), .lit (.int .u8 17), .lit (.int .u8 4), .lit (.int .u8 8), .lit (.int .u8 31), .lit (.int .u8 27), .lit (.int .u8 13), .lit (.int .u8 23), .lit (.int .u8 21), .lit (.int .u8 19), .lit (.int .u8 16), .lit (.int .u8 7), .lit (.int .u8 26), .lit (.int .u8 12), .lit (.int .u8 18), .lit (.int .u8 6), .lit (.int .u8 11), .lit (.int .u8 5), .lit (.int .u8 10), .lit (.int .u8 9)]
def laid_math_bits_deBruijn64tab {H : Type} : DataW H := .agg [.lit (.int .u8 0), .lit (.int .u8 1), .lit (.int .u8 56), .lit (.int .u8 2), .lit (.int .u8 57), .lit (.int .u8 49), .lit (.int .u8 28), .lit (.int .u8 3), .lit (.int .u8 61), .lit (.int .u8 58), .lit (.int .u8 42), .lit (.int .u8 50), .lit (.int .u8 38), .lit (.int .u8 29), .lit (.int .u8 17), .lit (.int .u8 4), .lit (.int .u8 62), .lit (.int .u8 47), .lit (.int .u8 59), .lit (.int .u8 36), .lit (.int .u8 45), .lit (.int .u8 43), .lit (.int .u8 51), .lit (.int .u8 22), .lit (.int .u8 53), .lit (.int .u8 39), .lit (.int .u8 33), .lit (.int .u8 30), .lit (.int .u8 24), .lit (.int .u8 18), .lit (.int .u8 12), .lit (.int .u8 5), .lit (.int .u8 63), .lit (.int .u8 55), .lit (.int .u8 48), .lit (.int .u8 27), .lit (.int .u8 60), .lit (.int .u8 41), .lit (.int .u8 37), .lit (.int .u8 16), .lit (.int .u8 46), .lit (.int .u8 35), .lit (.int .u8 44), .lit (.int .u8 21), .lit (.int .u8 52), .lit (.int .u8 32), .lit (.int .u8 23), .lit (.int .u8 11), .lit (.int .u8 54), .lit (.int .u8 26), .lit (.int .u8 40), .lit (.int .u8 15), .lit (.int .u8 34), .lit (.int .u8 20), .lit (.int .u8 31), .lit (.int .u8 10), .lit (.int .u8 25), .lit (.int .u8 14), .lit (.int .u8 19), .lit (.int .u8 9), .lit (.int .u8 13), .lit (.int .u8 8), .lit (.int .u8 7), .lit (.int .u8 6)]
def laid_internal_strconv_uint64pow10 {H : Type} : DataW H := .agg [.lit (.int .u64 1), .lit (.int .u64 10), .lit (.int .u64 100), .lit (.int .u64 1000), .lit (.int .u64 10000), .lit (.int .u64 100000), .lit (.int .u64 1000000), .lit (.int .u64 10000000), .lit (.int .u64 100000000), .lit (.int .u64 1000000000), .lit (.int .u64 10000000000), .lit (.int .u64 100000000000), .lit (.int .u64 1000000000000), .lit (.int .u64 10000000000000), .lit (.int .u64 100000000000000), .lit (.int .u64 1000000000000000), .lit (.int .u64 10000000000000000), .lit (.int .u64 100000000000000000), .lit (.int .u64 1000000000000000000), .lit (.int .u64 10000000000000000000)]

/-- 'overseerlaw36.HierarchyTests': WHATEVER THE INPUT: true; the input reads as it did. -/
def hierarchyTestsSpec : ChangeSpec := { name := "hierarchyTests", fn := fun _ => fun
  | [d] => { results := [.lit (.bool true)], args := [d] }
  | _ => none }
def hierarchyTestsRow : OpenClaim := { program := "ytpfnhheoeaiomaagreatdoor", sum := "7ece79b0b076b1830bdcb0382accc621fa8528979e2f8ff22628d8f451bf1d68", func := "overseer/overseerlaw36.HierarchyTests", spec := "hierarchyTests", inPlace := ["internal/abi.NoEscape"], unfollowed := true, recurses := true, named := ["internal/strconv.uint64pow10", "math/bits.deBruijn32tab", "math/bits.deBruijn64tab"], plainKeys := false, apart := false, laid := [("math/bits.deBruijn32tab", laid_math_bits_deBruijn32tab), ("math/bits.deBruijn64tab", laid_math_bits_deBruijn64tab), ("internal/strconv.uint64pow10", laid_internal_strconv_uint64pow10)] }
def HierarchyTestsSaid : Prop := hierarchyTestsRow.holds Tryz.pinned (OpenSpec.ofChange hierarchyTestsSpec)

/-- ITS FALSE NEIGHBOUR: 'it returns false'. Refute it at one input. -/
def hierarchyTestsWrong : ChangeSpec := { name := "hierarchyTests", fn := fun _ => fun
  | [d] => { results := [.lit (.bool false)], args := [d] }
  | _ => none }
def HierarchyTestsWrongFalsely : Prop := hierarchyTestsRow.holds Tryz.pinned (OpenSpec.ofChange hierarchyTestsWrong)

/-- 'overseerlaw36.HierarchySame': WHATEVER THE INPUT: true; the input reads as it did. -/
def hierarchySameSpec : ChangeSpec := { name := "hierarchySame", fn := fun _ => fun
  | [d] => { results := [.lit (.bool true)], args := [d] }
  | _ => none }
def hierarchySameRow : OpenClaim := { program := "ytpfnhheoeaiomaagreatdoor", sum := "7ece79b0b076b1830bdcb0382accc621fa8528979e2f8ff22628d8f451bf1d68", func := "overseer/overseerlaw36.HierarchySame", spec := "hierarchySame", inPlace := ["internal/abi.NoEscape"], unfollowed := true, recurses := true, named := ["internal/strconv.uint64pow10", "math/bits.deBruijn32tab", "math/bits.deBruijn64tab"], plainKeys := false, apart := false, laid := [("math/bits.deBruijn32tab", laid_math_bits_deBruijn32tab), ("math/bits.deBruijn64tab", laid_math_bits_deBruijn64tab), ("internal/strconv.uint64pow10", laid_internal_strconv_uint64pow10)] }
def HierarchySameSaid : Prop := hierarchySameRow.holds Tryz.pinned (OpenSpec.ofChange hierarchySameSpec)

/-- ITS FALSE NEIGHBOUR: 'it returns false'. Refute it at one input. -/
def hierarchySameWrong : ChangeSpec := { name := "hierarchySame", fn := fun _ => fun
  | [d] => { results := [.lit (.bool false)], args := [d] }
  | _ => none }
def HierarchySameWrongFalsely : Prop := hierarchySameRow.holds Tryz.pinned (OpenSpec.ofChange hierarchySameWrong)

/-- 'overseerlaw36.HierarchyAll': WHATEVER THE INPUT: true; the input reads as it did. -/
def hierarchyAllSpec : ChangeSpec := { name := "hierarchyAll", fn := fun _ => fun
  | [d] => { results := [.lit (.bool true)], args := [d] }
  | _ => none }
def hierarchyAllRow : OpenClaim := { program := "ytpfnhheoeaiomaagreatdoor", sum := "7ece79b0b076b1830bdcb0382accc621fa8528979e2f8ff22628d8f451bf1d68", func := "overseer/overseerlaw36.HierarchyAll", spec := "hierarchyAll", inPlace := ["internal/abi.NoEscape"], unfollowed := true, recurses := true, named := ["internal/strconv.uint64pow10", "math/bits.deBruijn32tab", "math/bits.deBruijn64tab"], plainKeys := false, apart := false, laid := [("math/bits.deBruijn32tab", laid_math_bits_deBruijn32tab), ("math/bits.deBruijn64tab", laid_math_bits_deBruijn64tab), ("internal/strconv.uint64pow10", laid_internal_strconv_uint64pow10)] }
def HierarchyAllSaid : Prop := hierarchyAllRow.holds Tryz.pinned (OpenSpec.ofChange hierarchyAllSpec)

/-- ITS FALSE NEIGHBOUR: 'it returns false'. Refute it at one input. -/
def hierarchyAllWrong : ChangeSpec := { name := "hierarchyAll", fn := fun _ => fun
  | [d] => { results := [.lit (.bool false)], args := [d] }
  | _ => none }
def HierarchyAllWrongFalsely : Prop := hierarchyAllRow.holds Tryz.pinned (OpenSpec.ofChange hierarchyAllWrong)

/-- 'overseerlaw36.HierarchyCompares': WHATEVER THE INPUT: true; the input reads as it did. -/
def hierarchyComparesSpec : ChangeSpec := { name := "hierarchyCompares", fn := fun _ => fun
  | [d] => { results := [.lit (.bool true)], args := [d] }
  | _ => none }
def hierarchyComparesRow : OpenClaim := { program := "ytpfnhheoeaiomaagreatdoor", sum := "7ece79b0b076b1830bdcb0382accc621fa8528979e2f8ff22628d8f451bf1d68", func := "overseer/overseerlaw36.HierarchyCompares", spec := "hierarchyCompares", inPlace := ["internal/abi.NoEscape"], unfollowed := true, recurses := true, named := ["internal/strconv.uint64pow10", "math/bits.deBruijn32tab", "math/bits.deBruijn64tab"], plainKeys := false, apart := false, laid := [("math/bits.deBruijn32tab", laid_math_bits_deBruijn32tab), ("math/bits.deBruijn64tab", laid_math_bits_deBruijn64tab), ("internal/strconv.uint64pow10", laid_internal_strconv_uint64pow10)] }
def HierarchyComparesSaid : Prop := hierarchyComparesRow.holds Tryz.pinned (OpenSpec.ofChange hierarchyComparesSpec)

/-- ITS FALSE NEIGHBOUR: 'it returns false'. Refute it at one input. -/
def hierarchyComparesWrong : ChangeSpec := { name := "hierarchyCompares", fn := fun _ => fun
  | [d] => { results := [.lit (.bool false)], args := [d] }
  | _ => none }
def HierarchyComparesWrongFalsely : Prop := hierarchyComparesRow.holds Tryz.pinned (OpenSpec.ofChange hierarchyComparesWrong)

/-- 'overseerlaw36.HierarchyKeeps': WHATEVER THE INPUT: true; the input reads as it did. -/
def hierarchyKeepsSpec : ChangeSpec := { name := "hierarchyKeeps", fn := fun _ => fun
  | [d1, d2] => { results := [.lit (.bool true)], args := [d1, d2] }
  | _ => none }
def hierarchyKeepsRow : OpenClaim := { program := "ytpfnhheoeaiomaagreatdoor", sum := "7ece79b0b076b1830bdcb0382accc621fa8528979e2f8ff22628d8f451bf1d68", func := "overseer/overseerlaw36.HierarchyKeeps", spec := "hierarchyKeeps", inPlace := ["internal/abi.NoEscape"], unfollowed := true, recurses := true, named := ["internal/strconv.uint64pow10", "math/bits.deBruijn32tab", "math/bits.deBruijn64tab"], plainKeys := false, apart := false, laid := [("math/bits.deBruijn32tab", laid_math_bits_deBruijn32tab), ("math/bits.deBruijn64tab", laid_math_bits_deBruijn64tab), ("internal/strconv.uint64pow10", laid_internal_strconv_uint64pow10)] }
def HierarchyKeepsSaid : Prop := hierarchyKeepsRow.holds Tryz.pinned (OpenSpec.ofChange hierarchyKeepsSpec)

/-- ITS FALSE NEIGHBOUR: 'it returns false'. Refute it at one input. -/
def hierarchyKeepsWrong : ChangeSpec := { name := "hierarchyKeeps", fn := fun _ => fun
  | [d1, d2] => { results := [.lit (.bool false)], args := [d1, d2] }
  | _ => none }
def HierarchyKeepsWrongFalsely : Prop := hierarchyKeepsRow.holds Tryz.pinned (OpenSpec.ofChange hierarchyKeepsWrong)

/-- 'overseerlaw36.HierarchyRefuses': WHATEVER THE INPUT: true; the input reads as it did. -/
def hierarchyRefusesSpec : ChangeSpec := { name := "hierarchyRefuses", fn := fun _ => fun
  | [d1, d2, d3] => { results := [.lit (.bool true)], args := [d1, d2, d3] }
  | _ => none }
def hierarchyRefusesRow : OpenClaim := { program := "ytpfnhheoeaiomaagreatdoor", sum := "7ece79b0b076b1830bdcb0382accc621fa8528979e2f8ff22628d8f451bf1d68", func := "overseer/overseerlaw36.HierarchyRefuses", spec := "hierarchyRefuses", inPlace := ["internal/abi.NoEscape"], unfollowed := true, recurses := true, named := ["internal/strconv.uint64pow10", "math/bits.deBruijn32tab", "math/bits.deBruijn64tab"], plainKeys := false, apart := false, laid := [("math/bits.deBruijn32tab", laid_math_bits_deBruijn32tab), ("math/bits.deBruijn64tab", laid_math_bits_deBruijn64tab), ("internal/strconv.uint64pow10", laid_internal_strconv_uint64pow10)] }
def HierarchyRefusesSaid : Prop := hierarchyRefusesRow.holds Tryz.pinned (OpenSpec.ofChange hierarchyRefusesSpec)

/-- ITS FALSE NEIGHBOUR: 'it returns false'. Refute it at one input. -/
def hierarchyRefusesWrong : ChangeSpec := { name := "hierarchyRefuses", fn := fun _ => fun
  | [d1, d2, d3] => { results := [.lit (.bool false)], args := [d1, d2, d3] }
  | _ => none }
def HierarchyRefusesWrongFalsely : Prop := hierarchyRefusesRow.holds Tryz.pinned (OpenSpec.ofChange hierarchyRefusesWrong)

/-- 'overseerlaw36.HierarchyAbstracts': WHATEVER THE INPUT: true; the input reads as it did. -/
def hierarchyAbstractsSpec : ChangeSpec := { name := "hierarchyAbstracts", fn := fun _ => fun
  | [d] => { results := [.lit (.bool true)], args := [d] }
  | _ => none }
def hierarchyAbstractsRow : OpenClaim := { program := "ytpfnhheoeaiomaagreatdoor", sum := "7ece79b0b076b1830bdcb0382accc621fa8528979e2f8ff22628d8f451bf1d68", func := "overseer/overseerlaw36.HierarchyAbstracts", spec := "hierarchyAbstracts", inPlace := ["internal/abi.NoEscape"], unfollowed := true, recurses := true, named := ["internal/strconv.uint64pow10", "math/bits.deBruijn32tab", "math/bits.deBruijn64tab"], plainKeys := false, apart := false, laid := [("math/bits.deBruijn32tab", laid_math_bits_deBruijn32tab), ("math/bits.deBruijn64tab", laid_math_bits_deBruijn64tab), ("internal/strconv.uint64pow10", laid_internal_strconv_uint64pow10)] }
def HierarchyAbstractsSaid : Prop := hierarchyAbstractsRow.holds Tryz.pinned (OpenSpec.ofChange hierarchyAbstractsSpec)

/-- ITS FALSE NEIGHBOUR: 'it returns false'. Refute it at one input. -/
def hierarchyAbstractsWrong : ChangeSpec := { name := "hierarchyAbstracts", fn := fun _ => fun
  | [d] => { results := [.lit (.bool false)], args := [d] }
  | _ => none }
def HierarchyAbstractsWrongFalsely : Prop := hierarchyAbstractsRow.holds Tryz.pinned (OpenSpec.ofChange hierarchyAbstractsWrong)

/- THE SECOND FORM. 'bulk': how many values and letters a reading holds, each counted each time it is reached (what is shared counts as often as it is met; a slice's spare places count too). A statement '..UptoSaid' is the law's where the arguments, and the package variables that the reading takes, are together of bulk at most 1048576: NARROWER than '..Said'. Prove '..Said' where nothing that the law and all that it calls make is longer than what came in: it says more and counts as full. Else prove '..UptoSaid'. A law counts once. -/
mutual
def uptoBulk {H : Type} : DataW H → Nat
  | .lit (.string bytes) => bytes.length + 1
  | .lit _ => 1
  | .nil => 1
  | .ptr d => uptoBulk d + 1
  | .slice elems spare => uptoBulkAll elems + uptoBulkAll spare + 1
  | .agg parts => uptoBulkAll parts + 1
  | .iface _ d => uptoBulk d + 1
  | .map entries => uptoBulkEntries entries + 1
  | .held _ => 1
def uptoBulkAll {H : Type} : List (DataW H) → Nat
  | [] => 0
  | d :: r => uptoBulk d + uptoBulkAll r
def uptoBulkEntries {H : Type} : List (Lit × DataW H) → Nat
  | [] => 0
  | x :: r => uptoBulkEntry x + uptoBulkEntries r
def uptoBulkEntry {H : Type} : Lit × DataW H → Nat
  | (.string bytes, d) => bytes.length + uptoBulk d + 1
  | (_, d) => uptoBulk d + 1
 end
def uptoSmall : (H : Type) → List (DataW H) → Bool := fun _ ds => decide (uptoBulkAll ds ≤ 1048576)
def OpenSpec.upto (s : _root_.Go.ChangeSpec) : _root_.Go.OpenSpec := { _root_.Go.OpenSpec.ofChange s with cond := some uptoSmall }

/-- 'overseerlaw36.HierarchyTests', WHERE WHAT IT READS IS OF BULK AT MOST 1048576: true; the input reads as it did. -/
def hierarchyTestsUptoRow : OpenClaim := { program := "ytpfnhheoeaiomaagreatdoor", sum := "7ece79b0b076b1830bdcb0382accc621fa8528979e2f8ff22628d8f451bf1d68", func := "overseer/overseerlaw36.HierarchyTests", spec := "hierarchyTests", inPlace := ["internal/abi.NoEscape"], unfollowed := true, recurses := true, named := ["internal/strconv.uint64pow10", "math/bits.deBruijn32tab", "math/bits.deBruijn64tab"], plainKeys := false, apart := false, laid := [("math/bits.deBruijn32tab", laid_math_bits_deBruijn32tab), ("math/bits.deBruijn64tab", laid_math_bits_deBruijn64tab), ("internal/strconv.uint64pow10", laid_internal_strconv_uint64pow10)], narrowed := true }
def HierarchyTestsUptoSaid : Prop := hierarchyTestsUptoRow.holds Tryz.pinned (OpenSpec.upto hierarchyTestsSpec)

/-- 'overseerlaw36.HierarchySame', WHERE WHAT IT READS IS OF BULK AT MOST 1048576: true; the input reads as it did. -/
def hierarchySameUptoRow : OpenClaim := { program := "ytpfnhheoeaiomaagreatdoor", sum := "7ece79b0b076b1830bdcb0382accc621fa8528979e2f8ff22628d8f451bf1d68", func := "overseer/overseerlaw36.HierarchySame", spec := "hierarchySame", inPlace := ["internal/abi.NoEscape"], unfollowed := true, recurses := true, named := ["internal/strconv.uint64pow10", "math/bits.deBruijn32tab", "math/bits.deBruijn64tab"], plainKeys := false, apart := false, laid := [("math/bits.deBruijn32tab", laid_math_bits_deBruijn32tab), ("math/bits.deBruijn64tab", laid_math_bits_deBruijn64tab), ("internal/strconv.uint64pow10", laid_internal_strconv_uint64pow10)], narrowed := true }
def HierarchySameUptoSaid : Prop := hierarchySameUptoRow.holds Tryz.pinned (OpenSpec.upto hierarchySameSpec)

/-- 'overseerlaw36.HierarchyAll', WHERE WHAT IT READS IS OF BULK AT MOST 1048576: true; the input reads as it did. -/
def hierarchyAllUptoRow : OpenClaim := { program := "ytpfnhheoeaiomaagreatdoor", sum := "7ece79b0b076b1830bdcb0382accc621fa8528979e2f8ff22628d8f451bf1d68", func := "overseer/overseerlaw36.HierarchyAll", spec := "hierarchyAll", inPlace := ["internal/abi.NoEscape"], unfollowed := true, recurses := true, named := ["internal/strconv.uint64pow10", "math/bits.deBruijn32tab", "math/bits.deBruijn64tab"], plainKeys := false, apart := false, laid := [("math/bits.deBruijn32tab", laid_math_bits_deBruijn32tab), ("math/bits.deBruijn64tab", laid_math_bits_deBruijn64tab), ("internal/strconv.uint64pow10", laid_internal_strconv_uint64pow10)], narrowed := true }
def HierarchyAllUptoSaid : Prop := hierarchyAllUptoRow.holds Tryz.pinned (OpenSpec.upto hierarchyAllSpec)

/-- 'overseerlaw36.HierarchyCompares', WHERE WHAT IT READS IS OF BULK AT MOST 1048576: true; the input reads as it did. -/
def hierarchyComparesUptoRow : OpenClaim := { program := "ytpfnhheoeaiomaagreatdoor", sum := "7ece79b0b076b1830bdcb0382accc621fa8528979e2f8ff22628d8f451bf1d68", func := "overseer/overseerlaw36.HierarchyCompares", spec := "hierarchyCompares", inPlace := ["internal/abi.NoEscape"], unfollowed := true, recurses := true, named := ["internal/strconv.uint64pow10", "math/bits.deBruijn32tab", "math/bits.deBruijn64tab"], plainKeys := false, apart := false, laid := [("math/bits.deBruijn32tab", laid_math_bits_deBruijn32tab), ("math/bits.deBruijn64tab", laid_math_bits_deBruijn64tab), ("internal/strconv.uint64pow10", laid_internal_strconv_uint64pow10)], narrowed := true }
def HierarchyComparesUptoSaid : Prop := hierarchyComparesUptoRow.holds Tryz.pinned (OpenSpec.upto hierarchyComparesSpec)

/-- 'overseerlaw36.HierarchyKeeps', WHERE WHAT IT READS IS OF BULK AT MOST 1048576: true; the input reads as it did. -/
def hierarchyKeepsUptoRow : OpenClaim := { program := "ytpfnhheoeaiomaagreatdoor", sum := "7ece79b0b076b1830bdcb0382accc621fa8528979e2f8ff22628d8f451bf1d68", func := "overseer/overseerlaw36.HierarchyKeeps", spec := "hierarchyKeeps", inPlace := ["internal/abi.NoEscape"], unfollowed := true, recurses := true, named := ["internal/strconv.uint64pow10", "math/bits.deBruijn32tab", "math/bits.deBruijn64tab"], plainKeys := false, apart := false, laid := [("math/bits.deBruijn32tab", laid_math_bits_deBruijn32tab), ("math/bits.deBruijn64tab", laid_math_bits_deBruijn64tab), ("internal/strconv.uint64pow10", laid_internal_strconv_uint64pow10)], narrowed := true }
def HierarchyKeepsUptoSaid : Prop := hierarchyKeepsUptoRow.holds Tryz.pinned (OpenSpec.upto hierarchyKeepsSpec)

/-- 'overseerlaw36.HierarchyRefuses', WHERE WHAT IT READS IS OF BULK AT MOST 1048576: true; the input reads as it did. -/
def hierarchyRefusesUptoRow : OpenClaim := { program := "ytpfnhheoeaiomaagreatdoor", sum := "7ece79b0b076b1830bdcb0382accc621fa8528979e2f8ff22628d8f451bf1d68", func := "overseer/overseerlaw36.HierarchyRefuses", spec := "hierarchyRefuses", inPlace := ["internal/abi.NoEscape"], unfollowed := true, recurses := true, named := ["internal/strconv.uint64pow10", "math/bits.deBruijn32tab", "math/bits.deBruijn64tab"], plainKeys := false, apart := false, laid := [("math/bits.deBruijn32tab", laid_math_bits_deBruijn32tab), ("math/bits.deBruijn64tab", laid_math_bits_deBruijn64tab), ("internal/strconv.uint64pow10", laid_internal_strconv_uint64pow10)], narrowed := true }
def HierarchyRefusesUptoSaid : Prop := hierarchyRefusesUptoRow.holds Tryz.pinned (OpenSpec.upto hierarchyRefusesSpec)

/-- 'overseerlaw36.HierarchyAbstracts', WHERE WHAT IT READS IS OF BULK AT MOST 1048576: true; the input reads as it did. -/
def hierarchyAbstractsUptoRow : OpenClaim := { program := "ytpfnhheoeaiomaagreatdoor", sum := "7ece79b0b076b1830bdcb0382accc621fa8528979e2f8ff22628d8f451bf1d68", func := "overseer/overseerlaw36.HierarchyAbstracts", spec := "hierarchyAbstracts", inPlace := ["internal/abi.NoEscape"], unfollowed := true, recurses := true, named := ["internal/strconv.uint64pow10", "math/bits.deBruijn32tab", "math/bits.deBruijn64tab"], plainKeys := false, apart := false, laid := [("math/bits.deBruijn32tab", laid_math_bits_deBruijn32tab), ("math/bits.deBruijn64tab", laid_math_bits_deBruijn64tab), ("internal/strconv.uint64pow10", laid_internal_strconv_uint64pow10)], narrowed := true }
def HierarchyAbstractsUptoSaid : Prop := hierarchyAbstractsUptoRow.holds Tryz.pinned (OpenSpec.upto hierarchyAbstractsSpec)

end Rows
end Go.Proofs.YtpfnhheoeaiomaaGreatDoor
