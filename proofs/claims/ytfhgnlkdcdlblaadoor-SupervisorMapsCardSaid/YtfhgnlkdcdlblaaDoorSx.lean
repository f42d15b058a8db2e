/- The examples of the chapter, computed. -/
import Derived.Test.YtfhgnlkdcdlblaaDoorSw
namespace Go.Proofs.YtfhgnlkdcdlblaaDoor
open Go.Lg

def exP : Aut := ⟨[0, 1], 2, [0, 1], [(0, 0, 1), (1, 0, 1), (1, 1, 0)]⟩
def exL : Aut := ⟨[0, 1], 2, [0, 1], [(0, 0, 1), (1, 1, 0)]⟩
def exS : Aut := ⟨[0, 1], 3, [0, 1, 2], [(0, 0, 1), (1, 0, 2), (1, 1, 0), (2, 1, 0)]⟩
theorem exPS_E : opE exP exS = 0 := by rfl
theorem exPS_C : ctls exP exS (opQ exP exS) = [⟨[0], [], true, true⟩, ⟨[0, 1], [], true, true⟩, ⟨[1], [0], true, true⟩] := by rfl
theorem exPS_K : clsOf exP exS (opQ exP exS) = [0, 1, 2] := by rfl
theorem exLS_E : rdE exL exS = 0 := by rfl
theorem exLS_A : rdA exL exS = ⟨[0, 1], 1, [0], [(0, 0, 0), (0, 1, 0)]⟩ := by rfl
end Go.Proofs.YtfhgnlkdcdlblaaDoor
