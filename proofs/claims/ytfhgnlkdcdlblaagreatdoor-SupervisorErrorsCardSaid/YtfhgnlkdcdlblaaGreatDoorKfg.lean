/- SupervisorErrors: for any two automata and any two lists, the law's function returns true, and its arguments read as they did: the row, and the tied card. -/
import Derived.Test.YtfhgnlkdcdlblaaGreatDoorKff
import Derived.Test.YtfhgnlkdcdlblaaGreatDoorRows
import Derived.Test.YtfhgnlkdcdlblaaGreatDoorCards
import Derived.Test.YtfhgnlkdcdlblaaGreatDoorTie
import Derived.ChangeSame
import Derived.ChangeVars
import Derived.JoinedOf
import Derived.RowKit
import Derived.RowKitTokens
import Derived.LaidLaws
import Derived.LaidMore
import Derived.ProofKit
import Derived.Stop.Joined
import Derived.SevenTiedAt

namespace Go.Proofs.YtfhgnlkdcdlblaaGreatDoor
open Go.ChangeShapes Go.WideShapes Go.RowKit Go.Lg

theorem ownEr : ownKnob Tryz.prog.godebug = none := by kernel_rfl
theorem laidOutEr : laidOutB Tryz.prog = true := by kernel_rfl
theorem door_metEr (os : Os) (args : Array Value) : laidMetH Tryz.prog Rows.supervisorErrorsRow.laid ((World.doorLaid Tryz.prog 400 os).forCall (fun _ _ => 0) ⟨#[], args, []⟩).memory :=
  laidMetH_of_parts3 (fuel := 8) (laidMet_of_run' 8 (by kernel_rfl) (by kernel_rfl)) (by kernel_rfl) (by kernel_rfl)

set_option maxRecDepth 100000 in
theorem errors_lifted (os : Os) (started : os.Started) (H : Type) (enc : TypeId × Value → H) :
    ReturnsInHanded {} Tryz.checked os 4 .any (fun w args => (Rows.supervisorErrorsSpec.pre enc Tryz.prog Tryz.f4 [] false w args ∧ laidMetH Tryz.prog Rows.supervisorErrorsRow.laid w) ∧ sizedMet enc Tryz.prog Tryz.f4 (OpenSpec.ofChange Rows.supervisorErrorsSpec) false w args)
      (Rows.supervisorErrorsSpec.post enc Tryz.prog Tryz.f4 false true false false) := by
  refine returnsInHanded_of_change_and (C := Tryz.checked) (X := fun w _ => laidMetH Tryz.prog Rows.supervisorErrorsRow.laid w) (fun _ _ _ hh h => h.of_heap hh) ownEr started (by kernel_rfl) Tryz.func4
    (ChangeSpec.witness_shaped (enc := enc) (C := Tryz.checked) (os := os) (X := fun w _ => laidMetH Tryz.prog Rows.supervisorErrorsRow.laid w) false (World.doorLaid Tryz.prog 400 os) #[.agg #[.slice none 0 0, .int .i64 0, .slice none 0 0, .slice none 0 0], .agg #[.slice none 0 0, .int .i64 0, .slice none 0 0, .slice none 0 0], .agg #[.slice none 0 0, .slice none 0 0]] 8 rfl (World.shaped_of_RefB (by kernel_rfl) (by kernel_rfl)) (by kernel_rfl) (by kernel_rfl) (by kernel_rfl) (door_metEr os _)) ?_
  intro W base args ds gs before hval0 hW _ _ _ _
  have hval : ∀ (j : Nat) t v, Tryz.f4.params[j]? = some t → args[j]? = some v → Value.okWide Tryz.prog W .any base t v := hval0
  have hW' := hW
  obtain ⟨p, q, hA0, hV, rfl, _, _⟩ := hW
  have hA : DataW.TrodAll enc Tryz.prog W 0 (fun _ => true) true Tryz.f4.params.toList args.toList ds p := hA0
  rw [Tryz.params4] at hA hval
  obtain ⟨v0, v1, v2, d0, d1, d2, p0, p1, p2, rfl, rfl, rfl, h0, h1, h2⟩ := trodAll_three hA
  obtain ⟨rfl, rfl⟩ := trodVars_none hV
  obtain ⟨w0, w1, rfl, hl0, hl1⟩ := argLs (hval 2 52 v2 rfl rfl) h2
  have hr := lawErrors_ok (argA (hval 0 35 v0 rfl rfl) h0) (argA (hval 1 35 v1 rfl rfl) h1) hl0 hl1
  unfold Ret at hr
  refine Calls.mono hr fun e W' he => ?_
  cases e with
  | returned v =>
    obtain ⟨rfl, hS⟩ := he
    exact ⟨_, rfl, law_post laidOutEr (by kernel_rfl) rfl Tryz.underlying4 rfl rfl hW' hS⟩
  | _ => exact he.elim

theorem errors_said : Rows.SupervisorErrorsSaid :=
  OpenClaim.holds_of_wide 4 Tryz.f4 rfl rfl rfl rfl rfl rfl rfl ⟨rfl, rfl, rfl, rfl, rfl⟩ rfl rfl rfl rfl rfl (by kernel_rfl) Tryz.func4 (by kernel_rfl)
    (of_decide_eq_true (by kernel_rfl)) (by unfold Func.isWrapper; first | (rw [if_pos (by decide +kernel)]; kernel_rfl) | (rw [if_neg (by decide +kernel)]; exact ⟨rfl, rfl⟩))
    (fun os started H enc _ => errors_lifted os started H enc)

/-- The tied card. -/
theorem supervisorErrors_holds : Rows.SupervisorErrorsCardSaid :=
  Claim7.holds_tied_plain_at .later [] [.data, .data, .data] true (true, "3908dd87054a6a09a8bc69ae4e77bda2719c115b925563c5d0a76567a8d28279") false
    errors_said (fun _ h => by cases h) (by kernel_rfl) (fun _ h => by cases h) supervisorErrors_row_tie rfl ⟨rfl, rfl⟩ (by kernel_rfl) rfl
    (fun f fn hf hfn => by
      obtain rfl : f = 4 := Option.some.inj ((show Tryz.prog.funcNamed "overseer/overseerlaw30.SupervisorErrors" = some 4 by kernel_rfl).symm.trans hf) |>.symm
      obtain rfl : fn = Tryz.f4 := (Option.some.inj (Tryz.func4.symm.trans hfn)).symm
      exact ⟨by kernel_rfl, fun j t ht => by
        rw [Tryz.params4] at ht
        have hm : t ∈ [35, 35, 52] := by simpa using Array.mem_of_getElem? ht
        have hall : ([35, 35, 52].all fun u => !Tryz.prog.wantsStandIn u) = true := by kernel_rfl
        exact (show Tryz.prog.wantsStandIn t = false by simpa using List.all_eq_true.1 hall t hm)⟩)
    (by kernel_rfl)
#print axioms supervisorErrors_holds
end Go.Proofs.YtfhgnlkdcdlblaaGreatDoor
