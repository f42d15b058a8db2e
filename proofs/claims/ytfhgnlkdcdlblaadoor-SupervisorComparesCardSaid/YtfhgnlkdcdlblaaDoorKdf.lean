/- SupervisorCompares: for any plant and any two supervisors of graphs, the law's function returns true, and its arguments read as they did: the row, and the tied card. -/
import Derived.Test.YtfhgnlkdcdlblaaDoorKde
import Derived.Test.YtfhgnlkdcdlblaaDoorRows
import Derived.Test.YtfhgnlkdcdlblaaDoorCards
import Derived.Test.YtfhgnlkdcdlblaaDoorTie
import Derived.ChangeSame
import Derived.ChangeVars
import Derived.JoinedOf
import Derived.RowKit
import Derived.RowKitTokens
import Derived.LaidLaws
import Derived.LaidMore
import Derived.ProofKit
import Derived.Stop.Joined
import Derived.SevenTiedAt

namespace Go.Proofs.YtfhgnlkdcdlblaaDoor
open Go.ChangeShapes Go.WideShapes Go.RowKit Go.Lg

theorem ownCm : ownKnob Tryd.prog.godebug = none := by kernel_rfl
theorem laidOutCm : laidOutB Tryd.prog = true := by kernel_rfl
theorem door_metCm (os : Os) (args : Array Value) : laidMetH Tryd.prog Rows.supervisorComparesRow.laid ((World.doorLaid Tryd.prog 400 os).forCall (fun _ _ => 0) ⟨#[], args, []⟩).memory :=
  laidMetH_of_parts3 (fuel := 8) (laidMet_of_run' 8 (by kernel_rfl) (by kernel_rfl)) (by kernel_rfl) (by kernel_rfl)

set_option maxRecDepth 100000 in
theorem compares_lifted (os : Os) (started : os.Started) (H : Type) (enc : TypeId × Value → H) :
    ReturnsInHanded {} Tryd.checked os 8 .any (fun w args => (Rows.supervisorComparesSpec.pre enc Tryd.prog Tryd.f8 [] false w args ∧ laidMetH Tryd.prog Rows.supervisorComparesRow.laid w) ∧ sizedMet enc Tryd.prog Tryd.f8 (OpenSpec.ofChange Rows.supervisorComparesSpec) false w args)
      (Rows.supervisorComparesSpec.post enc Tryd.prog Tryd.f8 false true false false) := by
  refine returnsInHanded_of_change_and (C := Tryd.checked) (X := fun w _ => laidMetH Tryd.prog Rows.supervisorComparesRow.laid w) (fun _ _ _ hh h => h.of_heap hh) ownCm started (by kernel_rfl) Tryd.func8
    (ChangeSpec.witness_shaped (enc := enc) (C := Tryd.checked) (os := os) (X := fun w _ => laidMetH Tryd.prog Rows.supervisorComparesRow.laid w) false (World.doorLaid Tryd.prog 400 os) #[.agg (Array.replicate 57 (.int .u8 0)), .agg (Array.replicate 57 (.int .u8 0))] 8 rfl (World.shaped_of_RefB (by kernel_rfl) (by kernel_rfl)) (by kernel_rfl) (by kernel_rfl) (by kernel_rfl) (door_metCm os _)) ?_
  intro W base args ds gs before hval0 hW _ _ _ _
  have hval : ∀ (j : Nat) t v, Tryd.f8.params[j]? = some t → args[j]? = some v → Value.okWide Tryd.prog W .any base t v := hval0
  have hW' := hW
  obtain ⟨p, q, hA0, hV, rfl, _, _⟩ := hW
  have hA : DataW.TrodAll enc Tryd.prog W 0 (fun _ => true) true Tryd.f8.params.toList args.toList ds p := hA0
  rw [Tryd.params8] at hA hval
  obtain ⟨v0, v1, d0, d1, p0, p1, rfl, rfl, rfl, h0, h1⟩ := trodAll_two hA
  obtain ⟨rfl, rfl⟩ := trodVars_none hV
  obtain ⟨ns, rfl, hn, hns⟩ := bytes_of Tryd.underlying30 (by kernel_rfl) (m := 57) (by kernel_rfl) (hval 0 30 v0 rfl rfl)
  obtain ⟨ms, rfl, hm, hms⟩ := bytes_of Tryd.underlying30 (by kernel_rfl) (m := 57) (by kernel_rfl) (hval 1 30 v1 rfl rfl)
  have hr := lawCompares_ok hn hns hm hms W
  unfold Ret at hr
  refine Calls.mono hr fun e W' he => ?_
  cases e with
  | returned v =>
    obtain ⟨rfl, hS⟩ := he
    exact ⟨_, rfl, law_post laidOutCm (by kernel_rfl) rfl Tryd.underlying4 rfl rfl hW' hS⟩
  | _ => exact he.elim

theorem compares_said : Rows.SupervisorComparesSaid :=
  OpenClaim.holds_of_wide 8 Tryd.f8 rfl rfl rfl rfl rfl rfl rfl ⟨rfl, rfl, rfl, rfl, rfl⟩ rfl rfl rfl rfl rfl (by kernel_rfl) Tryd.func8 (by kernel_rfl)
    (of_decide_eq_true (by kernel_rfl)) (by unfold Func.isWrapper; first | (rw [if_pos (by decide +kernel)]; kernel_rfl) | (rw [if_neg (by decide +kernel)]; exact ⟨rfl, rfl⟩))
    (fun os started H enc _ => compares_lifted os started H enc)

/-- The tied card. -/
theorem supervisorCompares_holds : Rows.SupervisorComparesCardSaid :=
  Claim7.holds_tied_plain_at .later [] [.data, .data, .data] true (true, "3dfebf28e8da3e9e2267c9c15379e57bd614cb44eba0049038ba477408d0f9d0") false
    compares_said (fun _ h => by cases h) (by kernel_rfl) (fun _ h => by cases h) supervisorCompares_row_tie rfl ⟨rfl, rfl⟩ (by kernel_rfl) rfl
    (fun f fn hf hfn => by
      obtain rfl : f = 8 := Option.some.inj ((show Tryd.prog.funcNamed "overseer/overseerlaw30.SupervisorCompares" = some 8 by kernel_rfl).symm.trans hf) |>.symm
      obtain rfl : fn = Tryd.f8 := (Option.some.inj (Tryd.func8.symm.trans hfn)).symm
      exact ⟨by kernel_rfl, fun j t ht => by
        rw [Tryd.params8] at ht
        have hm : t ∈ [30, 30] := by simpa using Array.mem_of_getElem? ht
        have hall : ([30, 30].all fun u => !Tryd.prog.wantsStandIn u) = true := by kernel_rfl
        exact (show Tryd.prog.wantsStandIn t = false by simpa using List.all_eq_true.1 hall t hm)⟩)
    (by kernel_rfl)
#print axioms supervisorCompares_holds
end Go.Proofs.YtfhgnlkdcdlblaaDoor
