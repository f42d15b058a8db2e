/- SupervisorConforms: for any problem of graphs, the law's function returns true, and its argument reads as it did: the row, and the tied card. -/
import Derived.Test.YtfhgnlkdcdlblaaGreatDoorKee
import Derived.Test.YtfhgnlkdcdlblaaGreatDoorRows
import Derived.Test.YtfhgnlkdcdlblaaGreatDoorCards
import Derived.Test.YtfhgnlkdcdlblaaGreatDoorTie
import Derived.ChangeSame
import Derived.ChangeVars
import Derived.JoinedOf
import Derived.RowKit
import Derived.RowKitTokens
import Derived.LaidLaws
import Derived.LaidMore
import Derived.ProofKit
import Derived.Stop.Joined
import Derived.SevenTiedAt

namespace Go.Proofs.YtfhgnlkdcdlblaaGreatDoor
open Go.ChangeShapes Go.WideShapes Go.RowKit Go.Lg

theorem ownCf : ownKnob Tryz.prog.godebug = none := by kernel_rfl
theorem laidOutCf : laidOutB Tryz.prog = true := by kernel_rfl
theorem door_metCf (os : Os) (args : Array Value) : laidMetH Tryz.prog Rows.supervisorConformsRow.laid ((World.doorLaid Tryz.prog 400 os).forCall (fun _ _ => 0) ⟨#[], args, []⟩).memory :=
  laidMetH_of_parts3 (fuel := 8) (laidMet_of_run' 8 (by kernel_rfl) (by kernel_rfl)) (by kernel_rfl) (by kernel_rfl)

set_option maxRecDepth 100000 in
theorem conforms_lifted (os : Os) (started : os.Started) (H : Type) (enc : TypeId × Value → H) :
    ReturnsInHanded {} Tryz.checked os 3 .any (fun w args => (Rows.supervisorConformsSpec.pre enc Tryz.prog Tryz.f3 [] false w args ∧ laidMetH Tryz.prog Rows.supervisorConformsRow.laid w) ∧ sizedMet enc Tryz.prog Tryz.f3 (OpenSpec.ofChange Rows.supervisorConformsSpec) false w args)
      (Rows.supervisorConformsSpec.post enc Tryz.prog Tryz.f3 false true false false) := by
  refine returnsInHanded_of_change_and (C := Tryz.checked) (X := fun w _ => laidMetH Tryz.prog Rows.supervisorConformsRow.laid w) (fun _ _ _ hh h => h.of_heap hh) ownCf started (by kernel_rfl) Tryz.func3
    (ChangeSpec.witness_shaped (enc := enc) (C := Tryz.checked) (os := os) (X := fun w _ => laidMetH Tryz.prog Rows.supervisorConformsRow.laid w) false (World.doorLaid Tryz.prog 400 os) #[.agg (Array.replicate 57 (.int .u8 0))] 8 rfl (World.shaped_of_RefB (by kernel_rfl) (by kernel_rfl)) (by kernel_rfl) (by kernel_rfl) (by kernel_rfl) (door_metCf os _)) ?_
  intro W base args ds gs before hval0 hW _ _ _ _
  have hval : ∀ (j : Nat) t v, Tryz.f3.params[j]? = some t → args[j]? = some v → Value.okWide Tryz.prog W .any base t v := hval0
  have hW' := hW
  obtain ⟨p, q, hA0, hV, rfl, _, _⟩ := hW
  have hA : DataW.TrodAll enc Tryz.prog W 0 (fun _ => true) true Tryz.f3.params.toList args.toList ds p := hA0
  rw [Tryz.params3] at hA hval
  obtain ⟨v0, d0, rfl, rfl, h0⟩ := trodAll_one hA
  obtain ⟨rfl, rfl⟩ := trodVars_none hV
  obtain ⟨ns, rfl, hn, hns⟩ := bytes_of Tryz.underlying30 (by kernel_rfl) (m := 57) (by kernel_rfl) (hval 0 30 v0 rfl rfl)
  have hr := lawConforms_ok hn hns W
  unfold Ret at hr
  refine Calls.mono hr fun e W' he => ?_
  cases e with
  | returned v =>
    obtain ⟨rfl, hS⟩ := he
    exact ⟨_, rfl, law_post laidOutCf (by kernel_rfl) rfl Tryz.underlying4 rfl rfl hW' hS⟩
  | _ => exact he.elim

theorem conforms_said : Rows.SupervisorConformsSaid :=
  OpenClaim.holds_of_wide 3 Tryz.f3 rfl rfl rfl rfl rfl rfl rfl ⟨rfl, rfl, rfl, rfl, rfl⟩ rfl rfl rfl rfl rfl (by kernel_rfl) Tryz.func3 (by kernel_rfl)
    (of_decide_eq_true (by kernel_rfl)) (by unfold Func.isWrapper; first | (rw [if_pos (by decide +kernel)]; kernel_rfl) | (rw [if_neg (by decide +kernel)]; exact ⟨rfl, rfl⟩))
    (fun os started H enc _ => conforms_lifted os started H enc)

/-- The tied card. -/
theorem supervisorConforms_holds : Rows.SupervisorConformsCardSaid :=
  Claim7.holds_tied_plain_at .later [] [.data, .data, .data] true (true, "3908dd87054a6a09a8bc69ae4e77bda2719c115b925563c5d0a76567a8d28279") false
    conforms_said (fun _ h => by cases h) (by kernel_rfl) (fun _ h => by cases h) supervisorConforms_row_tie rfl ⟨rfl, rfl⟩ (by kernel_rfl) rfl
    (fun f fn hf hfn => by
      obtain rfl : f = 3 := Option.some.inj ((show Tryz.prog.funcNamed "overseer/overseerlaw30.SupervisorConforms" = some 3 by kernel_rfl).symm.trans hf) |>.symm
      obtain rfl : fn = Tryz.f3 := (Option.some.inj (Tryz.func3.symm.trans hfn)).symm
      exact ⟨by kernel_rfl, fun j t ht => by
        rw [Tryz.params3] at ht
        have hm : t ∈ [30] := by simpa using Array.mem_of_getElem? ht
        have hall : ([30].all fun u => !Tryz.prog.wantsStandIn u) = true := by kernel_rfl
        exact (show Tryz.prog.wantsStandIn t = false by simpa using List.all_eq_true.1 hall t hm)⟩)
    (by kernel_rfl)
#print axioms supervisorConforms_holds
end Go.Proofs.YtfhgnlkdcdlblaaGreatDoor
