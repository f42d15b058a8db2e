/- SupervisorConsistent: for any two Controls with events from 0 to 4 (any four bytes and any flags), the law's function returns true, and its arguments read as they did: the row, and the tied card. -/
import Derived.Test.YtfhgnlkdcdlblaaDoorCy
import Derived.Test.YtfhgnlkdcdlblaaDoorLz
import Derived.Test.YtfhgnlkdcdlblaaDoorRows
import Derived.Test.YtfhgnlkdcdlblaaDoorCards
import Derived.Test.YtfhgnlkdcdlblaaDoorTie
import Derived.ChangeSame
import Derived.ChangeVars
import Derived.JoinedOf
import Derived.RowKit
import Derived.RowKitTokens
import Derived.LaidLaws
import Derived.LaidMore
import Derived.ProofKit
import Derived.Stop.Joined
import Derived.Laws.IdiomArrays
import Derived.SevenTiedAt
namespace Go.Proofs.YtfhgnlkdcdlblaaDoor
open Go.ChangeShapes Go.WideShapes Go.RowKit Go.Lg

theorem ownK : ownKnob Tryd.prog.godebug = none := by kernel_rfl
theorem laidOutK : laidOutB Tryd.prog = true := by kernel_rfl
theorem door_metK (os : Os) (args : Array Value) : laidMetH Tryd.prog Rows.supervisorConsistentRow.laid ((World.doorLaid Tryd.prog 400 os).forCall (fun _ _ => 0) ⟨#[], args, []⟩).memory :=
  laidMetH_of_parts3 (fuel := 8) (laidMet_of_run' 8 (by kernel_rfl) (by kernel_rfl)) (by kernel_rfl) (by kernel_rfl)
theorem list_four (l : List Value) (h : l.toArray.size = 4) : ∃ c0 c1 c2 c3, l = [c0, c1, c2, c3] := by
  match l, h with
  | [c0, c1, c2, c3], _ => exact ⟨c0, c1, c2, c3, rfl⟩
theorem u8_nat {n : Int} (h : (Lit.int .u8 n).wf = true) : ∃ m : Nat, n = m ∧ m < 256 := by
  simp only [Lit.wf, Bool.and_eq_true, decide_eq_true_eq] at h
  rw [show IntKind.u8.min = 0 from rfl, show IntKind.u8.max = 255 from rfl] at h
  exact ⟨n.toNat, by omega, by omega⟩

set_option maxRecDepth 100000 in
theorem consistent_lifted (os : Os) (started : os.Started) (H : Type) (enc : TypeId × Value → H) :
    ReturnsInHanded {} Tryd.checked os 5 .any (fun w args => (Rows.supervisorConsistentSpec.pre enc Tryd.prog Tryd.f5 [] false w args ∧ laidMetH Tryd.prog Rows.supervisorConsistentRow.laid w) ∧ sizedMet enc Tryd.prog Tryd.f5 (OpenSpec.ofChange Rows.supervisorConsistentSpec) false w args)
      (Rows.supervisorConsistentSpec.post enc Tryd.prog Tryd.f5 false true false false) := by
  refine returnsInHanded_of_change_and (C := Tryd.checked) (X := fun w _ => laidMetH Tryd.prog Rows.supervisorConsistentRow.laid w) (fun _ _ _ hh h => h.of_heap hh) ownK started (by kernel_rfl) Tryd.func5
    (ChangeSpec.witness_shaped (enc := enc) (C := Tryd.checked) (os := os) (X := fun w _ => laidMetH Tryd.prog Rows.supervisorConsistentRow.laid w) false (World.doorLaid Tryd.prog 400 os) #[.agg #[.int .u8 0, .int .u8 0, .int .u8 0, .int .u8 0], .int .u8 0] 8 rfl (World.shaped_of_RefB (by kernel_rfl) (by kernel_rfl)) (by kernel_rfl) (by kernel_rfl) (by kernel_rfl) (door_metK os _)) ?_
  intro W base args ds gs before hval0 hW _ _ _ _
  have hval : ∀ (j : Nat) t v, Tryd.f5.params[j]? = some t → args[j]? = some v → Value.okWide Tryd.prog W .any base t v := hval0
  have hW' := hW
  obtain ⟨p, q, hA0, hV, rfl, _, _⟩ := hW
  have hA : DataW.TrodAll enc Tryd.prog W 0 (fun _ => true) true Tryd.f5.params.toList args.toList ds p := hA0
  rw [Tryd.params5] at hA hval
  obtain ⟨v0, v1, d0, d1, p0, p1, rfl, rfl, rfl, h0, h1⟩ := trodAll_two hA
  obtain ⟨rfl, rfl⟩ := trodVars_none hV
  obtain ⟨cs, rfl, hsz, _⟩ : ∃ cs, v0 = .agg cs ∧ cs.size = Tryd.prog.cellsOf 60 ∧ Row.okWide Tryd.prog W .any base 60 cs := by
    have := hval 0 60 v0 rfl rfl
    simp only [Value.okWide, Tryd.underlying60] at this
    exact this
  rw [show Tryd.prog.cellsOf 60 = 4 by kernel_rfl] at hsz
  obtain ⟨l⟩ := cs
  obtain ⟨c0, c1, c2, c3, rfl⟩ : ∃ c0 c1 c2 c3, l = [c0, c1, c2, c3] := by
    exact list_four l hsz
  obtain ⟨fuel, hf⟩ := h0
  obtain ⟨y0, y1, y2, y3, m, hx, hy0, hy1, hy2, hy3⟩ := trod_array4 Tryd.underlying60 (by kernel_rfl) hf
  obtain ⟨x0, e0, rfl, w0⟩ := DataW.trod_int Tryd.underlying5 hy0
  obtain ⟨x1, e1, rfl, w1⟩ := DataW.trod_int Tryd.underlying5 hy1
  obtain ⟨x2, e2, rfl, w2⟩ := DataW.trod_int Tryd.underlying5 hy2
  obtain ⟨x3, e3, rfl, w3⟩ := DataW.trod_int Tryd.underlying5 hy3
  simp at e0 e1 e2 e3
  subst e0 e1 e2 e3
  obtain ⟨f, rfl, rfl, rfl, wf⟩ := open_int Tryd.underlying5 (hval 1 5 v1 rfl rfl) h1
  obtain ⟨n0, rfl, b0⟩ := u8_nat w0
  obtain ⟨n1, rfl, b1⟩ := u8_nat w1
  obtain ⟨n2, rfl, b2⟩ := u8_nat w2
  obtain ⟨n3, rfl, b3⟩ := u8_nat w3
  obtain ⟨nf, rfl, bf⟩ := u8_nat wf
  have hr := lawConsistent_ok n0 n1 n2 n3 nf b0 b1 b2 b3 bf W
  unfold Ret at hr
  refine Calls.mono hr fun e W' he => ?_
  cases e with
  | returned v =>
    obtain ⟨rfl, hS⟩ := he
    exact ⟨_, rfl, law_post laidOutK (by kernel_rfl) rfl Tryd.underlying4 rfl rfl hW' hS⟩
  | _ => exact he.elim

theorem consistent_said : Rows.SupervisorConsistentSaid :=
  OpenClaim.holds_of_wide 5 Tryd.f5 rfl rfl rfl rfl rfl rfl rfl ⟨rfl, rfl, rfl, rfl, rfl⟩ rfl rfl rfl rfl rfl (by kernel_rfl) Tryd.func5 (by kernel_rfl)
    (of_decide_eq_true (by kernel_rfl)) (by unfold Func.isWrapper; first | (rw [if_pos (by decide +kernel)]; kernel_rfl) | (rw [if_neg (by decide +kernel)]; exact ⟨rfl, rfl⟩))
    (fun os started H enc _ => consistent_lifted os started H enc)

/-- The tied card. -/
theorem supervisorConsistent_holds : Rows.SupervisorConsistentCardSaid :=
  Claim7.holds_tied_plain_at .later [] [.data, .data, .data] true (true, "3dfebf28e8da3e9e2267c9c15379e57bd614cb44eba0049038ba477408d0f9d0") false
    consistent_said (fun _ h => by cases h) (by kernel_rfl) (fun _ h => by cases h) supervisorConsistent_row_tie rfl ⟨rfl, rfl⟩ (by kernel_rfl) rfl
    (fun f fn hf hfn => by
      obtain rfl : f = 5 := Option.some.inj ((show Tryd.prog.funcNamed "overseer/overseerlaw30.SupervisorConsistent" = some 5 by kernel_rfl).symm.trans hf) |>.symm
      obtain rfl : fn = Tryd.f5 := (Option.some.inj (Tryd.func5.symm.trans hfn)).symm
      exact ⟨by kernel_rfl, fun j t ht => by
        rw [Tryd.params5] at ht
        have hm : t ∈ [60, 5] := by simpa using Array.mem_of_getElem? ht
        have hall : ([60, 5].all fun u => !Tryd.prog.wantsStandIn u) = true := by kernel_rfl
        exact (show Tryd.prog.wantsStandIn t = false by simpa using List.all_eq_true.1 hall t hm)⟩)
    (by kernel_rfl)
#print axioms supervisorConsistent_holds
end Go.Proofs.YtfhgnlkdcdlblaaDoor
