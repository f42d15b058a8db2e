/- SupervisorMaps: for any problem of graphs, the law's function returns true, and its argument reads as it did: the row, and the tied card. -/
import Derived.Test.YtfhgnlkdcdlblaaDoorMb
import Derived.Test.YtfhgnlkdcdlblaaDoorLz
import Derived.Test.YtfhgnlkdcdlblaaDoorRows
import Derived.Test.YtfhgnlkdcdlblaaDoorCards
import Derived.Test.YtfhgnlkdcdlblaaDoorTie
import Derived.ChangeSame
import Derived.ChangeVars
import Derived.JoinedOf
import Derived.RowKit
import Derived.RowKitTokens
import Derived.LaidLaws
import Derived.LaidMore
import Derived.ProofKit
import Derived.Stop.Joined
import Derived.SevenTiedAt
namespace Go.Proofs.YtfhgnlkdcdlblaaDoor
open Go.ChangeShapes Go.WideShapes Go.RowKit Go.Lg

def isU8 (P : Program) (u : TypeId) : Bool := match P.underlying u with
  | some (.int .u8) => true
  | _ => false
theorem isU8_spec {P : Program} {u : TypeId} (h : isU8 P u = true) : P.underlying u = some (.int .u8) := by
  unfold isU8 at h
  split at h
  · assumption
  · cases h
theorem bys_of : ∀ (l : List Value), (∀ v ∈ l, ∃ n : Nat, v = .int .u8 (n : Int) ∧ n < 256) → ∃ ns : List Nat, l = bys ns ∧ ns.length = l.length ∧ ∀ n ∈ ns, n < 256
  | [], _ => ⟨[], rfl, rfl, by simp⟩
  | v :: l, h => by
    obtain ⟨n, rfl, hn⟩ := h v List.mem_cons_self
    obtain ⟨ns, h1, h2, h3⟩ := bys_of l (fun v hv => h v (List.mem_cons_of_mem _ hv))
    refine ⟨n :: ns, by rw [h1]; rfl, by simp [h2], fun m hm => ?_⟩
    rcases List.mem_cons.1 hm with rfl | hm
    · exact hn
    · exact h3 m hm
/-- A struct of bytes alone: its cells. -/
theorem bytes_of {P : Program} {W : World} {base t m : Nat} {v : Value} {fs : Array Field} (hu : P.underlying t = some (.struct fs)) (hts : ((P.cellTypes P.depth t).map fun ts => ts.all (isU8 P)) = some true) (hc : P.cellsOf t = m) (hval : Value.okWide P W .any base t v) :
    ∃ ns : List Nat, v = .agg (bys ns).toArray ∧ ns.length = m ∧ ∀ n ∈ ns, n < 256 := by
  simp only [Value.okWide, hu] at hval
  obtain ⟨cs, rfl, hsz, ts, hts', _, hcell⟩ := hval
  rw [hts'] at hts
  simp only [Option.map_some, Option.some.injEq] at hts
  obtain ⟨l⟩ := cs
  obtain ⟨ns, h1, h2, h3⟩ := bys_of l (fun v hv => by
    obtain ⟨i, hi, rfl⟩ := List.getElem_of_mem hv
    obtain ⟨u, hu1, hu2⟩ := hcell i l[i] (by simp [hi])
    have hu3 := isU8_spec (List.all_eq_true.1 hts u (List.mem_of_getElem? hu1))
    simp only [Cell.okWide, hu3] at hu2
    generalize l[i] = x at hu2
    cases x <;> simp only [Cell.ok, hu3] at hu2
    obtain ⟨rfl, hr⟩ := hu2
    simp only [IntKind.has] at hr
    rw [show IntKind.u8.min = 0 from rfl, show IntKind.u8.max = 255 from rfl] at hr
    rename_i n
    exact ⟨n.toNat, by rw [Int.toNat_of_nonneg hr.1], by omega⟩)
  subst h1
  refine ⟨ns, rfl, ?_, h3⟩
  rw [h2, ← hc, ← hsz]; rfl
theorem ownM : ownKnob Tryd.prog.godebug = none := by kernel_rfl
theorem laidOutM : laidOutB Tryd.prog = true := by kernel_rfl
theorem door_metM (os : Os) (args : Array Value) : laidMetH Tryd.prog Rows.supervisorMapsRow.laid ((World.doorLaid Tryd.prog 400 os).forCall (fun _ _ => 0) ⟨#[], args, []⟩).memory :=
  laidMetH_of_parts3 (fuel := 8) (laidMet_of_run' 8 (by kernel_rfl) (by kernel_rfl)) (by kernel_rfl) (by kernel_rfl)

set_option maxRecDepth 100000 in
theorem maps_lifted (os : Os) (started : os.Started) (H : Type) (enc : TypeId × Value → H) :
    ReturnsInHanded {} Tryd.checked os 4 .any (fun w args => (Rows.supervisorMapsSpec.pre enc Tryd.prog Tryd.f4 [] false w args ∧ laidMetH Tryd.prog Rows.supervisorMapsRow.laid w) ∧ sizedMet enc Tryd.prog Tryd.f4 (OpenSpec.ofChange Rows.supervisorMapsSpec) false w args)
      (Rows.supervisorMapsSpec.post enc Tryd.prog Tryd.f4 false true false false) := by
  refine returnsInHanded_of_change_and (C := Tryd.checked) (X := fun w _ => laidMetH Tryd.prog Rows.supervisorMapsRow.laid w) (fun _ _ _ hh h => h.of_heap hh) ownM started (by kernel_rfl) Tryd.func4
    (ChangeSpec.witness_shaped (enc := enc) (C := Tryd.checked) (os := os) (X := fun w _ => laidMetH Tryd.prog Rows.supervisorMapsRow.laid w) false (World.doorLaid Tryd.prog 400 os) #[.agg (Array.replicate 57 (.int .u8 0))] 8 rfl (World.shaped_of_RefB (by kernel_rfl) (by kernel_rfl)) (by kernel_rfl) (by kernel_rfl) (by kernel_rfl) (door_metM os _)) ?_
  intro W base args ds gs before hval0 hW _ _ _ _
  have hval : ∀ (j : Nat) t v, Tryd.f4.params[j]? = some t → args[j]? = some v → Value.okWide Tryd.prog W .any base t v := hval0
  have hW' := hW
  obtain ⟨p, q, hA0, hV, rfl, _, _⟩ := hW
  have hA : DataW.TrodAll enc Tryd.prog W 0 (fun _ => true) true Tryd.f4.params.toList args.toList ds p := hA0
  rw [Tryd.params4] at hA hval
  obtain ⟨v0, d0, rfl, rfl, h0⟩ := trodAll_one hA
  obtain ⟨rfl, rfl⟩ := trodVars_none hV
  obtain ⟨ns, rfl, hn, hns⟩ := bytes_of Tryd.underlying30 (by kernel_rfl) (m := 57) (by kernel_rfl) (hval 0 30 v0 rfl rfl)
  have hr := lawMaps_ok hn hns W
  unfold Ret at hr
  refine Calls.mono hr fun e W' he => ?_
  cases e with
  | returned v =>
    obtain ⟨rfl, hS⟩ := he
    exact ⟨_, rfl, law_post laidOutM (by kernel_rfl) rfl Tryd.underlying4 rfl rfl hW' hS⟩
  | _ => exact he.elim

theorem maps_said : Rows.SupervisorMapsSaid :=
  OpenClaim.holds_of_wide 4 Tryd.f4 rfl rfl rfl rfl rfl rfl rfl ⟨rfl, rfl, rfl, rfl, rfl⟩ rfl rfl rfl rfl rfl (by kernel_rfl) Tryd.func4 (by kernel_rfl)
    (of_decide_eq_true (by kernel_rfl)) (by unfold Func.isWrapper; first | (rw [if_pos (by decide +kernel)]; kernel_rfl) | (rw [if_neg (by decide +kernel)]; exact ⟨rfl, rfl⟩))
    (fun os started H enc _ => maps_lifted os started H enc)

/-- The tied card. -/
theorem supervisorMaps_holds : Rows.SupervisorMapsCardSaid :=
  Claim7.holds_tied_plain_at .later [] [.data, .data, .data] true (true, "3dfebf28e8da3e9e2267c9c15379e57bd614cb44eba0049038ba477408d0f9d0") false
    maps_said (fun _ h => by cases h) (by kernel_rfl) (fun _ h => by cases h) supervisorMaps_row_tie rfl ⟨rfl, rfl⟩ (by kernel_rfl) rfl
    (fun f fn hf hfn => by
      obtain rfl : f = 4 := Option.some.inj ((show Tryd.prog.funcNamed "overseer/overseerlaw30.SupervisorMaps" = some 4 by kernel_rfl).symm.trans hf) |>.symm
      obtain rfl : fn = Tryd.f4 := (Option.some.inj (Tryd.func4.symm.trans hfn)).symm
      exact ⟨by kernel_rfl, fun j t ht => by
        rw [Tryd.params4] at ht
        have hm : t ∈ [30] := by simpa using Array.mem_of_getElem? ht
        have hall : ([30].all fun u => !Tryd.prog.wantsStandIn u) = true := by kernel_rfl
        exact (show Tryd.prog.wantsStandIn t = false by simpa using List.all_eq_true.1 hall t hm)⟩)
    (by kernel_rfl)
#print axioms supervisorMaps_holds
end Go.Proofs.YtfhgnlkdcdlblaaDoor
