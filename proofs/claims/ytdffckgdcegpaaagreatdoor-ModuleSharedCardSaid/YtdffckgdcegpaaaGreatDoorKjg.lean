/- ModuleShared: for any described cell, Shared returns the least event that two components have, with the first two of these, the law's function returns true, and its arguments read as they did: the row, and the tied card. -/
import Derived.Test.YtdffckgdcegpaaaGreatDoorKjf
import Derived.Test.YtdffckgdcegpaaaGreatDoorKje
import Derived.Test.YtdffckgdcegpaaaGreatDoorRows
import Derived.Test.YtdffckgdcegpaaaGreatDoorCards
import Derived.Test.YtdffckgdcegpaaaGreatDoorTie
import Derived.ChangeSame
import Derived.ChangeVars
import Derived.JoinedOf
import Derived.RowKit
import Derived.RowKitTokens
import Derived.LaidLaws
import Derived.LaidMore
import Derived.ProofKit
import Derived.Stop.Joined
import Derived.SevenTiedAt
namespace Go.Proofs.YtdffckgdcegpaaaGreatDoor
open Go.Proofs.Tryz
open Go.ChangeShapes Go.WideShapes Go.RowKit Go.Lg
theorem Qjw:joinedFacts prog 4 Tryz.f4 Rows.moduleSharedSpec Rows.moduleSharedRow=true :=
 zx (by kernel_rfl) Ui QdW (by kernel_rfl) (by kernel_rfl) (by kernel_rfl) (by kernel_rfl) (by kernel_rfl) (by kernel_rfl) Qgt Qgs Qgr Qgq (by kernel_rfl) (by kernel_rfl) (by kernel_rfl) (by kernel_rfl) (by kernel_rfl) (by kernel_rfl) (by kernel_rfl) (by kernel_rfl) (by kernel_rfl) (by kernel_rfl) (by kernel_rfl) QdY QdZ QdX Qgp (by kernel_rfl) (by kernel_rfl) (by kernel_rfl) (by kernel_rfl)
theorem Qjk:ownKnob prog.godebug=none:=by kernel_rfl
theorem j4 (os:Os) (args:Array Value):laidMetH prog Rows.moduleSharedRow.laid ((World.doorLaid prog 400 os).forCall (λ_ _=>0) ⟨#[],args,[]⟩).memory :=
 laidMetH_of_parts3 (fuel:=8) (laidMet_of_run' 8 (by kernel_rfl) (by kernel_rfl)) (by kernel_rfl) (by kernel_rfl)
set_option maxRecDepth 100000 in
theorem QdN (os:Os) (started:os.Started) (H:Type) (enc:TypeId×Value→H) :
  ReturnsInHanded {} Tryz.checked os 4 .any (λw args=>(Rows.moduleSharedSpec.pre enc prog Tryz.f4 [] false w args∧laidMetH prog Rows.moduleSharedRow.laid w)∧sizedMet enc prog Tryz.f4 (OpenSpec.ofChange Rows.moduleSharedSpec) false w args)
   (Rows.moduleSharedSpec.post enc prog Tryz.f4 false true false false):=by
 refine returnsInHanded_of_change_and (C:=Tryz.checked) (X:=λw _=>laidMetH prog Rows.moduleSharedRow.laid w) (λ_ _ _ hh h=>h.of_heap hh) Qjk started (by kernel_rfl) func4
  (ChangeSpec.witness_shaped (enc:=enc) (C:=Tryz.checked) (os:=os) (X:=λw _=>laidMetH prog Rows.moduleSharedRow.laid w) false (World.doorLaid prog 400 os) #[.agg (Array.replicate 147 (.int .u8 0)++#[nS,.int .i8 0,.int .i8 0,.int .i8 0,.int .i8 0])] 8 rfl (World.shaped_of_RefB (by kernel_rfl) (by kernel_rfl)) (by kernel_rfl) (by kernel_rfl) (by kernel_rfl) (j4 os _)) ?_
 intro W base args ds gs before hval0 hW _ _ hL _
 have hval:∀(j:Nat) t v,Tryz.f4.params[j]?=some t→args[j]?=some v→Value.okWide prog W .any base t v:=hval0
 have hW':=hW
 obtain ⟨p,q,hA0,hV,rfl,_,_⟩:=hW
 have hA:DataW.TrodAll enc prog W 0 (λ_=>true) true Tryz.f4.params.toList args.toList ds p:=hA0
 rw[Tryz.params4] at hA hval
 obtain ⟨v0,d0,rfl,rfl,h0⟩:=trodAll_one hA
 obtain ⟨rfl,rfl⟩:=trodVars_none hV
 have hT:Tb W:=Qja (a:=("math/bits.deBruijn32tab",Rows.laid_math_bits_deBruijn32tab)) (b:=("math/bits.deBruijn64tab",Rows.laid_math_bits_deBruijn64tab)) (by kernel_rfl) hL (by kernel_rfl)
 obtain ⟨l,rfl,hl⟩:=QjP (hval 0 36 v0 rfl rfl) h0
 have hr:=zr hl (.inr ⟨by omega,hT⟩)
 unfold QL at hr
 refine Calls.mono hr λe W' he=>?_
 cases e with
 | returned v =>
  obtain ⟨rfl,hS⟩:=he
  exact ⟨_,rfl,QdO Ui (by kernel_rfl) rfl underlying4 rfl rfl hW' hS⟩
 | _=>exact he.elim
theorem QhN:Rows.ModuleSharedSaid :=
 OpenClaim.holds_of_wide 4 Tryz.f4 rfl rfl rfl rfl rfl rfl rfl ⟨rfl,rfl,rfl,rfl,rfl⟩ rfl rfl rfl rfl rfl (by kernel_rfl) func4 Qjw
  (of_decide_eq_true (by kernel_rfl)) (by unfold Func.isWrapper;first | (rw[if_pos (by decide +kernel)];kernel_rfl) | (rw[if_neg (by decide +kernel)];exact ⟨rfl,rfl⟩))
  (λos started H enc _=>QdN os started H enc)
theorem moduleShared_holds:Rows.ModuleSharedCardSaid :=
 Claim7.holds_tied_plain_at .later [] [.data,.data,.data] true (true, "7f1d7774d707b6ca2907d0280b916f7dc62d5f843e98687e905a54f8355f1b07") false
  QhN (λ_ h=>by cases h) Qia (λ_ h=>by cases h) moduleShared_row_tie rfl ⟨rfl,rfl⟩ Qid rfl
  (λf fn hf hfn=>by
   obtain rfl:f=4:=Option.some.inj (Qic.symm.trans hf) |>.symm
   obtain rfl:fn=Tryz.f4:=(Option.some.inj (func4.symm.trans hfn)).symm
   exact ⟨Qie,λj t ht=>by
    rw[Tryz.params4] at ht
    have hm:t∈[36]:=by simpa using Array.mem_of_getElem? ht
    exact (show prog.wantsStandIn t=false by simpa using List.all_eq_true.1 Qib t hm)⟩)
  Qif
#print axioms moduleShared_holds
end Go.Proofs.YtdffckgdcegpaaaGreatDoor
