/- ModuleChecks: for any described cell and any module with at most 6 components, the law's function returns true, and its arguments read as they did: the row, and the tied card. -/
import Derived.Test.YtdffckgdcegpaaaGreatDoorKkf
import Derived.Test.YtdffckgdcegpaaaGreatDoorRows
import Derived.Test.YtdffckgdcegpaaaGreatDoorCards
import Derived.Test.YtdffckgdcegpaaaGreatDoorTie
import Derived.ChangeSame
import Derived.ChangeVars
import Derived.JoinedOf
import Derived.RowKit
import Derived.RowKitTokens
import Derived.LaidLaws
import Derived.LaidMore
import Derived.ProofKit
import Derived.Stop.Joined
import Derived.SevenTiedAt
namespace Go.Proofs.YtdffckgdcegpaaaGreatDoor
open Go.Proofs.Tryz
open Go.ChangeShapes Go.WideShapes Go.RowKit Go.Lg
theorem Qj2:joinedFacts prog 3 Tryz.f3 Rows.moduleChecksSpec Rows.moduleChecksRow=true :=
 zL (by kernel_rfl) Uu Qew (by kernel_rfl) (by kernel_rfl) (by kernel_rfl) (by kernel_rfl) (by kernel_rfl) (by kernel_rfl) QgZ QgY QgX QgW (by kernel_rfl) (by kernel_rfl) (by kernel_rfl) (by kernel_rfl) (by kernel_rfl) (by kernel_rfl) (by kernel_rfl) (by kernel_rfl) (by kernel_rfl) (by kernel_rfl) (by kernel_rfl) Qey Qez Qex QgV (by kernel_rfl) (by kernel_rfl) (by kernel_rfl) (by kernel_rfl)
theorem QjR:ownKnob prog.godebug=none:=by kernel_rfl
theorem Qap (os:Os) (args:Array Value):laidMetH prog Rows.moduleChecksRow.laid ((World.doorLaid prog 400 os).forCall (λ_ _=>0) ⟨#[],args,[]⟩).memory :=
 laidMetH_of_parts3 (fuel:=8) (laidMet_of_run' 8 (by kernel_rfl) (by kernel_rfl)) (by kernel_rfl) (by kernel_rfl)
set_option maxRecDepth 100000 in
theorem Qen (os:Os) (started:os.Started) (H:Type) (enc:TypeId×Value→H) :
  ReturnsInHanded {} Tryz.checked os 3 .any (λw args=>(Rows.moduleChecksSpec.pre enc prog Tryz.f3 [] false w args∧laidMetH prog Rows.moduleChecksRow.laid w)∧sizedMet enc prog Tryz.f3 (OpenSpec.ofChange Rows.moduleChecksSpec) false w args)
   (Rows.moduleChecksSpec.post enc prog Tryz.f3 false true false false):=by
 refine returnsInHanded_of_change_and (C:=Tryz.checked) (X:=λw _=>laidMetH prog Rows.moduleChecksRow.laid w) (λ_ _ _ hh h=>h.of_heap hh) QjR started (by kernel_rfl) func3
  (ChangeSpec.witness_shaped (enc:=enc) (C:=Tryz.checked) (os:=os) (X:=λw _=>laidMetH prog Rows.moduleChecksRow.laid w) false (World.doorLaid prog 400 os) #[.agg (Array.replicate 147 (.int .u8 0)++#[nS,.int .i8 0,.int .i8 0,.int .i8 0,.int .i8 0]),.agg #[.int .i64 0,.int .i64 0,nS]] 8 rfl (World.shaped_of_RefB (by kernel_rfl) (by kernel_rfl)) (by kernel_rfl) (by kernel_rfl) (by kernel_rfl) (Qap os _)) ?_
 intro W base args ds gs before hval0 hW _ _ hL _
 have hval:∀(j:Nat) t v,Tryz.f3.params[j]?=some t→args[j]?=some v→Value.okWide prog W .any base t v:=hval0
 have hW':=hW
 obtain ⟨p,q,hA0,hV,rfl,_,_⟩:=hW
 have hA:DataW.TrodAll enc prog W 0 (λ_=>true) true Tryz.f3.params.toList args.toList ds p:=hA0
 rw[Tryz.params3] at hA hval
 obtain ⟨v0,v1,d0,d1,p0,p1,rfl,rfl,rfl,h0,h1⟩:=trodAll_two hA
 obtain ⟨rfl,rfl⟩:=trodVars_none hV
 have hT:Tb W:=QjG (a:=("math/bits.deBruijn32tab",Rows.laid_math_bits_deBruijn32tab)) (b:=("math/bits.deBruijn64tab",Rows.laid_math_bits_deBruijn64tab)) (by kernel_rfl) hL (by kernel_rfl)
 obtain ⟨l,rfl,hl⟩:=Qkl (hval 0 36 v0 rfl rfl) h0
 obtain ⟨kd,ix,ad,nn,cp,rfl,hm⟩:=Qkm (hval 1 39 v1 rfl rfl) h1
 have hr:=zH (kd:=kd) (ix:=ix) hl hm (.inr ⟨by omega,hT⟩)
 unfold QL at hr
 refine Calls.mono hr λe W' he=>?_
 cases e with
 | returned v =>
  obtain ⟨rfl,hS⟩:=he
  exact ⟨_,rfl,Qeo Uu (by kernel_rfl) rfl underlying4 rfl rfl hW' hS⟩
 | _=>exact he.elim
theorem Qii:Rows.ModuleChecksSaid :=
 OpenClaim.holds_of_wide 3 Tryz.f3 rfl rfl rfl rfl rfl rfl rfl ⟨rfl,rfl,rfl,rfl,rfl⟩ rfl rfl rfl rfl rfl (by kernel_rfl) func3 Qj2
  (of_decide_eq_true (by kernel_rfl)) (by unfold Func.isWrapper;first | (rw[if_pos (by decide +kernel)];kernel_rfl) | (rw[if_neg (by decide +kernel)];exact ⟨rfl,rfl⟩))
  (λos started H enc _=>Qen os started H enc)
theorem moduleChecks_holds:Rows.ModuleChecksCardSaid :=
 Claim7.holds_tied_plain_at .later [] [.data,.data,.data] true (true, "7f1d7774d707b6ca2907d0280b916f7dc62d5f843e98687e905a54f8355f1b07") false
  Qii (λ_ h=>by cases h) QiF (λ_ h=>by cases h) moduleChecks_row_tie rfl ⟨rfl,rfl⟩ QiI rfl
  (λf fn hf hfn=>by
   obtain rfl:f=3:=Option.some.inj (QiH.symm.trans hf) |>.symm
   obtain rfl:fn=Tryz.f3:=(Option.some.inj (func3.symm.trans hfn)).symm
   exact ⟨QiJ,λj t ht=>by
    rw[Tryz.params3] at ht
    have hm:t∈[36,39]:=by simpa using Array.mem_of_getElem? ht
    exact (show prog.wantsStandIn t=false by simpa using List.all_eq_true.1 QiG t hm)⟩)
  QiK
#print axioms moduleChecks_holds
end Go.Proofs.YtdffckgdcegpaaaGreatDoor
