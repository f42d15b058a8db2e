/- ModularCoordinates: for any line, the law's function returns true, and its arguments read as they did: the row, and the tied card. -/
import Derived.Test.YtgmifemhkjdblaaGreatDoorKif
import Derived.Test.YtgmifemhkjdblaaGreatDoorRows
import Derived.Test.YtgmifemhkjdblaaGreatDoorCards
import Derived.Test.YtgmifemhkjdblaaGreatDoorTie
import Derived.ChangeSame
import Derived.ChangeVars
import Derived.JoinedOf
import Derived.RowKit
import Derived.RowKitTokens
import Derived.LaidLaws
import Derived.LaidMore
import Derived.ProofKit
import Derived.Stop.Joined
import Derived.SevenTiedAt
namespace Go.Proofs.YtgmifemhkjdblaaGreatDoor
open Go.Proofs.Tryz
open Go.ChangeShapes Go.WideShapes Go.RowKit Go.Lg
theorem Qk2:joinedFacts prog 5 Tryz.f5 Rows.modularCoordinatesSpec Rows.modularCoordinatesRow=true :=
 yO (by kernel_rfl) U1 Qfo (by kernel_rfl) (by kernel_rfl) (by kernel_rfl) (by kernel_rfl) (by kernel_rfl) (by kernel_rfl) QhV QhU QhT QhS (by kernel_rfl) (by kernel_rfl) (by kernel_rfl) (by kernel_rfl) (by kernel_rfl) (by kernel_rfl) (by kernel_rfl) (by kernel_rfl) (by kernel_rfl) (by kernel_rfl) (by kernel_rfl) Qfq Qfr Qfp QhR (by kernel_rfl) (by kernel_rfl) (by kernel_rfl) (by kernel_rfl)
theorem QkU:ownKnob prog.godebug=none:=by kernel_rfl
theorem Qbw (os:Os) (args:Array Value):laidMetH prog Rows.modularCoordinatesRow.laid ((World.doorLaid prog 400 os).forCall (λ_ _=>0) ⟨#[],args,[]⟩).memory :=
 laidMetH_of_parts3 (fuel:=8) (laidMet_of_run' 8 (by kernel_rfl) (by kernel_rfl)) (by kernel_rfl) (by kernel_rfl)
set_option maxRecDepth 100000 in
theorem Qfj (os:Os) (started:os.Started) (H:Type) (enc:TypeId×Value→H) :
  ReturnsInHanded {} Tryz.checked os 5 .any (λw args=>(Rows.modularCoordinatesSpec.pre enc prog Tryz.f5 [] false w args∧laidMetH prog Rows.modularCoordinatesRow.laid w)∧sizedMet enc prog Tryz.f5 (OpenSpec.ofChange Rows.modularCoordinatesSpec) false w args)
   (Rows.modularCoordinatesSpec.post enc prog Tryz.f5 false true false false):=by
 refine returnsInHanded_of_change_and (C:=Tryz.checked) (X:=λw _=>laidMetH prog Rows.modularCoordinatesRow.laid w) (λ_ _ _ hh h=>h.of_heap hh) QkU started (by kernel_rfl) func5
  (ChangeSpec.witness_shaped (enc:=enc) (C:=Tryz.checked) (os:=os) (X:=λw _=>laidMetH prog Rows.modularCoordinatesRow.laid w) false (World.doorLaid prog 400 os) #[.agg (Array.replicate 82 (.int .u8 0)++#[nS,.int .u8 0,.int .u8 0,.int .u8 0])] 8 rfl (World.shaped_of_RefB (by kernel_rfl) (by kernel_rfl)) (by kernel_rfl) (by kernel_rfl) (by kernel_rfl) (Qbw os _)) ?_
 intro W base args ds gs before hval0 hW _ _ hL _
 have hval:∀(j:Nat) t v,Tryz.f5.params[j]?=some t→args[j]?=some v→Value.okWide prog W .any base t v:=hval0
 have hW':=hW
 obtain ⟨p,q,hA0,hV,rfl,_,_⟩:=hW
 have hA:DataW.TrodAll enc prog W 0 (λ_=>true) true Tryz.f5.params.toList args.toList ds p:=hA0
 rw[Tryz.params5] at hA hval
 obtain ⟨v0,d0,rfl,rfl,h0⟩:=trodAll_one hA
 obtain ⟨rfl,rfl⟩:=trodVars_none hV
 have hT:Tb W:=QkK (a:=("math/bits.deBruijn32tab",Rows.laid_math_bits_deBruijn32tab)) (b:=("math/bits.deBruijn64tab",Rows.laid_math_bits_deBruijn64tab)) (by kernel_rfl) hL (by kernel_rfl)
 obtain ⟨l,rfl,hl⟩:=Qlk (hval 0 30 v0 rfl rfl) h0
 have hr:=Vf hl (.inr ⟨by omega,hT⟩)
 unfold QG at hr
 refine Calls.mono hr λe W' he=>?_
 cases e with
 | returned v =>
  obtain ⟨rfl,hS⟩:=he
  exact ⟨_,rfl,Qfm U1 (by kernel_rfl) rfl underlying4 rfl rfl hW' hS⟩
 | _=>exact he.elim
theorem Qjt:Rows.ModularCoordinatesSaid :=
 OpenClaim.holds_of_wide 5 Tryz.f5 rfl rfl rfl rfl rfl rfl rfl ⟨rfl,rfl,rfl,rfl,rfl⟩ rfl rfl rfl rfl rfl (by kernel_rfl) func5 Qk2
  (of_decide_eq_true (by kernel_rfl)) (by unfold Func.isWrapper;first | (rw[if_pos (by decide +kernel)];kernel_rfl) | (rw[if_neg (by decide +kernel)];exact ⟨rfl,rfl⟩))
  (λos started H enc _=>Qfj os started H enc)
theorem modularCoordinates_holds:Rows.ModularCoordinatesCardSaid :=
 Claim7.holds_tied_plain_at .later [] [.data,.data,.data] true (true, "0b715f369de004747e3114ef5ba17c3732b891b7b2d38ace5528af3324c3d1c5") false
  Qjt (λ_ h=>by cases h) (by kernel_rfl) (λ_ h=>by cases h) modularCoordinates_row_tie rfl ⟨rfl,rfl⟩ (by kernel_rfl) rfl
  (λf fn hf hfn=>by
   obtain rfl:f=5:=Option.some.inj ((show prog.funcNamed "overseer/overseerlaw34.ModularCoordinates" = some 5 by kernel_rfl).symm.trans hf) |>.symm
   obtain rfl:fn=Tryz.f5:=(Option.some.inj (func5.symm.trans hfn)).symm
   exact ⟨by kernel_rfl,λj t ht=>by
    rw[Tryz.params5] at ht
    have hm:t∈[30]:=by simpa using Array.mem_of_getElem? ht
    have hall:([30].all λu=>!prog.wantsStandIn u)=true:=by kernel_rfl
    exact (show prog.wantsStandIn t=false by simpa using List.all_eq_true.1 hall t hm)⟩)
  (by kernel_rfl)
#print axioms modularCoordinates_holds
end Go.Proofs.YtgmifemhkjdblaaGreatDoor
