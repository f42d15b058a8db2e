/- ModularBlocks: for any line, the law's function returns true, and its arguments read as they did: the row, and the tied card. -/
import Derived.Test.YtgmifemhkjdblaaGreatDoorKhf
import Derived.Test.YtgmifemhkjdblaaGreatDoorRows
import Derived.Test.YtgmifemhkjdblaaGreatDoorCards
import Derived.Test.YtgmifemhkjdblaaGreatDoorTie
import Derived.ChangeSame
import Derived.ChangeVars
import Derived.JoinedOf
import Derived.RowKit
import Derived.RowKitTokens
import Derived.LaidLaws
import Derived.LaidMore
import Derived.ProofKit
import Derived.Stop.Joined
import Derived.SevenTiedAt
namespace Go.Proofs.YtgmifemhkjdblaaGreatDoor
open Go.ChangeShapes Go.WideShapes Go.RowKit Go.Lg
theorem QkI:joinedFacts Tryz.prog 4 Tryz.f4 Rows.modularBlocksSpec Rows.modularBlocksRow=true :=
 yt (by kernel_rfl) UH Qfd (by kernel_rfl) (by kernel_rfl) (by kernel_rfl) (by kernel_rfl) (by kernel_rfl) (by kernel_rfl) QhF QhE QhD QhC (by kernel_rfl) (by kernel_rfl) (by kernel_rfl) (by kernel_rfl) (by kernel_rfl) (by kernel_rfl) (by kernel_rfl) (by kernel_rfl) (by kernel_rfl) (by kernel_rfl) (by kernel_rfl) Qff Qfg Qfe QhB (by kernel_rfl) (by kernel_rfl) (by kernel_rfl) (by kernel_rfl)
theorem QkA:ownKnob Tryz.prog.godebug=none:=by kernel_rfl
theorem Qbk (os:Os) (args:Array Value):laidMetH Tryz.prog Rows.modularBlocksRow.laid ((World.doorLaid Tryz.prog 400 os).forCall (fun _ _=>0) ⟨#[],args,[]⟩).memory :=
 laidMetH_of_parts3 (fuel:=8) (laidMet_of_run' 8 (by kernel_rfl) (by kernel_rfl)) (by kernel_rfl) (by kernel_rfl)
set_option maxRecDepth 100000 in
theorem Qe8 (os:Os) (started:os.Started) (H:Type) (enc:TypeId×Value→H) :
  ReturnsInHanded {} Tryz.checked os 4 .any (fun w args=>(Rows.modularBlocksSpec.pre enc Tryz.prog Tryz.f4 [] false w args∧laidMetH Tryz.prog Rows.modularBlocksRow.laid w)∧sizedMet enc Tryz.prog Tryz.f4 (OpenSpec.ofChange Rows.modularBlocksSpec) false w args)
   (Rows.modularBlocksSpec.post enc Tryz.prog Tryz.f4 false true false false):=by
 refine returnsInHanded_of_change_and (C:=Tryz.checked) (X:=fun w _=>laidMetH Tryz.prog Rows.modularBlocksRow.laid w) (fun _ _ _ hh h=>h.of_heap hh) QkA started (by kernel_rfl) Tryz.func4
  (ChangeSpec.witness_shaped (enc:=enc) (C:=Tryz.checked) (os:=os) (X:=fun w _=>laidMetH Tryz.prog Rows.modularBlocksRow.laid w) false (World.doorLaid Tryz.prog 400 os) #[.agg (Array.replicate 82 (.int .u8 0)++#[nS,.int .u8 0,.int .u8 0,.int .u8 0])] 8 rfl (World.shaped_of_RefB (by kernel_rfl) (by kernel_rfl)) (by kernel_rfl) (by kernel_rfl) (by kernel_rfl) (Qbk os _)) ?_
 intro W base args ds gs before hval0 hW _ _ hL _
 have hval:∀(j:Nat) t v,Tryz.f4.params[j]?=some t→args[j]?=some v→Value.okWide Tryz.prog W .any base t v:=hval0
 have hW':=hW
 obtain ⟨p,q,hA0,hV,rfl,_,_⟩:=hW
 have hA:DataW.TrodAll enc Tryz.prog W 0 (fun _=>true) true Tryz.f4.params.toList args.toList ds p:=hA0
 rw[Tryz.params4] at hA hval
 obtain ⟨v0,d0,rfl,rfl,h0⟩:=trodAll_one hA
 obtain ⟨rfl,rfl⟩:=trodVars_none hV
 have hT:Tb W:=Qkp (a:=("math/bits.deBruijn32tab",Rows.laid_math_bits_deBruijn32tab)) (b:=("math/bits.deBruijn64tab",Rows.laid_math_bits_deBruijn64tab)) (by kernel_rfl) hL (by kernel_rfl)
 obtain ⟨l,rfl,hl⟩:=QkY (hval 0 30 v0 rfl rfl) h0
 have hr:=yp hl (.inr ⟨by omega,hT⟩)
 unfold QG at hr
 refine Calls.mono hr fun e W' he=>?_
 cases e with
 | returned v =>
  obtain ⟨rfl,hS⟩:=he
  exact ⟨_,rfl,Qfb UH (by kernel_rfl) rfl Tryz.underlying4 rfl rfl hW' hS⟩
 | _=>exact he.elim
theorem Qi3:Rows.ModularBlocksSaid :=
 OpenClaim.holds_of_wide 4 Tryz.f4 rfl rfl rfl rfl rfl rfl rfl ⟨rfl,rfl,rfl,rfl,rfl⟩ rfl rfl rfl rfl rfl (by kernel_rfl) Tryz.func4 QkI
  (of_decide_eq_true (by kernel_rfl)) (by unfold Func.isWrapper;first | (rw[if_pos (by decide +kernel)];kernel_rfl) | (rw[if_neg (by decide +kernel)];exact ⟨rfl,rfl⟩))
  (fun os started H enc _=>Qe8 os started H enc)
theorem modularBlocks_holds:Rows.ModularBlocksCardSaid :=
 Claim7.holds_tied_plain_at .later [] [.data,.data,.data] true (true, "0b715f369de004747e3114ef5ba17c3732b891b7b2d38ace5528af3324c3d1c5") false
  Qi3 (fun _ h=>by cases h) (by kernel_rfl) (fun _ h=>by cases h) modularBlocks_row_tie rfl ⟨rfl,rfl⟩ (by kernel_rfl) rfl
  (fun f fn hf hfn=>by
   obtain rfl:f=4:=Option.some.inj ((show Tryz.prog.funcNamed "overseer/overseerlaw34.ModularBlocks" = some 4 by kernel_rfl).symm.trans hf) |>.symm
   obtain rfl:fn=Tryz.f4:=(Option.some.inj (Tryz.func4.symm.trans hfn)).symm
   exact ⟨by kernel_rfl,fun j t ht=>by
    rw[Tryz.params4] at ht
    have hm:t∈[30]:=by simpa using Array.mem_of_getElem? ht
    have hall:([30].all fun u=>!Tryz.prog.wantsStandIn u)=true:=by kernel_rfl
    exact (show Tryz.prog.wantsStandIn t=false by simpa using List.all_eq_true.1 hall t hm)⟩)
  (by kernel_rfl)
#print axioms modularBlocks_holds
end Go.Proofs.YtgmifemhkjdblaaGreatDoor
