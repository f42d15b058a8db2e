/- ModuleWhole: for any described cell, the law's function returns true, and its arguments read as they did: the row, and the tied card. -/
import Derived.Test.YtdffckgdcegpaaaGreatDoorKoe
import Derived.Test.YtdffckgdcegpaaaGreatDoorTie
import Derived.ChangeVars
import Derived.RowKitTokens
import Derived.LaidLaws
import Derived.LaidMore
import Derived.Stop.Joined
namespace Go.Proofs.YtdffckgdcegpaaaGreatDoor
open Go.Proofs.Tryz
open Go.ChangeShapes Go.WideShapes Go.RowKit Go.Lg
theorem QkM:joinedFacts prog 7 Tryz.f7 Rows.moduleWholeSpec Rows.moduleWholeRow=true :=
 yl (by kernel_rfl) UQ Qfb (by kernel_rfl) (by kernel_rfl) (by kernel_rfl) (by kernel_rfl) (by kernel_rfl) (by kernel_rfl) QhE QhD QhC QhB (by kernel_rfl) (by kernel_rfl) (by kernel_rfl) (by kernel_rfl) (by kernel_rfl) (by kernel_rfl) (by kernel_rfl) (by kernel_rfl) (by kernel_rfl) (by kernel_rfl) (by kernel_rfl) Qfd Qfe Qfc QhA (by kernel_rfl) (by kernel_rfl) (by kernel_rfl) (by kernel_rfl)
theorem QkA:ownKnob prog.godebug=none:=by kernel_rfl
theorem Qa0 (os:Os) (args:Array Value):laidMetH prog Rows.moduleWholeRow.laid ((World.doorLaid prog 400 os).forCall (λ_ _=>0) ⟨#[],args,[]⟩).memory :=
 laidMetH_of_parts3 (fuel:=8) (laidMet_of_run' 8 (by kernel_rfl) (by kernel_rfl)) (by kernel_rfl) (by kernel_rfl)
set_option maxRecDepth 100000 in
theorem Qe2 (os:Os) (started:os.Started) (H:Type) (enc:TypeId×Value→H) :
  ReturnsInHanded {} Tryz.checked os 7 .any (λw args=>(Rows.moduleWholeSpec.pre enc prog Tryz.f7 [] false w args∧laidMetH prog Rows.moduleWholeRow.laid w)∧sizedMet enc prog Tryz.f7 (OpenSpec.ofChange Rows.moduleWholeSpec) false w args)
   (Rows.moduleWholeSpec.post enc prog Tryz.f7 false true false false):=by
 refine returnsInHanded_of_change_and (C:=Tryz.checked) (X:=λw _=>laidMetH prog Rows.moduleWholeRow.laid w) (λ_ _ _ S h=>h.of_heap S) QkA started (by kernel_rfl) func7
  (ChangeSpec.witness_shaped (enc:=enc) (C:=Tryz.checked) (os:=os) (X:=λw _=>laidMetH prog Rows.moduleWholeRow.laid w) false (World.doorLaid prog 400 os) #[.agg (Array.replicate 147 (.int .u8 0)++#[nS,.int .i8 0,.int .i8 0,.int .i8 0,.int .i8 0])] 8 O (World.shaped_of_RefB (by kernel_rfl) (by kernel_rfl)) (by kernel_rfl) (by kernel_rfl) (by kernel_rfl) (Qa0 os _)) ?_
 intro W base args ds gs before T E _ _ V _;have G:∀(j:Nat) t v,Tryz.f7.params[j]?=some t→args[j]?=some v→Value.okWide prog W .any base t v:=T;have Y:=E;obtain ⟨p,q,ha,hV,rfl,_,_⟩:=E;have I:DataW.TrodAll enc prog W 0 (λ_=>true) true Tryz.f7.params.toList args.toList ds p:=ha;rw[Tryz.params7] at I G;obtain ⟨v0,d0,rfl,rfl,h0⟩:=trodAll_one I
 obtain ⟨rfl,rfl⟩:=trodVars_none hV;have hT:Tb W:=Qkr (a:=("math/bits.deBruijn32tab",Rows.laid_math_bits_deBruijn32tab)) (b:=("math/bits.deBruijn64tab",Rows.laid_math_bits_deBruijn64tab)) (by kernel_rfl) V (by kernel_rfl);obtain ⟨l,rfl,hl⟩:=Qk5 (G 0 36 v0 O O) h0;have J:=ju hl (.inr ⟨by omega,hT⟩);unfold QK at J;refine Calls.mono J λe W' he=>?_;cases e with
 | returned v =>
  obtain ⟨rfl,hS⟩:=he;exact ⟨_,rfl,Qe3 UQ (by kernel_rfl) O underlying4 O O Y hS⟩
 | _=>exact he.elim
theorem QiY:Rows.ModuleWholeSaid :=
 OpenClaim.holds_of_wide 7 Tryz.f7 O O O O O O O ⟨O,O,O,O,O⟩ O O O O O (by kernel_rfl) func7 QkM
  (of_decide_eq_true (by kernel_rfl)) (by unfold Func.isWrapper;first | (rw[if_pos (by decide +kernel)];kernel_rfl) | (rw[if_neg (by decide +kernel)];exact ⟨O,O⟩))
  (λos started H enc _=>Qe2 os started H enc)
theorem moduleWhole_holds:Rows.ModuleWholeCardSaid :=
 Claim7.holds_tied_plain_at .later [] [.data,.data,.data] true (true, "7f1d7774d707b6ca2907d0280b916f7dc62d5f843e98687e905a54f8355f1b07") false
  QiY (λ_ h=>by cases h) Qjo (λ_ h=>by cases h) moduleWhole_row_tie rfl ⟨rfl,rfl⟩ Qjr rfl
  (λf fn G H=>by
   obtain rfl:f=7:=Option.some.inj (Qjq.symm.trans G) |>.symm;obtain rfl:fn=Tryz.f7:=(Option.some.inj (func7.symm.trans H)).symm;exact ⟨Qjs,λj t E=>by
    rw[Tryz.params7] at E;have hm:t∈[36]:=by simpa using Array.mem_of_getElem? E
    exact (show prog.wantsStandIn t=false by simpa using Mh.1 Qjp t hm)⟩)
  Qjt
#print axioms moduleWhole_holds
end Go.Proofs.YtdffckgdcegpaaaGreatDoor
