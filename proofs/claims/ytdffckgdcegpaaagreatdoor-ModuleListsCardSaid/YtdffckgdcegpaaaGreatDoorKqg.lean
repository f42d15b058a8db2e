/- ModuleLists: for any described cell, Modules, Remaining and Groups return what is defined, the law's function returns true, and its arguments read as they did: the row, and the tied card. -/
import Derived.Test.YtdffckgdcegpaaaGreatDoorKqf
import Derived.Test.YtdffckgdcegpaaaGreatDoorTie
import Derived.ChangeVars
import Derived.RowKitTokens
import Derived.LaidLaws
import Derived.LaidMore
import Derived.Stop.Joined
namespace Go.Proofs.YtdffckgdcegpaaaGreatDoor
open Go.Proofs.Tryz
open Go.ChangeShapes Go.WideShapes Go.RowKit Go.Lg
theorem QlS:joinedFacts prog 10 Tryz.f10 Rows.moduleListsSpec Rows.moduleListsRow=true :=
 yQ (by kernel_rfl) U4 QfQ (by kernel_rfl) (by kernel_rfl) (by kernel_rfl) (by kernel_rfl) (by kernel_rfl) (by kernel_rfl) Qit Qis Qir Qiq (by kernel_rfl) (by kernel_rfl) (by kernel_rfl) (by kernel_rfl) (by kernel_rfl) (by kernel_rfl) (by kernel_rfl) (by kernel_rfl) (by kernel_rfl) (by kernel_rfl) (by kernel_rfl) QfS QfT QfR Qip (by kernel_rfl) (by kernel_rfl) (by kernel_rfl) (by kernel_rfl)
theorem QlG:ownKnob prog.godebug=none:=by kernel_rfl
theorem Qbw (os:Os) (args:Array Value):laidMetH prog Rows.moduleListsRow.laid ((World.doorLaid prog 400 os).forCall (λ_ _=>0) ⟨#[],args,[]⟩).memory :=
 laidMetH_of_parts3 (fuel:=8) (laidMet_of_run' 8 (by kernel_rfl) (by kernel_rfl)) (by kernel_rfl) (by kernel_rfl)
set_option maxRecDepth 100000 in
theorem QfH (os:Os) (started:os.Started) (H:Type) (enc:TypeId×Value→H) :
  ReturnsInHanded {} Tryz.checked os 10 .any (λw args=>(Rows.moduleListsSpec.pre enc prog Tryz.f10 [] false w args∧laidMetH prog Rows.moduleListsRow.laid w)∧sizedMet enc prog Tryz.f10 (OpenSpec.ofChange Rows.moduleListsSpec) false w args)
   (Rows.moduleListsSpec.post enc prog Tryz.f10 false true false false):=by
 refine returnsInHanded_of_change_and (C:=Tryz.checked) (X:=λw _=>laidMetH prog Rows.moduleListsRow.laid w) (λ_ _ _ S h=>h.of_heap S) QlG started (by kernel_rfl) func10
  (ChangeSpec.witness_shaped (enc:=enc) (C:=Tryz.checked) (os:=os) (X:=λw _=>laidMetH prog Rows.moduleListsRow.laid w) false (World.doorLaid prog 400 os) #[.agg (Array.replicate 147 (.int .u8 0)++#[nS,.int .i8 0,.int .i8 0,.int .i8 0,.int .i8 0])] 8 O (World.shaped_of_RefB (by kernel_rfl) (by kernel_rfl)) (by kernel_rfl) (by kernel_rfl) (by kernel_rfl) (Qbw os _)) ?_
 intro W base args ds gs before T E _ _ V _;have G:∀(j:Nat) t v,Tryz.f10.params[j]?=some t→args[j]?=some v→Value.okWide prog W .any base t v:=T;have Y:=E;obtain ⟨p,q,ha,hV,rfl,_,_⟩:=E;have I:DataW.TrodAll enc prog W 0 (λ_=>true) true Tryz.f10.params.toList args.toList ds p:=ha;rw[Tryz.params10] at I G;obtain ⟨v0,d0,rfl,rfl,h0⟩:=trodAll_one I
 obtain ⟨rfl,rfl⟩:=trodVars_none hV;have hT:Tb W:=Qlv (a:=("math/bits.deBruijn32tab",Rows.laid_math_bits_deBruijn32tab)) (b:=("math/bits.deBruijn64tab",Rows.laid_math_bits_deBruijn64tab)) (by kernel_rfl) V (by kernel_rfl);obtain ⟨l,rfl,hl⟩:=Qmb (G 0 36 v0 O O) h0;have J:=jX hl (.inr ⟨by omega,hT⟩);unfold QJ at J;refine Calls.mono J λe W' he=>?_;cases e with
 | returned v =>
  obtain ⟨rfl,hS⟩:=he;exact ⟨_,rfl,QfI U4 (by kernel_rfl) O underlying4 O O Y hS⟩
 | _=>exact he.elim
theorem QjW:Rows.ModuleListsSaid :=
 OpenClaim.holds_of_wide 10 Tryz.f10 O O O O O O O ⟨O,O,O,O,O⟩ O O O O O (by kernel_rfl) func10 QlS
  (of_decide_eq_true (by kernel_rfl)) (by unfold Func.isWrapper;first | (rw[if_pos (by decide +kernel)];kernel_rfl) | (rw[if_neg (by decide +kernel)];exact ⟨O,O⟩))
  (λos started H enc _=>QfH os started H enc)
theorem moduleLists_holds:Rows.ModuleListsCardSaid :=
 Claim7.holds_tied_plain_at .later [] [.data,.data,.data] true (true, "7f1d7774d707b6ca2907d0280b916f7dc62d5f843e98687e905a54f8355f1b07") false
  QjW (λ_ h=>by cases h) Qkp (λ_ h=>by cases h) moduleLists_row_tie rfl ⟨rfl,rfl⟩ Qks rfl
  (λf fn G H=>by
   obtain rfl:f=10:=Option.some.inj (Qkr.symm.trans G) |>.symm;obtain rfl:fn=Tryz.f10:=(Option.some.inj (func10.symm.trans H)).symm;exact ⟨Qkt,λj t E=>by
    rw[Tryz.params10] at E;have hm:t∈[36]:=by simpa using Array.mem_of_getElem? E
    exact (show prog.wantsStandIn t=false by simpa using Mx.1 Qkq t hm)⟩)
  Qku
#print axioms moduleLists_holds
end Go.Proofs.YtdffckgdcegpaaaGreatDoor
