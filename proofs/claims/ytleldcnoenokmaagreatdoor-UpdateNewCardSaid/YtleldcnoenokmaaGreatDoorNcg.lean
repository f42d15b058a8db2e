/- UpdateNew: for any described cell, New returns the system of the cell, or the first error, the law's function returns true, and its arguments read as they did: the row, and the tied card. -/
import Derived.Test.YtleldcnoenokmaaGreatDoorNcf
import Derived.Test.YtleldcnoenokmaaGreatDoorTie
import Derived.ChangeVars
import Derived.RowKitTokens
import Derived.LaidLaws
import Derived.LaidMore
import Derived.Stop.Joined
open Go Go.Lg
namespace Go.Proofs.YtleldcnoenokmaaGreatDoor
open Go.Proofs.Tryz
open Go.ChangeShapes Go.WideShapes Go.RowKit Go.Lg
theorem QpB:joinedFacts prog 3 Tryz.f3 Rows.updateNewSpec Rows.updateNewRow=true :=
 QaF (by kernel_rfl) zW Qiy (by kernel_rfl) (by kernel_rfl) (by kernel_rfl) (by kernel_rfl) (by kernel_rfl) (by kernel_rfl) Qly Qlx Qlw Qlv (by kernel_rfl) (by kernel_rfl) (by kernel_rfl) (by kernel_rfl) (by kernel_rfl) (by kernel_rfl) (by kernel_rfl) (by kernel_rfl) (by kernel_rfl) (by kernel_rfl) (by kernel_rfl) QiA QiB Qiz Qlu (by kernel_rfl) (by kernel_rfl) (by kernel_rfl) (by kernel_rfl)
theorem Qpl:ownKnob prog.godebug=none:=by kernel_rfl
theorem QdC (os:Os)(args:Array Value):laidMetH prog Rows.updateNewRow.laid ((World.doorLaid prog 400 os).forCall (λ_ _=>0) ⟨#[],args,[]⟩).memory :=
 laidMetH_of_parts3 (fuel:=8) (laidMet_of_run' 8 (by kernel_rfl) (by kernel_rfl)) (by kernel_rfl) (by kernel_rfl)
set_option maxRecDepth 100000 in
theorem Qio (os:Os)(started:os.Started)(H:Type)(enc:TypeId×Value→H):
  ReturnsInHanded {} Tryz.checked os 3 .any (λw args=>(Rows.updateNewSpec.pre enc prog Tryz.f3 [] false w args∧laidMetH prog Rows.updateNewRow.laid w)∧sizedMet enc prog Tryz.f3 (OpenSpec.ofChange Rows.updateNewSpec) false w args)
   (Rows.updateNewSpec.post enc prog Tryz.f3 false true false false):=by
 refine returnsInHanded_of_change_and (C:=Tryz.checked) (X:=λw _=>laidMetH prog Rows.updateNewRow.laid w) (λ_ _ _ S h=>h.of_heap S) Qpl started (by kernel_rfl) func3
  (ChangeSpec.witness_shaped (enc:=enc) (C:=Tryz.checked) (os:=os) (X:=λw _=>laidMetH prog Rows.updateNewRow.laid w) false (World.doorLaid prog 400 os) #[.agg (Array.replicate 147 (.int .u8 0)++#[nS,.int .i8 0,.int .i8 0,.int .i8 0,.int .i8 0])] 8 U (World.shaped_of_RefB (by kernel_rfl) (by kernel_rfl)) (by kernel_rfl) (by kernel_rfl) (by kernel_rfl) (QdC os _)) ?_
 intro W base args ds gs before T E _ _ V _;have G:∀(j:Nat) t v,Tryz.f3.params[j]?=some t→args[j]?=some v→Value.okWide prog W .any base t v:=T;have Y:=E;obtain⟨p,q,ha,hV,rfl,_,_⟩:=E;have I:DataW.TrodAll enc prog W 0 (λ_=>true) true Tryz.f3.params.toList args.toList ds p:=ha;rw[Tryz.params3]at I G;obtain⟨v0,d0,rfl,rfl,h0⟩:=trodAll_one I;obtain⟨rfl,rfl⟩:=trodVars_none hV;have hT:Tb W:=Qo7 (a:=("math/bits.deBruijn32tab",Rows.laid_math_bits_deBruijn32tab)) (b:=("math/bits.deBruijn64tab",Rows.laid_math_bits_deBruijn64tab)) (by kernel_rfl) V (by kernel_rfl);obtain⟨l,rfl,hl⟩:=Qp0 (G 0 36 v0 U U) h0;have J:=QbR hl (.inr ⟨by omega,hT⟩);unfold Q5 at J;refine Calls.mono J λe W' O=>?_;cases e with
 | returned v =>
  obtain⟨rfl,hS⟩:=O;exact⟨_,rfl,Qip zW (by kernel_rfl) U underlying4 U U Y hS⟩
 | _=>exact O.elim
theorem Qnl:Rows.UpdateNewSaid :=
 OpenClaim.holds_of_wide 3 Tryz.f3 U U U U U U U ⟨U,U,U,U,U⟩ U U U U U (by kernel_rfl) func3 QpB
  (of_decide_eq_true (by kernel_rfl)) (by unfold Func.isWrapper;first|(rw[if_pos (by decide +kernel)];kernel_rfl)|(rw[if_neg (by decide +kernel)];exact⟨U,U⟩))
  (λos started H enc _=>Qio os started H enc)
theorem updateNew_holds:Rows.UpdateNewCardSaid :=
 Claim7.holds_tied_plain_at .later [] [.data,.data,.data] true (true, "aa84a71a7ba66a7493b7918971ef736ce7e002c23109246aee4004edaa624c6d") false
  Qnl (λ_ h=>by cases h) QnU (λ_ h=>by cases h) updateNew_row_tie rfl ⟨rfl,rfl⟩ QnX rfl
  (λf fn G H=>by
   obtain rfl:f=3:=Option.some.inj (QnW.symm.D G) |>.symm;obtain rfl:fn=Tryz.f3:=(Option.some.inj (func3.symm.D H)).symm;exact⟨QnY,λj t E=>by
    rw[Tryz.params3]at E;have I:t∈[36]:=by simpa using Array.mem_of_getElem? E
    exact(show prog.wantsStandIn t=false by simpa using Md.1 QnV t I)⟩)
  QnZ
#print axioms updateNew_holds
end Go.Proofs.YtleldcnoenokmaaGreatDoor
