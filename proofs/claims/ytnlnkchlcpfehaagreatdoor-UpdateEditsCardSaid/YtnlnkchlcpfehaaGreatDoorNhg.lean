/- UpdateEdits: for any described cell and any at most 4 described edits, each one returns what the definitions say, and leaves the system as they say: the law's function returns true, and its arguments read as they did: the row, and the tied card. -/
import Derived.Test.YtnlnkchlcpfehaaGreatDoorNhf
import Derived.Test.YtnlnkchlcpfehaaGreatDoorTie
import Derived.ChangeVars
import Derived.RowKitTokens
import Derived.LaidLaws
import Derived.LaidMore
import Derived.Stop.Joined
open Go Go.Lg
namespace Go.Proofs.YtnlnkchlcpfehaaGreatDoor
open Go.Proofs.Tryz
open Go.ChangeShapes Go.WideShapes Go.RowKit Go.Lg
theorem Qo6:joinedFacts prog 3 Tryz.f3 Rows.updateEditsSpec Rows.updateEditsRow=true :=
 QbH (by kernel_rfl) yV Qjx (by kernel_rfl) (by kernel_rfl) (by kernel_rfl) (by kernel_rfl) (by kernel_rfl) (by kernel_rfl) QjE QjD QjC QjB (by kernel_rfl) (by kernel_rfl) (by kernel_rfl) (by kernel_rfl) (by kernel_rfl) (by kernel_rfl) (by kernel_rfl) (by kernel_rfl) (by kernel_rfl) (by kernel_rfl) (by kernel_rfl) Qjz QjA Qjy QmC (by kernel_rfl) (by kernel_rfl) (by kernel_rfl) (by kernel_rfl)
theorem QoH:ownKnob prog.godebug=none:=by kernel_rfl
theorem Qda (os:Os)(args:Array Value):laidMetH prog Rows.updateEditsRow.laid ((World.doorLaid prog 400 os).forCall (λ_ _=>0) ⟨#[],args,[]⟩).memory :=
 laidMetH_of_parts3 (fuel:=8) (laidMet_of_run' 8 (by kernel_rfl) (by kernel_rfl)) (by kernel_rfl) (by kernel_rfl)
set_option maxRecDepth 100000 in
theorem Qg7 (os:Os)(started:os.Started)(H:Type)(enc:TypeId×Value→H):
  ReturnsInHanded {} Tryz.checked os 3 .any (λw args=>(Rows.updateEditsSpec.pre enc prog Tryz.f3 [] false w args∧laidMetH prog Rows.updateEditsRow.laid w)∧sizedMet enc prog Tryz.f3 (OpenSpec.ofChange Rows.updateEditsSpec) false w args)
   (Rows.updateEditsSpec.post enc prog Tryz.f3 false true false false):=by
 refine returnsInHanded_of_change_and (C:=Tryz.checked) (X:=λw _=>laidMetH prog Rows.updateEditsRow.laid w) (λ_ _ _ S h=>h.of_heap S) QoH started (by kernel_rfl) func3
  (ChangeSpec.witness_shaped (enc:=enc) (C:=Tryz.checked) (os:=os) (X:=λw _=>laidMetH prog Rows.updateEditsRow.laid w) false (World.doorLaid prog 400 os) #[.agg (Array.replicate 147 (.int .u8 0)++#[nS,.int .i8 0,.int .i8 0,.int .i8 0,.int .i8 0]),nS] 8 U (World.shaped_of_RefB (by kernel_rfl) (by kernel_rfl)) (by kernel_rfl) (by kernel_rfl) (by kernel_rfl) (Qda os _)) ?_
 intro W base args ds gs before T G _ _ V _;have E:∀(j:Nat) t v,Tryz.f3.params[j]?=some t→args[j]?=some v→Value.okWide prog W .any base t v:=T;have Y:=G;obtain⟨p,q,ha,hV,rfl,_,_⟩:=G;have I:DataW.TrodAll enc prog W 0 (λ_=>true) true Tryz.f3.params.toList args.toList ds p:=ha;rw[Tryz.params3]at I E;obtain⟨v0,v1,d0,d1,p0,p1,rfl,rfl,rfl,h0,h1⟩:=trodAll_two I;obtain⟨rfl,rfl⟩:=trodVars_none hV;have hT:Tb W:=Qqi (a:=("math/bits.deBruijn32tab",Rows.laid_math_bits_deBruijn32tab)) (b:=("math/bits.deBruijn64tab",Rows.laid_math_bits_deBruijn64tab)) (by kernel_rfl) V (by kernel_rfl);obtain⟨l,rfl,hl⟩:=Qq9 (E 0 36 v0 U U) h0;obtain⟨mv,hb,hc⟩:=Qra (E 1 37 v1 U U) h1;have J:=QcM hc hb hl (.inr ⟨by omega,hT⟩);unfold QY at J;refine Calls.mono J λe W' O=>?_;cases e with
 | returned v =>
  obtain⟨rfl,hS⟩:=O;exact⟨_,rfl,Qjo yV (by kernel_rfl) U underlying4 U U Y hS⟩
 | _=>exact O.elim
theorem QlZ:Rows.UpdateEditsSaid :=
 OpenClaim.holds_of_wide 3 Tryz.f3 U U U U U U U ⟨U,U,U,U,U⟩ U U U U U (by kernel_rfl) func3 Qo6
  (of_decide_eq_true (by kernel_rfl)) (by unfold Func.isWrapper;first|(rw[if_pos (by decide +kernel)];kernel_rfl)|(rw[if_neg (by decide +kernel)];exact⟨U,U⟩))
  (λos started H enc _=>Qg7 os started H enc)
theorem updateEdits_holds:Rows.UpdateEditsCardSaid :=
 Claim7.holds_tied_plain_at .later [] [.data,.data,.data] true (true, "e995ae75cd4cf4b754d7f901a88cdfcf3d7684c5795a6bc3a5d780dc25555f9f") false
  QlZ (λ_ h=>by cases h) QmD (λ_ h=>by cases h) updateEdits_row_tie rfl ⟨rfl,rfl⟩ QmG rfl
  (λf fn G H=>by
   obtain rfl:f=3:=Option.some.inj (QmF.symm.D G) |>.symm;obtain rfl:fn=Tryz.f3:=(Option.some.inj (func3.symm.D H)).symm;exact⟨QmH,λj t E=>by
    rw[Tryz.params3]at E;have I:t∈[36,37]:=by simpa using Array.mem_of_getElem? E
    exact(show prog.wantsStandIn t=false by simpa using Mh.1 QmE t I)⟩)
  QmI
#print axioms updateEdits_holds
end Go.Proofs.YtnlnkchlcpfehaaGreatDoor
