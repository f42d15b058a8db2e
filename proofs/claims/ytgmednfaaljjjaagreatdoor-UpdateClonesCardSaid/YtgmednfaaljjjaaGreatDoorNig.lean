/- UpdateClones: for any described cell and any two described edits, a clone after the first one has the same contents, and an edit of it does not change the system: the law's function returns true, and its arguments read as they did: the row, and the tied card. -/
import Derived.Test.YtgmednfaaljjjaaGreatDoorNif
import Derived.Test.YtgmednfaaljjjaaGreatDoorTie
import Derived.ChangeVars
import Derived.RowKitTokens
import Derived.LaidLaws
import Derived.LaidMore
import Derived.Stop.Joined
open Go Go.Lg
namespace Go.Proofs.YtgmednfaaljjjaaGreatDoor
open Go.Proofs.Tryz
open Go.ChangeShapes Go.WideShapes Go.RowKit Go.Lg
theorem Qo8:joinedFacts prog 3 Tryz.f3 Rows.updateClonesSpec Rows.updateClonesRow=true :=
 QbF (by kernel_rfl) yX Qjw (by kernel_rfl) (by kernel_rfl) (by kernel_rfl) (by kernel_rfl) (by kernel_rfl) (by kernel_rfl) QjD QjC QjB QjA (by kernel_rfl) (by kernel_rfl) (by kernel_rfl) (by kernel_rfl) (by kernel_rfl) (by kernel_rfl) (by kernel_rfl) (by kernel_rfl) (by kernel_rfl) (by kernel_rfl) (by kernel_rfl) Qjy Qjz Qjx QmD (by kernel_rfl) (by kernel_rfl) (by kernel_rfl) (by kernel_rfl)
theorem QoJ:ownKnob prog.godebug=none:=by kernel_rfl
theorem Qc9 (os:Os)(args:Array Value):laidMetH prog Rows.updateClonesRow.laid ((World.doorLaid prog 400 os).forCall (λ_ _=>0) ⟨#[],args,[]⟩).memory :=
 laidMetH_of_parts3 (fuel:=8) (laidMet_of_run' 8 (by kernel_rfl) (by kernel_rfl)) (by kernel_rfl) (by kernel_rfl)
set_option maxRecDepth 100000 in
theorem Qg7 (os:Os)(started:os.Started)(H:Type)(enc:TypeId×Value→H):
  ReturnsInHanded {} Tryz.checked os 3 .any (λw args=>(Rows.updateClonesSpec.pre enc prog Tryz.f3 [] false w args∧laidMetH prog Rows.updateClonesRow.laid w)∧sizedMet enc prog Tryz.f3 (OpenSpec.ofChange Rows.updateClonesSpec) false w args)
   (Rows.updateClonesSpec.post enc prog Tryz.f3 false true false false):=by
 refine returnsInHanded_of_change_and (C:=Tryz.checked) (X:=λw _=>laidMetH prog Rows.updateClonesRow.laid w) (λ_ _ _ S h=>h.of_heap S) QoJ started (by kernel_rfl) func3
  (ChangeSpec.witness_shaped (enc:=enc) (C:=Tryz.checked) (os:=os) (X:=λw _=>laidMetH prog Rows.updateClonesRow.laid w) false (World.doorLaid prog 400 os) #[.agg (Array.replicate 147 (.int .u8 0)++#[nS,.int .i8 0,.int .i8 0,.int .i8 0,.int .i8 0]),.agg (Array.replicate 6 (.int .u8 0))] 8 U (World.shaped_of_RefB (by kernel_rfl) (by kernel_rfl)) (by kernel_rfl) (by kernel_rfl) (by kernel_rfl) (Qc9 os _)) ?_
 intro W base args ds gs before T G _ _ V _;have E:∀(j:Nat) t v,Tryz.f3.params[j]?=some t→args[j]?=some v→Value.okWide prog W .any base t v:=T;have Y:=G;obtain⟨p,q,ha,hV,rfl,_,_⟩:=G;have I:DataW.TrodAll enc prog W 0 (λ_=>true) true Tryz.f3.params.toList args.toList ds p:=ha;rw[Tryz.params3]at I E;obtain⟨v0,v1,d0,d1,p0,p1,rfl,rfl,rfl,h0,h1⟩:=trodAll_two I;obtain⟨rfl,rfl⟩:=trodVars_none hV;have hT:Tb W:=Qqi (a:=("math/bits.deBruijn32tab",Rows.laid_math_bits_deBruijn32tab)) (b:=("math/bits.deBruijn64tab",Rows.laid_math_bits_deBruijn64tab)) (by kernel_rfl) V (by kernel_rfl);obtain⟨l,rfl,hl⟩:=Qra (E 0 36 v0 U U) h0;obtain⟨a0,a1,a2,c0,c1,c2,rfl,hb,hc,hf,hg,hi,hj⟩:=Qrb (E 1 39 v1 U U) h1;have J:=Qbz hb hc hf hg hi hj hl (.inr ⟨by omega,hT⟩);unfold QY at J;refine Calls.mono J λe W' O=>?_;cases e with
 | returned v =>
  obtain⟨rfl,hS⟩:=O;exact⟨_,rfl,Qjn yX (by kernel_rfl) U underlying4 U U Y hS⟩
 | _=>exact O.elim
theorem Ql2:Rows.UpdateClonesSaid :=
 OpenClaim.holds_of_wide 3 Tryz.f3 U U U U U U U ⟨U,U,U,U,U⟩ U U U U U (by kernel_rfl) func3 Qo8
  (of_decide_eq_true (by kernel_rfl)) (by unfold Func.isWrapper;first|(rw[if_pos (by decide +kernel)];kernel_rfl)|(rw[if_neg (by decide +kernel)];exact⟨U,U⟩))
  (λos started H enc _=>Qg7 os started H enc)
theorem updateClones_holds:Rows.UpdateClonesCardSaid :=
 Claim7.holds_tied_plain_at .later [] [.data,.data,.data] true (true, "6f02cc93fa3e9f2668537d94536917454bb7a9a73e378bba732416d8ec73d17d") false
  Ql2 (λ_ h=>by cases h) QmE (λ_ h=>by cases h) updateClones_row_tie rfl ⟨rfl,rfl⟩ QmH rfl
  (λf fn G H=>by
   obtain rfl:f=3:=Option.some.inj (QmG.symm.D G) |>.symm;obtain rfl:fn=Tryz.f3:=(Option.some.inj (func3.symm.D H)).symm;exact⟨QmI,λj t E=>by
    rw[Tryz.params3]at E;have I:t∈[36,39]:=by simpa using Array.mem_of_getElem? E
    exact(show prog.wantsStandIn t=false by simpa using Mh.1 QmF t I)⟩)
  QmJ
#print axioms updateClones_holds
end Go.Proofs.YtgmednfaaljjjaaGreatDoor
