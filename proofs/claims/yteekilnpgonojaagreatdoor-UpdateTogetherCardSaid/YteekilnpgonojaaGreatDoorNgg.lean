/- UpdateTogether: for any described cell and any two described edits at once, and none at all, Edit returns what the definitions say: the law's function returns true, and its arguments read as they did: the row, and the tied card. -/
import Derived.Test.YteekilnpgonojaaGreatDoorNgf
import Derived.Test.YteekilnpgonojaaGreatDoorTie
import Derived.ChangeVars
import Derived.RowKitTokens
import Derived.LaidLaws
import Derived.LaidMore
import Derived.Stop.Joined
open Go Go.Lg
namespace Go.Proofs.YteekilnpgonojaaGreatDoor
open Go.Proofs.Tryz
open Go.ChangeShapes Go.WideShapes Go.RowKit Go.Lg
theorem Qqy:joinedFacts prog 6 Tryz.f6 Rows.updateTogetherSpec Rows.updateTogetherRow=true :=
 QbB (by kernel_rfl) yQ Qjo (by kernel_rfl) (by kernel_rfl) (by kernel_rfl) (by kernel_rfl) (by kernel_rfl) (by kernel_rfl) Qmt Qms Qmr Qmq (by kernel_rfl) (by kernel_rfl) (by kernel_rfl) (by kernel_rfl) (by kernel_rfl) (by kernel_rfl) (by kernel_rfl) (by kernel_rfl) (by kernel_rfl) (by kernel_rfl) (by kernel_rfl) Qjq Qjr Qjp Qmp (by kernel_rfl) (by kernel_rfl) (by kernel_rfl) (by kernel_rfl)
theorem Qqi:ownKnob prog.godebug=none:=by kernel_rfl
theorem Qer (os:Os)(args:Array Value):laidMetH prog Rows.updateTogetherRow.laid ((World.doorLaid prog 400 os).forCall (λ_ _=>0) ⟨#[],args,[]⟩).memory :=
 laidMetH_of_parts3 (fuel:=8) (laidMet_of_run' 8 (by kernel_rfl) (by kernel_rfl)) (by kernel_rfl) (by kernel_rfl)
set_option maxRecDepth 100000 in
theorem Qje (os:Os)(started:os.Started)(H:Type)(enc:TypeId×Value→H):
  ReturnsInHanded {} Tryz.checked os 6 .any (λw args=>(Rows.updateTogetherSpec.pre enc prog Tryz.f6 [] false w args∧laidMetH prog Rows.updateTogetherRow.laid w)∧sizedMet enc prog Tryz.f6 (OpenSpec.ofChange Rows.updateTogetherSpec) false w args)
   (Rows.updateTogetherSpec.post enc prog Tryz.f6 false true false false):=by
 refine returnsInHanded_of_change_and (C:=Tryz.checked) (X:=λw _=>laidMetH prog Rows.updateTogetherRow.laid w) (λ_ _ _ S h=>h.of_heap S) Qqi started (by kernel_rfl) func6
  (ChangeSpec.witness_shaped (enc:=enc) (C:=Tryz.checked) (os:=os) (X:=λw _=>laidMetH prog Rows.updateTogetherRow.laid w) false (World.doorLaid prog 400 os) #[.agg (Array.replicate 147 (.int .u8 0)++#[nS,.int .i8 0,.int .i8 0,.int .i8 0,.int .i8 0]),.agg (Array.replicate 6 (.int .u8 0))] 8 U (World.shaped_of_RefB (by kernel_rfl) (by kernel_rfl)) (by kernel_rfl) (by kernel_rfl) (by kernel_rfl) (Qer os _)) ?_
 intro W base args ds gs before T G _ _ V _;have E:∀(j:Nat) t v,Tryz.f6.params[j]?=some t→args[j]?=some v→Value.okWide prog W .any base t v:=T;have Y:=G;obtain⟨p,q,ha,hV,rfl,_,_⟩:=G;have I:DataW.TrodAll enc prog W 0 (λ_=>true) true Tryz.f6.params.toList args.toList ds p:=ha;rw[Tryz.params6]at I E;obtain⟨v0,v1,d0,d1,p0,p1,rfl,rfl,rfl,h0,h1⟩:=trodAll_two I;obtain⟨rfl,rfl⟩:=trodVars_none hV;have hT:Tb W:=Qp4 (a:=("math/bits.deBruijn32tab",Rows.laid_math_bits_deBruijn32tab)) (b:=("math/bits.deBruijn64tab",Rows.laid_math_bits_deBruijn64tab)) (by kernel_rfl) V (by kernel_rfl);obtain⟨l,rfl,hl⟩:=QqX (E 0 36 v0 U U) h0;obtain⟨a0,a1,a2,c0,c1,c2,rfl,hb,hc,hf,hg,hi,hj⟩:=QqY (E 1 77 v1 U U) h1;have J:=yP hb hc hf hg hi hj hl (.inr ⟨by omega,hT⟩);unfold QZ at J;refine Calls.mono J λe W' O=>?_;cases e with
 | returned v =>
  obtain⟨rfl,hS⟩:=O;exact⟨_,rfl,Qjf yQ (by kernel_rfl) U underlying4 U U Y hS⟩
 | _=>exact O.elim
theorem Qoi:Rows.UpdateTogetherSaid :=
 OpenClaim.holds_of_wide 6 Tryz.f6 U U U U U U U ⟨U,U,U,U,U⟩ U U U U U (by kernel_rfl) func6 Qqy
  (of_decide_eq_true (by kernel_rfl)) (by unfold Func.isWrapper;first|(rw[if_pos (by decide +kernel)];kernel_rfl)|(rw[if_neg (by decide +kernel)];exact⟨U,U⟩))
  (λos started H enc _=>Qje os started H enc)
theorem updateTogether_holds:Rows.UpdateTogetherCardSaid :=
 Claim7.holds_tied_plain_at .later [] [.data,.data,.data] true (true, "2f54040c77bc06dd918a3bf4dde98a2bf5c7559f2e0a75d1941ed6a489a72ca6") false
  Qoi (λ_ h=>by cases h) QoQ (λ_ h=>by cases h) updateTogether_row_tie rfl ⟨rfl,rfl⟩ QoT rfl
  (λf fn G H=>by
   obtain rfl:f=6:=Option.some.inj (QoS.symm.D G) |>.symm;obtain rfl:fn=Tryz.f6:=(Option.some.inj (func6.symm.D H)).symm;exact⟨QoU,λj t E=>by
    rw[Tryz.params6]at E;have I:t∈[36,77]:=by simpa using Array.mem_of_getElem? E
    exact(show prog.wantsStandIn t=false by simpa using Mg.1 QoR t I)⟩)
  QoV
#print axioms updateTogether_holds
end Go.Proofs.YteekilnpgonojaaGreatDoor
