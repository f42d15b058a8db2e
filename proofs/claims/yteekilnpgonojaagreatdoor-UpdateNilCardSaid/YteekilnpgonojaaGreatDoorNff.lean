/- UpdateNil: for any described edit, the methods of a nil system return ErrArgument, or zero values; 64 edits are remembered, and no more, the law's function returns true, and its arguments read as they did: the row, and the tied card. -/
import Derived.Test.YteekilnpgonojaaGreatDoorNfe
import Derived.Test.YteekilnpgonojaaGreatDoorTie
import Derived.ChangeVars
import Derived.RowKitTokens
import Derived.LaidLaws
import Derived.LaidMore
import Derived.Stop.Joined
open Go Go.Lg
namespace Go.Proofs.YteekilnpgonojaaGreatDoor
open Go.Proofs.Tryz
open Go.ChangeShapes Go.WideShapes Go.RowKit Go.Lg
theorem Qoy:joinedFacts prog 7 Tryz.f7 Rows.updateNilSpec Rows.updateNilRow=true :=
 Qab (by kernel_rfl) zD Qhv (by kernel_rfl) (by kernel_rfl) (by kernel_rfl) (by kernel_rfl) (by kernel_rfl) (by kernel_rfl) QkI QkH QkG QkF (by kernel_rfl) (by kernel_rfl) (by kernel_rfl) (by kernel_rfl) (by kernel_rfl) (by kernel_rfl) (by kernel_rfl) (by kernel_rfl) (by kernel_rfl) (by kernel_rfl) (by kernel_rfl) Qhx Qhy Qhw QkE (by kernel_rfl) (by kernel_rfl) (by kernel_rfl) (by kernel_rfl)
theorem Qoj:ownKnob prog.godebug=none:=by kernel_rfl
theorem QcK (os:Os)(args:Array Value):laidMetH prog Rows.updateNilRow.laid ((World.doorLaid prog 400 os).forCall (λ_ _=>0) ⟨#[],args,[]⟩).memory :=
 laidMetH_of_parts3 (fuel:=8) (laidMet_of_run' 8 (by kernel_rfl) (by kernel_rfl)) (by kernel_rfl) (by kernel_rfl)
set_option maxRecDepth 100000 in
theorem Qhl (os:Os)(started:os.Started)(H:Type)(enc:TypeId×Value→H):
  ReturnsInHanded {} Tryz.checked os 7 .any (λw args=>(Rows.updateNilSpec.pre enc prog Tryz.f7 [] false w args∧laidMetH prog Rows.updateNilRow.laid w)∧sizedMet enc prog Tryz.f7 (OpenSpec.ofChange Rows.updateNilSpec) false w args)
   (Rows.updateNilSpec.post enc prog Tryz.f7 false true false false):=by
 refine returnsInHanded_of_change_and (C:=Tryz.checked) (X:=λw _=>laidMetH prog Rows.updateNilRow.laid w) (λ_ _ _ S h=>h.of_heap S) Qoj started (by kernel_rfl) func7
  (ChangeSpec.witness_shaped (enc:=enc) (C:=Tryz.checked) (os:=os) (X:=λw _=>laidMetH prog Rows.updateNilRow.laid w) false (World.doorLaid prog 400 os) #[.agg (Array.replicate 3 (.int .u8 0)),.bool false] 8 U (World.shaped_of_RefB (by kernel_rfl) (by kernel_rfl)) (by kernel_rfl) (by kernel_rfl) (by kernel_rfl) (QcK os _)) ?_
 intro W base args ds gs before T G _ _ V _;have E:∀(j:Nat) t v,Tryz.f7.params[j]?=some t→args[j]?=some v→Value.okWide prog W .any base t v:=T;have Y:=G;obtain⟨p,q,ha,hV,rfl,_,_⟩:=G;have I:DataW.TrodAll enc prog W 0 (λ_=>true) true Tryz.f7.params.toList args.toList ds p:=ha;rw[Tryz.params7]at I E;obtain⟨v0,v1,d0,d1,p0,p1,rfl,rfl,rfl,h0,h1⟩:=trodAll_two I;obtain⟨rfl,rfl⟩:=trodVars_none hV;have hT:Tb W:=Qn8 (a:=("math/bits.deBruijn32tab",Rows.laid_math_bits_deBruijn32tab)) (b:=("math/bits.deBruijn64tab",Rows.laid_math_bits_deBruijn64tab)) (by kernel_rfl) V (by kernel_rfl);obtain⟨a0,a1,a2,rfl,hb,hc,hf⟩:=QoW (E 0 68 v0 U U) h0;obtain⟨fg,rfl⟩:=okWide_bool underlying4 (E 1 4 v1 U U);have J:=Qe7 hb hc hf (many:=fg) (.inr ⟨by omega,hT⟩);unfold Q3 at J;refine Calls.mono J λe W' O=>?_;cases e with
 | returned v =>
  obtain⟨rfl,hS⟩:=O;exact⟨_,rfl,Qhm zD (by kernel_rfl) U underlying4 U U Y hS⟩
 | _=>exact O.elim
theorem Qmu:Rows.UpdateNilSaid :=
 OpenClaim.holds_of_wide 7 Tryz.f7 U U U U U U U ⟨U,U,U,U,U⟩ U U U U U (by kernel_rfl) func7 Qoy
  (of_decide_eq_true (by kernel_rfl)) (by unfold Func.isWrapper;first|(rw[if_pos (by decide +kernel)];kernel_rfl)|(rw[if_neg (by decide +kernel)];exact⟨U,U⟩))
  (λos started H enc _=>Qhl os started H enc)
theorem updateNil_holds:Rows.UpdateNilCardSaid :=
 Claim7.holds_tied_plain_at .later [] [.data,.data,.data] true (true, "2f54040c77bc06dd918a3bf4dde98a2bf5c7559f2e0a75d1941ed6a489a72ca6") false
  Qmu (λ_ h=>by cases h) QmW (λ_ h=>by cases h) updateNil_row_tie rfl ⟨rfl,rfl⟩ QmZ rfl
  (λf fn G H=>by
   obtain rfl:f=7:=Option.some.inj (QmY.symm.D G) |>.symm;obtain rfl:fn=Tryz.f7:=(Option.some.inj (func7.symm.D H)).symm;exact⟨Qm0,λj t E=>by
    rw[Tryz.params7]at E;have I:t∈[68,4]:=by simpa using Array.mem_of_getElem? E
    exact(show prog.wantsStandIn t=false by simpa using Mg.1 QmX t I)⟩)
  Qm1
#print axioms updateNil_holds
end Go.Proofs.YteekilnpgonojaaGreatDoor
