/- UpdateScratch: for any described cell and any at most 3 described edits, the entries are those of a system that is made for the edited cell, Together is that of module.Together, and Verify accepts: the law's function returns true, and its arguments read as they did: the row, and the tied card. -/
import Derived.Test.YtnlnkchlcpfehaaGreatDoorNjf
import Derived.Test.YtnlnkchlcpfehaaGreatDoorTie
import Derived.ChangeVars
import Derived.RowKitTokens
import Derived.LaidLaws
import Derived.LaidMore
import Derived.Stop.Joined
open Go Go.Lg
namespace Go.Proofs.YtnlnkchlcpfehaaGreatDoor
open Go.Proofs.Tryz
open Go.ChangeShapes Go.WideShapes Go.RowKit Go.Lg
theorem Qq5:joinedFacts prog 4 Tryz.f4 Rows.updateScratchSpec Rows.updateScratchRow=true :=
 Qb7 (by kernel_rfl) ja QkM (by kernel_rfl) (by kernel_rfl) (by kernel_rfl) (by kernel_rfl) (by kernel_rfl) (by kernel_rfl) QkT QkS QkR QkQ (by kernel_rfl) (by kernel_rfl) (by kernel_rfl) (by kernel_rfl) (by kernel_rfl) (by kernel_rfl) (by kernel_rfl) (by kernel_rfl) (by kernel_rfl) (by kernel_rfl) (by kernel_rfl) QkO QkP QkN Qod (by kernel_rfl) (by kernel_rfl) (by kernel_rfl) (by kernel_rfl)
theorem QqF:ownKnob prog.godebug=none:=by kernel_rfl
theorem QdY (os:Os)(args:Array Value):laidMetH prog Rows.updateScratchRow.laid ((World.doorLaid prog 400 os).forCall (λ_ _=>0) ⟨#[],args,[]⟩).memory :=
 laidMetH_of_parts3 (fuel:=8) (laidMet_of_run' 8 (by kernel_rfl) (by kernel_rfl)) (by kernel_rfl) (by kernel_rfl)
set_option maxRecDepth 100000 in
theorem Qii (os:Os)(started:os.Started)(H:Type)(enc:TypeId×Value→H):
  ReturnsInHanded {} Tryz.checked os 4 .any (λw args=>(Rows.updateScratchSpec.pre enc prog Tryz.f4 [] false w args∧laidMetH prog Rows.updateScratchRow.laid w)∧sizedMet enc prog Tryz.f4 (OpenSpec.ofChange Rows.updateScratchSpec) false w args)
   (Rows.updateScratchSpec.post enc prog Tryz.f4 false true false false):=by
 refine returnsInHanded_of_change_and (C:=Tryz.checked) (X:=λw _=>laidMetH prog Rows.updateScratchRow.laid w) (λ_ _ _ S h=>h.of_heap S) QqF started (by kernel_rfl) func4
  (ChangeSpec.witness_shaped (enc:=enc) (C:=Tryz.checked) (os:=os) (X:=λw _=>laidMetH prog Rows.updateScratchRow.laid w) false (World.doorLaid prog 400 os) #[.agg (Array.replicate 147 (.int .u8 0)++#[nS,.int .i8 0,.int .i8 0,.int .i8 0,.int .i8 0]),nS] 8 U (World.shaped_of_RefB (by kernel_rfl) (by kernel_rfl)) (by kernel_rfl) (by kernel_rfl) (by kernel_rfl) (QdY os _)) ?_
 intro W base args ds gs before T I _ _ V _;have E:∀(j:Nat) t v,Tryz.f4.params[j]?=some t→args[j]?=some v→Value.okWide prog W .any base t v:=T;have Y:=I;obtain⟨p,q,Z,hV,rfl,_,_⟩:=I;have hA:DataW.TrodAll enc prog W 0 (λ_=>true) true Tryz.f4.params.toList args.toList ds p:=Z;rw[Tryz.params4]at hA E;obtain⟨v0,v1,d0,d1,p0,p1,rfl,rfl,rfl,h0,h1⟩:=trodAll_two hA;obtain⟨rfl,rfl⟩:=trodVars_none hV;have hT:Tb W:=Qsm (a:=("math/bits.deBruijn32tab",Rows.laid_math_bits_deBruijn32tab)) (b:=("math/bits.deBruijn64tab",Rows.laid_math_bits_deBruijn64tab)) (by kernel_rfl) V (by kernel_rfl);obtain⟨l,rfl,hl⟩:=Qtd (E 0 36 v0 U U) h0;obtain⟨mv,ha,hb⟩:=Qte (E 1 37 v1 U U) h1;have J:=j1 hb ha hl (.inr ⟨by omega,hT⟩);unfold QZ at J;refine Calls.mono J λe W' O=>?_;cases e with
 | returned v =>
  obtain⟨rfl,hS⟩:=O;exact⟨_,rfl,QkC ja (by kernel_rfl) U underlying4 U U Y hS⟩
 | _=>exact O.elim
theorem Qnt:Rows.UpdateScratchSaid :=
 OpenClaim.holds_of_wide 4 Tryz.f4 U U U U U U U ⟨U,U,U,U,U⟩ U U U U U (by kernel_rfl) func4 Qq5
  (of_decide_eq_true (by kernel_rfl)) (by unfold Func.isWrapper;first|(rw[if_pos (by decide +kernel)];kernel_rfl)|(rw[if_neg (by decide +kernel)];exact⟨U,U⟩))
  (λos started H enc _=>Qii os started H enc)
theorem updateScratch_holds:Rows.UpdateScratchCardSaid :=
 Claim7.holds_tied_plain_at .later [] [.data,.data,.data] true (true, "e995ae75cd4cf4b754d7f901a88cdfcf3d7684c5795a6bc3a5d780dc25555f9f") false
  Qnt (λ_ h=>by cases h) Qoe (λ_ h=>by cases h) updateScratch_row_tie rfl ⟨rfl,rfl⟩ Qoh rfl
  (λf fn hf H=>by
   obtain rfl:f=4:=Option.some.inj (Qog.symm.I hf) |>.symm;obtain rfl:fn=Tryz.f4:=(Option.some.inj (func4.symm.I H)).symm;exact⟨Qoi,λj t E=>by
    rw[Tryz.params4]at E;have I:t∈[36,37]:=by simpa using Array.mem_of_getElem? E
    exact(show prog.wantsStandIn t=false by simpa using My.1 Qof t I)⟩)
  Qoj
#print axioms updateScratch_holds
end Go.Proofs.YtnlnkchlcpfehaaGreatDoor
