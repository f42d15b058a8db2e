/- HierarchySame: for any case whose tests succeed, the plant with the high supervisor generates and marks what the supervisor of the cell does, the law's function returns true, and its arguments read as they did: the row, and the tied card. -/
import Derived.Test.YtpfnhheoeaiomaaGreatDoorPef
import Derived.Test.YtpfnhheoeaiomaaGreatDoorTie
import Derived.ChangeVars
import Derived.RowKitTokens
import Derived.LaidLaws
import Derived.LaidMore
import Derived.Stop.Joined
open Go Go.Lg
namespace Go.Proofs.YtpfnhheoeaiomaaGreatDoor
open Go.Proofs.Tryz
open Go.ChangeShapes Go.WideShapes Go.RowKit Go.Lg
theorem Qse:joinedFacts prog 4 Tryz.f4 Rows.hierarchySameSpec Rows.hierarchySameRow=true :=
 QbE (by kernel_rfl) yL QkG (by kernel_rfl) (by kernel_rfl) (by kernel_rfl) (by kernel_rfl) (by kernel_rfl) (by kernel_rfl) Qn6 Qn5 Qn4 Qn3 (by kernel_rfl) (by kernel_rfl) (by kernel_rfl) (by kernel_rfl) (by kernel_rfl) (by kernel_rfl) (by kernel_rfl) (by kernel_rfl) (by kernel_rfl) (by kernel_rfl) (by kernel_rfl) QkI QkJ QkH Qn2 (by kernel_rfl) (by kernel_rfl) (by kernel_rfl) (by kernel_rfl)
theorem QrU:ownKnob prog.godebug=none:=by kernel_rfl
theorem Qfg (os:Os)(args:Array Value):laidMetH prog Rows.hierarchySameRow.laid ((World.doorLaid prog 400 os).forCall (λ_ _=>0) ⟨#[],args,[]⟩).memory :=
 laidMetH_of_parts3 (fuel:=8) (laidMet_of_run' 8 (by kernel_rfl) (by kernel_rfl)) (by kernel_rfl) (by kernel_rfl)
set_option maxRecDepth 100000 in
theorem Qkr (os:Os)(started:os.Started)(H:Type)(enc:TypeId×Value→H):
  ReturnsInHanded {} Tryz.checked os 4 .any (λw args=>(Rows.hierarchySameSpec.pre enc prog Tryz.f4 [] false w args∧laidMetH prog Rows.hierarchySameRow.laid w)∧sizedMet enc prog Tryz.f4 (OpenSpec.ofChange Rows.hierarchySameSpec) false w args)
   (Rows.hierarchySameSpec.post enc prog Tryz.f4 false true false false):=by
 refine returnsInHanded_of_change_and (C:=Tryz.checked) (X:=λw _=>laidMetH prog Rows.hierarchySameRow.laid w) (λ_ _ _ U h=>h.of_heap U) QrU started (by kernel_rfl) func4
  (ChangeSpec.witness_shaped (enc:=enc) (C:=Tryz.checked) (os:=os) (X:=λw _=>laidMetH prog Rows.hierarchySameRow.laid w) false (World.doorLaid prog 400 os) #[.agg (Array.replicate 147 (.int .u8 0)++#[nS,.int .i8 0,.int .i8 0,.int .i8 0,.int .i8 0,.int .u8 0])] 8 Z (World.shaped_of_RefB (by kernel_rfl) (by kernel_rfl)) (by kernel_rfl) (by kernel_rfl) (by kernel_rfl) (Qfg os _)) ?_
 intro W base args ds gs before V G _ _ Y _;have I:∀(j:Nat) t v,Tryz.f4.params[j]?=some t→args[j]?=some v→Value.okWide prog W .any base t v:=V;have ha:=G;obtain⟨p,q,hf,hV,rfl,_,_⟩:=G;have hA:DataW.TrodAll enc prog W 0 (λ_=>true) true Tryz.f4.params.toList args.toList ds p:=hf;rw[Tryz.params4]at hA I;obtain⟨v0,d0,rfl,rfl,h0⟩:=trodAll_one hA;obtain⟨rfl,rfl⟩:=trodVars_none hV;have hT:Tb W:=QrG (a:=("math/bits.deBruijn32tab",Rows.laid_math_bits_deBruijn32tab)) (b:=("math/bits.deBruijn64tab",Rows.laid_math_bits_deBruijn64tab)) (by kernel_rfl) Y (by kernel_rfl);obtain⟨l,hb,rfl,hg,hl⟩:=Qsy (I 0 38 v0 Z Z) h0;have J:=Qdj hl hg (.inr ⟨by omega,hT⟩);unfold QT at J;refine Calls.mono J λe W' O=>?_;cases e with
 | returned v =>
  obtain⟨rfl,hS⟩:=O;exact⟨_,rfl,Qkz yL (by kernel_rfl) Z underlying4 Z Z ha hS⟩
 | _=>exact O.elim
theorem QpO:Rows.HierarchySameSaid :=
 OpenClaim.holds_of_wide 4 Tryz.f4 Z Z Z Z Z Z Z ⟨Z,Z,Z,Z,Z⟩ Z Z Z Z Z (by kernel_rfl) func4 Qse
  (of_decide_eq_true (by kernel_rfl)) (by unfold Func.isWrapper;first|(rw[if_pos (by decide +kernel)];kernel_rfl)|(rw[if_neg (by decide +kernel)];exact⟨Z,Z⟩))
  (λos started H enc _=>Qkr os started H enc)
theorem hierarchySame_holds:Rows.HierarchySameCardSaid :=
 Claim7.holds_tied_plain_at .later [] [.data,.data,.data] true (true, "7e6c111e63cd6b879c1f82077465bee9620edb040a7287706e5c7dbd129b5c95") false
  QpO (λ_ h=>by cases h) Qqq (λ_ h=>by cases h) hierarchySame_row_tie rfl ⟨rfl,rfl⟩ Qqt rfl
  (λf fn G I=>by
   obtain rfl:f=4:=Option.some.inj (Qqs.symm.D G) |>.symm;obtain rfl:fn=Tryz.f4:=(Option.some.inj (func4.symm.D I)).symm;exact⟨Qqu,λj t ht=>by
    rw[Tryz.params4]at ht;have J:t∈[38]:=by simpa using Array.mem_of_getElem? ht
    exact(show prog.wantsStandIn t=false by simpa using Mn.1 Qqr t J)⟩)
  Qqv
#print axioms hierarchySame_holds
end Go.Proofs.YtpfnhheoeaiomaaGreatDoor
