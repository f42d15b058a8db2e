/- HierarchyAll: with all events high nothing is lost, and for what Extend returns the tests succeed, the law's function returns true, and its arguments read as they did: the row, and the tied card. -/
import Derived.Test.YtpfnhheoeaiomaaGreatDoorPff
import Derived.Test.YtpfnhheoeaiomaaGreatDoorTie
import Derived.ChangeVars
import Derived.RowKitTokens
import Derived.LaidLaws
import Derived.LaidMore
import Derived.Stop.Joined
open Go Go.Lg
namespace Go.Proofs.YtpfnhheoeaiomaaGreatDoor
open Go.Proofs.Tryz
open Go.ChangeShapes Go.WideShapes Go.RowKit Go.Lg
theorem Qsu:joinedFacts prog 5 Tryz.f5 Rows.hierarchyAllSpec Rows.hierarchyAllRow=true :=
 QbS (by kernel_rfl) yV QkU (by kernel_rfl) (by kernel_rfl) (by kernel_rfl) (by kernel_rfl) (by kernel_rfl) (by kernel_rfl) Qol Qok Qoj Qoi (by kernel_rfl) (by kernel_rfl) (by kernel_rfl) (by kernel_rfl) (by kernel_rfl) (by kernel_rfl) (by kernel_rfl) (by kernel_rfl) (by kernel_rfl) (by kernel_rfl) (by kernel_rfl) QkW QkX QkV Qoh (by kernel_rfl) (by kernel_rfl) (by kernel_rfl) (by kernel_rfl)
theorem Qsb:ownKnob prog.godebug=none:=by kernel_rfl
theorem Qfs (os:Os)(args:Array Value):laidMetH prog Rows.hierarchyAllRow.laid ((World.doorLaid prog 400 os).forCall (λ_ _=>0) ⟨#[],args,[]⟩).memory :=
 laidMetH_of_parts3 (fuel:=8) (laidMet_of_run' 8 (by kernel_rfl) (by kernel_rfl)) (by kernel_rfl) (by kernel_rfl)
set_option maxRecDepth 100000 in
theorem QkF (os:Os)(started:os.Started)(H:Type)(enc:TypeId×Value→H):
  ReturnsInHanded {} Tryz.checked os 5 .any (λw args=>(Rows.hierarchyAllSpec.pre enc prog Tryz.f5 [] false w args∧laidMetH prog Rows.hierarchyAllRow.laid w)∧sizedMet enc prog Tryz.f5 (OpenSpec.ofChange Rows.hierarchyAllSpec) false w args)
   (Rows.hierarchyAllSpec.post enc prog Tryz.f5 false true false false):=by
 refine returnsInHanded_of_change_and (C:=Tryz.checked) (X:=λw _=>laidMetH prog Rows.hierarchyAllRow.laid w) (λ_ _ _ U h=>h.of_heap U) Qsb started (by kernel_rfl) func5
  (ChangeSpec.witness_shaped (enc:=enc) (C:=Tryz.checked) (os:=os) (X:=λw _=>laidMetH prog Rows.hierarchyAllRow.laid w) false (World.doorLaid prog 400 os) #[.agg (Array.replicate 147 (.int .u8 0)++#[nS,.int .i8 0,.int .i8 0,.int .i8 0,.int .i8 0,.int .u8 0])] 8 Z (World.shaped_of_RefB (by kernel_rfl) (by kernel_rfl)) (by kernel_rfl) (by kernel_rfl) (by kernel_rfl) (Qfs os _)) ?_
 intro W base args ds gs before V G _ _ Y _;have I:∀(j:Nat) t v,Tryz.f5.params[j]?=some t→args[j]?=some v→Value.okWide prog W .any base t v:=V;have ha:=G;obtain⟨p,q,hf,hV,rfl,_,_⟩:=G;have hA:DataW.TrodAll enc prog W 0 (λ_=>true) true Tryz.f5.params.toList args.toList ds p:=hf;rw[Tryz.params5]at hA I;obtain⟨v0,d0,rfl,rfl,h0⟩:=trodAll_one hA;obtain⟨rfl,rfl⟩:=trodVars_none hV;have hT:Tb W:=QrV (a:=("math/bits.deBruijn32tab",Rows.laid_math_bits_deBruijn32tab)) (b:=("math/bits.deBruijn64tab",Rows.laid_math_bits_deBruijn64tab)) (by kernel_rfl) Y (by kernel_rfl);obtain⟨l,hb,rfl,hg,hl⟩:=QsO (I 0 38 v0 Z Z) h0;have J:=Qfa hl hg (.inr ⟨by omega,hT⟩);unfold QT at J;refine Calls.mono J λe W' O=>?_;cases e with
 | returned v =>
  obtain⟨rfl,hS⟩:=O;exact⟨_,rfl,QkN yV (by kernel_rfl) Z underlying4 Z Z ha hS⟩
 | _=>exact O.elim
theorem Qp3:Rows.HierarchyAllSaid :=
 OpenClaim.holds_of_wide 5 Tryz.f5 Z Z Z Z Z Z Z ⟨Z,Z,Z,Z,Z⟩ Z Z Z Z Z (by kernel_rfl) func5 Qsu
  (of_decide_eq_true (by kernel_rfl)) (by unfold Func.isWrapper;first|(rw[if_pos (by decide +kernel)];kernel_rfl)|(rw[if_neg (by decide +kernel)];exact⟨Z,Z⟩))
  (λos started H enc _=>QkF os started H enc)
theorem hierarchyAll_holds:Rows.HierarchyAllCardSaid :=
 Claim7.holds_tied_plain_at .later [] [.data,.data,.data] true (true, "7e6c111e63cd6b879c1f82077465bee9620edb040a7287706e5c7dbd129b5c95") false
  Qp3 (λ_ h=>by cases h) QqE (λ_ h=>by cases h) hierarchyAll_row_tie rfl ⟨rfl,rfl⟩ QqH rfl
  (λf fn G I=>by
   obtain rfl:f=5:=Option.some.inj (QqG.symm.D G) |>.symm;obtain rfl:fn=Tryz.f5:=(Option.some.inj (func5.symm.D I)).symm;exact⟨QqI,λj t ht=>by
    rw[Tryz.params5]at ht;have J:t∈[38]:=by simpa using Array.mem_of_getElem? ht
    exact(show prog.wantsStandIn t=false by simpa using Mo.1 QqF t J)⟩)
  QqJ
#print axioms hierarchyAll_holds
end Go.Proofs.YtpfnhheoeaiomaaGreatDoor
