/- HierarchyTests: for any case whose components have at most 9 states, Test returns the report of the three tests, and Extend what layer 35 does, the law's function returns true, and its arguments read as they did: the row, and the tied card. -/
import Derived.Test.YtpfnhheoeaiomaaGreatDoorPde
import Derived.Test.YtpfnhheoeaiomaaGreatDoorTie
import Derived.ChangeVars
import Derived.RowKitTokens
import Derived.LaidLaws
import Derived.LaidMore
import Derived.Stop.Joined
open Go Go.Lg
namespace Go.Proofs.YtpfnhheoeaiomaaGreatDoor
open Go.Proofs.Tryz
open Go.ChangeShapes Go.WideShapes Go.RowKit Go.Lg
theorem QpH:joinedFacts prog 3 Tryz.f3 Rows.hierarchyTestsSpec Rows.hierarchyTestsRow=true :=
 Qas (by kernel_rfl) zy Qis (by kernel_rfl) (by kernel_rfl) (by kernel_rfl) (by kernel_rfl) (by kernel_rfl) (by kernel_rfl) QlB QlA Qlz Qly (by kernel_rfl) (by kernel_rfl) (by kernel_rfl) (by kernel_rfl) (by kernel_rfl) (by kernel_rfl) (by kernel_rfl) (by kernel_rfl) (by kernel_rfl) (by kernel_rfl) (by kernel_rfl) Qiu Qiv Qit Qlx (by kernel_rfl) (by kernel_rfl) (by kernel_rfl) (by kernel_rfl)
theorem Qpr:ownKnob prog.godebug=none:=by kernel_rfl
theorem QdB (os:Os)(args:Array Value):laidMetH prog Rows.hierarchyTestsRow.laid ((World.doorLaid prog 400 os).forCall (λ_ _=>0) ⟨#[],args,[]⟩).memory :=
 laidMetH_of_parts3 (fuel:=8) (laidMet_of_run' 8 (by kernel_rfl) (by kernel_rfl)) (by kernel_rfl) (by kernel_rfl)
set_option maxRecDepth 100000 in
theorem Qig (os:Os)(started:os.Started)(H:Type)(enc:TypeId×Value→H):
  ReturnsInHanded {} Tryz.checked os 3 .any (λw args=>(Rows.hierarchyTestsSpec.pre enc prog Tryz.f3 [] false w args∧laidMetH prog Rows.hierarchyTestsRow.laid w)∧sizedMet enc prog Tryz.f3 (OpenSpec.ofChange Rows.hierarchyTestsSpec) false w args)
   (Rows.hierarchyTestsSpec.post enc prog Tryz.f3 false true false false):=by
 refine returnsInHanded_of_change_and (C:=Tryz.checked) (X:=λw _=>laidMetH prog Rows.hierarchyTestsRow.laid w) (λ_ _ _ S h=>h.of_heap S) Qpr started (by kernel_rfl) func3
  (ChangeSpec.witness_shaped (enc:=enc) (C:=Tryz.checked) (os:=os) (X:=λw _=>laidMetH prog Rows.hierarchyTestsRow.laid w) false (World.doorLaid prog 400 os) #[.agg (Array.replicate 147 (.int .u8 0)++#[nS,.int .i8 0,.int .i8 0,.int .i8 0,.int .i8 0,.int .u8 0])] 8 O (World.shaped_of_RefB (by kernel_rfl) (by kernel_rfl)) (by kernel_rfl) (by kernel_rfl) (by kernel_rfl) (QdB os _)) ?_
 intro W base args ds gs before T E _ _ U _;have G:∀(j:Nat) t v,Tryz.f3.params[j]?=some t→args[j]?=some v→Value.okWide prog W .any base t v:=T;have V:=E;obtain⟨p,q,Y,hV,rfl,_,_⟩:=E;have hA:DataW.TrodAll enc prog W 0 (λ_=>true) true Tryz.f3.params.toList args.toList ds p:=Y;rw[Tryz.params3]at hA G;obtain⟨v0,d0,rfl,rfl,h0⟩:=trodAll_one hA;obtain⟨rfl,rfl⟩:=trodVars_none hV;have hT:Tb W:=Qpf (a:=("math/bits.deBruijn32tab",Rows.laid_math_bits_deBruijn32tab)) (b:=("math/bits.deBruijn64tab",Rows.laid_math_bits_deBruijn64tab)) (by kernel_rfl) U (by kernel_rfl);obtain⟨l,hb,rfl,ha,hl⟩:=Qp1 (G 0 38 v0 O O) h0;have I:=Qao hl ha (.inr ⟨by omega,hT⟩);unfold QS at I;refine Calls.mono I λe W' J=>?_;cases e with
 | returned v =>
  obtain⟨rfl,hS⟩:=J;exact⟨_,rfl,Qil zy (by kernel_rfl) O underlying4 O O V hS⟩
 | _=>exact J.elim
theorem Qnh:Rows.HierarchyTestsSaid :=
 OpenClaim.holds_of_wide 3 Tryz.f3 O O O O O O O ⟨O,O,O,O,O⟩ O O O O O (by kernel_rfl) func3 QpH
  (of_decide_eq_true (by kernel_rfl)) (by unfold Func.isWrapper;first|(rw[if_pos (by decide +kernel)];kernel_rfl)|(rw[if_neg (by decide +kernel)];exact⟨O,O⟩))
  (λos started H enc _=>Qig os started H enc)
theorem hierarchyTests_holds:Rows.HierarchyTestsCardSaid :=
 Claim7.holds_tied_plain_at .later [] [.data,.data,.data] true (true, "7e6c111e63cd6b879c1f82077465bee9620edb040a7287706e5c7dbd129b5c95") false
  Qnh (λ_ h=>by cases h) QnV (λ_ h=>by cases h) hierarchyTests_row_tie rfl ⟨rfl,rfl⟩ QnY rfl
  (λf fn G I=>by
   obtain rfl:f=3:=Option.some.inj (QnX.symm.D G) |>.symm;obtain rfl:fn=Tryz.f3:=(Option.some.inj (func3.symm.D I)).symm;exact⟨QnZ,λj t E=>by
    rw[Tryz.params3]at E;have J:t∈[38]:=by simpa using Array.mem_of_getElem? E
    exact(show prog.wantsStandIn t=false by simpa using L9.1 QnW t J)⟩)
  Qn0
#print axioms hierarchyTests_holds
end Go.Proofs.YtpfnhheoeaiomaaGreatDoor
