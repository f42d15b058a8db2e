/- ModularEqual: for any line, the coordinated supervisors do the same as the whole one, and, if they are nonconflicting, the supervisors alone do, the law's function returns true, and its arguments read as they did: the row, and the tied card. -/
import Derived.Test.YtjcgijbhaemldaaGreatDoorKaf
import Derived.Test.YtjcgijbhaemldaaGreatDoorTie
import Derived.ChangeVars
import Derived.RowKitTokens
import Derived.LaidLaws
import Derived.LaidMore
import Derived.Stop.Joined
namespace Go.Proofs.YtjcgijbhaemldaaGreatDoor
open Go.Proofs.Tryz
open Go.ChangeShapes Go.WideShapes Go.RowKit Go.Lg
theorem QpC:joinedFacts prog 3 Tryz.f3 Rows.modularEqualSpec Rows.modularEqualRow=true :=
 Qba (by kernel_rfl) zZ Qi2 (by kernel_rfl) (by kernel_rfl) (by kernel_rfl) (by kernel_rfl) (by kernel_rfl) (by kernel_rfl) QlR QlQ QlP QlO (by kernel_rfl) (by kernel_rfl) (by kernel_rfl) (by kernel_rfl) (by kernel_rfl) (by kernel_rfl) (by kernel_rfl) (by kernel_rfl) (by kernel_rfl) (by kernel_rfl) (by kernel_rfl) Qi4 Qi5 Qi3 QlN (by kernel_rfl) (by kernel_rfl) (by kernel_rfl) (by kernel_rfl)
theorem Qpq:ownKnob prog.godebug=none:=by kernel_rfl
theorem Qek (os:Os) (args:Array Value):laidMetH prog Rows.modularEqualRow.laid ((World.doorLaid prog 400 os).forCall (λ_ _=>0) ⟨#[],args,[]⟩).memory :=
 laidMetH_of_parts3 (fuel:=8) (laidMet_of_run' 8 (by kernel_rfl) (by kernel_rfl)) (by kernel_rfl) (by kernel_rfl)
set_option maxRecDepth 100000 in
theorem QiU (os:Os) (started:os.Started) (H:Type) (enc:TypeId×Value→H) :
  ReturnsInHanded {} Tryz.checked os 3 .any (λw args=>(Rows.modularEqualSpec.pre enc prog Tryz.f3 [] false w args∧laidMetH prog Rows.modularEqualRow.laid w)∧sizedMet enc prog Tryz.f3 (OpenSpec.ofChange Rows.modularEqualSpec) false w args)
   (Rows.modularEqualSpec.post enc prog Tryz.f3 false true false false):=by
 refine returnsInHanded_of_change_and (C:=Tryz.checked) (X:=λw _=>laidMetH prog Rows.modularEqualRow.laid w) (λ_ _ _ V h=>h.of_heap V) Qpq started (by kernel_rfl) func3
  (ChangeSpec.witness_shaped (enc:=enc) (C:=Tryz.checked) (os:=os) (X:=λw _=>laidMetH prog Rows.modularEqualRow.laid w) false (World.doorLaid prog 400 os) #[.agg (Array.replicate 82 (.int .u8 0)++#[nS,.int .u8 0,.int .u8 0,.int .u8 0])] 8 Z (World.shaped_of_RefB (by kernel_rfl) (by kernel_rfl)) (by kernel_rfl) (by kernel_rfl) (by kernel_rfl) (Qek os _)) ?_
 intro W base args ds gs before Y E _ _ hL _;have I:∀(j:Nat) t v,Tryz.f3.params[j]?=some t→args[j]?=some v→Value.okWide prog W .any base t v:=Y;have ha:=E;obtain ⟨p,q,hb,hV,rfl,_,_⟩:=E;have J:DataW.TrodAll enc prog W 0 (λ_=>true) true Tryz.f3.params.toList args.toList ds p:=hb;rw[Tryz.params3] at J I;obtain ⟨v0,d0,rfl,rfl,h0⟩:=trodAll_one J
 obtain ⟨rfl,rfl⟩:=trodVars_none hV;have hT:Tb W:=Qpg (a:=("math/bits.deBruijn32tab",Rows.laid_math_bits_deBruijn32tab)) (b:=("math/bits.deBruijn64tab",Rows.laid_math_bits_deBruijn64tab)) (by kernel_rfl) hL (by kernel_rfl);obtain ⟨l,rfl,hl⟩:=QpV (I 0 30 v0 Z Z) h0;have U:=Qcw hl (.inr ⟨by omega,hT⟩);unfold QG at U;refine Calls.mono U λe W' he=>?_;cases e with
 | returned v =>
  obtain ⟨rfl,hS⟩:=he;exact ⟨_,rfl,Qi0 zZ (by kernel_rfl) Z underlying4 Z Z ha hS⟩
 | _=>exact he.elim
theorem QnA:Rows.ModularEqualSaid :=
 OpenClaim.holds_of_wide 3 Tryz.f3 Z Z Z Z Z Z Z ⟨Z,Z,Z,Z,Z⟩ Z Z Z Z Z (by kernel_rfl) func3 QpC
  (of_decide_eq_true (by kernel_rfl)) (by unfold Func.isWrapper;first | (rw[if_pos (by decide +kernel)];kernel_rfl) | (rw[if_neg (by decide +kernel)];exact ⟨Z,Z⟩))
  (λos started H enc _=>QiU os started H enc)
theorem modularEqual_holds:Rows.ModularEqualCardSaid :=
 Claim7.holds_tied_plain_at .later [] [.data,.data,.data] true (true, "0087da35e19dff2b1c72cbf1a82bebf57530b191c9b8d180c93c2df9ec22b342") false
  QnA (λ_ h=>by cases h) Qn0 (λ_ h=>by cases h) modularEqual_row_tie rfl ⟨rfl,rfl⟩ Qn3 rfl
  (λf fn E H=>by
   obtain rfl:f=3:=Option.some.inj (Qn2.symm.trans E) |>.symm;obtain rfl:fn=Tryz.f3:=(Option.some.inj (func3.symm.trans H)).symm;exact ⟨Qn4,λj t ht=>by
    rw[Tryz.params3] at ht;have hm:t∈[30]:=by simpa using Array.mem_of_getElem? ht
    exact (show prog.wantsStandIn t=false by simpa using LZ.1 Qn1 t hm)⟩)
  Qn5
#print axioms modularEqual_holds
end Go.Proofs.YtjcgijbhaemldaaGreatDoor
