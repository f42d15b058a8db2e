/- SupervisorCells: for any described cell, the law's function returns true, and its arguments read as they did: the row, and the tied card. -/
import Derived.Test.YtdffckgdcegpaaaGreatDoorKnf
import Derived.Test.YtdffckgdcegpaaaGreatDoorTie
import Derived.ChangeVars
import Derived.RowKitTokens
import Derived.LaidLaws
import Derived.LaidMore
import Derived.Stop.Joined
namespace Go.Proofs.YtdffckgdcegpaaaGreatDoor
open Go.Proofs.Tryz
open Go.ChangeShapes Go.WideShapes Go.RowKit Go.Lg
theorem Qnn:joinedFacts prog 11 Tryz.f11 Rows.supervisorCellsSpec Rows.supervisorCellsRow=true :=
 QaD (by kernel_rfl) zS QhH (by kernel_rfl) (by kernel_rfl) (by kernel_rfl) (by kernel_rfl) (by kernel_rfl) (by kernel_rfl) Qki Qkh Qkg Qkf (by kernel_rfl) (by kernel_rfl) (by kernel_rfl) (by kernel_rfl) (by kernel_rfl) (by kernel_rfl) (by kernel_rfl) (by kernel_rfl) (by kernel_rfl) (by kernel_rfl) (by kernel_rfl) QhJ QhK QhI Qke (by kernel_rfl) (by kernel_rfl) (by kernel_rfl) (by kernel_rfl)
theorem Qnj:ownKnob prog.godebug=none:=by kernel_rfl
theorem QdA (os:Os) (args:Array Value):laidMetH prog Rows.supervisorCellsRow.laid ((World.doorLaid prog 400 os).forCall (λ_ _=>0) ⟨#[],args,[]⟩).memory :=
 laidMetH_of_parts3 (fuel:=8) (laidMet_of_run' 8 (by kernel_rfl) (by kernel_rfl)) (by kernel_rfl) (by kernel_rfl)
set_option maxRecDepth 100000 in
theorem QhC (os:Os) (started:os.Started) (H:Type) (enc:TypeId×Value→H) :
  ReturnsInHanded {} Tryz.checked os 11 .any (λw args=>(Rows.supervisorCellsSpec.pre enc prog Tryz.f11 [] false w args∧laidMetH prog Rows.supervisorCellsRow.laid w)∧sizedMet enc prog Tryz.f11 (OpenSpec.ofChange Rows.supervisorCellsSpec) false w args)
   (Rows.supervisorCellsSpec.post enc prog Tryz.f11 false true false false):=by
 refine returnsInHanded_of_change_and (C:=Tryz.checked) (X:=λw _=>laidMetH prog Rows.supervisorCellsRow.laid w) (λ_ _ _ U h=>h.of_heap U) Qnj started (by kernel_rfl) func11
  (ChangeSpec.witness_shaped (enc:=enc) (C:=Tryz.checked) (os:=os) (X:=λw _=>laidMetH prog Rows.supervisorCellsRow.laid w) false (World.doorLaid prog 400 os) #[.agg (Array.replicate 147 (.int .u8 0)++#[nS,.int .i8 0,.int .i8 0,.int .i8 0,.int .i8 0])] 8 O (World.shaped_of_RefB (by kernel_rfl) (by kernel_rfl)) (by kernel_rfl) (by kernel_rfl) (by kernel_rfl) (QdA os _)) ?_
 intro W base args ds gs before V E _ _ Y _;have G:∀(j:Nat) t v,Tryz.f11.params[j]?=some t→args[j]?=some v→Value.okWide prog W .any base t v:=V;have Z:=E;obtain ⟨p,q,ha,hV,rfl,_,_⟩:=E;have J:DataW.TrodAll enc prog W 0 (λ_=>true) true Tryz.f11.params.toList args.toList ds p:=ha;rw[Tryz.params11] at J G;obtain ⟨v0,d0,rfl,rfl,h0⟩:=trodAll_one J
 obtain ⟨rfl,rfl⟩:=trodVars_none hV;have hT:Tb W:=Qm6 (a:=("math/bits.deBruijn32tab",Rows.laid_math_bits_deBruijn32tab)) (b:=("math/bits.deBruijn64tab",Rows.laid_math_bits_deBruijn64tab)) (by kernel_rfl) Y (by kernel_rfl);obtain ⟨l,rfl,hl⟩:=QnD (G 0 36 v0 O O) h0;have S:=y8 hl (.inr ⟨by omega,hT⟩);unfold QM at S;refine Calls.mono S λe W' he=>?_;cases e with
 | returned v =>
  obtain ⟨rfl,hS⟩:=he;exact ⟨_,rfl,QhE zS (by kernel_rfl) O underlying4 O O Z hS⟩
 | _=>exact he.elim
theorem QlF:Rows.SupervisorCellsSaid :=
 OpenClaim.holds_of_wide 11 Tryz.f11 O O O O O O O ⟨O,O,O,O,O⟩ O O O O O (by kernel_rfl) func11 Qnn
  (of_decide_eq_true (by kernel_rfl)) (by unfold Func.isWrapper;first | (rw[if_pos (by decide +kernel)];kernel_rfl) | (rw[if_neg (by decide +kernel)];exact ⟨O,O⟩))
  (λos started H enc _=>QhC os started H enc)
theorem supervisorCells_holds:Rows.SupervisorCellsCardSaid :=
 Claim7.holds_tied_plain_at .later [] [.data,.data,.data] true (true, "7f1d7774d707b6ca2907d0280b916f7dc62d5f843e98687e905a54f8355f1b07") false
  QlF (λ_ h=>by cases h) Ql6 (λ_ h=>by cases h) supervisorCells_row_tie rfl ⟨rfl,rfl⟩ Ql9 rfl
  (λf fn E G=>by
   obtain rfl:f=11:=Option.some.inj (Ql8.symm.trans E) |>.symm;obtain rfl:fn=Tryz.f11:=(Option.some.inj (func11.symm.trans G)).symm;exact ⟨Qma,λj t ht=>by
    rw[Tryz.params11] at ht;have hm:t∈[36]:=by simpa using Array.mem_of_getElem? ht
    exact (show prog.wantsStandIn t=false by simpa using L6.1 Ql7 t hm)⟩)
  Qmb
#print axioms supervisorCells_holds
end Go.Proofs.YtdffckgdcegpaaaGreatDoor
