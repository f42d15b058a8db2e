/- ModuleRefuses: for any cell with short lists that is not valid, and any module, all functions return the error of the check, the law's function returns true, and its arguments read as they did: the row, and the tied card. -/
import Derived.Test.YtdffckgdcegpaaaGreatDoorKre
import Derived.Test.YtdffckgdcegpaaaGreatDoorTie
import Derived.ChangeVars
import Derived.RowKitTokens
import Derived.LaidLaws
import Derived.LaidMore
import Derived.Stop.Joined
namespace Go.Proofs.YtdffckgdcegpaaaGreatDoor
open Go.Proofs.Tryz
open Go.ChangeShapes Go.WideShapes Go.RowKit Go.Lg
theorem Qjp:joinedFacts prog 9 Tryz.f9 Rows.moduleRefusesSpec Rows.moduleRefusesRow=true :=
 zt (by kernel_rfl) Ue QdT (by kernel_rfl) (by kernel_rfl) (by kernel_rfl) (by kernel_rfl) (by kernel_rfl) (by kernel_rfl) Qgm Qgl Qgk Qgj (by kernel_rfl) (by kernel_rfl) (by kernel_rfl) (by kernel_rfl) (by kernel_rfl) (by kernel_rfl) (by kernel_rfl) (by kernel_rfl) (by kernel_rfl) (by kernel_rfl) (by kernel_rfl) QdV QdW QdU Qgi (by kernel_rfl) (by kernel_rfl) (by kernel_rfl) (by kernel_rfl)
theorem Qje:ownKnob prog.godebug=none:=by kernel_rfl
theorem jY (os:Os) (args:Array Value):laidMetH prog Rows.moduleRefusesRow.laid ((World.doorLaid prog 400 os).forCall (λ_ _=>0) ⟨#[],args,[]⟩).memory :=
 laidMetH_of_parts3 (fuel:=8) (laidMet_of_run' 8 (by kernel_rfl) (by kernel_rfl)) (by kernel_rfl) (by kernel_rfl)
set_option maxRecDepth 100000 in
theorem QdK (os:Os) (started:os.Started) (H:Type) (enc:TypeId×Value→H) :
  ReturnsInHanded {} Tryz.checked os 9 .any (λw args=>(Rows.moduleRefusesSpec.pre enc prog Tryz.f9 [] false w args∧laidMetH prog Rows.moduleRefusesRow.laid w)∧sizedMet enc prog Tryz.f9 (OpenSpec.ofChange Rows.moduleRefusesSpec) false w args)
   (Rows.moduleRefusesSpec.post enc prog Tryz.f9 false true false false):=by
 refine returnsInHanded_of_change_and (C:=Tryz.checked) (X:=λw _=>laidMetH prog Rows.moduleRefusesRow.laid w) (λ_ _ _ S h=>h.of_heap S) Qje started (by kernel_rfl) func9
  (ChangeSpec.witness_shaped (enc:=enc) (C:=Tryz.checked) (os:=os) (X:=λw _=>laidMetH prog Rows.moduleRefusesRow.laid w) false (World.doorLaid prog 400 os) #[.agg #[nS,nS,nS,nS,nS],.agg #[.int .i64 0,.int .i64 0,nS]] 8 O (World.shaped_of_RefB (by kernel_rfl) (by kernel_rfl)) (by kernel_rfl) (by kernel_rfl) (by kernel_rfl) (jY os _)) ?_
 intro W base args ds gs before T G _ _ V _;have E:∀(j:Nat) t v,Tryz.f9.params[j]?=some t→args[j]?=some v→Value.okWide prog W .any base t v:=T;have Y:=G;obtain ⟨p,q,ha,hV,rfl,_,_⟩:=G;have I:DataW.TrodAll enc prog W 0 (λ_=>true) true Tryz.f9.params.toList args.toList ds p:=ha;rw[Tryz.params9] at I E;obtain ⟨v0,v1,d0,d1,p0,p1,rfl,rfl,rfl,h0,h1⟩:=trodAll_two I
 obtain ⟨rfl,rfl⟩:=trodVars_none hV;have hT:Tb W:=Qi7 (a:=("math/bits.deBruijn32tab",Rows.laid_math_bits_deBruijn32tab)) (b:=("math/bits.deBruijn64tab",Rows.laid_math_bits_deBruijn64tab)) (by kernel_rfl) V (by kernel_rfl);obtain ⟨c,rfl,hc⟩:=QiJ (E 0 47 v0 O O) h0;obtain ⟨kd,ix,ad,nn,cp,rfl,hm⟩:=QjG (E 1 39 v1 O O) h1;have J:=UT (kd:=kd) (ix:=ix) hc hm (.inr ⟨by omega,hT⟩);unfold QI at J
 refine Calls.mono J λe W' he=>?_;cases e with
 | returned v =>
  obtain ⟨rfl,hS⟩:=he;exact ⟨_,rfl,QdL Ue (by kernel_rfl) O underlying4 O O Y hS⟩
 | _=>exact he.elim
theorem QhG:Rows.ModuleRefusesSaid :=
 OpenClaim.holds_of_wide 9 Tryz.f9 O O O O O O O ⟨O,O,O,O,O⟩ O O O O O (by kernel_rfl) func9 Qjp
  (of_decide_eq_true (by kernel_rfl)) (by unfold Func.isWrapper;first | (rw[if_pos (by decide +kernel)];kernel_rfl) | (rw[if_neg (by decide +kernel)];exact ⟨O,O⟩))
  (λos started H enc _=>QdK os started H enc)
theorem moduleRefuses_holds:Rows.ModuleRefusesCardSaid :=
 Claim7.holds_tied_plain_at .later [] [.data,.data,.data] true (true, "7f1d7774d707b6ca2907d0280b916f7dc62d5f843e98687e905a54f8355f1b07") false
  QhG (λ_ h=>by cases h) Qh0 (λ_ h=>by cases h) moduleRefuses_row_tie rfl ⟨rfl,rfl⟩ Qh3 rfl
  (λf fn G H=>by
   obtain rfl:f=9:=Option.some.inj (Qh2.symm.trans G) |>.symm;obtain rfl:fn=Tryz.f9:=(Option.some.inj (func9.symm.trans H)).symm;exact ⟨Qh4,λj t E=>by
    rw[Tryz.params9] at E;have hm:t∈[47,39]:=by simpa using Array.mem_of_getElem? E
    exact (show prog.wantsStandIn t=false by simpa using Mi.1 Qh1 t hm)⟩)
  Qh5
#print axioms moduleRefuses_holds
end Go.Proofs.YtdffckgdcegpaaaGreatDoor
