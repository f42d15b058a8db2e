/- ModularReports: for any described cell, or any line, Analyse returns the report, the law's function returns true, and its arguments read as they did: the row, and the tied card. -/
import Derived.Test.YtjcgijbhaemldaaGreatDoorMaf
import Derived.Test.YtjcgijbhaemldaaGreatDoorTie
import Derived.ChangeVars
import Derived.RowKitTokens
import Derived.LaidLaws
import Derived.LaidMore
import Derived.Stop.Joined
namespace Go.Proofs.YtjcgijbhaemldaaGreatDoor
open Go.Proofs.Tryz
open Go.ChangeShapes Go.WideShapes Go.RowKit Go.Lg
theorem Qmx:joinedFacts prog 5 Tryz.f5 Rows.modularReportsSpec Rows.modularReportsRow=true :=
 js (by kernel_rfl) qA Qgn (by kernel_rfl) (by kernel_rfl) (by kernel_rfl) (by kernel_rfl) (by kernel_rfl) (by kernel_rfl) Qi6 Qi5 Qi4 Qi3 (by kernel_rfl) (by kernel_rfl) (by kernel_rfl) (by kernel_rfl) (by kernel_rfl) (by kernel_rfl) (by kernel_rfl) (by kernel_rfl) (by kernel_rfl) (by kernel_rfl) (by kernel_rfl) Qgp Qgq Qgo Qi2 (by kernel_rfl) (by kernel_rfl) (by kernel_rfl) (by kernel_rfl)
theorem Qmp:ownKnob prog.godebug=none:=by kernel_rfl
theorem Qce (os:Os)(args:Array Value):laidMetH prog Rows.modularReportsRow.laid ((World.doorLaid prog 400 os).forCall (λ_ _=>0) ⟨#[],args,[]⟩).memory :=
 laidMetH_of_parts3 (fuel:=8) (laidMet_of_run' 8 (by kernel_rfl) (by kernel_rfl)) (by kernel_rfl) (by kernel_rfl)
set_option maxRecDepth 100000 in
theorem Qgi (os:Os)(started:os.Started)(H:Type)(enc:TypeId×Value→H):
  ReturnsInHanded {} Tryz.checked os 5 .any (λw args=>(Rows.modularReportsSpec.pre enc prog Tryz.f5 [] false w args∧laidMetH prog Rows.modularReportsRow.laid w)∧sizedMet enc prog Tryz.f5 (OpenSpec.ofChange Rows.modularReportsSpec) false w args)
   (Rows.modularReportsSpec.post enc prog Tryz.f5 false true false false):=by
 refine returnsInHanded_of_change_and (C:=Tryz.checked) (X:=λw _=>laidMetH prog Rows.modularReportsRow.laid w) (λ_ _ _ T h=>h.of_heap T) Qmp started (by kernel_rfl) func5
  (ChangeSpec.witness_shaped (enc:=enc) (C:=Tryz.checked) (os:=os) (X:=λw _=>laidMetH prog Rows.modularReportsRow.laid w) false (World.doorLaid prog 400 os) #[.agg (Array.replicate 147 (.int .u8 0)++#[nS,.int .i8 0,.int .i8 0,.int .i8 0,.int .i8 0]),.agg (Array.replicate 82 (.int .u8 0)++#[nS,.int .u8 0,.int .u8 0,.int .u8 0])] 8 O (World.shaped_of_RefB (by kernel_rfl) (by kernel_rfl)) (by kernel_rfl) (by kernel_rfl) (by kernel_rfl) (Qce os _)) ?_
 intro W base args ds gs before U G _ _ V _;have E:∀(j:Nat) t v,Tryz.f5.params[j]?=some t→args[j]?=some v→Value.okWide prog W .any base t v:=U;have Y:=G;obtain⟨p,q,ha,hV,rfl,_,_⟩:=G;have I:DataW.TrodAll enc prog W 0 (λ_=>true) true Tryz.f5.params.toList args.toList ds p:=ha;rw[Tryz.params5]at I E;obtain⟨v0,v1,d0,d1,p0,p1,rfl,rfl,rfl,h0,h1⟩:=trodAll_two I
 obtain⟨rfl,rfl⟩:=trodVars_none hV;have hT:Tb W:=Qmb (a:=("math/bits.deBruijn32tab",Rows.laid_math_bits_deBruijn32tab)) (b:=("math/bits.deBruijn64tab",Rows.laid_math_bits_deBruijn64tab)) (by kernel_rfl) V (by kernel_rfl);obtain⟨l,rfl,hl⟩:=QmQ (E 0 73 v0 O O) h0;obtain⟨m,rfl,hm⟩:=QmR (E 1 30 v1 O O) h1;have J:=zF hl hm (.inr ⟨by omega,hT⟩);unfold QF at J
 refine Calls.mono J λe W' he=>?_;cases e with
 | returned v =>
  obtain⟨rfl,hS⟩:=he;exact⟨_,rfl,Qgl qA (by kernel_rfl) O underlying4 O O Y hS⟩
 | _=>exact he.elim
theorem QkI:Rows.ModularReportsSaid :=
 OpenClaim.holds_of_wide 5 Tryz.f5 O O O O O O O ⟨O,O,O,O,O⟩ O O O O O (by kernel_rfl) func5 Qmx
  (of_decide_eq_true (by kernel_rfl)) (by unfold Func.isWrapper;first|(rw[if_pos (by decide +kernel)];kernel_rfl)|(rw[if_neg (by decide +kernel)];exact⟨O,O⟩))
  (λos started H enc _=>Qgi os started H enc)
theorem modularReports_holds:Rows.ModularReportsCardSaid :=
 Claim7.holds_tied_plain_at .later [] [.data,.data,.data] true (true, "0087da35e19dff2b1c72cbf1a82bebf57530b191c9b8d180c93c2df9ec22b342") false
  QkI (λ_ h=>by cases h) Qk0 (λ_ h=>by cases h) modularReports_row_tie rfl ⟨rfl,rfl⟩ Qk3 rfl
  (λf fn E G=>by
   obtain rfl:f=5:=Option.some.inj (Qk2.symm.trans E) |>.symm;obtain rfl:fn=Tryz.f5:=(Option.some.inj (func5.symm.trans G)).symm;exact⟨Qk4,λj t ht=>by
    rw[Tryz.params5]at ht;have hm:t∈[73,30]:=by simpa using Array.mem_of_getElem? ht
    exact(show prog.wantsStandIn t=false by simpa using LS.1 Qk1 t hm)⟩)
  Qk5
#print axioms modularReports_holds
end Go.Proofs.YtjcgijbhaemldaaGreatDoor
