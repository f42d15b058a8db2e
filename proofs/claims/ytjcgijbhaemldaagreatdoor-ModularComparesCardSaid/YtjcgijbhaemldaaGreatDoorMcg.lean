/- ModularCompares: for any described cell, or any line, Compare returns the least word that distinguishes the supervisors, coordinated or not, and the whole one, the law's function returns true, and its arguments read as they did: the row, and the tied card. -/
import Derived.Test.YtjcgijbhaemldaaGreatDoorMcf
import Derived.Test.YtjcgijbhaemldaaGreatDoorTie
import Derived.ChangeVars
import Derived.RowKitTokens
import Derived.LaidLaws
import Derived.LaidMore
import Derived.Stop.Joined
namespace Go.Proofs.YtjcgijbhaemldaaGreatDoor
open Go.Proofs.Tryz
open Go.ChangeShapes Go.WideShapes Go.RowKit Go.Lg
theorem Qne:joinedFacts prog 7 Tryz.f7 Rows.modularComparesSpec Rows.modularComparesRow=true :=
 jP (by kernel_rfl) qT QgS (by kernel_rfl) (by kernel_rfl) (by kernel_rfl) (by kernel_rfl) (by kernel_rfl) (by kernel_rfl) QjI QjH QjG QjF (by kernel_rfl) (by kernel_rfl) (by kernel_rfl) (by kernel_rfl) (by kernel_rfl) (by kernel_rfl) (by kernel_rfl) (by kernel_rfl) (by kernel_rfl) (by kernel_rfl) (by kernel_rfl) QgU QgV QgT QjE (by kernel_rfl) (by kernel_rfl) (by kernel_rfl) (by kernel_rfl)
theorem Qm7:ownKnob prog.godebug=none:=by kernel_rfl
theorem QcE (os:Os)(args:Array Value):laidMetH prog Rows.modularComparesRow.laid ((World.doorLaid prog 400 os).forCall (λ_ _=>0) ⟨#[],args,[]⟩).memory :=
 laidMetH_of_parts3 (fuel:=8) (laidMet_of_run' 8 (by kernel_rfl) (by kernel_rfl)) (by kernel_rfl) (by kernel_rfl)
set_option maxRecDepth 100000 in
theorem QgO (os:Os)(started:os.Started)(H:Type)(enc:TypeId×Value→H):
  ReturnsInHanded {} Tryz.checked os 7 .any (λw args=>(Rows.modularComparesSpec.pre enc prog Tryz.f7 [] false w args∧laidMetH prog Rows.modularComparesRow.laid w)∧sizedMet enc prog Tryz.f7 (OpenSpec.ofChange Rows.modularComparesSpec) false w args)
   (Rows.modularComparesSpec.post enc prog Tryz.f7 false true false false):=by
 refine returnsInHanded_of_change_and (C:=Tryz.checked) (X:=λw _=>laidMetH prog Rows.modularComparesRow.laid w) (λ_ _ _ T h=>h.of_heap T) Qm7 started (by kernel_rfl) func7
  (ChangeSpec.witness_shaped (enc:=enc) (C:=Tryz.checked) (os:=os) (X:=λw _=>laidMetH prog Rows.modularComparesRow.laid w) false (World.doorLaid prog 400 os) #[.agg (Array.replicate 147 (.int .u8 0)++#[nS,.int .i8 0,.int .i8 0,.int .i8 0,.int .i8 0]),.agg (Array.replicate 82 (.int .u8 0)++#[nS,.int .u8 0,.int .u8 0,.int .u8 0]),.bool false] 8 O (World.shaped_of_RefB (by kernel_rfl) (by kernel_rfl)) (by kernel_rfl) (by kernel_rfl) (by kernel_rfl) (QcE os _)) ?_
 intro W base args ds gs before U G _ _ V _;have E:∀(j:Nat) t v,Tryz.f7.params[j]?=some t→args[j]?=some v→Value.okWide prog W .any base t v:=U;have Y:=G;obtain⟨p,q,ha,hV,rfl,_,_⟩:=G;have I:DataW.TrodAll enc prog W 0 (λ_=>true) true Tryz.f7.params.toList args.toList ds p:=ha;rw[Tryz.params7]at I E;obtain⟨v0,v1,v2,d0,d1,d2,p0,p1,p2,rfl,rfl,rfl,h0,h1,h2⟩:=trodAll_three I
 obtain⟨rfl,rfl⟩:=trodVars_none hV;have hT:Tb W:=QmU (a:=("math/bits.deBruijn32tab",Rows.laid_math_bits_deBruijn32tab)) (b:=("math/bits.deBruijn64tab",Rows.laid_math_bits_deBruijn64tab)) (by kernel_rfl) V (by kernel_rfl);obtain⟨l,rfl,hl⟩:=Qnx (E 0 73 v0 O O) h0;obtain⟨m,rfl,hm⟩:=Qny (E 1 30 v1 O O) h1;obtain⟨fg,rfl⟩:=okWide_bool underlying4 (E 2 4 v2 O O)
 have J:=Qcr (fg:=fg) hl hm (.inr ⟨by omega,hT⟩);unfold QE at J;refine Calls.mono J λe W' he=>?_;cases e with
 | returned v =>
  obtain⟨rfl,hS⟩:=he;exact⟨_,rfl,QgQ qT (by kernel_rfl) O underlying4 O O Y hS⟩
 | _=>exact he.elim
theorem Qlp:Rows.ModularComparesSaid :=
 OpenClaim.holds_of_wide 7 Tryz.f7 O O O O O O O ⟨O,O,O,O,O⟩ O O O O O (by kernel_rfl) func7 Qne
  (of_decide_eq_true (by kernel_rfl)) (by unfold Func.isWrapper;first|(rw[if_pos (by decide +kernel)];kernel_rfl)|(rw[if_neg (by decide +kernel)];exact⟨O,O⟩))
  (λos started H enc _=>QgO os started H enc)
theorem modularCompares_holds:Rows.ModularComparesCardSaid :=
 Claim7.holds_tied_plain_at .later [] [.data,.data,.data] true (true, "0087da35e19dff2b1c72cbf1a82bebf57530b191c9b8d180c93c2df9ec22b342") false
  Qlp (λ_ h=>by cases h) QlI (λ_ h=>by cases h) modularCompares_row_tie rfl ⟨rfl,rfl⟩ QlL rfl
  (λf fn E G=>by
   obtain rfl:f=7:=Option.some.inj (QlK.symm.trans E) |>.symm;obtain rfl:fn=Tryz.f7:=(Option.some.inj (func7.symm.trans G)).symm;exact⟨QlM,λj t ht=>by
    rw[Tryz.params7]at ht;have hm:t∈[73,30,4]:=by simpa using Array.mem_of_getElem? ht
    exact(show prog.wantsStandIn t=false by simpa using LU.1 QlJ t hm)⟩)
  QlN
#print axioms modularCompares_holds
end Go.Proofs.YtjcgijbhaemldaaGreatDoor
