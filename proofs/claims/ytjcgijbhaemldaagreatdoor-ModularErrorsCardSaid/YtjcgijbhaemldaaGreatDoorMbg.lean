/- ModularErrors: for any described cell with a component left out, or without events, the functions return the first error, the law's function returns true, and its arguments read as they did: the row, and the tied card. -/
import Derived.Test.YtjcgijbhaemldaaGreatDoorMbf
import Derived.Test.YtjcgijbhaemldaaGreatDoorTie
import Derived.ChangeVars
import Derived.RowKitTokens
import Derived.LaidLaws
import Derived.LaidMore
import Derived.Stop.Joined
namespace Go.Proofs.YtjcgijbhaemldaaGreatDoor
open Go.Proofs.Tryz
open Go.ChangeShapes Go.WideShapes Go.RowKit Go.Lg
theorem QlP:joinedFacts prog 6 Tryz.f6 Rows.modularErrorsSpec Rows.modularErrorsRow=true :=
 yY (by kernel_rfl) qa QfM (by kernel_rfl) (by kernel_rfl) (by kernel_rfl) (by kernel_rfl) (by kernel_rfl) (by kernel_rfl) Qis Qir Qiq Qip (by kernel_rfl) (by kernel_rfl) (by kernel_rfl) (by kernel_rfl) (by kernel_rfl) (by kernel_rfl) (by kernel_rfl) (by kernel_rfl) (by kernel_rfl) (by kernel_rfl) (by kernel_rfl) QfO QfP QfN Qio (by kernel_rfl) (by kernel_rfl) (by kernel_rfl) (by kernel_rfl)
theorem QlK:ownKnob prog.godebug=none:=by kernel_rfl
theorem QbG (os:Os)(args:Array Value):laidMetH prog Rows.modularErrorsRow.laid ((World.doorLaid prog 400 os).forCall (λ_ _=>0) ⟨#[],args,[]⟩).memory :=
 laidMetH_of_parts3 (fuel:=8) (laidMet_of_run' 8 (by kernel_rfl) (by kernel_rfl)) (by kernel_rfl) (by kernel_rfl)
set_option maxRecDepth 100000 in
theorem QfH (os:Os)(started:os.Started)(H:Type)(enc:TypeId×Value→H):
  ReturnsInHanded {} Tryz.checked os 6 .any (λw args=>(Rows.modularErrorsSpec.pre enc prog Tryz.f6 [] false w args∧laidMetH prog Rows.modularErrorsRow.laid w)∧sizedMet enc prog Tryz.f6 (OpenSpec.ofChange Rows.modularErrorsSpec) false w args)
   (Rows.modularErrorsSpec.post enc prog Tryz.f6 false true false false):=by
 refine returnsInHanded_of_change_and (C:=Tryz.checked) (X:=λw _=>laidMetH prog Rows.modularErrorsRow.laid w) (λ_ _ _ T h=>h.of_heap T) QlK started (by kernel_rfl) func6
  (ChangeSpec.witness_shaped (enc:=enc) (C:=Tryz.checked) (os:=os) (X:=λw _=>laidMetH prog Rows.modularErrorsRow.laid w) false (World.doorLaid prog 400 os) #[.agg (Array.replicate 147 (.int .u8 0)++#[nS,.int .i8 0,.int .i8 0,.int .i8 0,.int .i8 0]),.int .u8 0] 8 O (World.shaped_of_RefB (by kernel_rfl) (by kernel_rfl)) (by kernel_rfl) (by kernel_rfl) (by kernel_rfl) (QbG os _)) ?_
 intro W base args ds gs before U G _ _ V _;have E:∀(j:Nat) t v,Tryz.f6.params[j]?=some t→args[j]?=some v→Value.okWide prog W .any base t v:=U;have Y:=G;obtain⟨p,q,ha,hV,rfl,_,_⟩:=G;have I:DataW.TrodAll enc prog W 0 (λ_=>true) true Tryz.f6.params.toList args.toList ds p:=ha;rw[Tryz.params6]at I E;obtain⟨v0,v1,d0,d1,p0,p1,rfl,rfl,rfl,h0,h1⟩:=trodAll_two I
 obtain⟨rfl,rfl⟩:=trodVars_none hV;have hT:Tb W:=Qlx (a:=("math/bits.deBruijn32tab",Rows.laid_math_bits_deBruijn32tab)) (b:=("math/bits.deBruijn64tab",Rows.laid_math_bits_deBruijn64tab)) (by kernel_rfl) V (by kernel_rfl);obtain⟨l,rfl,hl⟩:=Ql9 (E 0 73 v0 O O) h0;obtain⟨nw,rfl,hb⟩:=Qkj underlying5 (E 1 5 v1 O O);have J:=Qbw hl hb (.inr ⟨by omega,hT⟩);unfold QE at J
 refine Calls.mono J λe W' he=>?_;cases e with
 | returned v =>
  obtain⟨rfl,hS⟩:=he;exact⟨_,rfl,QfK qa (by kernel_rfl) O underlying4 O O Y hS⟩
 | _=>exact he.elim
theorem Qj9:Rows.ModularErrorsSaid :=
 OpenClaim.holds_of_wide 6 Tryz.f6 O O O O O O O ⟨O,O,O,O,O⟩ O O O O O (by kernel_rfl) func6 QlP
  (of_decide_eq_true (by kernel_rfl)) (by unfold Func.isWrapper;first|(rw[if_pos (by decide +kernel)];kernel_rfl)|(rw[if_neg (by decide +kernel)];exact⟨O,O⟩))
  (λos started H enc _=>QfH os started H enc)
theorem modularErrors_holds:Rows.ModularErrorsCardSaid :=
 Claim7.holds_tied_plain_at .later [] [.data,.data,.data] true (true, "0087da35e19dff2b1c72cbf1a82bebf57530b191c9b8d180c93c2df9ec22b342") false
  Qj9 (λ_ h=>by cases h) Qkv (λ_ h=>by cases h) modularErrors_row_tie rfl ⟨rfl,rfl⟩ Qky rfl
  (λf fn E G=>by
   obtain rfl:f=6:=Option.some.inj (Qkx.symm.trans E) |>.symm;obtain rfl:fn=Tryz.f6:=(Option.some.inj (func6.symm.trans G)).symm;exact⟨Qkz,λj t ht=>by
    rw[Tryz.params6]at ht;have hm:t∈[73,5]:=by simpa using Array.mem_of_getElem? ht
    exact(show prog.wantsStandIn t=false by simpa using LW.1 Qkw t hm)⟩)
  QkA
#print axioms modularErrors_holds
end Go.Proofs.YtjcgijbhaemldaaGreatDoor
