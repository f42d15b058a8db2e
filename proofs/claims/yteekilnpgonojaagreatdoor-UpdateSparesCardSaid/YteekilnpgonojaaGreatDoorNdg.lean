/- UpdateSpares: for any described cell, putting an item that is there changes and makes nothing; putting a requirement with all states marked makes no other module, the law's function returns true, and its arguments read as they did: the row, and the tied card. -/
import Derived.Test.YteekilnpgonojaaGreatDoorNdf
import Derived.Test.YteekilnpgonojaaGreatDoorTie
import Derived.ChangeVars
import Derived.RowKitTokens
import Derived.LaidLaws
import Derived.LaidMore
import Derived.Stop.Joined
open Go Go.Lg
namespace Go.Proofs.YteekilnpgonojaaGreatDoor
open Go.Proofs.Tryz
open Go.ChangeShapes Go.WideShapes Go.RowKit Go.Lg
theorem Qqv:joinedFacts prog 3 Tryz.f3 Rows.updateSparesSpec Rows.updateSparesRow=true :=
 Qa0 (by kernel_rfl) yy Qi5 (by kernel_rfl) (by kernel_rfl) (by kernel_rfl) (by kernel_rfl) (by kernel_rfl) (by kernel_rfl) Qmd Qmc Qmb Qma (by kernel_rfl) (by kernel_rfl) (by kernel_rfl) (by kernel_rfl) (by kernel_rfl) (by kernel_rfl) (by kernel_rfl) (by kernel_rfl) (by kernel_rfl) (by kernel_rfl) (by kernel_rfl) Qi7 Qi8 Qi6 Ql9 (by kernel_rfl) (by kernel_rfl) (by kernel_rfl) (by kernel_rfl)
theorem Qqf:ownKnob prog.godebug=none:=by kernel_rfl
theorem QdS (os:Os)(args:Array Value):laidMetH prog Rows.updateSparesRow.laid ((World.doorLaid prog 400 os).forCall (λ_ _=>0) ⟨#[],args,[]⟩).memory :=
 laidMetH_of_parts3 (fuel:=8) (laidMet_of_run' 8 (by kernel_rfl) (by kernel_rfl)) (by kernel_rfl) (by kernel_rfl)
set_option maxRecDepth 100000 in
theorem QiV (os:Os)(started:os.Started)(H:Type)(enc:TypeId×Value→H):
  ReturnsInHanded {} Tryz.checked os 3 .any (λw args=>(Rows.updateSparesSpec.pre enc prog Tryz.f3 [] false w args∧laidMetH prog Rows.updateSparesRow.laid w)∧sizedMet enc prog Tryz.f3 (OpenSpec.ofChange Rows.updateSparesSpec) false w args)
   (Rows.updateSparesSpec.post enc prog Tryz.f3 false true false false):=by
 refine returnsInHanded_of_change_and (C:=Tryz.checked) (X:=λw _=>laidMetH prog Rows.updateSparesRow.laid w) (λ_ _ _ S h=>h.of_heap S) Qqf started (by kernel_rfl) func3
  (ChangeSpec.witness_shaped (enc:=enc) (C:=Tryz.checked) (os:=os) (X:=λw _=>laidMetH prog Rows.updateSparesRow.laid w) false (World.doorLaid prog 400 os) #[.agg (Array.replicate 147 (.int .u8 0)++#[nS,.int .i8 0,.int .i8 0,.int .i8 0,.int .i8 0]),.int .u8 0] 8 U (World.shaped_of_RefB (by kernel_rfl) (by kernel_rfl)) (by kernel_rfl) (by kernel_rfl) (by kernel_rfl) (QdS os _)) ?_
 intro W base args ds gs before T G _ _ V _;have E:∀(j:Nat) t v,Tryz.f3.params[j]?=some t→args[j]?=some v→Value.okWide prog W .any base t v:=T;have Y:=G;obtain⟨p,q,ha,hV,rfl,_,_⟩:=G;have I:DataW.TrodAll enc prog W 0 (λ_=>true) true Tryz.f3.params.toList args.toList ds p:=ha;rw[Tryz.params3]at I E;obtain⟨v0,v1,d0,d1,p0,p1,rfl,rfl,rfl,h0,h1⟩:=trodAll_two I;obtain⟨rfl,rfl⟩:=trodVars_none hV;have hT:Tb W:=Qp2 (a:=("math/bits.deBruijn32tab",Rows.laid_math_bits_deBruijn32tab)) (b:=("math/bits.deBruijn64tab",Rows.laid_math_bits_deBruijn64tab)) (by kernel_rfl) V (by kernel_rfl);obtain⟨l,rfl,hl⟩:=QqT (E 0 36 v0 U U) h0;obtain⟨nw,rfl,hb⟩:=Qok underlying5 (E 1 5 v1 U U);have J:=QaT hb hl (.inr ⟨by omega,hT⟩);unfold Q6 at J;refine Calls.mono J λe W' O=>?_;cases e with
 | returned v =>
  obtain⟨rfl,hS⟩:=O;exact⟨_,rfl,QiW yy (by kernel_rfl) U underlying4 U U Y hS⟩
 | _=>exact O.elim
theorem Qoa:Rows.UpdateSparesSaid :=
 OpenClaim.holds_of_wide 3 Tryz.f3 U U U U U U U ⟨U,U,U,U,U⟩ U U U U U (by kernel_rfl) func3 Qqv
  (of_decide_eq_true (by kernel_rfl)) (by unfold Func.isWrapper;first|(rw[if_pos (by decide +kernel)];kernel_rfl)|(rw[if_neg (by decide +kernel)];exact⟨U,U⟩))
  (λos started H enc _=>QiV os started H enc)
theorem updateSpares_holds:Rows.UpdateSparesCardSaid :=
 Claim7.holds_tied_plain_at .later [] [.data,.data,.data] true (true, "2f54040c77bc06dd918a3bf4dde98a2bf5c7559f2e0a75d1941ed6a489a72ca6") false
  Qoa (λ_ h=>by cases h) QoK (λ_ h=>by cases h) updateSpares_row_tie rfl ⟨rfl,rfl⟩ QoN rfl
  (λf fn G H=>by
   obtain rfl:f=3:=Option.some.inj (QoM.symm.D G) |>.symm;obtain rfl:fn=Tryz.f3:=(Option.some.inj (func3.symm.D H)).symm;exact⟨QoO,λj t E=>by
    rw[Tryz.params3]at E;have I:t∈[36,5]:=by simpa using Array.mem_of_getElem? E
    exact(show prog.wantsStandIn t=false by simpa using Mj.1 QoL t I)⟩)
  QoP
#print axioms updateSpares_holds
end Go.Proofs.YteekilnpgonojaaGreatDoor
