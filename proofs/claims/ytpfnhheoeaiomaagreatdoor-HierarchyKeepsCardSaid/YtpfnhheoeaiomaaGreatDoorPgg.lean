/- HierarchyKeeps: for any case and any at most 8 choices of events that the plant with the high supervisor permits, the word is one of the specification, and no uncontrollable event is refused, the law's function returns true, and its arguments read as they did: the row, and the tied card. -/
import Derived.Test.YtpfnhheoeaiomaaGreatDoorPgf
import Derived.Test.YtpfnhheoeaiomaaGreatDoorTie
import Derived.ChangeVars
import Derived.RowKitTokens
import Derived.LaidLaws
import Derived.LaidMore
import Derived.Stop.Joined
open Go Go.Lg
namespace Go.Proofs.YtpfnhheoeaiomaaGreatDoor
open Go.Proofs.Tryz
open Go.ChangeShapes Go.WideShapes Go.RowKit Go.Lg
theorem Qrp:joinedFacts prog 7 Tryz.f7 Rows.hierarchyKeepsSpec Rows.hierarchyKeepsRow=true :=
 Qbg (by kernel_rfl) yv QjX (by kernel_rfl) (by kernel_rfl) (by kernel_rfl) (by kernel_rfl) (by kernel_rfl) (by kernel_rfl) Qm7 Qm6 Qm5 Qm4 (by kernel_rfl) (by kernel_rfl) (by kernel_rfl) (by kernel_rfl) (by kernel_rfl) (by kernel_rfl) (by kernel_rfl) (by kernel_rfl) (by kernel_rfl) (by kernel_rfl) (by kernel_rfl) QjZ Qj0 QjY Qm3 (by kernel_rfl) (by kernel_rfl) (by kernel_rfl) (by kernel_rfl)
theorem Qq6:ownKnob prog.godebug=none:=by kernel_rfl
theorem QeO (os:Os)(args:Array Value):laidMetH prog Rows.hierarchyKeepsRow.laid ((World.doorLaid prog 400 os).forCall (λ_ _=>0) ⟨#[],args,[]⟩).memory :=
 laidMetH_of_parts3 (fuel:=8) (laidMet_of_run' 8 (by kernel_rfl) (by kernel_rfl)) (by kernel_rfl) (by kernel_rfl)
set_option maxRecDepth 100000 in
theorem QjL (os:Os)(started:os.Started)(H:Type)(enc:TypeId×Value→H):
  ReturnsInHanded {} Tryz.checked os 7 .any (λw args=>(Rows.hierarchyKeepsSpec.pre enc prog Tryz.f7 [] false w args∧laidMetH prog Rows.hierarchyKeepsRow.laid w)∧sizedMet enc prog Tryz.f7 (OpenSpec.ofChange Rows.hierarchyKeepsSpec) false w args)
   (Rows.hierarchyKeepsSpec.post enc prog Tryz.f7 false true false false):=by
 refine returnsInHanded_of_change_and (C:=Tryz.checked) (X:=λw _=>laidMetH prog Rows.hierarchyKeepsRow.laid w) (λ_ _ _ T h=>h.of_heap T) Qq6 started (by kernel_rfl) func7
  (ChangeSpec.witness_shaped (enc:=enc) (C:=Tryz.checked) (os:=os) (X:=λw _=>laidMetH prog Rows.hierarchyKeepsRow.laid w) false (World.doorLaid prog 400 os) #[.agg (Array.replicate 147 (.int .u8 0)++#[nS,.int .i8 0,.int .i8 0,.int .i8 0,.int .i8 0,.int .u8 0]),nS] 8 O (World.shaped_of_RefB (by kernel_rfl) (by kernel_rfl)) (by kernel_rfl) (by kernel_rfl) (by kernel_rfl) (QeO os _)) ?_
 intro W base args ds gs before U G _ _ V _;have E:∀(j:Nat) t v,Tryz.f7.params[j]?=some t→args[j]?=some v→Value.okWide prog W .any base t v:=U;have Y:=G;obtain⟨p,q,ha,hV,rfl,_,_⟩:=G;have hA:DataW.TrodAll enc prog W 0 (λ_=>true) true Tryz.f7.params.toList args.toList ds p:=ha;rw[Tryz.params7]at hA E;obtain⟨v0,v1,d0,d1,p0,p1,rfl,rfl,rfl,h0,h1⟩:=trodAll_two hA;obtain⟨rfl,rfl⟩:=trodVars_none hV;have hT:Tb W:=QqQ (a:=("math/bits.deBruijn32tab",Rows.laid_math_bits_deBruijn32tab)) (b:=("math/bits.deBruijn64tab",Rows.laid_math_bits_deBruijn64tab)) (by kernel_rfl) V (by kernel_rfl);obtain⟨l,hb,rfl,hf,hl⟩:=QrK (E 0 38 v0 O O) h0;obtain⟨ad,nb,cb,rfl,hg⟩:=QrL underlying86 underlying5 (by kernel_rfl) (E 1 86 v1 O O) h1;have I:=Qbc hl hf (.inr ⟨by omega,hT⟩) hg;unfold QU at I;refine Calls.mono I λe W' J=>?_;cases e with
 | returned v =>
  obtain⟨rfl,hS⟩:=J;exact⟨_,rfl,QjQ yv (by kernel_rfl) O underlying4 O O Y hS⟩
 | _=>exact J.elim
theorem QoQ:Rows.HierarchyKeepsSaid :=
 OpenClaim.holds_of_wide 7 Tryz.f7 O O O O O O O ⟨O,O,O,O,O⟩ O O O O O (by kernel_rfl) func7 Qrp
  (of_decide_eq_true (by kernel_rfl)) (by unfold Func.isWrapper;first|(rw[if_pos (by decide +kernel)];kernel_rfl)|(rw[if_neg (by decide +kernel)];exact⟨O,O⟩))
  (λos started H enc _=>QjL os started H enc)
theorem hierarchyKeeps_holds:Rows.HierarchyKeepsCardSaid :=
 Claim7.holds_tied_plain_at .later [] [.data,.data,.data] true (true, "7e6c111e63cd6b879c1f82077465bee9620edb040a7287706e5c7dbd129b5c95") false
  QoQ (λ_ h=>by cases h) Qpv (λ_ h=>by cases h) hierarchyKeeps_row_tie rfl ⟨rfl,rfl⟩ Qpy rfl
  (λf fn E G=>by
   obtain rfl:f=7:=Option.some.inj (Qpx.symm.D E) |>.symm;obtain rfl:fn=Tryz.f7:=(Option.some.inj (func7.symm.D G)).symm;exact⟨Qpz,λj t ht=>by
    rw[Tryz.params7]at ht;have I:t∈[38,86]:=by simpa using Array.mem_of_getElem? ht
    exact(show prog.wantsStandIn t=false by simpa using Mh.1 Qpw t I)⟩)
  QpA
#print axioms hierarchyKeeps_holds
end Go.Proofs.YtpfnhheoeaiomaaGreatDoor
