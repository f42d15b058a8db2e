/- HierarchyAbstracts: for any case whose components have at most 9 states, Abstraction, Cell, Supervisor and Together return what is defined, the law's function returns true, and its arguments read as they did: the row, and the tied card. -/
import Derived.Test.YtpfnhheoeaiomaaGreatDoorPcf
import Derived.Test.YtpfnhheoeaiomaaGreatDoorTie
import Derived.ChangeVars
import Derived.RowKitTokens
import Derived.LaidLaws
import Derived.LaidMore
import Derived.Stop.Joined
open Go Go.Lg
namespace Go.Proofs.YtpfnhheoeaiomaaGreatDoor
open Go.Proofs.Tryz
open Go.ChangeShapes Go.WideShapes Go.RowKit Go.Lg
theorem QqI:joinedFacts prog 9 Tryz.f9 Rows.hierarchyAbstractsSpec Rows.hierarchyAbstractsRow=true :=
 QaX (by kernel_rfl) yb Qjj (by kernel_rfl) (by kernel_rfl) (by kernel_rfl) (by kernel_rfl) (by kernel_rfl) (by kernel_rfl) Qmr Qmq Qmp Qmo (by kernel_rfl) (by kernel_rfl) (by kernel_rfl) (by kernel_rfl) (by kernel_rfl) (by kernel_rfl) (by kernel_rfl) (by kernel_rfl) (by kernel_rfl) (by kernel_rfl) (by kernel_rfl) Qjl Qjm Qjk Qmn (by kernel_rfl) (by kernel_rfl) (by kernel_rfl) (by kernel_rfl)
theorem Qqp:ownKnob prog.godebug=none:=by kernel_rfl
theorem Qef (os:Os)(args:Array Value):laidMetH prog Rows.hierarchyAbstractsRow.laid ((World.doorLaid prog 400 os).forCall (λ_ _=>0) ⟨#[],args,[]⟩).memory :=
 laidMetH_of_parts3 (fuel:=8) (laidMet_of_run' 8 (by kernel_rfl) (by kernel_rfl)) (by kernel_rfl) (by kernel_rfl)
set_option maxRecDepth 100000 in
theorem Qi7 (os:Os)(started:os.Started)(H:Type)(enc:TypeId×Value→H):
  ReturnsInHanded {} Tryz.checked os 9 .any (λw args=>(Rows.hierarchyAbstractsSpec.pre enc prog Tryz.f9 [] false w args∧laidMetH prog Rows.hierarchyAbstractsRow.laid w)∧sizedMet enc prog Tryz.f9 (OpenSpec.ofChange Rows.hierarchyAbstractsSpec) false w args)
   (Rows.hierarchyAbstractsSpec.post enc prog Tryz.f9 false true false false):=by
 refine returnsInHanded_of_change_and (C:=Tryz.checked) (X:=λw _=>laidMetH prog Rows.hierarchyAbstractsRow.laid w) (λ_ _ _ S h=>h.of_heap S) Qqp started (by kernel_rfl) func9
  (ChangeSpec.witness_shaped (enc:=enc) (C:=Tryz.checked) (os:=os) (X:=λw _=>laidMetH prog Rows.hierarchyAbstractsRow.laid w) false (World.doorLaid prog 400 os) #[.agg (Array.replicate 147 (.int .u8 0)++#[nS,.int .i8 0,.int .i8 0,.int .i8 0,.int .i8 0,.int .u8 0])] 8 O (World.shaped_of_RefB (by kernel_rfl) (by kernel_rfl)) (by kernel_rfl) (by kernel_rfl) (by kernel_rfl) (Qef os _)) ?_
 intro W base args ds gs before T E _ _ U _;have G:∀(j:Nat) t v,Tryz.f9.params[j]?=some t→args[j]?=some v→Value.okWide prog W .any base t v:=T;have V:=E;obtain⟨p,q,Y,hV,rfl,_,_⟩:=E;have hA:DataW.TrodAll enc prog W 0 (λ_=>true) true Tryz.f9.params.toList args.toList ds p:=Y;rw[Tryz.params9]at hA G;obtain⟨v0,d0,rfl,rfl,h0⟩:=trodAll_one hA;obtain⟨rfl,rfl⟩:=trodVars_none hV;have hT:Tb W:=Qqa (a:=("math/bits.deBruijn32tab",Rows.laid_math_bits_deBruijn32tab)) (b:=("math/bits.deBruijn64tab",Rows.laid_math_bits_deBruijn64tab)) (by kernel_rfl) U (by kernel_rfl);obtain⟨l,hb,rfl,ha,hl⟩:=Qq2 (G 0 38 v0 O O) h0;have I:=qc hl ha (.inr ⟨by omega,hT⟩);unfold QR at I;refine Calls.mono I λe W' J=>?_;cases e with
 | returned v =>
  obtain⟨rfl,hS⟩:=J;exact⟨_,rfl,Qjc yb (by kernel_rfl) O underlying4 O O V hS⟩
 | _=>exact J.elim
theorem Qoe:Rows.HierarchyAbstractsSaid :=
 OpenClaim.holds_of_wide 9 Tryz.f9 O O O O O O O ⟨O,O,O,O,O⟩ O O O O O (by kernel_rfl) func9 QqI
  (of_decide_eq_true (by kernel_rfl)) (by unfold Func.isWrapper;first|(rw[if_pos (by decide +kernel)];kernel_rfl)|(rw[if_neg (by decide +kernel)];exact⟨O,O⟩))
  (λos started H enc _=>Qi7 os started H enc)
theorem hierarchyAbstracts_holds:Rows.HierarchyAbstractsCardSaid :=
 Claim7.holds_tied_plain_at .later [] [.data,.data,.data] true (true, "7e6c111e63cd6b879c1f82077465bee9620edb040a7287706e5c7dbd129b5c95") false
  Qoe (λ_ h=>by cases h) QoR (λ_ h=>by cases h) hierarchyAbstracts_row_tie rfl ⟨rfl,rfl⟩ QoU rfl
  (λf fn G I=>by
   obtain rfl:f=9:=Option.some.inj (QoT.symm.D G) |>.symm;obtain rfl:fn=Tryz.f9:=(Option.some.inj (func9.symm.D I)).symm;exact⟨QoV,λj t E=>by
    rw[Tryz.params9]at E;have J:t∈[38]:=by simpa using Array.mem_of_getElem? E
    exact(show prog.wantsStandIn t=false by simpa using Mc.1 QoS t J)⟩)
  QoW
#print axioms hierarchyAbstracts_holds
end Go.Proofs.YtpfnhheoeaiomaaGreatDoor
