/- HierarchyCompares: for any case whose components have at most 9 states, Compare reports whether the two languages are equal, the law's function returns true, and its arguments read as they did: the row, and the tied card. -/
import Derived.Test.YtpfnhheoeaiomaaGreatDoorPbe
import Derived.Test.YtpfnhheoeaiomaaGreatDoorTie
import Derived.ChangeVars
import Derived.RowKitTokens
import Derived.LaidLaws
import Derived.LaidMore
import Derived.Stop.Joined
open Go Go.Lg
namespace Go.Proofs.YtpfnhheoeaiomaaGreatDoor
open Go.Proofs.Tryz
open Go.ChangeShapes Go.WideShapes Go.RowKit Go.Lg
theorem Qqc:joinedFacts prog 6 Tryz.f6 Rows.hierarchyComparesSpec Rows.hierarchyComparesRow=true :=
 QaK (by kernel_rfl) zQ QiY (by kernel_rfl) (by kernel_rfl) (by kernel_rfl) (by kernel_rfl) (by kernel_rfl) (by kernel_rfl) Ql4 Ql3 Ql2 Ql1 (by kernel_rfl) (by kernel_rfl) (by kernel_rfl) (by kernel_rfl) (by kernel_rfl) (by kernel_rfl) (by kernel_rfl) (by kernel_rfl) (by kernel_rfl) (by kernel_rfl) (by kernel_rfl) Qi0 Qi1 QiZ Ql0 (by kernel_rfl) (by kernel_rfl) (by kernel_rfl) (by kernel_rfl)
theorem QpT:ownKnob prog.godebug=none:=by kernel_rfl
theorem Qd4 (os:Os)(args:Array Value):laidMetH prog Rows.hierarchyComparesRow.laid ((World.doorLaid prog 400 os).forCall (λ_ _=>0) ⟨#[],args,[]⟩).memory :=
 laidMetH_of_parts3 (fuel:=8) (laidMet_of_run' 8 (by kernel_rfl) (by kernel_rfl)) (by kernel_rfl) (by kernel_rfl)
set_option maxRecDepth 100000 in
theorem QiO (os:Os)(started:os.Started)(H:Type)(enc:TypeId×Value→H):
  ReturnsInHanded {} Tryz.checked os 6 .any (λw args=>(Rows.hierarchyComparesSpec.pre enc prog Tryz.f6 [] false w args∧laidMetH prog Rows.hierarchyComparesRow.laid w)∧sizedMet enc prog Tryz.f6 (OpenSpec.ofChange Rows.hierarchyComparesSpec) false w args)
   (Rows.hierarchyComparesSpec.post enc prog Tryz.f6 false true false false):=by
 refine returnsInHanded_of_change_and (C:=Tryz.checked) (X:=λw _=>laidMetH prog Rows.hierarchyComparesRow.laid w) (λ_ _ _ S h=>h.of_heap S) QpT started (by kernel_rfl) func6
  (ChangeSpec.witness_shaped (enc:=enc) (C:=Tryz.checked) (os:=os) (X:=λw _=>laidMetH prog Rows.hierarchyComparesRow.laid w) false (World.doorLaid prog 400 os) #[.agg (Array.replicate 147 (.int .u8 0)++#[nS,.int .i8 0,.int .i8 0,.int .i8 0,.int .i8 0,.int .u8 0])] 8 O (World.shaped_of_RefB (by kernel_rfl) (by kernel_rfl)) (by kernel_rfl) (by kernel_rfl) (by kernel_rfl) (Qd4 os _)) ?_
 intro W base args ds gs before T E _ _ U _;have G:∀(j:Nat) t v,Tryz.f6.params[j]?=some t→args[j]?=some v→Value.okWide prog W .any base t v:=T;have V:=E;obtain⟨p,q,Y,hV,rfl,_,_⟩:=E;have hA:DataW.TrodAll enc prog W 0 (λ_=>true) true Tryz.f6.params.toList args.toList ds p:=Y;rw[Tryz.params6]at hA G;obtain⟨v0,d0,rfl,rfl,h0⟩:=trodAll_one hA;obtain⟨rfl,rfl⟩:=trodVars_none hV;have hT:Tb W:=QpF (a:=("math/bits.deBruijn32tab",Rows.laid_math_bits_deBruijn32tab)) (b:=("math/bits.deBruijn64tab",Rows.laid_math_bits_deBruijn64tab)) (by kernel_rfl) U (by kernel_rfl);obtain⟨l,hb,rfl,ha,hl⟩:=Qqv (G 0 38 v0 O O) h0;have I:=qA hl ha (.inr ⟨by omega,hT⟩);unfold QT at I;refine Calls.mono I λe W' J=>?_;cases e with
 | returned v =>
  obtain⟨rfl,hS⟩:=J;exact⟨_,rfl,QiR zQ (by kernel_rfl) O underlying4 O O V hS⟩
 | _=>exact J.elim
theorem QnM:Rows.HierarchyComparesSaid :=
 OpenClaim.holds_of_wide 6 Tryz.f6 O O O O O O O ⟨O,O,O,O,O⟩ O O O O O (by kernel_rfl) func6 Qqc
  (of_decide_eq_true (by kernel_rfl)) (by unfold Func.isWrapper;first|(rw[if_pos (by decide +kernel)];kernel_rfl)|(rw[if_neg (by decide +kernel)];exact⟨O,O⟩))
  (λos started H enc _=>QiO os started H enc)
theorem hierarchyCompares_holds:Rows.HierarchyComparesCardSaid :=
 Claim7.holds_tied_plain_at .later [] [.data,.data,.data] true (true, "7e6c111e63cd6b879c1f82077465bee9620edb040a7287706e5c7dbd129b5c95") false
  QnM (λ_ h=>by cases h) Qon (λ_ h=>by cases h) hierarchyCompares_row_tie rfl ⟨rfl,rfl⟩ Qoq rfl
  (λf fn G I=>by
   obtain rfl:f=6:=Option.some.inj (Qop.symm.D G) |>.symm;obtain rfl:fn=Tryz.f6:=(Option.some.inj (func6.symm.D I)).symm;exact⟨Qor,λj t E=>by
    rw[Tryz.params6]at E;have J:t∈[38]:=by simpa using Array.mem_of_getElem? E
    exact(show prog.wantsStandIn t=false by simpa using Mc.1 Qoo t J)⟩)
  Qos
#print axioms hierarchyCompares_holds
end Go.Proofs.YtpfnhheoeaiomaaGreatDoor
