/- HierarchyRefuses: for any described cell and any list of at most 6 events, all functions return the first error, the law's function returns true, and its arguments read as they did: the row, and the tied card. -/
import Derived.Test.YtpfnhheoeaiomaaGreatDoorPae
import Derived.Test.YtpfnhheoeaiomaaGreatDoorTie
import Derived.ChangeVars
import Derived.RowKitTokens
import Derived.LaidLaws
import Derived.LaidMore
import Derived.Stop.Joined
open Go Go.Lg
namespace Go.Proofs.YtpfnhheoeaiomaaGreatDoor
open Go.Proofs.Tryz
open Go.ChangeShapes Go.WideShapes Go.RowKit Go.Lg
theorem QoH:joinedFacts prog 8 Tryz.f8 Rows.hierarchyRefusesSpec Rows.hierarchyRefusesRow=true :=
 jU (by kernel_rfl) zi QhD (by kernel_rfl) (by kernel_rfl) (by kernel_rfl) (by kernel_rfl) (by kernel_rfl) (by kernel_rfl) QkD QkC QkB QkA (by kernel_rfl) (by kernel_rfl) (by kernel_rfl) (by kernel_rfl) (by kernel_rfl) (by kernel_rfl) (by kernel_rfl) (by kernel_rfl) (by kernel_rfl) (by kernel_rfl) (by kernel_rfl) QhF QhG QhE Qkz (by kernel_rfl) (by kernel_rfl) (by kernel_rfl) (by kernel_rfl)
theorem Qoo:ownKnob prog.godebug=none:=by kernel_rfl
theorem Qc0 (os:Os)(args:Array Value):laidMetH prog Rows.hierarchyRefusesRow.laid ((World.doorLaid prog 400 os).forCall (λ_ _=>0) ⟨#[],args,[]⟩).memory :=
 laidMetH_of_parts3 (fuel:=8) (laidMet_of_run' 8 (by kernel_rfl) (by kernel_rfl)) (by kernel_rfl) (by kernel_rfl)
set_option maxRecDepth 100000 in
theorem Qhs (os:Os)(started:os.Started)(H:Type)(enc:TypeId×Value→H):
  ReturnsInHanded {} Tryz.checked os 8 .any (λw args=>(Rows.hierarchyRefusesSpec.pre enc prog Tryz.f8 [] false w args∧laidMetH prog Rows.hierarchyRefusesRow.laid w)∧sizedMet enc prog Tryz.f8 (OpenSpec.ofChange Rows.hierarchyRefusesSpec) false w args)
   (Rows.hierarchyRefusesSpec.post enc prog Tryz.f8 false true false false):=by
 refine returnsInHanded_of_change_and (C:=Tryz.checked) (X:=λw _=>laidMetH prog Rows.hierarchyRefusesRow.laid w) (λ_ _ _ S h=>h.of_heap S) Qoo started (by kernel_rfl) func8
  (ChangeSpec.witness_shaped (enc:=enc) (C:=Tryz.checked) (os:=os) (X:=λw _=>laidMetH prog Rows.hierarchyRefusesRow.laid w) false (World.doorLaid prog 400 os) #[.agg (Array.replicate 147 (.int .u8 0)++#[nS,.int .i8 0,.int .i8 0,.int .i8 0,.int .i8 0]),.bool false,nS] 8 O (World.shaped_of_RefB (by kernel_rfl) (by kernel_rfl)) (by kernel_rfl) (by kernel_rfl) (by kernel_rfl) (Qc0 os _)) ?_
 intro W base args ds gs before T G _ _ U _;have E:∀(j:Nat) t v,Tryz.f8.params[j]?=some t→args[j]?=some v→Value.okWide prog W .any base t v:=T;have V:=G;obtain⟨p,q,Y,hV,rfl,_,_⟩:=G;have hA:DataW.TrodAll enc prog W 0 (λ_=>true) true Tryz.f8.params.toList args.toList ds p:=Y;rw[Tryz.params8]at hA E;obtain⟨v0,v1,v2,d0,d1,d2,p0,p1,p2,rfl,rfl,rfl,h0,h1,h2⟩:=trodAll_three hA;obtain⟨rfl,rfl⟩:=trodVars_none hV;have hT:Tb W:=Qod (a:=("math/bits.deBruijn32tab",Rows.laid_math_bits_deBruijn32tab)) (b:=("math/bits.deBruijn64tab",Rows.laid_math_bits_deBruijn64tab)) (by kernel_rfl) U (by kernel_rfl);obtain⟨l,rfl,hl⟩:=QoZ (E 0 36 v0 O O) h0;obtain⟨fg,rfl⟩:=okWide_bool underlying4 (E 1 4 v1 O O);obtain⟨ad,n,cp,rfl,ha⟩:=Qo1 underlying47 underlying3 (by kernel_rfl) (E 2 47 v2 O O) h2;have I:=zf (bare:=fg) hl (λh6=>(ha (by omega)).elim λu hu=>⟨u,hu.2⟩) (.inr ⟨by omega,hT⟩);unfold QT at I;refine Calls.mono I λe W' J=>?_;cases e with
 | returned v =>
  obtain⟨rfl,hS⟩:=J;exact⟨_,rfl,Qhw zi (by kernel_rfl) O underlying4 O O V hS⟩
 | _=>exact J.elim
theorem Qmj:Rows.HierarchyRefusesSaid :=
 OpenClaim.holds_of_wide 8 Tryz.f8 O O O O O O O ⟨O,O,O,O,O⟩ O O O O O (by kernel_rfl) func8 QoH
  (of_decide_eq_true (by kernel_rfl)) (by unfold Func.isWrapper;first|(rw[if_pos (by decide +kernel)];kernel_rfl)|(rw[if_neg (by decide +kernel)];exact⟨O,O⟩))
  (λos started H enc _=>Qhs os started H enc)
theorem hierarchyRefuses_holds:Rows.HierarchyRefusesCardSaid :=
 Claim7.holds_tied_plain_at .later [] [.data,.data,.data] true (true, "7e6c111e63cd6b879c1f82077465bee9620edb040a7287706e5c7dbd129b5c95") false
  Qmj (λ_ h=>by cases h) QmU (λ_ h=>by cases h) hierarchyRefuses_row_tie rfl ⟨rfl,rfl⟩ QmX rfl
  (λf fn G I=>by
   obtain rfl:f=8:=Option.some.inj (QmW.symm.D G) |>.symm;obtain rfl:fn=Tryz.f8:=(Option.some.inj (func8.symm.D I)).symm;exact⟨QmY,λj t E=>by
    rw[Tryz.params8]at E;have J:t∈[36,4,47]:=by simpa using Array.mem_of_getElem? E
    exact(show prog.wantsStandIn t=false by simpa using L9.1 QmV t J)⟩)
  QmZ
#print axioms hierarchyRefuses_holds
end Go.Proofs.YtpfnhheoeaiomaaGreatDoor
