/- ModuleSafe: for any described cell and any bytes, the law's function returns true, and its arguments read as they did: the row, and the tied card. -/
import Derived.Test.YtdffckgdcegpaaaGreatDoorKpe
import Derived.Test.YtdffckgdcegpaaaGreatDoorTie
import Derived.ChangeVars
import Derived.RowKitTokens
import Derived.LaidLaws
import Derived.LaidMore
import Derived.Stop.Joined
namespace Go.Proofs.YtdffckgdcegpaaaGreatDoor
open Go.Proofs.Tryz
open Go.ChangeShapes Go.WideShapes Go.RowKit Go.Lg
theorem QmV:joinedFacts prog 6 Tryz.f6 Rows.moduleSafeSpec Rows.moduleSafeRow=true :=
 ji (by kernel_rfl) qE QgM (by kernel_rfl) (by kernel_rfl) (by kernel_rfl) (by kernel_rfl) (by kernel_rfl) (by kernel_rfl) Qju Qjt Qjs Qjr (by kernel_rfl) (by kernel_rfl) (by kernel_rfl) (by kernel_rfl) (by kernel_rfl) (by kernel_rfl) (by kernel_rfl) (by kernel_rfl) (by kernel_rfl) (by kernel_rfl) (by kernel_rfl) QgO QgP QgN Qjq (by kernel_rfl) (by kernel_rfl) (by kernel_rfl) (by kernel_rfl)
theorem QmI:ownKnob prog.godebug=none:=by kernel_rfl
theorem Qb7 (os:Os) (args:Array Value):laidMetH prog Rows.moduleSafeRow.laid ((World.doorLaid prog 400 os).forCall (λ_ _=>0) ⟨#[],args,[]⟩).memory :=
 laidMetH_of_parts3 (fuel:=8) (laidMet_of_run' 8 (by kernel_rfl) (by kernel_rfl)) (by kernel_rfl) (by kernel_rfl)
set_option maxRecDepth 100000 in
theorem QgC (os:Os) (started:os.Started) (H:Type) (enc:TypeId×Value→H) :
  ReturnsInHanded {} Tryz.checked os 6 .any (λw args=>(Rows.moduleSafeSpec.pre enc prog Tryz.f6 [] false w args∧laidMetH prog Rows.moduleSafeRow.laid w)∧sizedMet enc prog Tryz.f6 (OpenSpec.ofChange Rows.moduleSafeSpec) false w args)
   (Rows.moduleSafeSpec.post enc prog Tryz.f6 false true false false):=by
 refine returnsInHanded_of_change_and (C:=Tryz.checked) (X:=λw _=>laidMetH prog Rows.moduleSafeRow.laid w) (λ_ _ _ S h=>h.of_heap S) QmI started (by kernel_rfl) func6
  (ChangeSpec.witness_shaped (enc:=enc) (C:=Tryz.checked) (os:=os) (X:=λw _=>laidMetH prog Rows.moduleSafeRow.laid w) false (World.doorLaid prog 400 os) #[.agg (Array.replicate 147 (.int .u8 0)++#[nS,.int .i8 0,.int .i8 0,.int .i8 0,.int .i8 0]),nS] 8 O (World.shaped_of_RefB (by kernel_rfl) (by kernel_rfl)) (by kernel_rfl) (by kernel_rfl) (by kernel_rfl) (Qb7 os _)) ?_
 intro W base args ds gs before V G _ _ Y _;have E:∀(j:Nat) t v,Tryz.f6.params[j]?=some t→args[j]?=some v→Value.okWide prog W .any base t v:=V;have ha:=G;obtain ⟨p,q,hc,hV,rfl,_,_⟩:=G;have I:DataW.TrodAll enc prog W 0 (λ_=>true) true Tryz.f6.params.toList args.toList ds p:=hc;rw[Tryz.params6] at I E;obtain ⟨v0,v1,d0,d1,p0,p1,rfl,rfl,rfl,h0,h1⟩:=trodAll_two I
 obtain ⟨rfl,rfl⟩:=trodVars_none hV;have hT:Tb W:=QmB (a:=("math/bits.deBruijn32tab",Rows.laid_math_bits_deBruijn32tab)) (b:=("math/bits.deBruijn64tab",Rows.laid_math_bits_deBruijn64tab)) (by kernel_rfl) Y (by kernel_rfl);obtain ⟨l,rfl,hl⟩:=Qnf (E 0 36 v0 O O) h0;obtain ⟨ad,nb,cb,rfl,hb⟩:=Qng underlying73 underlying5 (by kernel_rfl) (E 1 73 v1 O O) h1
 have J:=QbR hl hb (.inr ⟨by omega,hT⟩);unfold QK at J;refine Calls.mono J λe W' he=>?_;cases e with
 | returned v =>
  obtain ⟨rfl,hS⟩:=he;exact ⟨_,rfl,QgE qE (by kernel_rfl) O underlying4 O O ha hS⟩
 | _=>exact he.elim
theorem QkY:Rows.ModuleSafeSaid :=
 OpenClaim.holds_of_wide 6 Tryz.f6 O O O O O O O ⟨O,O,O,O,O⟩ O O O O O (by kernel_rfl) func6 QmV
  (of_decide_eq_true (by kernel_rfl)) (by unfold Func.isWrapper;first | (rw[if_pos (by decide +kernel)];kernel_rfl) | (rw[if_neg (by decide +kernel)];exact ⟨O,O⟩))
  (λos started H enc _=>QgC os started H enc)
theorem moduleSafe_holds:Rows.ModuleSafeCardSaid :=
 Claim7.holds_tied_plain_at .later [] [.data,.data,.data] true (true, "7f1d7774d707b6ca2907d0280b916f7dc62d5f843e98687e905a54f8355f1b07") false
  QkY (λ_ h=>by cases h) Qlw (λ_ h=>by cases h) moduleSafe_row_tie rfl ⟨rfl,rfl⟩ Qlz rfl
  (λf fn E G=>by
   obtain rfl:f=6:=Option.some.inj (Qly.symm.trans E) |>.symm;obtain rfl:fn=Tryz.f6:=(Option.some.inj (func6.symm.trans G)).symm;exact ⟨QlA,λj t ht=>by
    rw[Tryz.params6] at ht;have hm:t∈[36,73]:=by simpa using Array.mem_of_getElem? ht
    exact (show prog.wantsStandIn t=false by simpa using Mk.1 Qlx t hm)⟩)
  QlB
#print axioms moduleSafe_holds
end Go.Proofs.YtdffckgdcegpaaaGreatDoor
