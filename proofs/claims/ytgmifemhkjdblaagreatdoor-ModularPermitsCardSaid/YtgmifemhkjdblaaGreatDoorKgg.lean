/- ModularPermits: for any line, any bytes and any event, the law's function returns true, and its arguments read as they did: the row, and the tied card. -/
import Derived.Test.YtgmifemhkjdblaaGreatDoorKgf
import Derived.Test.YtgmifemhkjdblaaGreatDoorRows
import Derived.Test.YtgmifemhkjdblaaGreatDoorCards
import Derived.Test.YtgmifemhkjdblaaGreatDoorTie
import Derived.ChangeSame
import Derived.ChangeVars
import Derived.JoinedOf
import Derived.RowKit
import Derived.RowKitTokens
import Derived.LaidLaws
import Derived.LaidMore
import Derived.ProofKit
import Derived.Stop.Joined
import Derived.SevenTiedAt
namespace Go.Proofs.YtgmifemhkjdblaaGreatDoor
open Go.ChangeShapes Go.WideShapes Go.RowKit Go.Lg
theorem Qkn:joinedFacts Tryz.prog 3 Tryz.f3 Rows.modularPermitsSpec Rows.modularPermitsRow=true :=
 yh (by kernel_rfl) UE QeN (by kernel_rfl) (by kernel_rfl) (by kernel_rfl) (by kernel_rfl) (by kernel_rfl) (by kernel_rfl) Qhg Qhf Qhe Qhd (by kernel_rfl) (by kernel_rfl) (by kernel_rfl) (by kernel_rfl) (by kernel_rfl) (by kernel_rfl) (by kernel_rfl) (by kernel_rfl) (by kernel_rfl) (by kernel_rfl) (by kernel_rfl) QeP QeQ QeO Qhc (by kernel_rfl) (by kernel_rfl) (by kernel_rfl) (by kernel_rfl)
theorem Qkf:ownKnob Tryz.prog.godebug=none:=by kernel_rfl
theorem Qa0 (os:Os) (args:Array Value):laidMetH Tryz.prog Rows.modularPermitsRow.laid ((World.doorLaid Tryz.prog 400 os).forCall (fun _ _=>0) ⟨#[],args,[]⟩).memory :=
 laidMetH_of_parts3 (fuel:=8) (laidMet_of_run' 8 (by kernel_rfl) (by kernel_rfl)) (by kernel_rfl) (by kernel_rfl)
set_option maxRecDepth 100000 in
theorem QeI (os:Os) (started:os.Started) (H:Type) (enc:TypeId×Value→H) :
  ReturnsInHanded {} Tryz.checked os 3 .any (fun w args=>(Rows.modularPermitsSpec.pre enc Tryz.prog Tryz.f3 [] false w args∧laidMetH Tryz.prog Rows.modularPermitsRow.laid w)∧sizedMet enc Tryz.prog Tryz.f3 (OpenSpec.ofChange Rows.modularPermitsSpec) false w args)
   (Rows.modularPermitsSpec.post enc Tryz.prog Tryz.f3 false true false false):=by
 refine returnsInHanded_of_change_and (C:=Tryz.checked) (X:=fun w _=>laidMetH Tryz.prog Rows.modularPermitsRow.laid w) (fun _ _ _ hh h=>h.of_heap hh) Qkf started (by kernel_rfl) Tryz.func3
  (ChangeSpec.witness_shaped (enc:=enc) (C:=Tryz.checked) (os:=os) (X:=fun w _=>laidMetH Tryz.prog Rows.modularPermitsRow.laid w) false (World.doorLaid Tryz.prog 400 os) #[.agg (Array.replicate 82 (.int .u8 0)++#[nS,.int .u8 0,.int .u8 0,.int .u8 0]),nS,.int .i64 0] 8 rfl (World.shaped_of_RefB (by kernel_rfl) (by kernel_rfl)) (by kernel_rfl) (by kernel_rfl) (by kernel_rfl) (Qa0 os _)) ?_
 intro W base args ds gs before hval0 hW _ _ hL _
 have hval:∀(j:Nat) t v,Tryz.f3.params[j]?=some t→args[j]?=some v→Value.okWide Tryz.prog W .any base t v:=hval0
 have hW':=hW
 obtain ⟨p,q,hA0,hV,rfl,_,_⟩:=hW
 have hA:DataW.TrodAll enc Tryz.prog W 0 (fun _=>true) true Tryz.f3.params.toList args.toList ds p:=hA0
 rw[Tryz.params3] at hA hval
 obtain ⟨v0,v1,v2,d0,d1,d2,p0,p1,p2,rfl,rfl,rfl,h0,h1,h2⟩:=trodAll_three hA
 obtain ⟨rfl,rfl⟩:=trodVars_none hV
 have hT:Tb W:=Qj5 (a:=("math/bits.deBruijn32tab",Rows.laid_math_bits_deBruijn32tab)) (b:=("math/bits.deBruijn64tab",Rows.laid_math_bits_deBruijn64tab)) (by kernel_rfl) hL (by kernel_rfl)
 obtain ⟨l,rfl,hl⟩:=QkD (hval 0 30 v0 rfl rfl) h0
 obtain ⟨ad,nb,cb,rfl⟩:=okWide_slice Tryz.underlying31 (hval 1 31 v1 rfl rfl)
 obtain ⟨e,rfl⟩:=okWide_int Tryz.underlying3 (hval 2 3 v2 rfl rfl)
 have hr:=qB hl (Qdd Tryz.underlying31 Tryz.underlying5 (by kernel_rfl) h1) e (.inr ⟨by omega,hT⟩)
 unfold QI at hr
 refine Calls.mono hr fun e W' he=>?_
 cases e with
 | returned v =>
  obtain ⟨rfl,hS⟩:=he
  exact ⟨_,rfl,QeL UE (by kernel_rfl) rfl Tryz.underlying4 rfl rfl hW' hS⟩
 | _=>exact he.elim
theorem QiI:Rows.ModularPermitsSaid :=
 OpenClaim.holds_of_wide 3 Tryz.f3 rfl rfl rfl rfl rfl rfl rfl ⟨rfl,rfl,rfl,rfl,rfl⟩ rfl rfl rfl rfl rfl (by kernel_rfl) Tryz.func3 Qkn
  (of_decide_eq_true (by kernel_rfl)) (by unfold Func.isWrapper;first | (rw[if_pos (by decide +kernel)];kernel_rfl) | (rw[if_neg (by decide +kernel)];exact ⟨rfl,rfl⟩))
  (fun os started H enc _=>QeI os started H enc)
theorem modularPermits_holds:Rows.ModularPermitsCardSaid :=
 Claim7.holds_tied_plain_at .later [] [.data,.data,.data] true (true, "0b715f369de004747e3114ef5ba17c3732b891b7b2d38ace5528af3324c3d1c5") false
  QiI (fun _ h=>by cases h) (by kernel_rfl) (fun _ h=>by cases h) modularPermits_row_tie rfl ⟨rfl,rfl⟩ (by kernel_rfl) rfl
  (fun f fn hf hfn=>by
   obtain rfl:f=3:=Option.some.inj ((show Tryz.prog.funcNamed "overseer/overseerlaw34.ModularPermits" = some 3 by kernel_rfl).symm.trans hf) |>.symm
   obtain rfl:fn=Tryz.f3:=(Option.some.inj (Tryz.func3.symm.trans hfn)).symm
   exact ⟨by kernel_rfl,fun j t ht=>by
    rw[Tryz.params3] at ht
    have hm:t∈[30,31,3]:=by simpa using Array.mem_of_getElem? ht
    have hall:([30,31,3].all fun u=>!Tryz.prog.wantsStandIn u)=true:=by kernel_rfl
    exact (show Tryz.prog.wantsStandIn t=false by simpa using List.all_eq_true.1 hall t hm)⟩)
  (by kernel_rfl)
#print axioms modularPermits_holds
end Go.Proofs.YtgmifemhkjdblaaGreatDoor
