/- Merged out of 5 texts. -/
import Derived.Test.YtpfnhheoeaiomaaGreatDoorPce
import Derived.Test.YtpfnhheoeaiomaaGreatDoorRows
import Derived.JoinedOf
import Derived.Test.YtpfnhheoeaiomaaGreatDoorCards
import Derived.SevenTiedAt
set_option maxHeartbeats 40000000
set_option maxRecDepth 100000
set_option linter.all false
open Go Go.Lg
open _root_.List renaming length->oU
open _root_.Array renaming toList->OP
open Go renaming World->O1,Value->O2,Operand->O3,Program->O4
open Go.Proofs Go.Proofs.Tryz
open Go.Proofs.Tryz renaming prog->sV
open Go.Proofs.YtpfnhheoeaiomaaGreatDoor
variable {a:Qz}{t i base T E m G:Nat}{l u hi:LI}{cs:LV}{z:O2}{f:Fr}{P:O4}{c:CL}{fn:Func}{s:Int}{d:xE}
namespace Go.Lg
open Go.RowKit
theorem Xn {a b:Bool}(E:a=true)(G:b=true):(a && b)=true:=by rw[E,G];rfl
theorem QaX {f:FuncId}{s:ChangeSpec}{c:OpenClaim}(E:(c.wf (OpenSpec.ofChange s))=true)(G:(laidOutB P)=true)(I:(mapsRowed P)=true)(J:(fn.params.all (P.readableRec ·))=true)(S:(namedTie P c.named s.vars)=true)(T:((c.stops == []))=true)(U:((P.stops == []))=true)(V:((c.knobs == []))=true)(Y:((P.stopKnobs == []))=true)(ha:((c.inPlace == P.inPlace f))=true)(hc:((c.unfollowed == P.unfollowed f))=true)(he:((c.recurses == P.recurses f))=true)(hf:((c.named == P.varsNamed f))=true)(hg:((c.maps == (fn.params.toList++s.plain.varTypes P).any (P.mapsRec ·)))=true)(hh:((c.ifaces == (fn.params.toList++s.plain.varTypes P).any (P.ifacesRec ·)))=true)(hj:((c.mapsOut == P.mapsAmong fn.resultTypes.toList))=true)(hk:((c.loops == (fn.params.toList++s.plain.varTypes P).any (P.loopsFrom ·)))=true)(hm:((c.wideKeys == (fn.params.toList++s.plain.varTypes P++fn.resultTypes.toList).any (P.wideKeysFrom ·)))=true)(hn:(s.vars.all (P.varReadable ·))=true)(ho:(fn.resultTypes.all (λt=>P.readableRec t && decide (t<P.types.size)))=true)(hp:((c.ifacesOut == fn.resultTypes.toList.any (P.ifacesRec ·)))=true)(hq:((c.loopsOut == fn.resultTypes.toList.any (P.loopsFrom ·)))=true)(hr:((c.plainKeys == P.plainKeys))=true)(hs:(c.shortTexts.isNone)=true)(ht:(P.stopsHeard)=true)(hu:(P.mayEnter)=true)(hv:((c.lifted == P.liftsFinal))=true)(hw:((P.make == some c.make))=true)(hy:((c.kinds == (if c.domain.isEmpty then[]else fn.params.toList.map λt=>match P.underlying t with|some (.int k)=>some k|_=>none)))=true)(hz:((c.pinned == c.pinnedBy))=true)(h0:((c.veiled == (fn.params.toList++s.plain.varTypes P++fn.resultTypes.toList).any (P.veiledRec ·)))=true)(hA:(c.veiledFits P fn.params.toList (fn.params.toList++s.plain.varTypes P++fn.resultTypes.toList))=true):joinedFacts P f fn s c=true:=by
 unfold joinedFacts;exact(Xn (Xn (Xn (Xn (Xn (Xn (Xn (Xn (Xn (Xn (Xn (Xn (Xn (Xn (Xn (Xn (Xn (Xn (Xn (Xn (Xn (Xn (Xn (Xn (Xn (Xn (Xn (Xn (Xn (Xn (Xn E G) I) J) S) T) U) V) Y) ha) hc) he) hf) hg) hh) hj) hk) hm) hn) ho) hp) hq) hr) hs) ht) hu) hv) hw) hy) hz) h0) hA)
theorem yb:laidOutB sV=true:=oc
theorem Qjj:mapsRowed sV=true:=oc
theorem Qjl:sV.stopsHeard=true:=oc
theorem Qjm:sV.mayEnter=true:=oc
theorem Qjk:(false == sV.liftsFinal)=true:=oc
theorem Qmn:(sV.make == some Make.cut)=true:=oc
theorem Qmr:(Rows.hierarchyAbstractsRow.inPlace == sV.inPlace 9)=true:=oc
theorem Qmq:(Rows.hierarchyAbstractsRow.unfollowed == sV.unfollowed 9)=true:=oc
theorem Qmp:(Rows.hierarchyAbstractsRow.recurses == sV.recurses 9)=true:=oc
theorem Qmo:(Rows.hierarchyAbstractsRow.named == sV.varsNamed 9)=true:=oc
theorem QoR:Rows.hierarchyAbstractsRow.wfByText (OpenSpec.ofChange Rows.hierarchyAbstractsSpec)=true:=oc
theorem QoU:Tryz.pinned.checked.prog.mainIs=some (true, "7e6c111e63cd6b879c1f82077465bee9620edb040a7287706e5c7dbd129b5c95".toList):=oc
theorem QoT:sV.funcNamed "overseer/overseerlaw36.HierarchyAbstracts" = some 9:=oc
theorem QoV:false=sV.looks []:=oc
theorem QoS:([38].all λu=>!sV.wantsStandIn u)=true:=oc
theorem QoW:false=Rows.hierarchyAbstractsRow.goesBy Tryz.pinned.checked.prog:=oc
open Go.ChangeShapes Go.WideShapes Go.Lg
section
variable {H:Type}{enc:TypeId×O2->H}{W:O1}{b0:Nat}{sp:Nat->Bool}{held:Bool}
theorem Qg7 {v:O2}{d:DataW H}{ps:List MemPlace}{t tq:TypeId}{fs he:Array Field}{E g1:Field}(G:P.underlying t=some (.struct fs))(hg:P.underlying tq=some (.struct he))(hc:P.cellsOf t=153)(I:P.cellsOf tq=152)
  (J:(P.cellTypes P.depth t).map oU=some 153) (S:(P.cellTypes P.depth t).map (·.take 152)=P.cellTypes P.depth tq) (f0:fs[0]?=some E) (f1:fs[1]?=some g1) (t0:E.type=tq) (o0:E.offset=0) (o1:g1.offset=152) (c1:P.cellsOf g1.type=1) (k1:kT P .u8 5 g1.type=true)
  (T:Value.okWide P W .any base t v) (h:DataW.Trod enc P W b0 sp held t v d ps):∃(l:LV) (hb:Nat),v=.agg (l++[Value.int .u8 (hb:Int)]).toArray/\hb<256/\Value.okWide P W .any base tq (sT l)/\∃d' ps',DataW.Trod enc P W b0 sp held tq (sT l) d' ps':=by
 simp only[Value.okWide,G]at T;obtain⟨cs,rfl,U,ts,hh,hs,hj⟩:=T;rw[hc]at U;obtain⟨l⟩:=cs;have hl:l.length=153:=U;obtain⟨fuel,hf⟩:=h;obtain⟨xs,m,_,_,_,hk,hm⟩:=DataW.trod_struct G hf;have V:∀(i:Nat) (f:Field),fs[i]?=some f->DataW.trod enc P W b0 sp held m f.type ((l.drop f.offset).take (P.cellsOf f.type))=xs[i]?:=hm;have ht:0<fs.size:=(LH.1 f0).1;obtain⟨z,hz⟩:∃z,xs[0]?=some z:=⟨xs[0]'oa,LE oa⟩;have e0:=V 0 E f0;rw[t0,o0,I,NF,hz]at e0;obtain⟨c,Y⟩:∃c,l[152]?=some c:=⟨l[152]'oa,LE oa⟩;obtain⟨hb,rfl,hn⟩:=Qdr (Vr hk V f1 k1 oa oa Y);have ho:l=l.take 152++[Value.int .u8 (hb:Int)]:=by
  have h1:l.drop 152=[Value.int .u8 (hb:Int)]:=by
   apply Nn;intro i;rw[MG]
   match i with
   | 0=>exact Y
   | i+1=>rw[Mq oa];rfl
  rw[<-h1,MA]
 refine⟨l.take 152,hb,by show Value.agg l.toArray=_;rw[<-ho],hn,?_,z.1,z.2,m,e0⟩;rw[hh]at S J;have hp:ts.length=153:=Option.some.inj J;simp only[Value.okWide,hg];refine⟨(l.take 152).toArray,O,by rw[I];simp;omega,ts.take 152,S.symm,⟨1,by simp;omega⟩,λi v hv=>?_⟩;have hi:i<152:=by
  have:=(LH.1 hv).1;simp at this;omega
 have hq:l[i]?=some v:=by
  have h2:(l.take 152)[i]?=some v:=by simpa using hv
  rwa [L2,OU hi]at h2
 obtain⟨u,ha,hr⟩:=hj i v (ou hq);rw[hp,NG (show i<153 by omega)]at ha;refine⟨u,?_,hr⟩;rw[show(ts.take 152).length=152 by simp;omega,NG hi,L2,OU hi];exact ha
end
theorem Qq2 {H:Type}{enc:TypeId×O2->H}{W:O1}{b0:Nat}{sp:Nat->Bool}{held:Bool}{v:O2}{d:DataW H}{ps:List MemPlace}(E:Value.okWide sV W .any base 38 v)(h:DataW.Trod enc sV W b0 sp held 38 v d ps):
  ∃(l:PwV) (hb:Nat),v=.agg (Z5 l++[Value.int .u8 (hb:Int)]).toArray/\hb<256/\PwA W l:=by
 obtain⟨cs,hb,rfl,G,I,U,V,J⟩:=Qg7 (tq:=36) underlying38 underlying36 oc oc oc oc O O O O O oc oc E h;obtain⟨l,S,T⟩:=Qq1 I J;refine⟨l,hb,?_,G,T⟩;have:=OV OP (Value.agg.inj S);rw[show cs=Z5 l from this]
end Go.Lg
