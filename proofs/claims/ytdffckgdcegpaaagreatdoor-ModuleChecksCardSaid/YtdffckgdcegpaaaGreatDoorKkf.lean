/- Merged out of 13 texts. -/
import Derived.Test.YtdffckgdcegpaaaGreatDoorKke
import Derived.Test.YtdffckgdcegpaaaGreatDoorKka
import Derived.ChangeSame
import Derived.Carry
import Derived.OpenShut
import Derived.RowKit
import Derived.Test.YtdffckgdcegpaaaGreatDoorKkb
import Derived.ChangeSlices
import Derived.WideShapes
import Derived.ProofKit
import Derived.Test.YtdffckgdcegpaaaGreatDoorKkd
import Derived.ChangeArms
import Derived.Lib.LaidTab
import Derived.Stop.LaidErr
import Derived.MakeChecks
import Derived.Test.YtdffckgdcegpaaaGreatDoorRows
import Derived.JoinedOf
import Derived.Test.YtdffckgdcegpaaaGreatDoorCards
import Derived.SevenTiedAt
namespace Go.Proofs.YtdffckgdcegpaaaGreatDoor
open Go.Proofs.Tryz
open Go.Lg
theorem QiA {l:List MV}{a b:Jt}(h:l.map MV.m=[a,b]):∃m0 m1,l=[m0,m1]∧m0.m=a∧m1.m=b:=by
 match l,h with
 | [m0,m1],h =>
  simp only[List.map_cons,List.map_nil,List.cons.injEq,and_true] at h
  exact ⟨m0,m1,rfl,h.1,h.2⟩
 | [],h=>simp at h
 | [_],h=>simp at h
 | _::_::_::_,h=>simp at h
theorem Qjj {ps:List AV}{l:List QT}(h:ps.map (·.a)=l) (hl:l.length=2):∃p0 p1,ps=[p0,p1]∧p1.a.st=(l.map (·.st)).getD 1 0:=by
 subst h
 match ps,hl with
 | [p0,p1],_=>exact ⟨p0,p1,rfl,rfl⟩
 | [],h=>simp at h
 | [_],h=>simp at h
 | _::_::_::_,h=>simp at h
set_option maxHeartbeats 8000000 in
theorem Qac {w:World}(hkb:Kb w 4096):QL prog 49 [] w λr w'=>r=.bool true∧Step [] w w':=by
 refine QL.of_W func49 rfl ntmps49 results49 (by simp) ?_
 refine Qc<|Qe<|Qc<|xl rfl<|xf<|(KZ w).mono ?_
 rintro r1 w1 ⟨hs1,c1,rfl,hc1,hC1⟩
 refine xl rfl<|xf<|(US (hC1 [] (by simp))).mono ?_
 rintro r2 w2 ⟨hs2,vM,lM,rfl,hM,_,hg2⟩
 rw[hc1,Qer] at hg2
 obtain ⟨m0,m1,rfl,hm0,hm1⟩:=QiA (hg2 Qes)
 refine Qb<|x (Qp rfl rfl)<|x (Qp rfl rfl)<|x Qh<|Qe ?_
 have hs02:=hs1.trans hs2
 have hMA:Zo [] w2.heap vM [m0,m1].length 3 ([m0,m1].flatMap Zn):=hM.arr (by simp) (by simp)
 have hI0:QM [] w2.heap m0.v m0.co:=hM.each m0 (by simp) [] (by simp)
 have hI1:QM [] w2.heap m1.v m1.co:=hM.each m1 (by simp) [] (by simp)
 refine Qf<|QV (α:=Unit) [(18,24)] (λz=>[(24,.bool false)]) (λz w'=>w'=w2) (by rfl) ?_ ?_
 ·refine Qw<|Qb<|xb (Q9 rfl rfl) (λh19=>absurd (by rw[hc1];exact Qes) h19) (λh19=>?_)
  refine Qb<|Qb<|x (Qs hMA rfl)<|xb (Q9 rfl rfl) (λh23=>absurd rfl h23) (λh23=>?_)
  refine x (Ql rfl)<|xe ?_
  exact ⟨(),⟨rfl,trivial⟩,rfl⟩
 rintro z g w2 rfl
 refine Ye rfl ?_
 refine Qi<|Qc<|xl rfl<|xf<|(KZ w2).mono ?_
 rintro r3 w3 ⟨hs3,c2,rfl,hc2,hC2⟩
 refine xl rfl<|Qu (us:=ZW) rfl λb3 w4 hs4 hb3 hB3=>xl rfl<|Qo (us:=c2.cells) hB3 rfl rfl rfl rfl (hC2 [] (by simp)).ones λw5 hs5 hB35=>xe ?_
 have hs35:Step [] w3 w5:=hs4.then1 hs5 hb3
 refine Qc<|x (Qa rfl)<|xl rfl<|QG (j:=3) (u:=nS) hB35 rfl rfl (by simp) rfl λw6 hs6 hB36=>xe ?_
 have hz3:=hs3.size
 have hs26:Step [] w2 w6:=(hs3.trans hs35).then1 hs6 (by omega)
 have hs06:=hs02.trans hs26
 have hA6:Zv [] w6.heap (CL.mk c2.ve c2.vc c2.vr (nS) c2.vk c2.ev c2.co c2.rq [] c2.cs):=by
  have h9:=(((hC2 [] (by simp)).up (L':=[b3]) (λb hb=>.inr (by rw[List.mem_singleton.1 hb];exact hb3))).ext hs35).st hs6
  have h8:=h9.up (L':=[]) (by simp)
  exact ⟨h8.ev,h8.co,h8.rq,⟨Zo.nil _ _ 2,λq hq=>(by cases hq),λq hq=>(by cases hq)⟩,h8.cs⟩
 have hq:(CL.mk c2.ve c2.vc c2.vr (nS) c2.vk c2.ev c2.co c2.rq [] c2.cs).cel=Qae:=CL.cel_ex hc2 (nS) []
 refine Qc<|x (Qr hB36 rfl rfl)<|xl rfl<|xf<|(K8 hA6).mono ?_
 rintro r7 w7 ⟨hs7,vr,rfl,_,hg7⟩
 rw[hq,Qet] at hg7
 have hR7:=hg7 zK
 have hRI:QM [] w7.heap vr [2]:=Qt.ints (L:=[]) hR7 (by simp) (by simp)
 refine Qb<|x (Qp rfl rfl)<|x (Qp rfl rfl)<|x Qh<|Qe<|Qc<|x (Qr (hB36.ext hs7) rfl rfl)<|xl rfl<|xf<|(UR (hA6.ext hs7) (hkb.ext (hs06.trans hs7))).mono ?_
 rintro r8 w8 ⟨hs8,vs,rfl,_,hg8⟩
 rw[hq] at hg8
 obtain ⟨_,ps,hps,hAu⟩:=hg8 Qev
 obtain ⟨p0,p1,rfl,hst⟩:=Qjj hps Qeu
 rw[QgR] at hst
 have hAs:=hAu [] (by simp)
 refine Qb<|x (Qp rfl rfl)<|x (Qp rfl rfl)<|x Qh<|Qe ?_
 have hs68:=hs7.trans hs8
 refine Qc<|x (Qr (hB36.ext hs68) rfl rfl)<|xl rfl<|xf<|(QcU (hA6.ext hs68)).mono ?_
 rintro r9 w9 ⟨hs9,hr9⟩
 rw[hq,QgS,zK] at hr9
 subst hr9
 refine Qb<|x (Qp rfl rfl)<|x (Qp rfl rfl)<|x (Qp rfl rfl)<|x (Qp rfl rfl)<|x (Qp rfl rfl)<|x Qh<|x Qh<|x Qh<|x Qh<|Qe ?_
 have hs69:=hs68.trans hs9
 have hs29:=hs26.trans hs69
 have hs79:=hs8.trans hs9
 refine QV (α:=Unit) [(0,0),(45,91)] (λz=>[(0,.bool true)]) (λz w'=>Step [] w9 w') (by rfl) ?_ ?_
 ·refine Qw ?_
  have hM9:=hMA.ext hs29
  refine Qb<|xig (g:=Zn) (i:=0) zz hM9 rfl rfl (by simp) λa46 h46=>x (QJ h46 rfl rfl)<|xl rfl<|QD (us:=[[.int .i64 0],[.int .i64 1]]) rfl rfl (by decide) (by simp) ⟨rfl,rfl,rfl,rfl,trivial⟩ λb48 w10 hs10 hb48 hB48=>x (QE ⟨rfl,rfl,trivial⟩) <|
   xl rfl<|xf<|(Ke (q:=m0) (q':=⟨1,0,.slice (some ⟨b48,0,none⟩) 2 2,[0,1]⟩) ((hI0.ext hs29).ext hs10) (hB48.arr (L:=[]) (by simp) (n:=2) (cap:=2) (sz:=1) rfl (by omega) (Nat.le_refl _))).mono ?_
  rintro r50 w11 ⟨hr50,hs11⟩
  replace hr50:r50=.bool true:=hr50.trans (congrArg Value.bool (decide_eq_true (p:=m0.m=_) hm0))
  subst hr50
  have hs911:=hs10.trans hs11
  refine Qb<|Qb<|xig (g:=Zn) (i:=1) zz (hM9.ext hs911) rfl rfl (by simp) λa53 h53=>x (QJ h53 rfl rfl)<|xl rfl<|QD (us:=[[.int .i64 1],[.int .i64 2]]) rfl rfl (by decide) (by simp) ⟨rfl,rfl,rfl,rfl,trivial⟩ λb55 w12 hs12 hb55 hB55=>x (QE ⟨rfl,rfl,trivial⟩) <|
   xl rfl<|xf<|(Ke (q:=m1) (q':=⟨2,0,.slice (some ⟨b55,0,none⟩) 2 2,[1,2]⟩) (((hI1.ext hs29).ext hs911).ext hs12) (hB55.arr (L:=[]) (by simp) (n:=2) (cap:=2) (sz:=1) rfl (by omega) (Nat.le_refl _))).mono ?_
  rintro r57 w13 ⟨hr57,hs13⟩
  replace hr57:r57=.bool true:=hr57.trans (congrArg Value.bool (decide_eq_true (p:=m1.m=_) hm1))
  subst hr57
  have hs913:=hs911.trans (hs12.trans hs13)
  refine x (Ql rfl)<|Qb<|Qb<|xb (Q5 rfl rfl) (λh61=>?_) (λh61=>absurd (by rw[hq];exact zK) h61)
  refine x (Ql rfl)<|Qb<|Qb<|xl rfl<|QD (us:=[[.int .i64 2]]) rfl rfl (by decide) (by simp) ⟨rfl,rfl,trivial⟩ λb65 w14 hs14 hb65 hB65 =>
   xl rfl<|xf<|(qy (l:=[2]) (l':=[2]) (((hRI.ext hs79).ext hs913).ext hs14) (hB65.arr (L:=[]) (by simp) (n:=1) (cap:=1) (sz:=1) rfl (by omega) (Nat.le_refl _))).mono ?_
  rintro r66 w15 ⟨hr66,hs15⟩
  rw[decide_eq_true rfl] at hr66
  subst hr66
  have hs915:=hs913.trans (hs14.trans hs15)
  have hA15:=(hAs.ext hs9).ext hs915
  refine x (Ql rfl)<|Qb<|Qb<|xb (Q5 rfl rfl) (λh70=>?_) (λh70=>absurd (by rw[hq];exact Qev) h70)
  refine x (Ql rfl)<|Qb<|Qb<|x (Qs hA15.arr rfl)<|xb (Q5 rfl rfl) (λh75=>?_) (λh75=>absurd rfl h75)
  refine x (Ql rfl)<|Qb<|Qb<|xig (g:=Zh) (i:=1) Km hA15.arr rfl rfl (by simp) λa79 h79=>x (Q7 rfl)<|x (Qv (h79.fld 1 (.int .i64 p1.a.st) rfl) rfl)<|xb (Q5 rfl rfl) (λh82=>?_) (λh82=>Qjk hst h82)
  refine x (Ql rfl)<|Qb<|Qb<|xb (Q5 rfl rfl) (λh86=>?_) (λh86=>absurd rfl h86)
  refine x (Ql rfl)<|Qb<|Qb<|x (Zp rfl)<|x (Ql rfl)<|Qe ?_
  exact ⟨(),⟨rfl,trivial⟩,hs915⟩
 rintro z g w20 hs20
 exact Qm ⟨[.bool true],⟨rfl,trivial⟩,rfl,(hs02.trans hs29).trans hs20⟩
theorem UT {w:World}(hkb:Kb w 4096):QL prog 12 [] w λr w'=>r=.bool true∧Step [] w w':=by
 refine QL.of_W func12 rfl ntmps12 results12 (by simp) ?_
 refine Qc<|Qe<|QV (α:=Unit) [(0,4)] (λz=>[(0,.bool true)]) (λz w'=>Step [] w w') (by rfl) ?_ ?_
 ·refine Qw<|xl rfl<|xf<|(Qac hkb).mono ?_
  rintro r1 w1 ⟨rfl,hs1⟩
  refine Qb<|xl rfl<|xf<|(QaH (hkb.ext hs1)).mono ?_
  rintro r2 w2 ⟨rfl,hs2⟩
  refine x (Ql rfl)<|Qe ?_
  exact ⟨(),⟨rfl,trivial⟩,hs1.trans hs2⟩
 rintro z g w3 hs3
 exact Qm ⟨[.bool true],⟨rfl,trivial⟩,rfl,hs3⟩
end Go.Proofs.YtdffckgdcegpaaaGreatDoor
namespace Go.Lg
open Go.ChangeShapes Go.WideShapes Go.RowKit
section
variable {H:Type} {enc:TypeId×Value→H} {P:Program}
theorem qR (hl:laidOutB P=true) {W W':World}(hS:Step [] W W') {sp:Nat→Bool}:∀{ts:List TypeId}{vs:LV}{ds:List (DataW H)}{ps:List MemPlace},
  (ts.all λt=>P.readableRec t && decide (t<P.types.size))=true→DataW.TrodAll enc P W 0 (λ_=>true) true ts vs ds ps→(∀x∈ps,x.block<W.heap.size)→(∀x∈ps,sp x.block=true)→DataW.TrodAll enc P W' 0 sp true ts vs ds ps
 | [],vs,ds,ps,_,h,_,_=>by
  obtain ⟨rfl,rfl,rfl⟩:=trodAll_nil h
  exact trodAll_mk0
 | t::ts,vs,ds,ps,hr,h,hlt,hsp=>by
  obtain ⟨v,vs1,d,yc,a,b,rfl,rfl,rfl,h1,h2⟩:=trodAll_cons h
  simp only[List.all_cons,Bool.and_eq_true,decide_eq_true_eq] at hr
  have hb:Below W.heap.size W W':=hS.below
  refine trodAll_cons_mk (WideElems.Trod_stays hl hr.1.1 hr.1.2 h1 (λx hx=>hb.same (hlt x (List.mem_append_left _ hx))) (λx hx=>hsp x (List.mem_append_left _ hx))) ?_
  exact qR hl hS (by simpa using hr.2) h2 (λx hx=>hlt x (List.mem_append_right _ hx)) (λx hx=>hsp x (List.mem_append_right _ hx))
theorem Qeo {f:Func}{s:ChangeSpec}{apart fresh handsOn again:Bool}{W W':World}{args:Array Value}{ds gs:List (DataW H)}{before:List MemPlace}{tb:TypeId}
  (hl:laidOutB P=true) (hread:(f.params.toList.all λt=>P.readableRec t && decide (t<P.types.size))=true) (hrt:f.resultTypes=#[tb]) (htb:P.underlying tb=some .bool) (hvr:s.vars=[])
  (hfn:s.fn H (ds++gs)={ results:=[.lit (.bool true)],args:=ds })
  (hW:DataW.Whole enc P f.params.toList s.vars apart W args.toList ds gs before) (hS:Step [] W W'):s.post enc P f apart fresh handsOn again W args (.bool true) W':=by
 have hlt:=hW.lt
 have hW':=hW
 obtain ⟨p,q,hA,hV,rfl,hz,hn⟩:=hW
 rw[hvr] at hV
 obtain ⟨rfl,rfl⟩:=trodVars_none hV
 rw[List.append_nil] at *
 have hargs:∀sp:Nat→Bool,(∀x∈p,sp x.block=true)→DataW.TrodAll enc P W' 0 sp true f.params.toList args.toList ds p:=λsp hsp=>qR hl hS hread hA hlt hsp
 have hres:∀(b:Nat) (sp:Nat→Bool) (hd:Bool),DataW.TrodAll enc P W' b sp hd f.resultTypes.toList ((Value.bool true).resultList f.resultTypes.size) [.lit (.bool true)] []:=λb sp hd=>by
  rw[hrt];exact trodAll_mk1 (shut_bool htb true)
 have hb:Below W.heap.size W W':=hS.below
 have hvars:∀sp:Nat→Bool,DataW.TrodVars enc P W' sp s.vars ([]:List (DataW H)) []:=λsp=>by rw[hvr];rfl
 have hfn1:(s.fn H ds).results=[.lit (.bool true)]:=by rw[hfn]
 have hfn2:(s.fn H ds).args=ds:=by rw[hfn]
 have hfn3:(s.fn H ds).vars=[]:=by rw[hfn]
 have hok:∀(j:Nat) (t:TypeId) (r:Value),f.resultTypes[j]?=some t→((Value.bool true).resultList f.resultTypes.size)[j]?=some r→Value.okWide P W' .any 0 t r:=ok_one hrt rfl (okWide_bool_mk htb true)
 refine ⟨ds,[],p,[],p,[],hW',?_,?_,?_,?_,λ_=>⟨hok,[.lit (.bool true)]++ds,[],([]++p)++[],⟨[]++p,[],?_,?_,rfl,?_,?_⟩,?_⟩⟩
 ·rw[List.append_nil,hfn1];exact hres _ _ _
 ·rw[List.append_nil,hfn2];exact hargs _ (λx hx=>by simpa using hlt x hx)
 ·rw[List.append_nil,hfn3];exact hvars _
 ·exact World.keptBut_mono (λ_ f=>f.elim) (hb.frame (λ_=>False))
 ·exact trodAll_append (hargs _ (λ_ _=>rfl)) (hres _ _ _)
 ·exact hvars _
 ·intro b off hp
  have hp':MemPlace.cell b off∈p:=by simpa using hp
  rw[hb.frozen (p:=⟨b,off,none⟩) (hlt _ hp')]
  exact hz b off hp'
 ·intro ha
  have:=hn ha
  simpa using this
 ·intro x hx _
  simpa using hx
end
end Go.Lg
namespace Go.Proofs.YtdffckgdcegpaaaGreatDoor
open Go.ChangeShapes Go.WideShapes Go.RowKit Go.Lg
theorem Qax:∀(l:LV),(∀v∈l,∃n:Nat,v=.int .u8 (n:Int)∧n<256)→∃ns:LN,l=bys ns∧ns.length=l.length∧∀n∈ns,n<256
 | [],_=>⟨[],rfl,rfl,by simp⟩
 | v::l,h=>by
  obtain ⟨n,rfl,hn⟩:=h v List.mem_cons_self
  obtain ⟨ns,h1,h2,h3⟩:=Qax l (λv hv=>h v (List.mem_cons_of_mem _ hv))
  refine ⟨n::ns,by rw[h1];rfl,by simp[h2],λm hm=>?_⟩
  rcases List.mem_cons.1 hm with rfl | hm
  ·exact hn
  ·exact h3 m hm
theorem Qh2 {n:Int}(h:(Lit.int .u8 n).wf=true):∃m:Nat,n=m∧m<256:=by
 simp only[Lit.wf,Bool.and_eq_true,decide_eq_true_eq] at h
 rw[show IntKind.u8.min=0 from rfl,show IntKind.u8.max=255 from rfl] at h
 exact ⟨n.toNat,by omega,by omega⟩
open Go.Proofs.Tryz
theorem Qie {w:World}{b:Nat}{s:TypeId×Nat}(h:w.shape? b=some s):b<w.heap.size:=by
 unfold World.shape? at h
 cases hb:w.heap[b]? with
 | none=>simp[hb] at h
 | some o=>exact (Array.getElem?_eq_some_iff.1 hb).1
theorem Qg7 {P:Program}{w:World}{base:Nat}{a:Addr}{e:TypeId}{n:Nat}(h:w.has P .any base a e n):a.block<w.heap.size:=by
 obtain ⟨_,_,row,cells,h1,_⟩:=h
 exact Qie h1
theorem QaT {P:Program}{w:World}{base:Nat}{t e:TypeId}{a:Addr}{n c:Nat}(ht:P.underlying t=some (.slice e)) (h:Cell.okWide P w .any base t (.slice (some a) n c)):a.block<w.heap.size:=by
 simp only[Cell.okWide,Cell.ok,ht] at h
 exact Qg7 h.2.2
theorem Qel {α:Type}{p:Nat→α→Prop}:∀(n:Nat),(∀i,i<n→∃e,p i e)→∃l:List α,l.length=n∧∀i (h:i<l.length),p i (l[i]'h)
 | 0,_=>⟨[],rfl,λi h=>by simp at h⟩
 | n+1,h=>by
  obtain ⟨l,h1,h2⟩:=Qel n (λi hi=>h i (by omega))
  obtain ⟨e,he⟩:=h n (by omega)
  refine ⟨l++[e],by simp[h1],λi hi=>?_⟩
  by_cases hil:i<l.length
  ·rw[List.getElem_append_left hil];exact h2 i hil
  ·have:i=n:=by simp at hi;omega
   subst this
   rw[List.getElem_append_right (by omega)]
   simpa[h1] using he
theorem Up {α:Type}{f:α→Option Value}:∀{L:List α}{l:LV},L.mapM f=some l→l.length=L.length∧∀(i:Nat) (a:α),L[i]?=some a→f a=l[i]?
 | [],l,h=>by
  simp at h
  subst h
  exact ⟨rfl,λi a h=>by simp at h⟩
 | x::L,l,h=>by
  simp only[List.mapM_cons,Option.bind_eq_bind,Option.pure_def,Option.bind_eq_some_iff] at h
  obtain ⟨v,hv,l1,h1,h2⟩:=h
  cases h2
  obtain ⟨h3,h4⟩:=Up h1
  refine ⟨by simp[h3],λi a hi=>?_⟩
  cases i with
  | zero=>simp at hi;subst hi;simpa using hv
  | succ i=>simpa using h4 i a (by simpa using hi)
def kT (P:Program) (k:IntKind):Nat→TypeId→Bool
 | 0,_=>false
 | m+1,t=>match P.underlying t with
  | some (.int k')=>k' == k
  | some (.array n e)=>kT P k m e && decide (0<P.cellsOf e) && decide (P.cellsOf t=n*P.cellsOf e)
  | some (.struct fs)=>(List.range (P.cellsOf t)).all λj=>fs.toList.any λf=>kT P k m f.type && decide (f.offset≤j∧j<f.offset+P.cellsOf f.type)
  | _=>false
theorem zX {cs:LV}{o n j:Nat}{c:Value}(h:cs[j]?=some c) (h1:o≤j) (h2:j<o+n):c∈(cs.drop o).take n:=by
 refine List.mem_of_getElem? (i:=j - o) ?_
 rw[List.getElem?_take,if_pos (by omega),List.getElem?_drop,show o+(j - o)=j by omega]
 exact h
section
variable {H:Type} {enc:TypeId×Value→H} {P:Program} {W:World} {base b0:Nat} {sp:Nat→Bool} {held:Bool}
theorem KO {k:IntKind}:∀(m:Nat) {t:TypeId}{cs:LV}{fuel:Nat}{x:DataW H×List MemPlace},kT P k m t=true→DataW.trod enc P W b0 sp held fuel t cs=some x→∀c∈cs,∃n,c=.int k n∧(Lit.int k n).wf=true
 | 0,_,_,_,_,h,_,_,_=>by cases h
 | m+1,t,cs,fuel,x,h,hf,c,hc=>by
  unfold kT at h
  obtain ⟨j,hj,hjc⟩:=List.getElem_of_mem hc
  have hj':cs[j]?=some c:=by rw[List.getElem?_eq_getElem hj,hjc]
  split at h
  ·rename_i k' hu
   have hk:k'=k:=by simpa using h
   subst hk
   obtain ⟨n,h1,_,h2⟩:=DataW.trod_int hu hf
   rw[h1] at hc
   exact ⟨n,List.mem_singleton.1 hc,h2⟩
  ·rename_i n e hu
   simp only[Bool.and_eq_true,decide_eq_true_eq] at h
   obtain ⟨⟨h1,h2⟩,h3⟩:=h
   obtain ⟨xs,m',_,_,hl,hxl,hx⟩:=DataW.trod_array hu hf
   have hdiv:=Nat.div_add_mod j (P.cellsOf e)
   have hmod:=Nat.mod_lt j h2
   have hi:j / P.cellsOf e<n:=by
    refine (Nat.div_lt_iff_lt_mul h2).2 ?_
    omega
   have hxi:=hx (j / P.cellsOf e) hi
   rw[List.getElem?_eq_getElem (show j / P.cellsOf e<xs.length by omega)] at hxi
   rw[Nat.mul_comm] at hdiv
   exact KO m h1 hxi c (zX hj' (by omega) (by omega))
  ·rename_i fs hu
   obtain ⟨xs,m',_,_,hl,hxl,hx⟩:=DataW.trod_struct hu hf
   have h1:=List.all_eq_true.1 h j (List.mem_range.2 (by omega))
   obtain ⟨f,hfm,h2⟩:=List.any_eq_true.1 h1
   simp only[Bool.and_eq_true,decide_eq_true_eq] at h2
   obtain ⟨i,hi,hif⟩:=List.getElem_of_mem hfm
   have hi2:i<fs.size:=by simpa using hi
   have hfi:fs[i]?=some f:=by rw[Array.getElem?_eq_getElem hi2,←hif];simp
   have hxi:=hx i f hfi
   rw[List.getElem?_eq_getElem (show i<xs.length by omega)] at hxi
   exact KO m h2.1 hxi c (zX hj' h2.2.1 h2.2.2)
  ·cases h
theorem KY {k:IntKind}{m:Nat}{fs:Array Field}{cs:LV}{xs:List (DataW H×List MemPlace)}{m':Nat}(hxl:xs.length=fs.size)
  (hx:∀(i:Nat) (f:Field),fs[i]?=some f→DataW.trod enc P W b0 sp held m' f.type ((cs.drop f.offset).take (P.cellsOf f.type))=xs[i]?) {i j:Nat} {f:Field} {c:Value} (hf:fs[i]?=some f) (hk:kT P k m f.type=true) (h1:f.offset≤j) (h2:j<f.offset+P.cellsOf f.type) (hc:cs[j]?=some c) :
  ∃n,c=.int k n∧(Lit.int k n).wf=true:=by
 have hxi:=hx i f hf
 have hi:i<fs.size:=(Array.getElem?_eq_some_iff.1 hf).1
 rw[List.getElem?_eq_getElem (show i<xs.length by omega)] at hxi
 exact KO m hk hxi c (zX hc h1 h2)
theorem Qdf {c:Value}(h:∃n,c=.int .u8 n∧(Lit.int .u8 n).wf=true):∃n:Nat,c=.int .u8 (n:Int)∧n<256:=by
 obtain ⟨n,rfl,h1⟩:=h
 obtain ⟨m,rfl,h2⟩:=Qh2 h1
 exact ⟨m,rfl,h2⟩
end
theorem QdX {P:Program}{W:World}{base t:Nat}{v:Value}(ht:P.underlying t=some (.int .i64)) (h:Cell.okWide P W .any base t v):∃n,v=.int .i64 n:=by
 simp only[Cell.okWide,ht] at h
 cases v <;> simp only[Cell.ok,ht] at h
 obtain ⟨rfl,_⟩:=h
 exact ⟨_,rfl⟩
theorem Qa9 {P:Program}{W:World}{base:Nat}{ts:List TypeId}{cs:Array Value}(h:∀(i:Nat) (v:Value),cs[i]?=some v→∃u,ts[i % ts.length]?=some u∧Cell.okWide P W .any base u v) (i:Nat) (t:TypeId) (v:Value) (hv:cs[i]?=some v) (ht:ts[i % ts.length]?=some t):Cell.okWide P W .any base t v:=by
 obtain ⟨u,hu,k⟩:=h i v hv
 rw[ht] at hu
 cases hu
 exact k
theorem QeQ {H:Type}{enc:TypeId×Value→H}{P:Program}{W:World}{b0 m:Nat}{sp:Nat→Bool}{held:Bool}{fs:Array Field}{cs:LV}{xs:List (DataW H×List MemPlace)}
  (h:∀(i:Nat) (f:Field),fs[i]?=some f→DataW.trod enc P W b0 sp held m f.type ((cs.drop f.offset).take (P.cellsOf f.type))=xs[i]?) (i:Nat) {f:Field} {t o:Nat} {c:Value} (hf:fs[i]?=some f) (ht:f.type=t) (ho:f.offset=o) (hc:P.cellsOf t=1) (hcs:(cs.drop o).take 1=[c]) (hi:i<xs.length) :
  DataW.trod enc P W b0 sp held m t [c]=some (xs[i]'hi):=by
 have e:=h i f hf
 rw[ht,ho,hc,hcs] at e
 rw[e];simp[hi]
theorem QjG {W:World}{l:List (String×DataW Unit)}{a b:String×DataW Unit}(hl:l=[a,b,("internal/strconv.uint64pow10",Lib.tabData .u64 Lib.pow10Tab)]) (h:laidMetH prog l W) (hp:(l.all λx=>x.2.handleName?.isNone)=true):Tb W:=by
 rw[Go.MakeChecks.laidMetH_plain _ _ _ hp,hl] at h
 exact Lib.tabIs_of_head (n:=20) (g:=0) (by kernel_rfl) (t:=410) (by kernel_rfl) (by kernel_rfl) (e:=340) (by kernel_rfl) (by kernel_rfl) (by kernel_rfl) h.tail.tail
structure PwV where
 ns:LN
 ad:Option Addr
 n:Nat
 cp:Nat
 f0:Int
 f1:Int
 f2:Int
 bd:Int
def PwV.pl (l:PwV) (rs:List X4V):PlV:=⟨l.ns,.slice l.ad l.n l.cp,rs,l.f0,l.f1,l.f2,l.bd⟩
abbrev YO (l:PwV):LV:=bys l.ns++[.slice l.ad l.n l.cp,.int .i8 l.f0,.int .i8 l.f1,.int .i8 l.f2,.int .i8 l.bd]
structure PwA (w:World) (l:PwV):Prop where
 n:l.ns.length=147
 b:∀n∈l.ns,n<256
 f0:i8R l.f0
 f1:i8R l.f1
 f2:i8R l.f2
 bd:i8R l.bd
 r:l.n≤4→∃rs:List X4V,rs.length=l.n∧Zo [] w.heap (.slice l.ad l.n l.cp) l.n 4 (rs.flatMap Yt)
theorem PwA.pl {w w':World}{l:PwV}(h:PwA w l) (hs:Step [] w w') (hn:l.n≤4):∃rs,PlA [] w'.heap (l.pl rs)∧rs.length=l.n:=by
 obtain ⟨rs,h1,h2⟩:=h.r hn
 exact ⟨rs,⟨h.n,h.b,by show Zo _ _ _ rs.length 4 _;rw[h1];exact h2.ext hs,h.f0,h.f1,h.f2,h.bd⟩,h1⟩
theorem QjN {l:PwV}(h:l.ns.length=147):(YO l)[147]?=some (.slice l.ad l.n l.cp):=by
 show (YO l)[147+0]?=_
 rw[YO,List.getElem?_append_right (by rw[YH];omega),YH,h,Nat.add_sub_cancel_left];rfl
theorem Qbt {c:Value}(h:∃n,c=.int .i8 n∧(Lit.int .i8 n).wf=true):∃n:Int,c=.int .i8 n∧i8R n:=by
 obtain ⟨n,rfl,h⟩:=h
 simp only[Lit.wf,Bool.and_eq_true,decide_eq_true_eq] at h
 rw[show IntKind.i8.min=-128 from rfl,show IntKind.i8.max=127 from rfl] at h
 exact ⟨n,rfl,by omega⟩
def QhV (P:Program) (fs:Array Field) (n:Nat):Bool:=(List.range n).all λj=>fs.toList.any λf=>kT P .u8 5 f.type && decide (f.offset≤j∧j<f.offset+P.cellsOf f.type)
section
variable {H:Type} {enc:TypeId×Value→H} {P:Program} {W:World} {base b0:Nat} {sp:Nat→Bool} {held:Bool}
theorem Qfv {fs:Array Field}{n m:Nat}{cs:LV}{xs:List (DataW H×List MemPlace)}(h:QhV P fs n=true) (hxl:xs.length=fs.size)
  (hx:∀(i:Nat) (f:Field),fs[i]?=some f→DataW.trod enc P W b0 sp held m f.type ((cs.drop f.offset).take (P.cellsOf f.type))=xs[i]?) {j:Nat} {c:Value} (hj:j<n) (hc:cs[j]?=some c):∃k:Nat,c=.int .u8 (k:Int)∧k<256:=by
 have h1:=List.all_eq_true.1 h j (List.mem_range.2 hj)
 obtain ⟨f,hfm,h2⟩:=List.any_eq_true.1 h1
 simp only[Bool.and_eq_true,decide_eq_true_eq] at h2
 obtain ⟨i,hi,hif⟩:=List.getElem_of_mem hfm
 have hi2:i<fs.size:=by simpa using hi
 have hfi:fs[i]?=some f:=by rw[Array.getElem?_eq_getElem hi2,←hif];simp
 exact Qdf (KY hxl hx hfi h2.1 h2.2.1 h2.2.2 hc)
theorem Qkk {t e:TypeId}{c:Value}{fuel:Nat}{x:DataW H×List MemPlace}(ht:P.underlying t=some (.slice e)) (he:kT P .u8 5 e=true) (hc:P.cellsOf e=4)
  (hok:Cell.okWide P W .any base t c) (htr:DataW.trod enc P W b0 sp held fuel t [c]=some x):∃a n cp,c=.slice a n cp∧(n≤12→∃u:List X4V,u.length=n∧Zo [] W.heap (.slice a n cp) n 4 (u.flatMap Yt)):=by
 rcases DataW.trod_slice ht htr with ⟨hcs,_⟩ | ⟨a,len,cap,elems,rest,m,_,hcs,_,_,hl,_,hel,hread,_,_⟩
 ·simp at hcs
  subst hcs
  exact ⟨none,0,0,rfl,λ_=>⟨[],rfl,Zo.nil _ _ _⟩⟩
 ·simp at hcs
  subst hcs
  refine ⟨some a,len,cap,rfl,λh12=>?_⟩
  have each:∀i,i<len→∃d:X4V,∀r v,(Yt d)[r]?=some v→W.cell? (a.add (i*4+r))=some v:=by
   intro i hi
   have hr:=hread i hi
   rw[hc,List.getElem?_eq_getElem (show i<elems.length by omega)] at hr
   obtain ⟨cs,hcs,htd⟩:=Option.bind_eq_some_iff.1 hr
   have hall:=KO 5 he htd
   obtain ⟨ns,h1,h2,h3⟩:=Qax cs (λv hv=>Qdf (hall v hv))
   unfold World.cells? at hcs
   split at hcs
   ·have hlen:cs.length=4:=by
     simpa using (Up hcs).1
    refine ⟨⟨ns,by omega,h3⟩,λr v hv=>?_⟩
    have hv':cs[r]?=some v:=by rw[h1];exact hv
    have hrl:r<4:=by have:=(List.getElem?_eq_some_iff.1 hv').1;omega
    have h4:=(Up hcs).2 r r (by simp[hrl])
    rw[Lg.Addr.add_add,hv'] at h4
    exact h4
   ·cases hcs
  obtain ⟨u,hul,hu⟩:=Qel len each
  refine ⟨u,hul,?_⟩
  have hfl:(u.flatMap Yt).length=u.length*4:=Go.Lg.JH Yt 4 V6 u
  refine ⟨by rw[hfl,hul],by omega,.inr ⟨a,cap,rfl,by omega,by simp,QaT ht hok,λj v hv=>?_⟩⟩
  have hj:j<u.length*4:=by
   rw[←hfl]
   exact (List.getElem?_eq_some_iff.1 hv).1
  have hi:j / 4<u.length:=by omega
  have hat:=XC Yt 4 V6 u (j / 4) hi
  have hjr:j=j / 4*4+j % 4:=by omega
  have h3:(Yt (u[j / 4]'hi))[j % 4]?=some v:=by
   rw[←hat,List.getElem?_take,if_pos (Nat.mod_lt _ (by omega)),List.getElem?_drop,←hjr];exact hv
  rw[←Xa]
  have:=hu (j / 4) hi (j % 4) v h3
  rw[←hjr] at this
  exact this
theorem QcO {v:Value}{d:DataW H}{ps:List MemPlace}{t tp te:Nat}{fs:Array Field}{f7 f8 f9:Field}(hu:P.underlying t=some (.struct fs)) (hts':(P.cellTypes P.depth t).map (λts=>(ts.length,ts[147]?))=some (152,some tp)) (hc:P.cellsOf t=152)
  (g7:fs[7]?=some f7) (g8:fs[8]?=some f8) (g9:fs[9]?=some f9) (h7t:f7.type=tp) (o7:f7.offset=147) (o8:f8.offset=148) (o9:f9.offset=151) (c7:P.cellsOf tp=1) (c8:P.cellsOf f8.type=3) (c9:P.cellsOf f9.type=1)
  (kb:QhV P fs 147=true) (k8:kT P .i8 5 f8.type=true) (k9:kT P .i8 5 f9.type=true) (hup:P.underlying tp=some (.slice te)) (hke:kT P .u8 5 te=true) (hce:P.cellsOf te=4)
  (hval:Value.okWide P W .any base t v) (h:DataW.Trod enc P W b0 sp held t v d ps):∃l:PwV,v=.agg (YO l).toArray∧PwA W l:=by
 simp only[Value.okWide,hu] at hval
 obtain ⟨cs,rfl,hsz,ts,hts,_,hcell⟩:=hval
 rw[hts] at hts'
 have hpr:=Option.some.inj hts'
 have htl:ts.length=152:=congrArg Prod.fst hpr
 have ht7:ts[147]?=some tp:=congrArg Prod.snd hpr
 rw[hc] at hsz
 obtain ⟨l⟩:=cs
 have hl:l.length=152:=hsz
 obtain ⟨fuel,hf⟩:=h
 obtain ⟨xs,m,_,_,_,hxl,hfld⟩:=DataW.trod_struct hu hf
 have hf':∀(i:Nat) (f:Field),fs[i]?=some f→DataW.trod enc P W b0 sp held m f.type ((l.drop f.offset).take (P.cellsOf f.type))=xs[i]?:=hfld
 have h7s:7<fs.size:=(Array.getElem?_eq_some_iff.1 g7).1
 have g0:∀c∈l.take 147,∃n:Nat,c=.int .u8 (n:Int)∧n<256:=λc hm=>by
  obtain ⟨j,hj,hjc⟩:=List.getElem_of_mem hm
  have hj2:j<147:=by simp at hj;omega
  have hjc':l[j]?=some c:=by
   rw[List.getElem_take] at hjc
   rw[List.getElem?_eq_getElem (by omega),hjc]
  exact Qfv kb hxl hf' hj2 hjc'
 obtain ⟨ns,e1,e2,e3⟩:=Qax _ g0
 have hnl:ns.length=147:=by rw[e2];simp;omega
 have at5:∀j,j<152→∃c,l[j]?=some c:=λj hj=>⟨l[j]'(by omega),List.getElem?_eq_getElem (by omega)⟩
 obtain ⟨x1,q1⟩:=at5 147 (by omega)
 obtain ⟨x2,q2⟩:=at5 148 (by omega)
 obtain ⟨x3,q3⟩:=at5 149 (by omega)
 obtain ⟨x4,q4⟩:=at5 150 (by omega)
 obtain ⟨x5,q5⟩:=at5 151 (by omega)
 have hld:l.drop 147=[x1,x2,x3,x4,x5]:=by
  apply List.ext_getElem?
  intro i
  rw[List.getElem?_drop]
  match i with
  | 0=>exact q1
  | 1=>exact q2
  | 2=>exact q3
  | 3=>exact q4
  | 4=>exact q5
  | i+5=>rw[List.getElem?_eq_none (by omega)];rfl
 obtain ⟨y2,rfl,z2⟩:=Qbt (KY hxl hf' g8 k8 (by omega) (by omega) q2)
 obtain ⟨y3,rfl,z3⟩:=Qbt (KY hxl hf' g8 k8 (by omega) (by omega) q3)
 obtain ⟨y4,rfl,z4⟩:=Qbt (KY hxl hf' g8 k8 (by omega) (by omega) q4)
 obtain ⟨y5,rfl,z5⟩:=Qbt (KY hxl hf' g9 k9 (by omega) (by omega) q5)
 have w7:=Qa9 hcell 147 tp x1 (by simpa using q1) (by rw[htl];exact ht7)
 have t7:=QeQ (c:=x1) hf' 7 g7 h7t o7 c7 (by rw[hld];rfl) (by omega)
 obtain ⟨a,n,cp,rfl,hP⟩:=Qkk hup hke hce w7 t7
 refine ⟨⟨ns,a,n,cp,y2,y3,y4,y5⟩,?_,hnl,e3,z2,z3,z4,z5,λh3=>hP (by have h4:n≤4:=h3;omega)⟩
 show Value.agg l.toArray=.agg (bys ns++_).toArray
 rw[←e1,←hld,List.take_append_drop]
end
set_option maxRecDepth 100000 in
theorem Qkl {H:Type}{enc:TypeId×Value→H}{W:World}{base b0:Nat}{sp:Nat→Bool}{held:Bool}{v:Value}{d:DataW H}{ps:List MemPlace}(hval:Value.okWide prog W .any base 36 v) (h:DataW.Trod enc prog W b0 sp held 36 v d ps) :
  ∃l:PwV,v=.agg (YO l).toArray∧PwA W l :=
 QcO underlying36 (tp:=32) (by kernel_rfl) (by kernel_rfl) rfl rfl rfl rfl rfl rfl rfl (by kernel_rfl) (by kernel_rfl) (by kernel_rfl) (by kernel_rfl) (by kernel_rfl) (by kernel_rfl) underlying32 (by kernel_rfl) (by kernel_rfl) hval h
theorem QeJ {L:LN}{w:World}{v:Value}{l:LI}(h:QM L w.heap v l) (x:Int) :
  QL prog 21 [v,.int .i64 x] w λr w'=>r=.bool (decide (x∈l))∧w'=w:=by
 have hle:=h.le
 refine QL.of_W func21 rfl ntmps21 results21 (by simp) ?_
 refine Qc<|Lg.Qe<|Qf<|Qc<|Lg.Qe<|Qg<|QC (α:=Nat) [(4,17)] (λk=>[(5,.int .i64 k)]) (λk w'=>w'=w∧k≤l.length∧(x∈l↔x∈l.drop k)) (λk=>l.length - k) (by rfl) 0 ⟨rfl,trivial⟩ ⟨rfl,Nat.zero_le _,by simp⟩ ?_
 rintro k g w' ⟨rfl,hk,hm⟩
 refine Qf<|Qc<|Lg.Qb<|Lg.Qb<|Lg.x (Qs h rfl)<|Lg.x (QB rfl rfl)<|xe ?_
 refine QH rfl (λh9=>?_) (λh9=>?_)
 ·refine Qz ?_
  refine Qc<|Lg.Qe<|Qm ⟨[.bool false],⟨rfl,trivial⟩,?_,rfl⟩
  rw[List.drop_of_length_le (by omega)] at hm
  simp[tup,hm]
 have hlt:k<l.length:=by omega
 have hd:=QW hlt
 refine Qi<|Qf<|Qg<|Qc<|Lg.Qb<|Lg.Qb<|xii h rfl rfl hlt λa14 h14=>Lg.x (Qv h14 rfl)<|Lg.Qb<|Lg.x (Q5 rfl rfl)<|xe ?_
 refine Q6 rfl (λh17=>?_) (λh17=>?_)
 ·refine Qc<|Lg.Qe<|Qm ⟨[.bool true],⟨rfl,trivial⟩,?_,rfl⟩
  have:x∈l:=by rw[hm,hd,h17];exact List.mem_cons_self
  simp[tup,this]
 refine Qi<|Qw<|Lg.Qb<|Lg.x (Qx rfl rfl ⟨by omega,by omega⟩)<|Lg.Qe<|⟨k+1,by omega,⟨rfl,trivial⟩,rfl,by omega,?_⟩
 rw[hm,hd,List.mem_cons]
 exact ⟨λh=>h.resolve_left (λe=>h17 e.symm),.inr⟩
theorem QfH {w:World}{l:PwV}(h:PwA w l):QL prog 13 [.agg (YO l).toArray] w λr w'=>r=.bool (decide (l.n≤4))∧Step [] w w':=by
 have g147:=QjN h.n
 refine QL.of_W func13 rfl ntmps13 results13 (by simp) ?_
 refine Qc<|xl rfl<|QR (us:=YO l) rfl λb1 w1 hs1 hb1 hB1=>Qe<|Qc<|x (Qa rfl)<|x (Qd hB1 rfl g147)<|x (Ui rfl)<|x (XS rfl rfl)<|Qe<|Qm ⟨[_],⟨rfl,trivial⟩,?_,hs1⟩
 exact congrArg Value.bool (decide_eq_decide.2 (by omega))
theorem Qei {L L':LN}{w:World}{v v':Value}{a b:LI}(h:QM L w.heap v a) (h':QM L' w.heap v' b):QL prog 60 [v,v'] w λr w'=>r=.bool (mts a b)∧w'=w:=by
 have hle:=h.le
 refine QL.of_W func60 rfl ntmps60 results60 (by simp) ?_
 refine Qc<|Qe<|Qf<|Qc<|Qe<|Qg<|QC (α:=Nat) [(4,17)] (λk=>[(5,.int .i64 k)]) (λk w'=>w'=w∧k≤a.length∧mts a b=mts (a.drop k) b) (λk=>a.length - k) (by rfl) 0 ⟨rfl,trivial⟩ ⟨rfl,Nat.zero_le _,rfl⟩ ?_
 rintro k g w' ⟨rfl,hk,hm⟩
 refine Qf<|Qc<|Qb<|Qb<|x (Qs h rfl)<|x (QB rfl rfl)<|xe ?_
 refine QH rfl (λh9=>?_) (λh9=>?_)
 ·refine Qz ?_
  rw[List.drop_of_length_le (by omega)] at hm
  refine Qc<|Qe ?_
  exact Qm ⟨[.bool false],⟨rfl,trivial⟩,congrArg Value.bool hm.symm,rfl⟩
 have hlt:k<a.length:=by omega
 have hmc:mts (a.drop k) b=(decide ((a[k]'hlt)∈b) || mts (a.drop (k+1)) b):=by rw[QW hlt];rfl
 refine Qi<|Qf<|Qg<|Qc<|Qb<|Qb<|Qb<|xii (i:=k) h rfl rfl hlt λa15 h15=>x (Qv h15 rfl)<|xl rfl<|xf<|(QeJ h' (a[k]'hlt)).mono ?_
 rintro r2 w' ⟨rfl,rfl⟩
 refine xe ?_
 refine Q6 rfl (λh17=>?_) (λh17=>?_)
 ·refine Qc<|Qe<|Qm ⟨[.bool true],⟨rfl,trivial⟩,?_,rfl⟩
  rw[hm,hmc,decide_eq_true h17];rfl
 refine Qi<|Qw<|Qb<|x (Qx rfl rfl ⟨by omega,by omega⟩)<|Qe<|⟨k+1,by omega,⟨rfl,trivial⟩,rfl,by omega,?_⟩
 rw[hm,hmc,decide_eq_false h17,Bool.false_or]
theorem KM (co:List YC):∀(l:List YC) (i:Nat),(lmR co i l).length=l.length
 | [],_=>rfl
 | _::l,i=>by rw[lmR,List.length_cons,List.length_cons,KM co l]
theorem JS (kd:Int):∀(l:List (List (Int×Int))) (i:Nat),(lmP kd i l).length=l.length
 | [],_=>rfl
 | _::l,i=>by rw[lmP,List.length_cons,List.length_cons,JS kd l]
theorem yP (co:List YC):∀(l:List YC) (i j:Nat) (h:j<l.length),(lmR co i l).take (j+1)=(lmR co i l).take j++[⟨1,((i+j:Nat):Int),ixs (λy:YC=>mts (l[j]'h).a.al y.a.al) 0 co⟩]
 | x::l,i,0,_=>by simp[lmR]
 | x::l,i,j+1,h=>by
  rw[lmR,List.take_succ_cons,List.take_succ_cons,yP co l (i+1) j (by simpa using h),show i+1+j=i+(j+1) by omega]
  rfl
theorem Ur (kd:Int):∀(l:List (List (Int×Int))) (i j:Nat) (h:j<l.length),(lmP kd i l).take (j+1)=(lmP kd i l).take j++[⟨kd,((i+j:Nat):Int),(l[j]'h).map (·.1)⟩]
 | x::l,i,0,_=>by simp[lmP]
 | x::l,i,j+1,h=>by
  rw[lmP,List.take_succ_cons,List.take_succ_cons,Ur kd l (i+1) j (by simpa using h),show i+1+j=i+(j+1) by omega]
  rfl
theorem QeA (q:YC→Bool):∀(l:List IV) (i:Nat),ixs q i (l.map IV.it)=ixs (λv:IV=>q v.it) i l
 | [],_=>rfl
 | v::l,i=>by rw[List.map_cons,ixs,ixs,QeA q l (i+1)]
theorem QjK (c:CL) {i:Nat}(h:i<c.cel.rq.length) (h':i<c.rq.length):c.cel.rq[i]'h=(c.rq[i]'h').it:=List.getElem_map (f:=λx:IV=>x.it) (l:=c.rq) (i:=i) (h:=h)
theorem QiV (c:CL) {i:Nat}(h:i<(c.cel.ex.map (·.ls)).length) (h':i<c.ex.length):(c.cel.ex.map (·.ls))[i]'h=(c.ex[i]'h').ls:=by
 rw[List.getElem_map]
 exact congrArg yf.ls (List.getElem_map (f:=λx:XV=>x.x) (l:=c.ex) (i:=i) (h:=by simpa using h'))
theorem Qi4 (c:CL) {i:Nat}(h:i<(c.cel.cs.map (·.ts)).length) (h':i<c.cs.length):(c.cel.cs.map (·.ts))[i]'h=(c.cs[i]'h').ts:=by
 rw[List.getElem_map]
 exact congrArg Xb.ts (List.getElem_map (f:=λx:KV=>x.k) (l:=c.cs) (i:=i) (h:=by simpa using h'))
set_option maxHeartbeats 8000000 in
theorem zC {w:World}{c:CL}(h:Zv [] w.heap c) (hc:c.co.length≤8) (hn:c.rq.length+c.ex.length+c.cs.length≤1000) :
  QL prog 15 [c.val] w λr w'=>Step [] w w'∧∃l:List MV,MvN w.heap.size w' r l∧l.map MV.m=lmd c.cel:=by
 have hxl:∀q∈c.ex,q.ls.length≤1099511627776:=λq hq=>(h.ex.each q hq).le
 have hkl:∀q∈c.cs,q.ts.length≤1099511627776:=λq hq=>(h.cs.each q hq).le
 refine QL.of_W func15 rfl ntmps15 results15 (by simp) ?_
 refine Qc<|xl rfl<|QR (us:=c.cells) rfl λb1 w1 hs1 hb1 hB1=>Qe<|Qc<|Qe ?_
 have hz1:=hs1.size
 have h1:=h.ext hs1
 refine QV (α:=Value×List MV) [(3,6),(13,53)] (λz=>[(3,z.1)]) (λz w'=>Step [] w1 w'∧MvN w1.heap.size w' z.1 z.2∧z.2.map MV.m=lmR c.cel.co 0 c.cel.rq) (by rfl) ?_ ?_
 ·refine Qc<|Qe<|Qg<|QC (α:=Nat×Value×List MV) [(3,6),(13,53)] (λz=>[(3,z.2.1),(4,.int .i64 z.1)]) (λz w'=>z.1≤c.rq.length∧Step [] w1 w'∧MvN w1.heap.size w' z.2.1 z.2.2∧z.2.2.map MV.m=(lmR c.cel.co 0 c.cel.rq).take z.1) (λz=>c.rq.length - z.1) (by rfl) (0,Zb,[]) ⟨rfl,rfl,trivial⟩
   ⟨Nat.zero_le _,Step.refl _ _,ZM.nil,rfl⟩ ?_
  rintro ⟨i,v,lm⟩ g w2 ⟨hi,hs2,hM2,hlm⟩
  simp only[] at hi hM2 hlm
  have h2:=h1.ext hs2
  have hB12:=hB1.ext hs2
  have hz2:=hs2.size
  have hrl:c.cel.rq.length=c.rq.length:=List.length_map ..
  have hll:lm.length≤c.rq.length:=by
   have e:=congrArg List.length hlm
   rw[List.length_map,List.length_take] at e
   omega
  refine Qf<|Qc<|Qb<|x (Qa rfl)<|x (Qd hB12 rfl rfl)<|x (Qs h2.rq.arr rfl)<|x (QB rfl rfl)<|xe ?_
  refine QH rfl (λh17=>?_) (λh17=>?_)
  ·refine Qz ?_
   have hie:c.rq.length≤i:=by have h18:¬(i:Int)<(c.rq.length:Int):=h17;omega
   rw[List.take_of_length_le (by rw[KM,hrl];exact hie)] at hlm
   exact ⟨(v,lm),⟨rfl,trivial⟩,hs2,hM2,hlm⟩
  have hlt:i<c.rq.length:=by have h18:(i:Int)<(c.rq.length:Int):=h17;omega
  have htk:=yP c.cel.co c.cel.rq 0 i (by omega)
  have hit:c.cel.rq[i]'(by omega)=(c.rq[i]'hlt).it:=QjK c _ hlt
  rw[hit,show c.cel.co=c.co.map IV.it from rfl,QeA,Nat.zero_add] at htk
  have hmem:=List.getElem_mem hlt
  refine Q8 (c.rq[i]'hlt) λq hq=>?_
  rw[hq] at htk hmem
  refine Qi<|Qf<|Qg<|Qc<|Qb<|x (QE ⟨rfl,rfl,trivial⟩)<|xl rfl<|Qu (us:=[.int .i64 0,.int .i64 0,nS]) rfl λb5 w3 hs3 hb5 hB5=>xl rfl<|Qo (us:=[.int .i64 1,.int .i64 i,nS]) hB5 rfl rfl rfl rfl ⟨rfl,rfl,rfl,trivial⟩ λw4 hs4 hB54=>xe ?_
  have hs24:Step [] w2 w4:=hs3.then1 hs4 hb5
  have hz24:=hs24.size
  have hl5:=hB54.lt
  have h4:=h2.ext hs24
  have hB14:=hB12.ext hs24
  have hl1:=hB12.lt
  have n15:b1∉[b5]:=by simp only[List.mem_singleton];omega
  have up5:∀b∈[b5],b∈([]:LN)∨w2.heap.size≤b:=λb hb=>.inr (by rw[List.mem_singleton.1 hb];exact hb5)
  have h45:Zv [b5] w4.heap c:=(h2.up up5).ext hs24
  refine Qf<|Qc<|Qe<|Qg<|QC (α:=Nat×Value) [(6,6),(22,49)] (λz=>[(6,.int .i64 z.1)]) (λz w'=>z.1≤c.co.length∧Step [b5] w4 w'∧Q0 w'.heap b5 39 [.int .i64 1,.int .i64 i,z.2]∧Qt 3 w4.heap.size w' z.2 (ixs (λy:IV=>mts q.p.a.al y.p.a.al) 0 (c.co.take z.1))) (λz=>c.co.length - z.1) (by rfl) (0,Zb) ⟨rfl,trivial⟩
   ⟨Nat.zero_le _,Step.refl _ _,hB54,QO _ _ _ _⟩ ?_
  rintro ⟨k,vl⟩ g w5 ⟨hk,hs5,hB55,ho5⟩
  simp only[] at hk hB55 ho5
  have h5:=h45.st hs5
  have hB15:=hB14.step hs5 n15
  have hz5:=hs5.size
  have hlen:=KP (λy:IV=>mts q.p.a.al y.p.a.al) (c.co.take k) 0
  rw[List.length_take] at hlen
  have hgl:=Qk ho5
  have hn5:b5∉ob vl:=QN ho5 hl5
  refine Qf<|Qc<|Qb<|x (Qa rfl)<|x (Qd hB15 rfl rfl)<|x (Qs h5.co.arr rfl)<|x (QB rfl rfl)<|xe ?_
  refine QH rfl (λh26=>?_) (λh26=>?_)
  ·refine Qz ?_
   have hke:c.co.length≤k:=by have h27:¬(k:Int)<(c.co.length:Int):=h26;omega
   rw[List.take_of_length_le hke] at ho5 hlen
   have hco:ixs (λv:IV=>mts q.it.a.al v.it.a.al) 0 c.co=ixs (λy:IV=>mts q.p.a.al y.p.a.al) 0 c.co:=rfl
   rw[hco] at htk
   refine Q8 (ixs (λy:IV=>mts q.p.a.al y.p.a.al) 0 c.co) λcs hcs=>?_
   rw[hcs] at ho5 hlen htk
   have hs25:Step [] w2 w5:=hs24.then1 hs5 hb5
   have hM5:=hM2.ext hs25
   refine Qw<|Qb<|x (Qr hB55 rfl rfl)<|xl rfl<|QD (us:=[Zn ⟨1,i,vl,cs⟩]) rfl rfl (by decide) (by exact (by decide:1*3≤1000000)) ⟨rfl,rfl,trivial⟩ λb52 w6 hs6 hb52 hB52=>?_
   have hz6:=hs6.size
   refine xl rfl<|QY (news:=Zn ⟨1,i,vl,cs⟩) (L:=[]) (Qq hM5.own hs6) rfl rfl rfl (hB52.at (by simp)) (V0 (q:=⟨1,i,vl,cs⟩) (QF ho5)) (by omega) (by omega) λv7 w7 ho7 hs7 hn7=>Qe ?_
   have hge2:=Qk hM2.own
   have hM7:MvN w1.heap.size w7 v7 (lm++[⟨1,i,vl,cs⟩]):=ZM.app (N:=w4.heap.size) hM2 (hs25.trans hs6) (Qq ho5 hs6) (by show cs.length≤_;omega) hz24 hz2 ho7 hs7 hn7
   refine Qw<|Qb<|x (Qx rfl rfl ⟨by omega,by omega⟩)<|Qe<|⟨(i+1,v7,lm++[⟨1,i,vl,cs⟩]),by simp only[];omega,⟨rfl,rfl,trivial⟩,hlt,((hs2.trans hs25).trans hs6).then hs7 (λb hb=>.inr (hge2 b hb).1),hM7,?_⟩
   simp only[]
   rw[List.map_append,hlm]
   exact htk.symm
  have hklt:k<c.co.length:=by have h27:(k:Int)<(c.co.length:Int):=h26;omega
  have hmk:=List.getElem_mem hklt
  have hsucc:=Uv (λy:IV=>mts q.p.a.al y.p.a.al) hklt
  refine Q8 (c.co[k]'hklt) λy hy=>?_
  rw[hy] at hmk hsucc
  have hqA:=(h5.rq.each q hmem).up (L':=[]) (by simp)
  have hyA:=(h5.co.each y hmk).up (L':=[]) (by simp)
  have h50:=h5.up (L':=[]) (by simp)
  have hd5:Step [] w5 { w5 with drawn:=w5.drawn+1 }:=Step.drew _ _
  refine Qi<|Qf<|Qg<|Qf<|QU (Step [] w5) [(0,true),(1,true),(2,true),(3,true),(4,true),(5,true),(6,true),(7,true),(8,true),(9,true),(10,true),(11,true),(12,true),(13,true),(14,false)] mixed (by rfl) (by kernel_rfl) hd5 ?_
  refine p (λ_=>Qa rfl)<|pq (λ_ hc=>Qd (hB15.ext hc) rfl rfl)<|p (λ_=>Qn)<|Lg.pig (g:=Za) (i:=i) rfl YE h50.rq.arr rfl rfl hlt λa32 h32=>?_
  rw[hq] at h32
  refine p (λ_=>Q7 rfl)<|p (λ_=>Q7 rfl)<|pq (λ_ hc=>Qv (((h32.from 1).fld 0 q.p.va rfl).ext hc) rfl)<|p (λ_=>Qa rfl)<|pq (λ_ hc=>Qd (hB15.ext hc) rfl rfl)<|p (λ_=>Qn)<|Lg.pig (g:=Za) (i:=k) rfl YE h50.co.arr rfl rfl hklt λa39 h39=>?_
  rw[hy] at h39
  refine p (λ_=>Q7 rfl)<|p (λ_=>Q7 rfl)<|pq (λ_ hc=>Qv (((h39.from 1).fld 0 y.p.va rfl).ext hc) rfl)<|pk<|xf<|(Qei (hqA.al.ext hd5) (hyA.al.ext hd5)).mono ?_
  rintro r14 w6 ⟨rfl,rfl⟩
  refine ⟨hd5,?_⟩
  refine pe ?_
  refine Q2 rfl (λh43=>?_) (λh43=>?_)
  rotate_left
  ·rw[if_neg (by rw[h43];decide),List.append_nil] at hsucc
   refine Qi<|Qw<|Qb<|x (Qx rfl rfl ⟨by omega,by omega⟩)<|Qe ?_
   exact ⟨(k+1,vl),by simp only[];omega,⟨rfl,trivial⟩,hklt,hs5.trans hd5.any,hB55.ext hd5,by simp only[];rw[hsucc];exact Qq ho5 hd5⟩
  rw[if_pos h43] at hsucc
  refine Qw<|x (Qa rfl)<|x (Qd (hB55.ext hd5) rfl rfl)<|Qb<|xl rfl<|QD (us:=[[.int .i64 k]]) rfl rfl (by decide) (by simp) ⟨rfl,rfl,trivial⟩ λb47 w7 hs7 hb47 hB47=>?_
  have hs57:=hd5.trans hs7
  have hz57:=hs57.size
  refine xl rfl<|QY (news:=[.int .i64 k]) (L:=[]) (Qq ho5 hs57) rfl rfl rfl (hB47.at (by simp)) (by simp[Value.oneCell']) (by omega) (by omega) λv8 w8 ho8 hs8 hn8=>?_
  refine x (Qa rfl)<|xl rfl<|QG (j:=2) (u:=v8) ((hB55.ext hs57).step hs8 hn5) rfl rfl (by simp) (QF ho8) λw9 hs9 hB59=>xe ?_
  refine Qw<|Qb<|x (Qx rfl rfl ⟨by omega,by omega⟩)<|Qe<|⟨(k+1,v8),by simp only[];omega,⟨rfl,trivial⟩,hklt,((hs5.trans hs57.any).then hs8 (λb hb=>.inr (hgl b hb).1)).trans' hs9,hB59,?_⟩
  simp only[]
  rw[hsucc]
  exact Qt.snoc (Qj ho8 hs9 (λb hb=>by have:=(Qk ho8 b hb).1;simp only[List.mem_singleton];omega))
 rintro ⟨v0,lm0⟩ g w20 ⟨hs20,hM20,hlm0⟩
 simp only[] at hM20 hlm0
 refine QV (α:=Value×List MV) [(3,3),(7,9),(54,92)] (λz=>[(3,z.1)]) (λz w'=>Step [] w1 w'∧MvN w1.heap.size w' z.1 z.2∧z.2.map MV.m=lmR c.cel.co 0 c.cel.rq++lmP 2 0 (c.cel.ex.map (·.ls))) (by rfl) ?_ ?_
 ·refine Qc<|Qe<|Qg<|QC (α:=Nat×Value×List MV) [(3,3),(7,9),(54,92)] (λz=>[(3,z.2.1),(7,.int .i64 z.1)]) (λz w'=>z.1≤c.ex.length∧Step [] w1 w'∧MvN w1.heap.size w' z.2.1 z.2.2∧z.2.2.map MV.m=lmR c.cel.co 0 c.cel.rq++(lmP 2 0 (c.cel.ex.map (·.ls))).take z.1) (λz=>c.ex.length - z.1) (by rfl) (0,v0,lm0) ⟨rfl,rfl,trivial⟩
   ⟨Nat.zero_le _,hs20,hM20,by simp only[];rw[List.take_zero,List.append_nil];exact hlm0⟩ ?_
  rintro ⟨i,v,lm⟩ g w2 ⟨hi,hs2,hM2,hlm⟩
  simp only[] at hi hM2 hlm
  have h2:=h1.ext hs2
  have hB12:=hB1.ext hs2
  have hz2:=hs2.size
  have hrl:(c.cel.ex.map (·.ls)).length=c.ex.length:=by rw[List.length_map];exact List.length_map ..
  have hll:lm.length≤c.rq.length+c.ex.length:=by
   have e:=congrArg List.length hlm
   rw[List.length_map,List.length_append,List.length_take,KM,show c.cel.rq.length=c.rq.length from List.length_map ..] at e
   omega
  refine Qf<|Qc<|Qb<|x (Qa rfl)<|x (Qd hB12 rfl rfl)<|x (Qs h2.ex.arr rfl)<|x (QB rfl rfl)<|xe ?_
  refine QH rfl (λh17=>?_) (λh17=>?_)
  ·refine Qz ?_
   have hie:c.ex.length≤i:=by have h18:¬(i:Int)<(c.ex.length:Int):=h17;omega
   rw[List.take_of_length_le (by rw[JS,hrl];exact hie)] at hlm
   exact ⟨(v,lm),⟨rfl,trivial⟩,hs2,hM2,hlm⟩
  have hlt:i<c.ex.length:=by have h18:(i:Int)<(c.ex.length:Int):=h17;omega
  have htk:=Ur 2 (c.cel.ex.map (·.ls)) 0 i (by omega)
  rw[QiV c (by omega) hlt,Nat.zero_add] at htk
  have hmem:=List.getElem_mem hlt
  refine Q8 (c.ex[i]'hlt) λq hq=>?_
  rw[hq] at htk hmem
  refine Qi<|Qf<|Qg<|Qc<|Qb<|x (QE ⟨rfl,rfl,trivial⟩)<|xl rfl<|Qu (us:=[.int .i64 0,.int .i64 0,nS]) rfl λb5 w3 hs3 hb5 hB5=>xl rfl<|Qo (us:=[.int .i64 2,.int .i64 i,nS]) hB5 rfl rfl rfl rfl ⟨rfl,rfl,rfl,trivial⟩ λw4 hs4 hB54=>xe ?_
  have hs24:Step [] w2 w4:=hs3.then1 hs4 hb5
  have hz24:=hs24.size
  have hl5:=hB54.lt
  have hB14:=hB12.ext hs24
  have hl1:=hB12.lt
  have n15:b1∉[b5]:=by simp only[List.mem_singleton];omega
  have hqn:=(h2.ex.each q hmem).le
  refine Qf<|Qc<|Qe<|Qg<|QC (α:=Nat×Value) [(9,9),(63,88)] (λz=>[(9,.int .i64 z.1)]) (λz w'=>z.1≤q.ls.length∧Step [b5] w4 w'∧Q0 w'.heap b5 39 [.int .i64 2,.int .i64 i,z.2]∧Qt 3 w4.heap.size w' z.2 ((q.ls.take z.1).map (·.1))) (λz=>q.ls.length - z.1) (by rfl) (0,Zb) ⟨rfl,trivial⟩
   ⟨Nat.zero_le _,Step.refl _ _,hB54,QO _ _ _ _⟩ ?_
  rintro ⟨k,vl⟩ g w5 ⟨hk,hs5,hB55,ho5⟩
  simp only[] at hk hB55 ho5
  have hgl:=Qk ho5
  have upX:∀b∈b5::ob vl,b∈([]:LN)∨w2.heap.size≤b:=λb hb=>.inr (by
   rcases List.mem_cons.1 hb with e | e
   ·rw[e];exact hb5
   ·have:=(hgl b e).1;omega)
  have hX5:Zv (b5::ob vl) w5.heap c:=((h2.up upX).ext hs24).st (hs5.mono (by simp))
  have h50:Zv [] w5.heap c:=hX5.up (by simp)
  have h5v:Zv (ob vl) w5.heap c:=hX5.up (λb hb=>.inl (List.mem_cons_of_mem _ hb))
  have hB15:=hB14.step hs5 n15
  have hz5:=hs5.size
  have hn5:b5∉ob vl:=QN ho5 hl5
  have hn1:b1∉ob vl:=QN ho5 (by omega)
  refine Qf<|Qc<|Qb<|x (Qa rfl)<|x (Qd hB15 rfl rfl)<|Qb<|xig XK h50.ex.arr rfl rfl hlt λa67 h67=>?_
  rw[hq] at h67
  refine x (Q7 rfl)<|x (Qv (h67.fld 1 q.v rfl) rfl)<|x (Qs (h50.ex.each q hmem) rfl)<|x (QB rfl rfl)<|xe ?_
  refine QH rfl (λh26=>?_) (λh26=>?_)
  ·refine Qz ?_
   have hke:q.ls.length≤k:=by have h27:¬(k:Int)<(q.ls.length:Int):=h26;omega
   rw[List.take_of_length_le hke] at ho5
   have hlen:(q.ls.map (·.1)).length=q.ls.length:=List.length_map ..
   refine Q8 (q.ls.map (·.1)) λcs hcs=>?_
   rw[hcs] at ho5 hlen htk
   have hs25:Step [] w2 w5:=hs24.then1 hs5 hb5
   have hM5:=hM2.ext hs25
   refine Qw<|Qb<|x (Qr hB55 rfl rfl)<|xl rfl<|QD (us:=[Zn ⟨2,i,vl,cs⟩]) rfl rfl (by decide) (by exact (by decide:1*3≤1000000)) ⟨rfl,rfl,trivial⟩ λb52 w6 hs6 hb52 hB52=>?_
   have hz6:=hs6.size
   refine xl rfl<|QY (news:=Zn ⟨2,i,vl,cs⟩) (L:=[]) (Qq hM5.own hs6) rfl rfl rfl (hB52.at (by simp)) (V0 (q:=⟨2,i,vl,cs⟩) (QF ho5)) (by omega) (by omega) λv7 w7 ho7 hs7 hn7=>Qe ?_
   have hge2:=Qk hM2.own
   have hM7:MvN w1.heap.size w7 v7 (lm++[⟨2,i,vl,cs⟩]):=ZM.app (N:=w4.heap.size) hM2 (hs25.trans hs6) (Qq ho5 hs6) (by show cs.length≤_;omega) hz24 hz2 ho7 hs7 hn7
   refine Qw<|Qb<|x (Qx rfl rfl ⟨by omega,by omega⟩)<|Qe<|⟨(i+1,v7,lm++[⟨2,i,vl,cs⟩]),by simp only[];omega,⟨rfl,rfl,trivial⟩,hlt,((hs2.trans hs25).trans hs6).then hs7 (λb hb=>.inr (hge2 b hb).1),hM7,?_⟩
   simp only[]
   rw[List.map_append,hlm,htk,List.append_assoc]
   rfl
  have hklt:k<q.ls.length:=by have h27:(k:Int)<(q.ls.length:Int):=h26;omega
  have hsucc:(q.ls.take (k+1)).map (·.1)=(q.ls.take k).map (·.1)++[(q.ls[k]'hklt).1]:=by rw[List.take_succ_eq_append_getElem hklt,List.map_append];rfl
  have hlk:((q.ls.take k).map (·.1)).length=k:=by rw[List.length_map,List.length_take];omega
  refine Q8 (q.ls[k]'hklt) λy hy=>?_
  rw[hy] at hsucc
  refine Qi<|Qf<|Qg<|QU (Step (ob vl) w5) [(0,true),(1,true),(2,true),(3,true),(4,true),(5,true),(6,true),(7,true),(8,true),(9,true),(10,true),(11,true),(12,false),(13,false),(14,true),(15,false)] mixed (by rfl) (by kernel_rfl) (Step.drew _ _) ?_
  refine p (λ_=>Qa rfl)<|pq (λ_ hc=>Qd (hB55.step hc hn5) rfl rfl)<|p (λ_=>Qa rfl)<|pq (λ_ hc=>Qd (hB15.step hc hn1) rfl rfl)<|p (λ_=>Qn)<|Lg.pig (i:=i) rfl XK h5v.ex.arr rfl rfl hlt λa79 h79=>?_
  rw[hq] at h79
  refine p (λ_=>Q7 rfl)<|pq (λ_ hc=>Qv ((h79.fld 1 q.v rfl).st hc) rfl)<|p (λ_=>Qn)<|Lg.pig (i:=k) rfl Yo (h5v.ex.each q hmem) rfl rfl hklt λa83 h83=>?_
  rw[hy] at h83
  refine p (λ_=>Q7 rfl)<|pq (λ_ hc=>Qv ((h83.fld 0 (.int .i64 y.1) rfl).st hc) rfl)<|pk<|QD (us:=[[.int .i64 y.1]]) rfl rfl (by decide) (by simp) ⟨rfl,rfl,trivial⟩ λb47 w7 hs7 hb47 hB47=>⟨((Step.drew _ _).trans hs7),?_⟩
  have hs57:Step [] w5 w7:=(Step.drew _ _).trans hs7
  have hz57:=hs57.size
  refine pk<|QY (news:=[.int .i64 y.1]) (L:=[]) (Qq ho5 hs57) rfl rfl rfl (hB47.at (by simp)) (by simp[Value.oneCell']) (by omega) (by omega) λv8 w8 ho8 hs8 hn8=>⟨(hs57.any (L:=ob vl)).trans' hs8,?_⟩
  refine p (λ_=>Qa rfl)<|pkl (hl:=by kernel_rfl)<|QG (j:=2) (u:=v8) ((hB55.ext hs57).step hs8 hn5) rfl rfl (by simp) (QF ho8) λw9 hs9 hB59=>pe ?_
  refine Qw<|Qb<|x (Qx rfl rfl ⟨by omega,by omega⟩)<|Qe<|⟨(k+1,v8),by simp only[];omega,⟨rfl,trivial⟩,hklt,((hs5.trans hs57).then hs8 (λb hb=>.inr (hgl b hb).1)).trans' hs9,hB59,?_⟩
  simp only[]
  rw[hsucc]
  exact Qt.snoc (Qj ho8 hs9 (λb hb=>by have:=(Qk ho8 b hb).1;simp only[List.mem_singleton];omega))
 rintro ⟨v0,lm0⟩ g w20 ⟨hs20,hM20,hlm0⟩
 simp only[] at hM20 hlm0
 refine Qf<|Qc<|Qe<|Qg<|QC (α:=Nat×Value×List MV) [(3,3),(10,12),(93,131)] (λz=>[(3,z.2.1),(10,.int .i64 z.1)]) (λz w'=>z.1≤c.cs.length∧Step [] w1 w'∧MvN w1.heap.size w' z.2.1 z.2.2∧z.2.2.map MV.m=(lmR c.cel.co 0 c.cel.rq++lmP 2 0 (c.cel.ex.map (·.ls)))++(lmP 3 0 (c.cel.cs.map (·.ts))).take z.1) (λz=>c.cs.length - z.1) (by rfl) (0,v0,lm0) ⟨rfl,rfl,trivial⟩
  ⟨Nat.zero_le _,hs20,hM20,by simp only[];rw[List.take_zero,List.append_nil];exact hlm0⟩ ?_
 rintro ⟨i,v,lm⟩ g w2 ⟨hi,hs2,hM2,hlm⟩
 simp only[] at hi hM2 hlm
 have h2:=h1.ext hs2
 have hB12:=hB1.ext hs2
 have hz2:=hs2.size
 have hrl:(c.cel.cs.map (·.ts)).length=c.cs.length:=by rw[List.length_map];exact List.length_map ..
 have hll:lm.length≤c.rq.length+c.ex.length+c.cs.length:=by
  have e:=congrArg List.length hlm
  rw[List.length_map,List.length_append,List.length_take,List.length_append,KM,JS,List.length_map,show c.cel.ex.length=c.ex.length from List.length_map ..,show c.cel.rq.length=c.rq.length from List.length_map ..] at e
  omega
 refine Qf<|Qc<|Qb<|x (Qa rfl)<|x (Qd hB12 rfl rfl)<|x (Qs h2.cs.arr rfl)<|x (QB rfl rfl)<|xe ?_
 refine QH rfl (λh17=>?_) (λh17=>?_)
 ·refine Qz ?_
  have hie:c.cs.length≤i:=by have h18:¬(i:Int)<(c.cs.length:Int):=h17;omega
  rw[List.take_of_length_le (by rw[JS,hrl];exact hie)] at hlm
  refine Qc<|Qb<|Qe<|Qm ⟨[v],⟨rfl,trivial⟩,hs1.trans hs2,lm,⟨Zi hM2.own hz1,λq hq L hL=>hM2.each q hq L (λb hb=>(hL b hb).imp (λh=>by omega) id)⟩,?_⟩
  rw[hlm,List.append_assoc]
  rfl
 have hlt:i<c.cs.length:=by have h18:(i:Int)<(c.cs.length:Int):=h17;omega
 have htk:=Ur 3 (c.cel.cs.map (·.ts)) 0 i (by omega)
 rw[Qi4 c (by omega) hlt,Nat.zero_add] at htk
 have hmem:=List.getElem_mem hlt
 refine Q8 (c.cs[i]'hlt) λq hq=>?_
 rw[hq] at htk hmem
 refine Qi<|Qf<|Qg<|Qc<|Qb<|x (QE ⟨rfl,rfl,trivial⟩)<|xl rfl<|Qu (us:=[.int .i64 0,.int .i64 0,nS]) rfl λb5 w3 hs3 hb5 hB5=>xl rfl<|Qo (us:=[.int .i64 3,.int .i64 i,nS]) hB5 rfl rfl rfl rfl ⟨rfl,rfl,rfl,trivial⟩ λw4 hs4 hB54=>xe ?_
 have hs24:Step [] w2 w4:=hs3.then1 hs4 hb5
 have hz24:=hs24.size
 have hl5:=hB54.lt
 have hB14:=hB12.ext hs24
 have hl1:=hB12.lt
 have n15:b1∉[b5]:=by simp only[List.mem_singleton];omega
 have hqn:=(h2.cs.each q hmem).le
 refine Qf<|Qc<|Qe<|Qg<|QC (α:=Nat×Value) [(12,12),(102,127)] (λz=>[(12,.int .i64 z.1)]) (λz w'=>z.1≤q.ts.length∧Step [b5] w4 w'∧Q0 w'.heap b5 39 [.int .i64 3,.int .i64 i,z.2]∧Qt 3 w4.heap.size w' z.2 ((q.ts.take z.1).map (·.1))) (λz=>q.ts.length - z.1) (by rfl) (0,Zb) ⟨rfl,trivial⟩
  ⟨Nat.zero_le _,Step.refl _ _,hB54,QO _ _ _ _⟩ ?_
 rintro ⟨k,vl⟩ g w5 ⟨hk,hs5,hB55,ho5⟩
 simp only[] at hk hB55 ho5
 have hgl:=Qk ho5
 have upX:∀b∈b5::ob vl,b∈([]:LN)∨w2.heap.size≤b:=λb hb=>.inr (by
  rcases List.mem_cons.1 hb with e | e
  ·rw[e];exact hb5
  ·have:=(hgl b e).1;omega)
 have hX5:Zv (b5::ob vl) w5.heap c:=((h2.up upX).ext hs24).st (hs5.mono (by simp))
 have h50:Zv [] w5.heap c:=hX5.up (by simp)
 have h5v:Zv (ob vl) w5.heap c:=hX5.up (λb hb=>.inl (List.mem_cons_of_mem _ hb))
 have hB15:=hB14.step hs5 n15
 have hz5:=hs5.size
 have hn5:b5∉ob vl:=QN ho5 hl5
 have hn1:b1∉ob vl:=QN ho5 (by omega)
 refine Qf<|Qc<|Qb<|x (Qa rfl)<|x (Qd hB15 rfl rfl)<|Qb<|xig Xh h50.cs.arr rfl rfl hlt λa67 h67=>?_
 rw[hq] at h67
 refine x (Q7 rfl)<|x (Qv (h67.fld 1 q.v rfl) rfl)<|x (Qs (h50.cs.each q hmem) rfl)<|x (QB rfl rfl)<|xe ?_
 refine QH rfl (λh26=>?_) (λh26=>?_)
 ·refine Qz ?_
  have hke:q.ts.length≤k:=by have h27:¬(k:Int)<(q.ts.length:Int):=h26;omega
  rw[List.take_of_length_le hke] at ho5
  have hlen:(q.ts.map (·.1)).length=q.ts.length:=List.length_map ..
  refine Q8 (q.ts.map (·.1)) λcs hcs=>?_
  rw[hcs] at ho5 hlen htk
  have hs25:Step [] w2 w5:=hs24.then1 hs5 hb5
  have hM5:=hM2.ext hs25
  refine Qw<|Qb<|x (Qr hB55 rfl rfl)<|xl rfl<|QD (us:=[Zn ⟨3,i,vl,cs⟩]) rfl rfl (by decide) (by exact (by decide:1*3≤1000000)) ⟨rfl,rfl,trivial⟩ λb52 w6 hs6 hb52 hB52=>?_
  have hz6:=hs6.size
  refine xl rfl<|QY (news:=Zn ⟨3,i,vl,cs⟩) (L:=[]) (Qq hM5.own hs6) rfl rfl rfl (hB52.at (by simp)) (V0 (q:=⟨3,i,vl,cs⟩) (QF ho5)) (by omega) (by omega) λv7 w7 ho7 hs7 hn7=>Qe ?_
  have hge2:=Qk hM2.own
  have hM7:MvN w1.heap.size w7 v7 (lm++[⟨3,i,vl,cs⟩]):=ZM.app (N:=w4.heap.size) hM2 (hs25.trans hs6) (Qq ho5 hs6) (by show cs.length≤_;omega) hz24 hz2 ho7 hs7 hn7
  refine Qw<|Qb<|x (Qx rfl rfl ⟨by omega,by omega⟩)<|Qe<|⟨(i+1,v7,lm++[⟨3,i,vl,cs⟩]),by simp only[];omega,⟨rfl,rfl,trivial⟩,hlt,((hs2.trans hs25).trans hs6).then hs7 (λb hb=>.inr (hge2 b hb).1),hM7,?_⟩
  simp only[]
  rw[List.map_append,hlm,htk,List.append_assoc]
  rfl
 have hklt:k<q.ts.length:=by have h27:(k:Int)<(q.ts.length:Int):=h26;omega
 have hsucc:(q.ts.take (k+1)).map (·.1)=(q.ts.take k).map (·.1)++[(q.ts[k]'hklt).1]:=by rw[List.take_succ_eq_append_getElem hklt,List.map_append];rfl
 have hlk:((q.ts.take k).map (·.1)).length=k:=by rw[List.length_map,List.length_take];omega
 refine Q8 (q.ts[k]'hklt) λy hy=>?_
 rw[hy] at hsucc
 refine Qi<|Qf<|Qg<|QU (Step (ob vl) w5) [(0,true),(1,true),(2,true),(3,true),(4,true),(5,true),(6,true),(7,true),(8,true),(9,true),(10,true),(11,true),(12,false),(13,false),(14,true),(15,false)] mixed (by rfl) (by kernel_rfl) (Step.drew _ _) ?_
 refine p (λ_=>Qa rfl)<|pq (λ_ hc=>Qd (hB55.step hc hn5) rfl rfl)<|p (λ_=>Qa rfl)<|pq (λ_ hc=>Qd (hB15.step hc hn1) rfl rfl)<|p (λ_=>Qn)<|Lg.pig (i:=i) rfl Xh h5v.cs.arr rfl rfl hlt λa79 h79=>?_
 rw[hq] at h79
 refine p (λ_=>Q7 rfl)<|pq (λ_ hc=>Qv ((h79.fld 1 q.v rfl).st hc) rfl)<|p (λ_=>Qn)<|Lg.pig (i:=k) rfl Yo (h5v.cs.each q hmem) rfl rfl hklt λa83 h83=>?_
 rw[hy] at h83
 refine p (λ_=>Q7 rfl)<|pq (λ_ hc=>Qv ((h83.fld 0 (.int .i64 y.1) rfl).st hc) rfl)<|pk<|QD (us:=[[.int .i64 y.1]]) rfl rfl (by decide) (by simp) ⟨rfl,rfl,trivial⟩ λb47 w7 hs7 hb47 hB47=>⟨((Step.drew _ _).trans hs7),?_⟩
 have hs57:Step [] w5 w7:=(Step.drew _ _).trans hs7
 have hz57:=hs57.size
 refine pk<|QY (news:=[.int .i64 y.1]) (L:=[]) (Qq ho5 hs57) rfl rfl rfl (hB47.at (by simp)) (by simp[Value.oneCell']) (by omega) (by omega) λv8 w8 ho8 hs8 hn8=>⟨(hs57.any (L:=ob vl)).trans' hs8,?_⟩
 refine p (λ_=>Qa rfl)<|pkl (hl:=by kernel_rfl)<|QG (j:=2) (u:=v8) ((hB55.ext hs57).step hs8 hn5) rfl rfl (by simp) (QF ho8) λw9 hs9 hB59=>pe ?_
 refine Qw<|Qb<|x (Qx rfl rfl ⟨by omega,by omega⟩)<|Qe<|⟨(k+1,v8),by simp only[];omega,⟨rfl,trivial⟩,hklt,((hs5.trans hs57).then hs8 (λb hb=>.inr (hgl b hb).1)).trans' hs9,hB59,?_⟩
 simp only[]
 rw[hsucc]
 exact Qt.snoc (Qj ho8 hs9 (λb hb=>by have:=(Qk ho8 b hb).1;simp only[List.mem_singleton];omega))
theorem KK (kd:Int) (m:Jt):∀(l:LN) (i:Nat),m∈Jn kd i l↔m.kd=kd∧(i:Int)≤m.ix∧m.ix<((i+l.length:Nat):Int)∧m.co=setK (l.getD (m.ix.toNat - i) 0) 8
 | [],i=>by simp[Jn];intros;omega
 | b::l,i=>by
  rw[Jn,List.mem_cons,KK kd m l (i+1),List.length_cons]
  constructor
  ·rintro (h | ⟨h1,h2,h3,h4⟩)
   ·subst h
    refine ⟨rfl,Int.le_refl _,by simp only[];omega,?_⟩
    rw[show (Int.toNat (i:Int)) - i=0 by omega]
    rfl
   ·refine ⟨h1,by omega,by omega,?_⟩
    rw[h4,show m.ix.toNat - i=m.ix.toNat - (i+1)+1 by omega]
    rfl
  ·rintro ⟨h1,h2,h3,h4⟩
   by_cases e:m.ix=(i:Int)
   ·left
    rw[show m.ix.toNat - i=0 by omega] at h4
    obtain ⟨a,b',c'⟩:=m
    simp only[] at h1 e h4
    subst h1;subst e
    rw[h4];rfl
   ·right
    refine ⟨h1,by omega,by omega,?_⟩
    rw[h4,show m.ix.toNat - i=m.ix.toNat - (i+1)+1 by omega]
    rfl
theorem Qeh {c:Zu}{m:Jt}:m∈mods c↔(1≤m.kd∧m.kd≤3)∧(0≤m.ix∧m.ix<((jP c m.kd).length:Int))∧m.co=setK ((jP c m.kd).getD m.ix.toNat 0) 8:=by
 unfold mods
 rw[List.mem_append,List.mem_append,KK,KK,KK]
 simp only[Nat.zero_add,Nat.sub_zero,Int.natCast_zero]
 unfold jP
 by_cases h1:m.kd=1
 ·simp[h1,and_assoc]
 ·by_cases h2:m.kd=2
  ·simp[h2,and_assoc]
  ·by_cases h3:m.kd=3
   ·simp[h3,and_assoc]
   ·simp[h1,h2,h3]
    intros;omega
def lkE (c:Zu) (m:Jt):Int:=if m.kd<1∨3<m.kd then 11 else if m.ix<0∨((jP c m.kd).length:Int)≤m.ix then 10 else if m∈lmd c then 0 else 13
theorem QgK {c:Zu}(h:D25 c) (m:Jt):mdE c m=lkE c m:=by
 unfold mdE lkE
 rw[if_neg (by rw[h.ck];decide)]
 split
 ·rfl
 ·split
  ·rfl
  ·rename_i h1 h2
   have e:(m.co=setK ((jP c m.kd).getD m.ix.toNat 0) 8)↔m∈lmd c:=by
    rw[←h.lmd,Qeh]
    exact ⟨λh=>⟨by omega,by omega,h⟩,λh=>h.2.2⟩
   simp only[e]
theorem Qgh {c:Zu}{k:Nat}(h1:1≤k) (h3:k≤3):cget [0,(c.rq.length:Int),(c.ex.length:Int),(c.cs.length:Int)] k=((jP c k).length:Int):=by
 have e:k=1∨k=2∨k=3:=by omega
 rcases e with e | e | e <;> subst e
 ·show (c.rq.length:Int)=((srR c).length:Int);unfold srR;rw[List.length_map]
 ·show (c.ex.length:Int)=((srX c).length:Int);unfold srX;rw[List.length_map]
 ·show (c.cs.length:Int)=((srC c).length:Int);unfold srC;rw[List.length_map]
set_option maxHeartbeats 4000000 in
theorem zH {w:World}{l:PwV}{kd ix:Int}{va:Option Addr}{n cp:Nat}(hl:PwA w l) (hm:n≤6→∃u:LI,u.length=n∧QM [] w.heap (.slice va n cp) u) (hkb:Kb w 4096) :
  QL prog 3 [.agg (YO l).toArray,.agg #[.int .i64 kd,.int .i64 ix,.slice va n cp]] w λr w'=>r=.bool true∧Step [] w w':=by
 refine QL.of_W func3 rfl ntmps3 results3 (by simp) ?_
 refine Qc<|xl rfl<|QR (us:=YO l) rfl λb1 w0 hs0 hb1 hB10=>xl rfl<|QR (us:=[.int .i64 kd,.int .i64 ix,.slice va n cp]) rfl λb3 w1 hs1 hb3 hB3=>Qe ?_
 have hs01:=hs0.trans hs1
 have hB1:=hB10.ext hs1
 have hll:(YO l).length=152:=QdR (l:=l.pl []) hl.n
 refine Qf<|QV (α:=Bool) [(14,26)] (λz=>[(26,.bool z)]) (λz w'=>Step [] w1 w'∧(z=false→l.n≤4∧n≤6)) (by rfl) ?_ ?_
 ·refine Qw<|xl rfl<|xf<|(UT (hkb.ext hs01)).mono ?_
  rintro r2 w2 ⟨rfl,hs2⟩
  refine xB (Zp rfl) (λh15=>absurd h15 (by decide)) (λh15=>?_)
  refine Qb<|x (Qr (hB1.ext hs2) rfl hll)<|xl rfl<|xf<|(QfH (l:=l) ⟨hl.n,hl.b,hl.f0,hl.f1,hl.f2,hl.bd,λhn=>by
   obtain ⟨rs,h1,h2⟩:=hl.r hn
   exact ⟨rs,h1,(h2.ext hs01).ext hs2⟩⟩).mono ?_
  rintro r3 w3 ⟨rfl,hs3⟩
  refine xB (Zp rfl) (λh19=>?_) (λh19=>?_)
  ·refine x (Ql rfl)<|Qb<|xs rfl<|xs rfl<|xs rfl<|xs rfl<|x (Ql rfl)<|xe ?_
   exact ⟨true,⟨rfl,trivial⟩,hs2.trans hs3,λh=>by cases h⟩
  have hn4:l.n≤4:=by simpa using h19
  refine x (Ql rfl)<|Qb<|x (Qa rfl)<|x (Qd ((hB3.ext hs2).ext hs3) rfl rfl)<|x (Ui rfl)<|x (ZF rfl rfl)<|x (Ql rfl)<|xe ?_
  exact ⟨decide ((n:Int) > 6),⟨rfl,trivial⟩,hs2.trans hs3,λh=>⟨hn4,by have:=of_decide_eq_false h;omega⟩⟩
 rintro z g w2 ⟨hs2,hz⟩
 have hs02:=hs01.trans hs2
 refine Q2 rfl (λh18=>?_) (λh18=>?_)
 ·refine Qc<|xl rfl<|xf<|(UT (hkb.ext hs02)).mono ?_
  rintro r3 w3 ⟨rfl,hs3⟩
  refine Qe ?_
  exact Qm ⟨[.bool true],⟨rfl,trivial⟩,rfl,hs02.trans hs3⟩
 have hn46:=hz h18
 refine Qi<|Exists.elim (hm hn46.2) λco hco=>?_
 refine Exists.elim (hl.pl hs02 hn46.1) λrs hpl=>?_
 refine Qc<|x (Qr (hB1.ext hs2) rfl hll)<|xl rfl<|xf<|(Qcr hpl.1).mono ?_
 rintro r3 w3 ⟨hs3,_,⟨c,rfl,rfl,hC⟩,hD⟩
 have hC3:=hC [] (by simp)
 refine xl rfl<|Qu (us:=ZW) rfl λb5 w4 hs4 hb5 hB5=>xl rfl<|Qo (us:=c.cells) hB5 rfl rfl rfl rfl hC3.ones λw5 hs5 hB55=>xe ?_
 have hs35:Step [] w3 w5:=hs4.then1 hs5 hb5
 have hs05:=(hs02.trans hs3).trans hs35
 have hC5:=hC3.ext hs35
 have hQ5:QM [] w5.heap (.slice va n cp) co:=hco.2.ext hs05
 have hB35:Q0 w5.heap b3 39 (Zn ⟨kd,ix,.slice va n cp,co⟩):=((hB3.ext hs2).ext hs3).ext hs35
 refine Qc<|Qe<|Qc<|x (Qa rfl)<|x (Qd hB55 rfl rfl)<|x (Qs hC5.rq.arr rfl)<|x (Qa rfl)<|x (Qd hB55 rfl rfl)<|x (Qs hC5.ex.arr rfl)<|x (Qa rfl)<|x (Qd hB55 rfl rfl)<|x (Qs hC5.cs.arr rfl) <|
  xl rfl<|QD (us:=[[.int .i64 0],[.int .i64 c.rq.length],[.int .i64 c.ex.length],[.int .i64 c.cs.length]]) rfl rfl (by decide) (by simp) ⟨rfl,rfl,rfl,rfl,rfl,rfl,rfl,rfl,trivial⟩ λb39 w6 hs6 hb39 hB39=>Qe ?_
 have hcnt:QM [] w6.heap (.slice (some ⟨b39,0,none⟩) 4 4) [0,(c.rq.length:Int),(c.ex.length:Int),(c.cs.length:Int)]:=hB39.arr (L:=[]) (by simp) (n:=4) (cap:=4) (sz:=1) rfl (by omega) (Nat.le_refl _)
 have hs06:=hs05.trans hs6
 have hC6:=hC5.ext hs6
 have hQ6:=hQ5.ext hs6
 have hB36:=hB35.ext hs6
 have hB56:=hB55.ext hs6
 have hrl:c.rq.length=c.cel.rq.length:=(List.length_map ..).symm
 have hxl:c.ex.length=c.cel.ex.length:=(List.length_map ..).symm
 have hkl:c.cs.length=c.cel.cs.length:=(List.length_map ..).symm
 have hol:c.co.length=c.cel.co.length:=(List.length_map ..).symm
 have hbr:c.rq.length≤2:=by rw[hrl];exact hD.r2
 have hbx:c.ex.length≤2:=by rw[hxl];exact hD.x2
 have hbk:c.cs.length≤1:=by rw[hkl];exact hD.k1
 have hbo:c.co.length≤3:=by rw[hol];exact hD.c3
 have hlk:=QgK hD ⟨kd,ix,co⟩
 have hun:lkE c.cel ⟨kd,ix,co⟩=if kd<1∨3<kd then 11 else if ix<0∨((jP c.cel kd).length:Int)≤ix then 10 else if (⟨kd,ix,co⟩:Jt)∈lmd c.cel then 0 else 13:=rfl
 refine Q8 (lkE c.cel ⟨kd,ix,co⟩) λE hE=>?_
 rw[hE] at hlk hun
 refine QV (α:=Int) [(6,6),(9,9),(40,73)] (λz=>[(6,.int .i64 z)]) (λz w'=>z=E∧Step [] w6 w') (by rfl) ?_ ?_
 ·refine Qg<|QV (α:=Bool) [(51,59)] (λz=>[(51,.bool z)]) (λz w'=>w'=w6∧(z=true↔kd<1∨3<kd)) (by rfl) ?_ ?_
  ·refine Qw<|x (Qa rfl)<|x (Qd hB36 rfl rfl)<|xb (QB rfl rfl) (λh54=>?_) (λh54=>?_)
   ·refine Qb<|xs rfl<|xs rfl<|xs rfl<|x (Ql rfl)<|Qe ?_
    exact ⟨true,⟨rfl,trivial⟩,rfl,λ_=>.inl h54,λ_=>rfl⟩
   refine Qb<|x (Qa rfl)<|x (Qd hB36 rfl rfl)<|x (ZF rfl rfl)<|x (Ql rfl)<|Qe ?_
   exact ⟨decide (kd > 3),⟨rfl,trivial⟩,rfl,λh=>.inr (of_decide_eq_true h),λh=>decide_eq_true (h.resolve_left h54)⟩
  rintro z g w7 ⟨rfl,hz⟩
  refine Q2 rfl (λh51=>?_) (λh51=>?_)
  ·rw[if_pos (hz.1 h51)] at hun
   refine Qw<|Qe ?_
   exact ⟨11,⟨rfl,trivial⟩,hun.symm,Step.refl _ _⟩
  have hkn:¬(kd<1∨3<kd):=λh=>by have:=hz.2 h;rw[h51] at this;cases this
  rw[if_neg hkn] at hun
  refine QV (α:=Bool) [(60,73)] (λz=>[(60,.bool z)]) (λz w'=>Step [] w7 w'∧(z=true↔ix<0∨((jP c.cel kd).length:Int)≤ix)) (by rfl) ?_ ?_
  ·refine exN (a:=kd) (by omega) λu hu=>?_
   have hg:=Qgh (c:=c.cel) (k:=u) (by omega) (by omega)
   rw[←hrl,←hxl,←hkl] at hg
   refine QU (Step [] w7) [(0,true),(1,true),(2,true),(3,true),(4,true),(5,true),(6,true),(7,true),(8,true),(9,true),(10,true),(11,true),(12,true),(13,true)] mixed (by rfl) (by kernel_rfl) (Step.drew _ _) ?_
   refine p (λ_=>Qa rfl)<|pq (λ_ hc=>Qd (hB36.ext hc) rfl rfl)<|pb (λ_=>QB rfl rfl) (λh63=>?_) (λh63=>?_)
   ·refine p (λ_=>Qn)<|ps<|ps<|ps<|ps<|ps<|ps<|ps<|ps<|p (λ_=>Ql rfl)<|p (λ_=>Qh)<|pe ?_
    exact ⟨true,⟨rfl,trivial⟩,Step.drew _ _,λ_=>.inl h63,λ_=>rfl⟩
   refine p (λ_=>Qn)<|p (λ_=>Qa rfl)<|pq (λ_ hc=>Qd (hB36.ext hc) rfl rfl)<|p (λ_=>Qn)<|p (λ_=>Qa rfl) <|
    pq (λ_ hc=>Qd (hB36.ext hc) rfl rfl)<|pic (i:=u) rfl hcnt rfl (congrArg (Value.int .i64) hu) (by have h4:([0,(c.rq.length:Int),(c.ex.length:Int),(c.cs.length:Int)]:LI).length=4:=rfl;omega) λa70 h70=>pq (λ_ hc=>Qv (h70.ext hc) rfl) <|
    p (λ_=>ZN rfl rfl)<|p (λ_=>Ql rfl)<|p (λ_=>Qh)<|pe ?_
   refine ⟨decide (ix≥cget [0,(c.rq.length:Int),(c.ex.length:Int),(c.cs.length:Int)] u),⟨rfl,trivial⟩,Step.drew _ _,?_⟩
   rw[hg,←hu]
   exact ⟨λh=>.inr (of_decide_eq_true h),λh=>decide_eq_true (h.resolve_left h63)⟩
  rintro z g w8 ⟨hs8,hz8⟩
  refine Q2 rfl (λh60=>?_) (λh60=>?_)
  ·rw[if_pos (hz8.1 h60)] at hun
   refine Qw<|Qe ?_
   exact ⟨10,⟨rfl,trivial⟩,hun.symm,hs8⟩
  have hin:¬(ix<0∨((jP c.cel kd).length:Int)≤ix):=λh=>by have:=hz8.2 h;rw[h60] at this;cases this
  rw[if_neg hin] at hun
  refine Qc<|Qe<|Qc ?_
  have hC8:=hC6.ext hs8
  refine x (Qr (hB56.ext hs8) rfl rfl)<|xl rfl<|xf<|(zC hC8 (by omega) (by omega)).mono ?_
  rintro r9 w9 ⟨hs9,ml,hM9,hme⟩
  have hml:ml.length≤8:=by
   have e:=congrArg List.length hme
   unfold lmd at e
   rw[List.length_map,List.length_append,List.length_append,KM,JS,JS,List.length_map,List.length_map,←hrl,←hxl,←hkl] at e
   omega
  have hA9:Zo [] w9.heap r9 ml.length 3 (ml.flatMap Zn):=hM9.arr (by omega) (by simp)
  rw[←hme] at hun
  refine x (Qs hA9 rfl)<|Qb<|xe ?_
  refine Qg<|QC (α:=Nat×Int) [(6,6),(9,9),(43,50)] (λz=>[(6,.int .i64 z.2),(43,.int .i64 z.1)]) (λz w'=>z.1≤ml.length∧Step [] w9 w'∧z.2=if (⟨kd,ix,co⟩:Jt)∈(ml.map MV.m).take z.1 then 0 else 13) (λz=>ml.length - z.1) (by rfl) (0,13) ⟨rfl,rfl,trivial⟩
   ⟨Nat.zero_le _,Step.refl _ _,by simp⟩ ?_
  rintro ⟨k,e⟩ g w10 ⟨hk,hs10,he⟩
  simp only[] at hk he
  refine Qc<|x (QB rfl rfl)<|xe ?_
  refine Qf<|QH rfl (λh44=>?_) (λh44=>?_)
  ·refine Qz ?_
   have hke:ml.length≤k:=by have h27:¬(k:Int)<(ml.length:Int):=h44;omega
   rw[List.take_of_length_le (by rw[List.length_map];exact hke)] at he
   exact ⟨e,⟨rfl,trivial⟩,he.trans hun.symm,(hs8.trans hs9).trans hs10⟩
  have hlt:k<ml.length:=by have h27:(k:Int)<(ml.length:Int):=h44;omega
  have hmem:=List.getElem_mem hlt
  have htk:(ml.map MV.m).take (k+1)=(ml.map MV.m).take k++[(ml[k]'hlt).m]:=by
   rw[List.take_succ_eq_append_getElem (by rw[List.length_map];exact hlt),List.getElem_map]
  refine Qi<|Qf<|Qg<|Qc<|xig zz (hA9.ext hs10) rfl rfl hlt λa45 h45=>?_
  refine Q8 (ml[k]'hlt) λq hq=>?_
  rw[hq] at h45 hmem htk
  have hqA:QM [] w10.heap q.v q.co:=(hM9.each q hmem [] (by simp)).ext hs10
  refine x (QJ h45 rfl rfl)<|xl rfl<|Qu (us:=[.int .i64 0,.int .i64 0,nS]) rfl λb9 w11 hs11 hb9 hB9=>xl rfl<|Qo (us:=Zn q) hB9 rfl rfl rfl rfl ⟨rfl,rfl,hqA.one,trivial⟩ λw12 hs12 hB912=>xe ?_
  have hs1012:Step [] w10 w12:=hs11.then1 hs12 hb9
  have hs612:=((hs8.trans hs9).trans hs10).trans hs1012
  refine Qc<|x (Qr hB912 rfl rfl)<|x (Qr (hB36.ext hs612) rfl rfl)<|xl rfl<|xf<|(Ke (q:=q) (q':=⟨kd,ix,.slice va n cp,co⟩) (hqA.ext hs1012) (hQ6.ext hs612)).mono ?_
  rintro r13 w13 ⟨rfl,hs13⟩
  refine xe ?_
  refine Q2 rfl (λh49=>?_) (λh49=>?_)
  rotate_left
  ·refine Qi<|Qw<|x (Qx rfl rfl ⟨by omega,by omega⟩)<|Qb<|xe ?_
   refine ⟨(k+1,e),by simp only[];omega,⟨rfl,rfl,trivial⟩,hlt,(hs10.trans hs1012).trans hs13,?_⟩
   simp only[]
   rw[he,htk]
   have hne:¬q.m=(⟨kd,ix,co⟩:Jt):=of_decide_eq_false h49
   simp only[List.mem_append,List.mem_singleton,show ¬(⟨kd,ix,co⟩:Jt)=q.m from λh=>hne h.symm,or_false]
  refine Qw<|Qe<|Qw<|x (Qx rfl rfl ⟨by omega,by omega⟩)<|Qb<|xe ?_
  refine ⟨(k+1,0),by simp only[];omega,⟨rfl,rfl,trivial⟩,hlt,(hs10.trans hs1012).trans hs13,?_⟩
  have heq:q.m=(⟨kd,ix,co⟩:Jt):=of_decide_eq_true h49
  simp only[]
  rw[htk,heq,if_pos (by simp)]
 rintro z g w7 ⟨rfl,hs7⟩
 have hs07:=hs06.trans hs7
 have hC7:=hC6.ext hs7
 have hQ7:=hQ6.ext hs7
 have hB37:=hB36.ext hs7
 have hB57:=hB56.ext hs7
 refine Qf<|Qc<|x (Qr hB57 rfl rfl)<|x (Qr hB37 rfl rfl)<|xl rfl<|xf<|(qH (q:=⟨kd,ix,.slice va n cp,co⟩) hC7 hQ7).mono ?_
 rintro r8 w8 ⟨hr8,hs8⟩
 replace hr8:r8=.int .i64 z:=hr8.trans (congrArg (Value.int .i64) hlk)
 subst hr8
 refine Qb<|x (Q9 rfl rfl)<|xe ?_
 refine Q6 rfl (λh78=>absurd rfl h78) (λh78=>?_)
 refine Qi<|Qf<|Qc<|Qb<|x (Q5 rfl rfl)<|xe ?_
 refine Q6 rfl (λh80=>?_) (λh80=>?_)
 ·refine Qc<|Qe ?_
  exact Qm ⟨[.bool true],⟨rfl,trivial⟩,rfl,hs07.trans hs8⟩
 have hz0:z≠0:=h80
 have hmc:mcE c.cel (⟨kd,ix,co⟩:Jt)=z:=by unfold mcE;rw[hlk,if_pos hz0]
 have hms:msE c.cel (⟨kd,ix,co⟩:Jt)=z:=by unfold msE;rw[hmc,if_pos hz0]
 refine Qi<|Qc<|x (Qr (hB57.ext hs8) rfl rfl)<|x (Qr (hB37.ext hs8) rfl rfl)<|xl rfl<|xf<|(yO (q:=⟨kd,ix,.slice va n cp,co⟩) (hC7.ext hs8) (hQ7.ext hs8)).mono ?_
 rintro r9 w9 ⟨hs9,us,hr9,_,_,hus,_⟩
 have hus5:us=ZW:=hus (by show mcE c.cel ⟨kd,ix,co⟩≠0;rw[hmc];exact hz0)
 subst hus5
 replace hr9:r9=.tuple #[.agg ZW.toArray,.int .i64 z]:=hr9.trans (by show (Value.tuple #[.agg ZW.toArray,.int .i64 (mcE c.cel ⟨kd,ix,co⟩)])=_;rw[hmc])
 subst hr9
 refine Qb<|x (Qp rfl rfl)<|x (Qp rfl rfl)<|xl rfl<|Qu (us:=ZW) rfl λb10 w10 hs10 hb10 hB10=>xl rfl<|Qo (us:=ZW) hB10 rfl rfl rfl rfl (by exact ⟨rfl,rfl,rfl,rfl,rfl,trivial⟩) λw11 hs11 hB1011=>Qe ?_
 have hs911:Step [] w9 w11:=hs10.then1 hs11 hb10
 have hs711:=(hs8.trans hs9).trans hs911
 refine Qc<|x (Qr (hB57.ext hs711) rfl rfl)<|x (Qr (hB37.ext hs711) rfl rfl)<|xl rfl<|xf<|(Qbj (q:=⟨kd,ix,.slice va n cp,co⟩) (hC7.ext hs711) (hQ7.ext hs711) (hkb.ext (hs07.trans hs711))).mono ?_
 rintro r12 w12 ⟨hs12,sa,st,sm,se,hr12,hon,_,hst⟩
 have hst0:st=0:=hst (by show msE c.cel ⟨kd,ix,co⟩≠0;rw[hms];exact hz0)
 subst hst0
 replace hr12:r12=.tuple #[.agg #[sa,.int .i64 0,sm,se],.int .i64 z]:=hr12.trans (by show (Value.tuple #[.agg #[sa,.int .i64 0,sm,se],.int .i64 (msE c.cel ⟨kd,ix,co⟩)])=_;rw[hms])
 subst hr12
 refine Qb<|x (Qp rfl rfl)<|x (Qp rfl rfl)<|xl rfl<|Qu (us:=Um) rfl λb12 w13 hs13 hb12 hB12=>xl rfl<|Qo (us:=[sa,.int .i64 0,sm,se]) hB12 rfl rfl rfl rfl ⟨hon.1,rfl,hon.2.1,hon.2.2.1,trivial⟩ λw14 hs14 hB1214=>Qe ?_
 have hs1214:Step [] w12 w14:=hs13.then1 hs14 hb12
 have hs1114:=hs12.trans hs1214
 have hs014:=(hs07.trans hs711).trans hs1114
 refine QV (α:=Unit) [(4,4),(93,109)] (λz=>[(4,.bool true)]) (λz w'=>w'=w14) (by rfl) ?_ ?_
 ·refine Qw<|Qb<|Qb<|xb (Q5 rfl rfl) (λh95=>?_) (λh95=>absurd rfl h95)
  refine Qb<|Qb<|Qb<|xb (Q5 rfl rfl) (λh99=>?_) (λh99=>absurd rfl h99)
  refine x (Ql rfl)<|Qb<|x (Qa rfl)<|x (Qd (hB1011.ext hs1114) rfl rfl)<|x (Ui rfl)<|x (Qa rfl)<|x (Qd hB1214 rfl rfl) <|
   x (Qx rfl rfl ⟨by decide,by decide⟩)<|x (Q5 rfl rfl)<|x (Ql rfl)<|Qe ?_
  exact ⟨(),⟨rfl,trivial⟩,rfl⟩
 rintro ⟨⟩ g w15 rfl
 exact Qm ⟨[.bool true],⟨rfl,trivial⟩,rfl,hs014⟩
theorem YA {a b:Bool}(h1:a=true) (h2:b=true):(a && b)=true:=by rw[h1,h2];rfl
theorem zL {P:Program} {f:FuncId} {fn:Func} {s:ChangeSpec} {c:OpenClaim} (h1:(c.wf (OpenSpec.ofChange s))=true) (h2:(laidOutB P)=true) (h3:(mapsRowed P)=true) (h4:(fn.params.all (P.readableRec ·))=true) (h5:(namedTie P c.named s.vars)=true) (h6:((c.stops == []))=true) (h7:((P.stops == []))=true) (h8:((c.knobs == []))=true) (h9:((P.stopKnobs == []))=true) (h10:((c.inPlace == P.inPlace f))=true) (h11:((c.unfollowed == P.unfollowed f))=true) (h12:((c.recurses == P.recurses f))=true) (h13:((c.named == P.varsNamed f))=true) (h14:((c.maps == (fn.params.toList++s.plain.varTypes P).any (P.mapsRec ·)))=true) (h15:((c.ifaces == (fn.params.toList++s.plain.varTypes P).any (P.ifacesRec ·)))=true) (h16:((c.mapsOut == P.mapsAmong fn.resultTypes.toList))=true) (h17:((c.loops == (fn.params.toList++s.plain.varTypes P).any (P.loopsFrom ·)))=true) (h18:((c.wideKeys == (fn.params.toList++s.plain.varTypes P++fn.resultTypes.toList).any (P.wideKeysFrom ·)))=true) (h19:(s.vars.all (P.varReadable ·))=true) (h20:(fn.resultTypes.all (λt=>P.readableRec t && decide (t<P.types.size)))=true) (h21:((c.ifacesOut == fn.resultTypes.toList.any (P.ifacesRec ·)))=true) (h22:((c.loopsOut == fn.resultTypes.toList.any (P.loopsFrom ·)))=true) (h23:((c.plainKeys == P.plainKeys))=true) (h24:(c.shortTexts.isNone)=true) (h25:(P.stopsHeard)=true) (h26:(P.mayEnter)=true) (h27:((c.lifted == P.liftsFinal))=true) (h28:((P.make == some c.make))=true) (h29:((c.kinds == (if c.domain.isEmpty then [] else fn.params.toList.map λt=>match P.underlying t with | some (.int k)=>some k | _=>none)))=true) (h30:((c.pinned == c.pinnedBy))=true) (h31:((c.veiled == (fn.params.toList++s.plain.varTypes P++fn.resultTypes.toList).any (P.veiledRec ·)))=true) (h32:(c.veiledFits P fn.params.toList (fn.params.toList++s.plain.varTypes P++fn.resultTypes.toList))=true):joinedFacts P f fn s c=true:=by
 unfold joinedFacts
 exact (YA (YA (YA (YA (YA (YA (YA (YA (YA (YA (YA (YA (YA (YA (YA (YA (YA (YA (YA (YA (YA (YA (YA (YA (YA (YA (YA (YA (YA (YA (YA h1 h2) h3) h4) h5) h6) h7) h8) h9) h10) h11) h12) h13) h14) h15) h16) h17) h18) h19) h20) h21) h22) h23) h24) h25) h26) h27) h28) h29) h30) h31) h32)
theorem Uu:laidOutB prog=true:=by kernel_rfl
theorem Qew:mapsRowed prog=true:=by kernel_rfl
theorem Qey:prog.stopsHeard=true:=by kernel_rfl
theorem Qez:prog.mayEnter=true:=by kernel_rfl
theorem Qex:(false == prog.liftsFinal)=true:=by kernel_rfl
theorem QgV:(prog.make == some Make.cut)=true:=by kernel_rfl
theorem QgZ:(Rows.moduleChecksRow.inPlace == prog.inPlace 3)=true:=by kernel_rfl
theorem QgY:(Rows.moduleChecksRow.unfollowed == prog.unfollowed 3)=true:=by kernel_rfl
theorem QgX:(Rows.moduleChecksRow.recurses == prog.recurses 3)=true:=by kernel_rfl
theorem QgW:(Rows.moduleChecksRow.named == prog.varsNamed 3)=true:=by kernel_rfl
theorem QiF:Rows.moduleChecksRow.wfByText (OpenSpec.ofChange Rows.moduleChecksSpec)=true:=by kernel_rfl
theorem QiI:Tryz.pinned.checked.prog.mainIs=some (true, "7f1d7774d707b6ca2907d0280b916f7dc62d5f843e98687e905a54f8355f1b07".toList):=by kernel_rfl
theorem QiH:prog.funcNamed "overseer/overseerlaw32.ModuleChecks" = some 3:=by kernel_rfl
theorem QiJ:false=prog.looks []:=by kernel_rfl
theorem QiG:([36,39].all λu=>!prog.wantsStandIn u)=true:=by kernel_rfl
theorem QiK:false=Rows.moduleChecksRow.goesBy Tryz.pinned.checked.prog:=by kernel_rfl
theorem Qkn {H:Type}{enc:TypeId×Value→H}{P:Program}{W:World}{base b0:Nat}{sp:Nat→Bool}{held:Bool}{t e:TypeId}{c:Value}{fuel:Nat}{x:DataW H×List MemPlace}(ht:P.underlying t=some (.slice e)) (he:P.underlying e=some (.int .i64)) (hc:P.cellsOf e=1)
  (hok:Cell.okWide P W .any base t c) (htr:DataW.trod enc P W b0 sp held fuel t [c]=some x):∃a n cp,c=.slice a n cp∧(n≤12→∃u:LI,u.length=n∧QM [] W.heap (.slice a n cp) u):=by
 rcases open_ints ht he hc htr with ⟨hcs,_⟩ | ⟨a,len,cap,zs,hcs,_,hl,_,hz,_,hcell,_⟩
 ·simp at hcs
  subst hcs
  exact ⟨none,0,0,rfl,λ_=>⟨[],rfl,Zo.nil _ _ _⟩⟩
 ·simp at hcs
  subst hcs
  have hzl:len≤zs.length:=by rw[hz];split <;> omega
  refine ⟨some a,len,cap,rfl,λh12=>⟨zs.take len,by simp;omega,?_⟩⟩
  have hlen:(zs.take len).length=len:=by simp;omega
  unfold QM
  rw[hlen]
  refine ⟨by simp;omega,by omega,.inr ⟨a,cap,rfl,hl,by simp,QaT ht hok,λj v hv=>?_⟩⟩
  rw[List.getElem?_map,List.getElem?_take] at hv
  split at hv
  ·rename_i hj
   have h1:=hcell j (by omega)
   have h2:zs[j]?=some (zs.getD j 0):=by simp[List.getD,show j<zs.length by omega]
   rw[h2] at hv
   simp at hv
   rw[←Xa,h1,←hv]
   simp[List.getD,show j<zs.length by omega]
  ·cases hv
theorem QcP {H:Type}{enc:TypeId×Value→H}{P:Program}{W:World}{base b0:Nat}{sp:Nat→Bool}{held:Bool}{v:Value}{d:DataW H}{ps:List MemPlace}{t ti tl:Nat}{fs:Array Field}{f2:Field}(hu:P.underlying t=some (.struct fs)) (hts':P.cellTypes P.depth t=some [ti,ti,tl]) (hc:P.cellsOf t=3)
  (g2:fs[2]?=some f2) (h2t:f2.type=tl) (o2:f2.offset=2) (c2:P.cellsOf tl=1) (hi:P.underlying ti=some (.int .i64)) (hci:P.cellsOf ti=1) (hl:P.underlying tl=some (.slice ti))
  (hval:Value.okWide P W .any base t v) (h:DataW.Trod enc P W b0 sp held t v d ps):∃(kd ix:Int) (a:Option Addr) (n cp:Nat),v=.agg #[.int .i64 kd,.int .i64 ix,.slice a n cp]∧(n≤6→∃u:LI,u.length=n∧QM [] W.heap (.slice a n cp) u):=by
 simp only[Value.okWide,hu] at hval
 obtain ⟨cs,rfl,hsz,ts,hts,_,hcell⟩:=hval
 rw[hts] at hts'
 have hts2:=Option.some.inj hts'
 subst hts2
 rw[hc] at hsz
 obtain ⟨l⟩:=cs
 have hll:l.length=3:=hsz
 match l,hll with
 | [x0,x1,x2],_ =>
  obtain ⟨fuel,hf⟩:=h
  obtain ⟨xs,m,_,_,_,hxl,hfld⟩:=DataW.trod_struct hu hf
  have hf':∀(i:Nat) (f:Field),fs[i]?=some f→DataW.trod enc P W b0 sp held m f.type (([x0,x1,x2].drop f.offset).take (P.cellsOf f.type))=xs[i]?:=hfld
  have h2s:2<fs.size:=(Array.getElem?_eq_some_iff.1 g2).1
  obtain ⟨kd,rfl⟩:=QdX hi (Qa9 hcell 0 ti x0 rfl rfl)
  obtain ⟨ix,rfl⟩:=QdX hi (Qa9 hcell 1 ti x1 rfl rfl)
  have w2:=Qa9 hcell 2 tl x2 rfl rfl
  have t2:=QeQ (c:=x2) hf' 2 g2 h2t o2 c2 rfl (by omega)
  obtain ⟨a,n,cp,rfl,hP⟩:=Qkn hl hi hci w2 t2
  exact ⟨kd,ix,a,n,cp,rfl,λh6=>hP (by omega)⟩
set_option maxRecDepth 100000 in
theorem Qkm {H:Type}{enc:TypeId×Value→H}{W:World}{base b0:Nat}{sp:Nat→Bool}{held:Bool}{v:Value}{d:DataW H}{ps:List MemPlace}(hval:Value.okWide prog W .any base 39 v) (h:DataW.Trod enc prog W b0 sp held 39 v d ps) :
  ∃(kd ix:Int) (a:Option Addr) (n cp:Nat),v=.agg #[.int .i64 kd,.int .i64 ix,.slice a n cp]∧(n≤6→∃u:LI,u.length=n∧QM [] W.heap (.slice a n cp) u) :=
 QcP underlying39 (ti:=3) (tl:=37) (by kernel_rfl) (by kernel_rfl) rfl rfl rfl (by kernel_rfl) underlying3 (by kernel_rfl) underlying37 hval h
end Go.Proofs.YtdffckgdcegpaaaGreatDoor
