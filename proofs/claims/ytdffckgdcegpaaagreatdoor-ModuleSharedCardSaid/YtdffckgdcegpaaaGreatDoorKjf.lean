/- Merged out of 8 texts. -/
import Derived.Test.YtdffckgdcegpaaaGreatDoorKje
import Derived.Test.YtdffckgdcegpaaaGreatDoorKjb
import Derived.ChangeSlices
import Derived.WideShapes
import Derived.RowKit
import Derived.ProofKit
import Derived.Test.YtdffckgdcegpaaaGreatDoorKjd
import Derived.OpenShut
import Derived.ChangeArms
import Derived.Lib.LaidTab
import Derived.Stop.LaidErr
import Derived.MakeChecks
import Derived.Test.YtdffckgdcegpaaaGreatDoorRows
import Derived.JoinedOf
import Derived.Test.YtdffckgdcegpaaaGreatDoorCards
import Derived.SevenTiedAt
namespace Go.Proofs.YtdffckgdcegpaaaGreatDoor
open Go.ChangeShapes Go.WideShapes Go.RowKit Go.Lg
theorem Qac:∀(l:LV),(∀v∈l,∃n:Nat,v=.int .u8 (n:Int)∧n<256)→∃ns:LN,l=bys ns∧ns.length=l.length∧∀n∈ns,n<256
 | [],_=>⟨[],rfl,rfl,by simp⟩
 | v::l,h=>by
  obtain ⟨n,rfl,hn⟩:=h v List.mem_cons_self
  obtain ⟨ns,h1,h2,h3⟩:=Qac l (λv hv=>h v (List.mem_cons_of_mem _ hv))
  refine ⟨n::ns,by rw[h1];rfl,by simp[h2],λm hm=>?_⟩
  rcases List.mem_cons.1 hm with rfl | hm
  ·exact hn
  ·exact h3 m hm
theorem Qhy {n:Int}(h:(Lit.int .u8 n).wf=true):∃m:Nat,n=m∧m<256:=by
 simp only[Lit.wf,Bool.and_eq_true,decide_eq_true_eq] at h
 rw[show IntKind.u8.min=0 from rfl,show IntKind.u8.max=255 from rfl] at h
 exact ⟨n.toNat,by omega,by omega⟩
open Go.Proofs.Tryz
theorem QhK {w:World}{b:Nat}{s:TypeId×Nat}(h:w.shape? b=some s):b<w.heap.size:=by
 unfold World.shape? at h
 cases hb:w.heap[b]? with
 | none=>simp[hb] at h
 | some o=>exact (Array.getElem?_eq_some_iff.1 hb).1
theorem QgB {P:Program}{w:World}{base:Nat}{a:Addr}{e:TypeId}{n:Nat}(h:w.has P .any base a e n):a.block<w.heap.size:=by
 obtain ⟨_,_,row,cells,h1,_⟩:=h
 exact QhK h1
theorem QfN {P:Program}{w:World}{base:Nat}{t e:TypeId}{a:Addr}{n c:Nat}(ht:P.underlying t=some (.slice e)) (h:Cell.okWide P w .any base t (.slice (some a) n c)):a.block<w.heap.size:=by
 simp only[Cell.okWide,Cell.ok,ht] at h
 exact QgB h.2.2
theorem QdL {α:Type}{p:Nat→α→Prop}:∀(n:Nat),(∀i,i<n→∃e,p i e)→∃l:List α,l.length=n∧∀i (h:i<l.length),p i (l[i]'h)
 | 0,_=>⟨[],rfl,λi h=>by simp at h⟩
 | n+1,h=>by
  obtain ⟨l,h1,h2⟩:=QdL n (λi hi=>h i (by omega))
  obtain ⟨e,he⟩:=h n (by omega)
  refine ⟨l++[e],by simp[h1],λi hi=>?_⟩
  by_cases hil:i<l.length
  ·rw[List.getElem_append_left hil];exact h2 i hil
  ·have:i=n:=by simp at hi;omega
   subst this
   rw[List.getElem_append_right (by omega)]
   simpa[h1] using he
theorem Ue {α:Type}{f:α→Option Value}:∀{L:List α}{l:LV},L.mapM f=some l→l.length=L.length∧∀(i:Nat) (a:α),L[i]?=some a→f a=l[i]?
 | [],l,h=>by
  simp at h
  subst h
  exact ⟨rfl,λi a h=>by simp at h⟩
 | x::L,l,h=>by
  simp only[List.mapM_cons,Option.bind_eq_bind,Option.pure_def,Option.bind_eq_some_iff] at h
  obtain ⟨v,hv,l1,h1,h2⟩:=h
  cases h2
  obtain ⟨h3,h4⟩:=Ue h1
  refine ⟨by simp[h3],λi a hi=>?_⟩
  cases i with
  | zero=>simp at hi;subst hi;simpa using hv
  | succ i=>simpa using h4 i a (by simpa using hi)
def kT (P:Program) (k:IntKind):Nat→TypeId→Bool
 | 0,_=>false
 | m+1,t=>match P.underlying t with
  | some (.int k')=>k' == k
  | some (.array n e)=>kT P k m e && decide (0<P.cellsOf e) && decide (P.cellsOf t=n*P.cellsOf e)
  | some (.struct fs)=>(List.range (P.cellsOf t)).all λj=>fs.toList.any λf=>kT P k m f.type && decide (f.offset≤j∧j<f.offset+P.cellsOf f.type)
  | _=>false
theorem zJ {cs:LV}{o n j:Nat}{c:Value}(h:cs[j]?=some c) (h1:o≤j) (h2:j<o+n):c∈(cs.drop o).take n:=by
 refine List.mem_of_getElem? (i:=j - o) ?_
 rw[List.getElem?_take,if_pos (by omega),List.getElem?_drop,show o+(j - o)=j by omega]
 exact h
section
variable {H:Type} {enc:TypeId×Value→H} {P:Program} {W:World} {base b0:Nat} {sp:Nat→Bool} {held:Bool}
theorem KE {k:IntKind}:∀(m:Nat) {t:TypeId}{cs:LV}{fuel:Nat}{x:DataW H×List MemPlace},kT P k m t=true→DataW.trod enc P W b0 sp held fuel t cs=some x→∀c∈cs,∃n,c=.int k n∧(Lit.int k n).wf=true
 | 0,_,_,_,_,h,_,_,_=>by cases h
 | m+1,t,cs,fuel,x,h,hf,c,hc=>by
  unfold kT at h
  obtain ⟨j,hj,hjc⟩:=List.getElem_of_mem hc
  have hj':cs[j]?=some c:=by rw[List.getElem?_eq_getElem hj,hjc]
  split at h
  ·rename_i k' hu
   have hk:k'=k:=by simpa using h
   subst hk
   obtain ⟨n,h1,_,h2⟩:=DataW.trod_int hu hf
   rw[h1] at hc
   exact ⟨n,List.mem_singleton.1 hc,h2⟩
  ·rename_i n e hu
   simp only[Bool.and_eq_true,decide_eq_true_eq] at h
   obtain ⟨⟨h1,h2⟩,h3⟩:=h
   obtain ⟨xs,m',_,_,hl,hxl,hx⟩:=DataW.trod_array hu hf
   have hdiv:=Nat.div_add_mod j (P.cellsOf e)
   have hmod:=Nat.mod_lt j h2
   have hi:j / P.cellsOf e<n:=by
    refine (Nat.div_lt_iff_lt_mul h2).2 ?_
    omega
   have hxi:=hx (j / P.cellsOf e) hi
   rw[List.getElem?_eq_getElem (show j / P.cellsOf e<xs.length by omega)] at hxi
   rw[Nat.mul_comm] at hdiv
   exact KE m h1 hxi c (zJ hj' (by omega) (by omega))
  ·rename_i fs hu
   obtain ⟨xs,m',_,_,hl,hxl,hx⟩:=DataW.trod_struct hu hf
   have h1:=List.all_eq_true.1 h j (List.mem_range.2 (by omega))
   obtain ⟨f,hfm,h2⟩:=List.any_eq_true.1 h1
   simp only[Bool.and_eq_true,decide_eq_true_eq] at h2
   obtain ⟨i,hi,hif⟩:=List.getElem_of_mem hfm
   have hi2:i<fs.size:=by simpa using hi
   have hfi:fs[i]?=some f:=by rw[Array.getElem?_eq_getElem hi2,←hif];simp
   have hxi:=hx i f hfi
   rw[List.getElem?_eq_getElem (show i<xs.length by omega)] at hxi
   exact KE m h2.1 hxi c (zJ hj' h2.2.1 h2.2.2)
  ·cases h
theorem KO {k:IntKind}{m:Nat}{fs:Array Field}{cs:LV}{xs:List (DataW H×List MemPlace)}{m':Nat}(hxl:xs.length=fs.size)
  (hx:∀(i:Nat) (f:Field),fs[i]?=some f→DataW.trod enc P W b0 sp held m' f.type ((cs.drop f.offset).take (P.cellsOf f.type))=xs[i]?) {i j:Nat} {f:Field} {c:Value} (hf:fs[i]?=some f) (hk:kT P k m f.type=true) (h1:f.offset≤j) (h2:j<f.offset+P.cellsOf f.type) (hc:cs[j]?=some c) :
  ∃n,c=.int k n∧(Lit.int k n).wf=true:=by
 have hxi:=hx i f hf
 have hi:i<fs.size:=(Array.getElem?_eq_some_iff.1 hf).1
 rw[List.getElem?_eq_getElem (show i<xs.length by omega)] at hxi
 exact KE m hk hxi c (zJ hc h1 h2)
theorem QcJ {c:Value}(h:∃n,c=.int .u8 n∧(Lit.int .u8 n).wf=true):∃n:Nat,c=.int .u8 (n:Int)∧n<256:=by
 obtain ⟨n,rfl,h1⟩:=h
 obtain ⟨m,rfl,h2⟩:=Qhy h1
 exact ⟨m,rfl,h2⟩
end
theorem Qjm {P:Program}{W:World}{base:Nat}{ts:List TypeId}{cs:Array Value}(h:∀(i:Nat) (v:Value),cs[i]?=some v→∃u,ts[i % ts.length]?=some u∧Cell.okWide P W .any base u v) (i:Nat) (t:TypeId) (v:Value) (hv:cs[i]?=some v) (ht:ts[i % ts.length]?=some t):Cell.okWide P W .any base t v:=by
 obtain ⟨u,hu,k⟩:=h i v hv
 rw[ht] at hu
 cases hu
 exact k
theorem Qin {H:Type}{enc:TypeId×Value→H}{P:Program}{W:World}{b0 m:Nat}{sp:Nat→Bool}{held:Bool}{fs:Array Field}{cs:LV}{xs:List (DataW H×List MemPlace)}
  (h:∀(i:Nat) (f:Field),fs[i]?=some f→DataW.trod enc P W b0 sp held m f.type ((cs.drop f.offset).take (P.cellsOf f.type))=xs[i]?) (i:Nat) {f:Field} {t o:Nat} {c:Value} (hf:fs[i]?=some f) (ht:f.type=t) (ho:f.offset=o) (hc:P.cellsOf t=1) (hcs:(cs.drop o).take 1=[c]) (hi:i<xs.length) :
  DataW.trod enc P W b0 sp held m t [c]=some (xs[i]'hi):=by
 have e:=h i f hf
 rw[ht,ho,hc,hcs] at e
 rw[e];simp[hi]
theorem Qja {W:World}{l:List (String×DataW Unit)}{a b:String×DataW Unit}(hl:l=[a,b,("internal/strconv.uint64pow10",Lib.tabData .u64 Lib.pow10Tab)]) (h:laidMetH prog l W) (hp:(l.all λx=>x.2.handleName?.isNone)=true):Tb W:=by
 rw[Go.MakeChecks.laidMetH_plain _ _ _ hp,hl] at h
 exact Lib.tabIs_of_head (n:=20) (g:=0) (by kernel_rfl) (t:=410) (by kernel_rfl) (by kernel_rfl) (e:=340) (by kernel_rfl) (by kernel_rfl) (by kernel_rfl) h.tail.tail
structure PwV where
 ns:LN
 ad:Option Addr
 n:Nat
 cp:Nat
 f0:Int
 f1:Int
 f2:Int
 bd:Int
def PwV.pl (l:PwV) (rs:List X4V):PlV:=⟨l.ns,.slice l.ad l.n l.cp,rs,l.f0,l.f1,l.f2,l.bd⟩
abbrev YN (l:PwV):LV:=bys l.ns++[.slice l.ad l.n l.cp,.int .i8 l.f0,.int .i8 l.f1,.int .i8 l.f2,.int .i8 l.bd]
structure PwA (w:World) (l:PwV):Prop where
 n:l.ns.length=147
 b:∀n∈l.ns,n<256
 f0:i8R l.f0
 f1:i8R l.f1
 f2:i8R l.f2
 bd:i8R l.bd
 r:l.n≤4→∃rs:List X4V,rs.length=l.n∧Zo [] w.heap (.slice l.ad l.n l.cp) l.n 4 (rs.flatMap Ys)
theorem PwA.pl {w w':World}{l:PwV}(h:PwA w l) (hs:Step [] w w') (hn:l.n≤4):∃rs,PlA [] w'.heap (l.pl rs)∧rs.length=l.n:=by
 obtain ⟨rs,h1,h2⟩:=h.r hn
 exact ⟨rs,⟨h.n,h.b,by show Zo _ _ _ rs.length 4 _;rw[h1];exact h2.ext hs,h.f0,h.f1,h.f2,h.bd⟩,h1⟩
theorem Qjg {l:PwV}(h:l.ns.length=147):(YN l)[147]?=some (.slice l.ad l.n l.cp):=by
 show (YN l)[147+0]?=_
 rw[YN,List.getElem?_append_right (by rw[YE];omega),YE,h,Nat.add_sub_cancel_left];rfl
theorem Qa2 {c:Value}(h:∃n,c=.int .i8 n∧(Lit.int .i8 n).wf=true):∃n:Int,c=.int .i8 n∧i8R n:=by
 obtain ⟨n,rfl,h⟩:=h
 simp only[Lit.wf,Bool.and_eq_true,decide_eq_true_eq] at h
 rw[show IntKind.i8.min=-128 from rfl,show IntKind.i8.max=127 from rfl] at h
 exact ⟨n,rfl,by omega⟩
def Qhr (P:Program) (fs:Array Field) (n:Nat):Bool:=(List.range n).all λj=>fs.toList.any λf=>kT P .u8 5 f.type && decide (f.offset≤j∧j<f.offset+P.cellsOf f.type)
section
variable {H:Type} {enc:TypeId×Value→H} {P:Program} {W:World} {base b0:Nat} {sp:Nat→Bool} {held:Bool}
theorem QeT {fs:Array Field}{n m:Nat}{cs:LV}{xs:List (DataW H×List MemPlace)}(h:Qhr P fs n=true) (hxl:xs.length=fs.size)
  (hx:∀(i:Nat) (f:Field),fs[i]?=some f→DataW.trod enc P W b0 sp held m f.type ((cs.drop f.offset).take (P.cellsOf f.type))=xs[i]?) {j:Nat} {c:Value} (hj:j<n) (hc:cs[j]?=some c):∃k:Nat,c=.int .u8 (k:Int)∧k<256:=by
 have h1:=List.all_eq_true.1 h j (List.mem_range.2 hj)
 obtain ⟨f,hfm,h2⟩:=List.any_eq_true.1 h1
 simp only[Bool.and_eq_true,decide_eq_true_eq] at h2
 obtain ⟨i,hi,hif⟩:=List.getElem_of_mem hfm
 have hi2:i<fs.size:=by simpa using hi
 have hfi:fs[i]?=some f:=by rw[Array.getElem?_eq_getElem hi2,←hif];simp
 exact QcJ (KO hxl hx hfi h2.1 h2.2.1 h2.2.2 hc)
theorem QjO {t e:TypeId}{c:Value}{fuel:Nat}{x:DataW H×List MemPlace}(ht:P.underlying t=some (.slice e)) (he:kT P .u8 5 e=true) (hc:P.cellsOf e=4)
  (hok:Cell.okWide P W .any base t c) (htr:DataW.trod enc P W b0 sp held fuel t [c]=some x):∃a n cp,c=.slice a n cp∧(n≤12→∃u:List X4V,u.length=n∧Zo [] W.heap (.slice a n cp) n 4 (u.flatMap Ys)):=by
 rcases DataW.trod_slice ht htr with ⟨hcs,_⟩ | ⟨a,len,cap,elems,rest,m,_,hcs,_,_,hl,_,hel,hread,_,_⟩
 ·simp at hcs
  subst hcs
  exact ⟨none,0,0,rfl,λ_=>⟨[],rfl,Zo.nil _ _ _⟩⟩
 ·simp at hcs
  subst hcs
  refine ⟨some a,len,cap,rfl,λh12=>?_⟩
  have each:∀i,i<len→∃d:X4V,∀r v,(Ys d)[r]?=some v→W.cell? (a.add (i*4+r))=some v:=by
   intro i hi
   have hr:=hread i hi
   rw[hc,List.getElem?_eq_getElem (show i<elems.length by omega)] at hr
   obtain ⟨cs,hcs,htd⟩:=Option.bind_eq_some_iff.1 hr
   have hall:=KE 5 he htd
   obtain ⟨ns,h1,h2,h3⟩:=Qac cs (λv hv=>QcJ (hall v hv))
   unfold World.cells? at hcs
   split at hcs
   ·have hlen:cs.length=4:=by
     simpa using (Ue hcs).1
    refine ⟨⟨ns,by omega,h3⟩,λr v hv=>?_⟩
    have hv':cs[r]?=some v:=by rw[h1];exact hv
    have hrl:r<4:=by have:=(List.getElem?_eq_some_iff.1 hv').1;omega
    have h4:=(Ue hcs).2 r r (by simp[hrl])
    rw[Lg.Addr.add_add,hv'] at h4
    exact h4
   ·cases hcs
  obtain ⟨u,hul,hu⟩:=QdL len each
  refine ⟨u,hul,?_⟩
  have hfl:(u.flatMap Ys).length=u.length*4:=Go.Lg.JF Ys 4 VX u
  refine ⟨by rw[hfl,hul],by omega,.inr ⟨a,cap,rfl,by omega,by simp,QfN ht hok,λj v hv=>?_⟩⟩
  have hj:j<u.length*4:=by
   rw[←hfl]
   exact (List.getElem?_eq_some_iff.1 hv).1
  have hi:j / 4<u.length:=by omega
  have hat:=Xy Ys 4 VX u (j / 4) hi
  have hjr:j=j / 4*4+j % 4:=by omega
  have h3:(Ys (u[j / 4]'hi))[j % 4]?=some v:=by
   rw[←hat,List.getElem?_take,if_pos (Nat.mod_lt _ (by omega)),List.getElem?_drop,←hjr];exact hv
  rw[←X1]
  have:=hu (j / 4) hi (j % 4) v h3
  rw[←hjr] at this
  exact this
theorem Qcm {v:Value}{d:DataW H}{ps:List MemPlace}{t tp te:Nat}{fs:Array Field}{f7 f8 f9:Field}(hu:P.underlying t=some (.struct fs)) (hts':(P.cellTypes P.depth t).map (λts=>(ts.length,ts[147]?))=some (152,some tp)) (hc:P.cellsOf t=152)
  (g7:fs[7]?=some f7) (g8:fs[8]?=some f8) (g9:fs[9]?=some f9) (h7t:f7.type=tp) (o7:f7.offset=147) (o8:f8.offset=148) (o9:f9.offset=151) (c7:P.cellsOf tp=1) (c8:P.cellsOf f8.type=3) (c9:P.cellsOf f9.type=1)
  (kb:Qhr P fs 147=true) (k8:kT P .i8 5 f8.type=true) (k9:kT P .i8 5 f9.type=true) (hup:P.underlying tp=some (.slice te)) (hke:kT P .u8 5 te=true) (hce:P.cellsOf te=4)
  (hval:Value.okWide P W .any base t v) (h:DataW.Trod enc P W b0 sp held t v d ps):∃l:PwV,v=.agg (YN l).toArray∧PwA W l:=by
 simp only[Value.okWide,hu] at hval
 obtain ⟨cs,rfl,hsz,ts,hts,_,hcell⟩:=hval
 rw[hts] at hts'
 have hpr:=Option.some.inj hts'
 have htl:ts.length=152:=congrArg Prod.fst hpr
 have ht7:ts[147]?=some tp:=congrArg Prod.snd hpr
 rw[hc] at hsz
 obtain ⟨l⟩:=cs
 have hl:l.length=152:=hsz
 obtain ⟨fuel,hf⟩:=h
 obtain ⟨xs,m,_,_,_,hxl,hfld⟩:=DataW.trod_struct hu hf
 have hf':∀(i:Nat) (f:Field),fs[i]?=some f→DataW.trod enc P W b0 sp held m f.type ((l.drop f.offset).take (P.cellsOf f.type))=xs[i]?:=hfld
 have h7s:7<fs.size:=(Array.getElem?_eq_some_iff.1 g7).1
 have g0:∀c∈l.take 147,∃n:Nat,c=.int .u8 (n:Int)∧n<256:=λc hm=>by
  obtain ⟨j,hj,hjc⟩:=List.getElem_of_mem hm
  have hj2:j<147:=by simp at hj;omega
  have hjc':l[j]?=some c:=by
   rw[List.getElem_take] at hjc
   rw[List.getElem?_eq_getElem (by omega),hjc]
  exact QeT kb hxl hf' hj2 hjc'
 obtain ⟨ns,e1,e2,e3⟩:=Qac _ g0
 have hnl:ns.length=147:=by rw[e2];simp;omega
 have at5:∀j,j<152→∃c,l[j]?=some c:=λj hj=>⟨l[j]'(by omega),List.getElem?_eq_getElem (by omega)⟩
 obtain ⟨x1,q1⟩:=at5 147 (by omega)
 obtain ⟨x2,q2⟩:=at5 148 (by omega)
 obtain ⟨x3,q3⟩:=at5 149 (by omega)
 obtain ⟨x4,q4⟩:=at5 150 (by omega)
 obtain ⟨x5,q5⟩:=at5 151 (by omega)
 have hld:l.drop 147=[x1,x2,x3,x4,x5]:=by
  apply List.ext_getElem?
  intro i
  rw[List.getElem?_drop]
  match i with
  | 0=>exact q1
  | 1=>exact q2
  | 2=>exact q3
  | 3=>exact q4
  | 4=>exact q5
  | i+5=>rw[List.getElem?_eq_none (by omega)];rfl
 obtain ⟨y2,rfl,z2⟩:=Qa2 (KO hxl hf' g8 k8 (by omega) (by omega) q2)
 obtain ⟨y3,rfl,z3⟩:=Qa2 (KO hxl hf' g8 k8 (by omega) (by omega) q3)
 obtain ⟨y4,rfl,z4⟩:=Qa2 (KO hxl hf' g8 k8 (by omega) (by omega) q4)
 obtain ⟨y5,rfl,z5⟩:=Qa2 (KO hxl hf' g9 k9 (by omega) (by omega) q5)
 have w7:=Qjm hcell 147 tp x1 (by simpa using q1) (by rw[htl];exact ht7)
 have t7:=Qin (c:=x1) hf' 7 g7 h7t o7 c7 (by rw[hld];rfl) (by omega)
 obtain ⟨a,n,cp,rfl,hP⟩:=QjO hup hke hce w7 t7
 refine ⟨⟨ns,a,n,cp,y2,y3,y4,y5⟩,?_,hnl,e3,z2,z3,z4,z5,λh3=>hP (by have h4:n≤4:=h3;omega)⟩
 show Value.agg l.toArray=.agg (bys ns++_).toArray
 rw[←e1,←hld,List.take_append_drop]
end
set_option maxRecDepth 100000 in
theorem QjP {H:Type}{enc:TypeId×Value→H}{W:World}{base b0:Nat}{sp:Nat→Bool}{held:Bool}{v:Value}{d:DataW H}{ps:List MemPlace}(hval:Value.okWide prog W .any base 36 v) (h:DataW.Trod enc prog W b0 sp held 36 v d ps) :
  ∃l:PwV,v=.agg (YN l).toArray∧PwA W l :=
 Qcm underlying36 (tp:=32) (by kernel_rfl) (by kernel_rfl) rfl rfl rfl rfl rfl rfl rfl (by kernel_rfl) (by kernel_rfl) (by kernel_rfl) (by kernel_rfl) (by kernel_rfl) (by kernel_rfl) underlying32 (by kernel_rfl) (by kernel_rfl) hval h
theorem Qd8 {L:LN}{w:World}{v:Value}{l:LI}(h:QM L w.heap v l) (x:Int) :
  QL prog 21 [v,.int .i64 x] w λr w'=>r=.bool (decide (x∈l))∧w'=w:=by
 have hle:=h.le
 refine QL.of_W func21 rfl ntmps21 results21 (by simp) ?_
 refine Qc<|Lg.Qe<|Qf<|Qc<|Lg.Qe<|Qh<|QC (α:=Nat) [(4,17)] (λk=>[(5,.int .i64 k)]) (λk w'=>w'=w∧k≤l.length∧(x∈l↔x∈l.drop k)) (λk=>l.length - k) (by rfl) 0 ⟨rfl,trivial⟩ ⟨rfl,Nat.zero_le _,by simp⟩ ?_
 rintro k g w' ⟨rfl,hk,hm⟩
 refine Qf<|Qc<|Lg.Qb<|Lg.Qb<|Lg.x (Qr h rfl)<|Lg.x (QB rfl rfl)<|xe ?_
 refine QH rfl (λh9=>?_) (λh9=>?_)
 ·refine QA ?_
  refine Qc<|Lg.Qe<|Qm ⟨[.bool false],⟨rfl,trivial⟩,?_,rfl⟩
  rw[List.drop_of_length_le (by omega)] at hm
  simp[tup,hm]
 have hlt:k<l.length:=by omega
 have hd:=QW hlt
 refine Qi<|Qf<|Qh<|Qc<|Lg.Qb<|Lg.Qb<|xii h rfl rfl hlt λa14 h14=>Lg.x (Qv h14 rfl)<|Lg.Qb<|Lg.x (Q3 rfl rfl)<|xe ?_
 refine Q6 rfl (λh17=>?_) (λh17=>?_)
 ·refine Qc<|Lg.Qe<|Qm ⟨[.bool true],⟨rfl,trivial⟩,?_,rfl⟩
  have:x∈l:=by rw[hm,hd,h17];exact List.mem_cons_self
  simp[tup,this]
 refine Qi<|Qz<|Lg.Qb<|Lg.x (Qy rfl rfl ⟨by omega,by omega⟩)<|Lg.Qe<|⟨k+1,by omega,⟨rfl,trivial⟩,rfl,by omega,?_⟩
 rw[hm,hd,List.mem_cons]
 exact ⟨λh=>h.resolve_left (λe=>h17 e.symm),.inr⟩
theorem Qe5 {w:World}{l:PwV}(h:PwA w l):QL prog 13 [.agg (YN l).toArray] w λr w'=>r=.bool (decide (l.n≤4))∧Step [] w w':=by
 have g147:=Qjg h.n
 refine QL.of_W func13 rfl ntmps13 results13 (by simp) ?_
 refine Qc<|xl rfl<|QR (us:=YN l) rfl λb1 w1 hs1 hb1 hB1=>Qe<|Qc<|x (Qa rfl)<|x (Qd hB1 rfl g147)<|x (yo rfl)<|x (XN rfl rfl)<|Qe<|Qm ⟨[_],⟨rfl,trivial⟩,?_,hs1⟩
 exact congrArg Value.bool (decide_eq_decide.2 (by omega))
set_option maxRecDepth 100000 in
set_option maxHeartbeats 8000000 in
theorem zr {w:World}{l:PwV}(hl:PwA w l) (hkb:Kb w 4096) :
  QL prog 4 [.agg (YN l).toArray] w λr w'=>r=.bool true∧Step [] w w':=by
 refine QL.of_W func4 rfl ntmps4 results4 (by simp) ?_
 refine Qc<|xl rfl<|QR (us:=YN l) rfl λb1 w1 hs1 hb1 hB1=>Qe ?_
 have hll:(YN l).length=152:=Qdk (l:=l.pl []) hl.n
 refine Qf<|QU (α:=Unit) [(12,18)] (λz=>[(18,.bool (!decide (l.n≤4)))]) (λz w'=>Step [] w1 w') (by rfl) ?_ ?_
 ·refine Qz<|xl rfl<|xf<|(UK (hkb.ext hs1)).mono ?_
  rintro r2 w2 ⟨rfl,hs2⟩
  refine x (Zn rfl)<|Qb<|x (Qs (hB1.ext hs2) rfl hll)<|xl rfl<|xf<|(Qe5 (l:=l) ⟨hl.n,hl.b,hl.f0,hl.f1,hl.f2,hl.bd,λhn=>by
   obtain ⟨rs,h1,h2⟩:=hl.r hn
   exact ⟨rs,h1,(h2.ext hs1).ext hs2⟩⟩).mono ?_
  rintro r3 w3 ⟨rfl,hs3⟩
  refine x (Zn rfl)<|x (Ql rfl)<|xe ?_
  exact ⟨(),⟨rfl,trivial⟩,hs2.trans hs3⟩
 rintro ⟨⟩ g w2 hs2
 have hs02:=hs1.trans hs2
 refine Q5 rfl (λh18=>?_) (λh18=>?_)
 ·refine Qc<|xl rfl<|xf<|(UK (hkb.ext hs02)).mono ?_
  rintro r3 w3 ⟨rfl,hs3⟩
  refine Qe ?_
  exact Qm ⟨[.bool true],⟨rfl,trivial⟩,rfl,hs02.trans hs3⟩
 have hn4:l.n≤4:=by simpa using h18
 refine Qi<|Exists.elim (hl.pl hs02 hn4) λrs hpl=>?_
 refine Qc<|x (Qs (hB1.ext hs2) rfl hll)<|xl rfl<|xf<|(QbY hpl.1).mono ?_
 rintro r3 w3 ⟨hs3,_,⟨c,rfl,rfl,hC⟩,hD⟩
 have hC3:=hC [] (by simp)
 have hck:=hD.ck
 refine xl rfl<|Qu (us:=Ye) rfl λb3 w4 hs4 hb3 hB3=>xl rfl<|Qp (us:=c.cells) hB3 rfl rfl rfl rfl hC3.ones λw5 hs5 hB35=>xe ?_
 have hs35:Step [] w3 w5:=hs4.then1 hs5 hb3
 have hs05:=(hs02.trans hs3).trans hs35
 have hC5:=hC3.ext hs35
 have hcl:=hC5.co.arr.le
 have hel:=hC5.ev.arr.le
 refine Qc<|x (Qs hB35 rfl rfl)<|xl rfl<|xf<|(qQ hC5).mono ?_
 rintro r6 w6 ⟨hs6,hr6⟩
 have hsr:shR c.cel=shd c.cel (Jj c.ev.length):=by unfold shR;rw[if_neg (by rw[hck];decide)];rfl
 refine Zb (shR c.cel) λS hS=>?_
 rw[hck,hS] at hr6
 rw[hS] at hsr
 subst hr6
 refine Qb<|x (Qn rfl rfl)<|x (Qn rfl rfl)<|x (Qn rfl rfl)<|x (Qn rfl rfl)<|x (Qn rfl rfl)<|x Qg<|x Qg<|x Qg<|x Qg<|Qe ?_
 have hs06:=hs05.trans hs6
 have hC6:=hC5.ext hs6
 have hB36:=hB35.ext hs6
 refine Qf<|Qc<|Qe<|Qh<|QC (α:=Nat) [(2,2),(9,11),(30,83)] (λz=>[(9,.int .i64 z)]) (λz w'=>z≤c.ev.length∧Step [] w6 w'∧shd c.cel ((Jj c.ev.length).drop z)=S) (λz=>c.ev.length - z) (by rfl) 0 ⟨rfl,trivial⟩
  ⟨Nat.zero_le _,Step.refl _ _,hsr.symm⟩ ?_
 rintro k g w7 ⟨hk,hs7,hS7⟩
 have hB37:=hB36.ext hs7
 have h7:=hC6.ext hs7
 have hs07:=hs06.trans hs7
 refine Qf<|Qc<|Qb<|x (Qa rfl)<|x (Qd hB37 rfl rfl)<|x (Qr h7.ev.arr rfl)<|x (QB rfl rfl)<|xe ?_
 refine QH rfl (λh34=>?_) (λh34=>?_)
 ·refine QA ?_
  have hke:c.ev.length≤k:=by have h35:¬(k:Int)<(c.ev.length:Int):=h34;omega
  rw[List.drop_of_length_le (by rw[VL];exact hke)] at hS7
  have hS0:S=none:=hS7.symm
  subst hS0
  refine QU (α:=Unit) [(2,2),(84,97)] (λz=>[(2,.bool true)]) (λz w'=>w'=w7) (by rfl) ?_ ?_
  ·refine Qz<|Qb<|xb (Q3 rfl rfl) (λh85=>?_) (λh85=>absurd rfl h85)
   refine Qb<|Qb<|x (Zn rfl)<|x (Ql rfl)<|Qb<|Qb<|Qb<|x (Qy rfl rfl ⟨by decide,by decide⟩)<|Qb<|x (Qy rfl rfl ⟨by decide,by decide⟩)<|xb (Q3 rfl rfl) (λh96=>?_) (λh96=>absurd rfl h96)
   refine x (Ql rfl)<|Qe ?_
   exact ⟨(),⟨rfl,trivial⟩,rfl⟩
  rintro ⟨⟩ g w8 rfl
  exact Qm ⟨[.bool true],⟨rfl,trivial⟩,rfl,hs07⟩
 have hlt:k<c.ev.length:=by have h35:(k:Int)<(c.ev.length:Int):=h34;omega
 rw[zY hlt,yf] at hS7
 have how:ownr c.cel (k:Int)=ixs (λq:IV=>decide ((k:Int)∈q.p.a.al)) 0 c.co:=by
  show ixs (λx:Xq=>decide ((k:Int)∈x.a.al)) 0 (c.co.map (·.it))=_
  generalize 0=i0
  generalize c.co=l
  induction l generalizing i0 with
  | nil=>rfl
  | cons a l ih=>rw[List.map_cons,ixs,ixs,ih (i0+1)];rfl
 rw[how] at hS7
 refine Qi<|Qf<|Qh<|Qc<|Qe<|Qf<|Qc<|Qe<|Qh<|QC (α:=Nat×Value) [(10,11),(37,56)] (λz=>[(10,z.2),(11,.int .i64 z.1)]) (λz w'=>z.1≤c.co.length∧Step [] w7 w'∧Qt 3 w7.heap.size w' z.2 (ixs (λq:IV=>decide ((k:Int)∈q.p.a.al)) 0 (c.co.take z.1))) (λz=>c.co.length - z.1) (by rfl) (0,nS) ⟨rfl,rfl,trivial⟩
  ⟨Nat.zero_le _,Step.refl _ _,QO _ _ _ _⟩ ?_
 rintro ⟨i,v⟩ g w8 ⟨hi,hs8,ho8⟩
 simp only[] at hi ho8
 have hs08:=hs07.trans hs8
 have h8:=h7.ext hs8
 have hB38:=hB37.ext hs8
 have hz8:=hs8.size
 have hlen:=KG (λq:IV=>decide ((k:Int)∈q.p.a.al)) (c.co.take i) 0
 rw[List.length_take] at hlen
 refine Qf<|Qc<|Qb<|x (Qa rfl)<|x (Qd hB38 rfl rfl)<|x (Qr h8.co.arr rfl)<|x (QB rfl rfl)<|xe ?_
 refine QH rfl (λh41=>?_) (λh41=>?_)
 ·refine QA ?_
  have hie:c.co.length≤i:=by have h42:¬(i:Int)<(c.co.length:Int):=h41;omega
  rw[List.take_of_length_le hie] at ho8
  rw[List.take_of_length_le hie] at hlen
  refine Zb (ixs (λq:IV=>decide ((k:Int)∈q.p.a.al)) 0 c.co) λow how2=>?_
  rw[how2] at ho8 hlen hS7
  have hA:QM [] w8.heap v ow:=Qt.ints ho8 (by omega) (by simp)
  refine Qc<|Qb<|x (Qr hA rfl)<|x (ZH rfl rfl)<|xe ?_
  refine Q6 rfl (λh59=>?_) (λh59=>?_)
  ·have h2:2≤ow.length:=by have h60:(ow.length:Int) > 1:=h59;omega
   rw[if_pos h2] at hS7
   subst hS7
   have e0:cget ow 0=ow[0]'(by omega):=by unfold cget;simp[List.getD,show 0<ow.length by omega]
   have e1:cget ow 1=ow[1]'(by omega):=by unfold cget;simp[List.getD,show 1<ow.length by omega]
   refine QU (α:=Unit) [(2,2),(60,83)] (λz=>[(2,.bool true)]) (λz w'=>w'=w8) (by rfl) ?_ ?_
   ·refine Qz<|Qb<|xb (Q3 rfl rfl) (λh61=>?_) (λh61=>absurd rfl h61)
    refine Qb<|Qb<|x (Ql rfl)<|Qb<|Qb<|Qb<|xb (Q3 rfl rfl) (λh68=>?_) (λh68=>absurd rfl h68)
    refine x (Ql rfl)<|Qb<|Qb<|Qb<|xii (i:=0) hA rfl rfl (by omega) λa73 h73=>x (Qv h73 rfl)<|xb (Q3 rfl rfl) (λh75=>?_) (λh75=>absurd e0 h75)
    refine x (Ql rfl)<|Qb<|Qb<|Qb<|xii (i:=1) hA rfl rfl (by omega) λa80 h80=>x (Qv h80 rfl)<|xb (Q3 rfl rfl) (λh82=>?_) (λh82=>absurd e1 h82)
    refine x (Ql rfl)<|Qe ?_
    exact ⟨(),⟨rfl,trivial⟩,rfl⟩
   rintro ⟨⟩ g w9 rfl
   exact Qm ⟨[.bool true],⟨rfl,trivial⟩,rfl,hs08⟩
  have h2:¬2≤ow.length:=by have h60:¬(ow.length:Int) > 1:=h59;omega
  rw[if_neg h2] at hS7
  refine Qi<|Qz<|Qb<|x (Qy rfl rfl ⟨by omega,by omega⟩)<|Qe ?_
  exact ⟨k+1,by omega,⟨rfl,trivial⟩,hlt,hs7.trans hs8,hS7⟩
 have hlti:i<c.co.length:=by have h42:(i:Int)<(c.co.length:Int):=h41;omega
 have hmem:=List.getElem_mem hlti
 have hsucc:=Uj (λq:IV=>decide ((k:Int)∈q.p.a.al)) hlti
 refine Qi<|Qf<|Qh<|Qc<|x (Qa rfl)<|x (Qd hB38 rfl rfl)<|Qb<|xig (g:=Q9) (i:=i) YK h8.co.arr rfl rfl hlti λa47 h47=>?_
 refine Zb (c.co[i]'hlti) λq hq=>?_
 rw[hq] at h47 hmem hsucc
 have hqA:=h8.co.each q hmem
 refine x (Zf rfl)<|x (Zf rfl)<|x (Qv ((h47.from 1).fld 0 q.p.va rfl) rfl)<|Qb<|xl rfl<|xf<|(Qd8 hqA.al (k:Int)).mono ?_
 rintro r9 w9 ⟨rfl,rfl⟩
 refine xe ?_
 refine QH rfl (λh52=>?_) (λh52=>?_)
 ·rw[if_neg (by simpa using h52),List.append_nil] at hsucc
  refine Qi<|Qz<|Qb<|x (Qy rfl rfl ⟨by omega,by omega⟩)<|Qe ?_
  exact ⟨(i+1,v),by simp only[];omega,⟨rfl,rfl,trivial⟩,hlti,hs8,by simp only[];rw[hsucc];exact ho8⟩
 rw[if_pos (decide_eq_true h52)] at hsucc
 refine Qz<|Qb<|Qb<|xl rfl<|QD (us:=[[.int .i64 i]]) rfl rfl (by decide) (by simp) ⟨rfl,rfl,trivial⟩ λb55 w10 hs10 hb55 hB55=>?_
 have hz10:=hs10.size
 refine xl rfl<|Q2 (news:=[.int .i64 i]) (L:=[]) (Qq ho8 hs10) rfl rfl rfl (hB55.at (by simp)) (by simp[Value.oneCell']) (by omega) (by omega) λv11 w11 ho11 hs11 hn11=>Qe ?_
 have hge:=Qk ho8
 refine Qz<|Qb<|x (Qy rfl rfl ⟨by omega,by omega⟩)<|Qe<|⟨(i+1,v11),by simp only[];omega,⟨rfl,rfl,trivial⟩,hlti,(hs8.trans hs10).then hs11 (λb hb=>.inr (hge b hb).1),?_⟩
 simp only[]
 rw[hsucc];exact Qt.snoc ho11
theorem Yz {a b:Bool}(h1:a=true) (h2:b=true):(a && b)=true:=by rw[h1,h2];rfl
theorem zx {P:Program} {f:FuncId} {fn:Func} {s:ChangeSpec} {c:OpenClaim} (h1:(c.wf (OpenSpec.ofChange s))=true) (h2:(laidOutB P)=true) (h3:(mapsRowed P)=true) (h4:(fn.params.all (P.readableRec ·))=true) (h5:(namedTie P c.named s.vars)=true) (h6:((c.stops == []))=true) (h7:((P.stops == []))=true) (h8:((c.knobs == []))=true) (h9:((P.stopKnobs == []))=true) (h10:((c.inPlace == P.inPlace f))=true) (h11:((c.unfollowed == P.unfollowed f))=true) (h12:((c.recurses == P.recurses f))=true) (h13:((c.named == P.varsNamed f))=true) (h14:((c.maps == (fn.params.toList++s.plain.varTypes P).any (P.mapsRec ·)))=true) (h15:((c.ifaces == (fn.params.toList++s.plain.varTypes P).any (P.ifacesRec ·)))=true) (h16:((c.mapsOut == P.mapsAmong fn.resultTypes.toList))=true) (h17:((c.loops == (fn.params.toList++s.plain.varTypes P).any (P.loopsFrom ·)))=true) (h18:((c.wideKeys == (fn.params.toList++s.plain.varTypes P++fn.resultTypes.toList).any (P.wideKeysFrom ·)))=true) (h19:(s.vars.all (P.varReadable ·))=true) (h20:(fn.resultTypes.all (λt=>P.readableRec t && decide (t<P.types.size)))=true) (h21:((c.ifacesOut == fn.resultTypes.toList.any (P.ifacesRec ·)))=true) (h22:((c.loopsOut == fn.resultTypes.toList.any (P.loopsFrom ·)))=true) (h23:((c.plainKeys == P.plainKeys))=true) (h24:(c.shortTexts.isNone)=true) (h25:(P.stopsHeard)=true) (h26:(P.mayEnter)=true) (h27:((c.lifted == P.liftsFinal))=true) (h28:((P.make == some c.make))=true) (h29:((c.kinds == (if c.domain.isEmpty then [] else fn.params.toList.map λt=>match P.underlying t with | some (.int k)=>some k | _=>none)))=true) (h30:((c.pinned == c.pinnedBy))=true) (h31:((c.veiled == (fn.params.toList++s.plain.varTypes P++fn.resultTypes.toList).any (P.veiledRec ·)))=true) (h32:(c.veiledFits P fn.params.toList (fn.params.toList++s.plain.varTypes P++fn.resultTypes.toList))=true):joinedFacts P f fn s c=true:=by
 unfold joinedFacts
 exact (Yz (Yz (Yz (Yz (Yz (Yz (Yz (Yz (Yz (Yz (Yz (Yz (Yz (Yz (Yz (Yz (Yz (Yz (Yz (Yz (Yz (Yz (Yz (Yz (Yz (Yz (Yz (Yz (Yz (Yz (Yz h1 h2) h3) h4) h5) h6) h7) h8) h9) h10) h11) h12) h13) h14) h15) h16) h17) h18) h19) h20) h21) h22) h23) h24) h25) h26) h27) h28) h29) h30) h31) h32)
theorem Ui:laidOutB prog=true:=by kernel_rfl
theorem QdW:mapsRowed prog=true:=by kernel_rfl
theorem QdY:prog.stopsHeard=true:=by kernel_rfl
theorem QdZ:prog.mayEnter=true:=by kernel_rfl
theorem QdX:(false == prog.liftsFinal)=true:=by kernel_rfl
theorem Qgp:(prog.make == some Make.cut)=true:=by kernel_rfl
theorem Qgt:(Rows.moduleSharedRow.inPlace == prog.inPlace 4)=true:=by kernel_rfl
theorem Qgs:(Rows.moduleSharedRow.unfollowed == prog.unfollowed 4)=true:=by kernel_rfl
theorem Qgr:(Rows.moduleSharedRow.recurses == prog.recurses 4)=true:=by kernel_rfl
theorem Qgq:(Rows.moduleSharedRow.named == prog.varsNamed 4)=true:=by kernel_rfl
theorem Qia:Rows.moduleSharedRow.wfByText (OpenSpec.ofChange Rows.moduleSharedSpec)=true:=by kernel_rfl
theorem Qid:Tryz.pinned.checked.prog.mainIs=some (true, "7f1d7774d707b6ca2907d0280b916f7dc62d5f843e98687e905a54f8355f1b07".toList):=by kernel_rfl
theorem Qic:prog.funcNamed "overseer/overseerlaw32.ModuleShared" = some 4:=by kernel_rfl
theorem Qie:false=prog.looks []:=by kernel_rfl
theorem Qib:([36].all λu=>!prog.wantsStandIn u)=true:=by kernel_rfl
theorem Qif:false=Rows.moduleSharedRow.goesBy Tryz.pinned.checked.prog:=by kernel_rfl
end Go.Proofs.YtdffckgdcegpaaaGreatDoor
