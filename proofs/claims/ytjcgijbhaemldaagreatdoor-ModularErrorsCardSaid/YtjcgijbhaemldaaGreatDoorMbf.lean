/- Merged out of 11 texts. -/
import Derived.Test.YtjcgijbhaemldaaGreatDoorMbe
import Derived.ChangeArms
import Derived.Lib.LaidTab
import Derived.Stop.LaidErr
import Derived.MakeChecks
import Derived.Test.YtjcgijbhaemldaaGreatDoorRows
import Derived.JoinedOf
import Derived.Test.YtjcgijbhaemldaaGreatDoorCards
import Derived.SevenTiedAt
namespace Go.Proofs.YtjcgijbhaemldaaGreatDoor
open Go.Proofs.Tryz
open Go.ChangeShapes Go.WideShapes Go.RowKit Go.Lg
theorem Qj8 {w:World}{b:Nat}{s:TypeId×Nat}(h:w.shape? b=some s):b<w.heap.size:=by
 unfold World.shape? at h;cases hb:w.heap[b]? with
 | none=>simp[hb]at h
 | some o=>exact(LB.1 hb).1
theorem QiA {P:Program}{w:World}{base:Nat}{a:Addr}{e:TypeId}{n:Nat}(h:w.has P .any base a e n):a.block<w.heap.size:=by
 obtain⟨_,_,row,cells,h1,_⟩:=h;exact Qj8 h1
theorem QhM {P:Program}{w:World}{base:Nat}{t e:TypeId}{a:Addr}{n c:Nat}(ht:P.underlying t=some (.slice e))(h:Cell.okWide P w .any base t (.slice (some a) n c)):a.block<w.heap.size:=by
 simp only[Cell.okWide,Cell.ok,ht]at h;exact QiA h.2.2
theorem QfF {α:Type}{p:Nat→α→Prop}:∀(n:Nat),(∀i,i<n→∃e,p i e)→∃l:List α,l.length=n∧∀i (h:i<l.length),p i (l[i]'h)
 | 0,_=>⟨[],O,λi h=>by simp at h⟩
 | n+1,h=>by
  obtain⟨l,h1,h2⟩:=QfF n (λi hi=>h i (by omega));obtain⟨e,he⟩:=h n (by omega);refine⟨l++[e],by simp[h1],λi hi=>?_⟩;by_cases E:i<l.length
  ·rw[L5 E];exact h2 i E
  have:i=n:=by simp at hi;omega
  subst this;rw[MH (by omega)];simpa[h1]using he
theorem U4 {α:Type}{f:α→Option Value}:∀{L:List α}{l:LV},L.mapM f=some l→l.length=L.length∧∀(i:Nat) (a:α),L[i]?=some a→f a=l[i]?
 | [],l,h=>by
  simp at h;subst h;exact⟨O,λi a h=>by simp at h⟩
 | x::L,l,h=>by
  simp only[List.mapM_cons,Option.bind_eq_bind,Option.pure_def,Option.bind_eq_some_iff]at h;obtain⟨v,E,G,h1,h2⟩:=h;cases h2
  obtain⟨h3,h4⟩:=U4 h1;refine⟨by simp[h3],λi a hi=>?_⟩;cases i with
  | zero=>simp at hi;subst hi;simpa using E
  | succ i=>simpa using h4 i a (by simpa using hi)
def kT (P:Program)(k:IntKind):Nat→TypeId→Bool
 | 0,_=>false
 | m+1,t=>match P.underlying t with
  | some (.int k')=>k' == k
  | some (.array n e)=>kT P k m e && decide (0<P.cellsOf e) && decide (P.cellsOf t=n*P.cellsOf e)
  | some (.struct fs)=>(List.range (P.cellsOf t)).all λj=>fs.toList.any λf=>kT P k m f.type && decide (f.offset≤j∧j<f.offset+P.cellsOf f.type)
  | _=>false
theorem jf {cs:LV}{o n j:Nat}{c:Value}(h:cs[j]?=some c)(h1:o≤j)(h2:j<o+n):c∈(cs.drop o).take n:=by
 refine Mf (i:=j - o) ?_;rw[LX,if_pos (by omega),MP,show o+(j - o)=j by omega];exact h
section
variable {H:Type}{enc:TypeId×Value→H}{P:Program}{W:World}{base b0:Nat}{sp:Nat→Bool}{held:Bool}
theorem Vo {k:IntKind}:∀(m:Nat) {t:TypeId}{cs:LV}{fuel:Nat}{x:DataW H×List MemPlace},kT P k m t=true→DataW.trod enc P W b0 sp held fuel t cs=some x→∀c∈cs,∃n,c=.int k n∧(Lit.int k n).wf=true
 | 0,_,_,_,_,h,_,_,_=>by cases h
 | m+1,t,cs,fuel,x,h,G,c,hc=>by
  unfold kT at h;obtain⟨j,hj,J⟩:=LG hc;have I:cs[j]?=some c:=by rw[LA hj,J]
  split at h
  ·rename_i k' hu;have hk:k'=k:=by simpa using h
   subst hk;obtain⟨n,h1,_,h2⟩:=DataW.trod_int hu G;rw[h1]at hc;exact⟨n,Lb.1 hc,h2⟩
  ·rename_i n e hu;simp only[Bool.and_eq_true,decide_eq_true_eq]at h;obtain⟨⟨h1,h2⟩,h3⟩:=h;obtain⟨xs,T,_,_,hl,U,hx⟩:=DataW.trod_array hu G;have V:=Nat.div_add_mod j (P.cellsOf e);have hg:=Nat.mod_lt j h2;have hi:j / P.cellsOf e<n:=by
    refine(Nat.div_lt_iff_lt_mul h2).2 ?_;omega
   have E:=hx (j / P.cellsOf e) hi;rw[LA (show j / P.cellsOf e<xs.length by omega)]at E;rw[Nat.mul_comm]at V;exact Vo m h1 E c (jf I (by omega) (by omega))
  ·rename_i fs hu;obtain⟨xs,T,_,_,hl,U,hx⟩:=DataW.trod_struct hu G;have h1:=LW.1 h j (M2.2 (by omega));obtain⟨f,Y,h2⟩:=Nt.1 h1;simp only[Bool.and_eq_true,decide_eq_true_eq]at h2;obtain⟨i,hi,ha⟩:=LG Y;have hb:i<fs.size:=by simpa using hi
   have he:fs[i]?=some f:=by rw[MI hb,←ha];simp
   have E:=hx i f he;rw[LA (show i<xs.length by omega)]at E;exact Vo m h2.1 E c (jf I h2.2.1 h2.2.2)
  cases h
theorem Vx {k:IntKind}{m:Nat}{fs:Array Field}{cs:LV}{xs:List (DataW H×List MemPlace)}{I:Nat}(J:xs.length=fs.size)
  (hx:∀(i:Nat) (f:Field),fs[i]?=some f→DataW.trod enc P W b0 sp held I f.type ((cs.drop f.offset).take (P.cellsOf f.type))=xs[i]?) {i j:Nat} {f:Field} {c:Value} (E:fs[i]?=some f) (hk:kT P k m f.type=true) (h1:f.offset≤j) (h2:j<f.offset+P.cellsOf f.type) (hc:cs[j]?=some c):
  ∃n,c=.int k n∧(Lit.int k n).wf=true:=by
 have G:=hx i f E;have hi:i<fs.size:=(LB.1 E).1;rw[LA (show i<xs.length by omega)]at G;exact Vo m hk G c (jf hc h1 h2)
theorem Qev {c:Value}(h:∃n,c=.int .u8 n∧(Lit.int .u8 n).wf=true):∃n:Nat,c=.int .u8 (n:Int)∧n<256:=by
 obtain⟨n,rfl,h1⟩:=h;obtain⟨m,rfl,h2⟩:=QjY h1;exact⟨m,O,h2⟩
end
theorem QlM {P:Program}{W:World}{base:Nat}{ts:List TypeId}{cs:Array Value}(h:∀(i:Nat) (v:Value),cs[i]?=some v→∃u,ts[i % ts.length]?=some u∧Cell.okWide P W .any base u v)(i:Nat)(t:TypeId)(v:Value)(E:cs[i]?=some v)(ht:ts[i % ts.length]?=some t):Cell.okWide P W .any base t v:=by
 obtain⟨u,hu,k⟩:=h i v E;rw[ht]at hu;cases hu
 exact k
theorem QkK {H:Type}{enc:TypeId×Value→H}{P:Program}{W:World}{b0 m:Nat}{sp:Nat→Bool}{held:Bool}{fs:Array Field}{cs:LV}{xs:List (DataW H×List MemPlace)}
  (h:∀(i:Nat) (f:Field),fs[i]?=some f→DataW.trod enc P W b0 sp held m f.type ((cs.drop f.offset).take (P.cellsOf f.type))=xs[i]?) (i:Nat) {f:Field} {t o:Nat} {c:Value} (E:fs[i]?=some f) (ht:f.type=t) (G:f.offset=o) (hc:P.cellsOf t=1) (I:(cs.drop o).take 1=[c]) (hi:i<xs.length):
  DataW.trod enc P W b0 sp held m t [c]=some (xs[i]'hi):=by
 have e:=h i f E;rw[ht,G,hc,I]at e;rw[e];simp[hi]
theorem Qlx {W:World}{l:List (String×DataW Unit)}{a b:String×DataW Unit}(hl:l=[a,b,("internal/strconv.uint64pow10",Lib.tabData .u64 Lib.pow10Tab)]) (h:laidMetH prog l W) (hp:(l.all λx=>x.2.handleName?.isNone)=true):Tb W:=by
 rw[Go.MakeChecks.laidMetH_plain _ _ _ hp,hl]at h;exact Lib.tabIs_of_head (n:=20) (g:=0) (by kernel_rfl) (t:=375) (by kernel_rfl) (by kernel_rfl) (e:=334) (by kernel_rfl) (by kernel_rfl) (by kernel_rfl) h.tail.tail
structure PwV where
 ns:LN
 ad:Option Addr
 n:Nat
 cp:Nat
 f0:Int
 f1:Int
 f2:Int
 bd:Int
def PwV.pl (l:PwV)(rs:List X4V):PlV:=⟨l.ns,.slice l.ad l.n l.cp,rs,l.f0,l.f1,l.f2,l.bd⟩
abbrev Y5 (l:PwV):LV:=bys l.ns++[.slice l.ad l.n l.cp,.int .i8 l.f0,.int .i8 l.f1,.int .i8 l.f2,.int .i8 l.bd]
structure PwA (w:World)(l:PwV):Prop where
 n:l.ns.length=147
 b:∀n∈l.ns,n<256
 f0:i8R l.f0
 f1:i8R l.f1
 f2:i8R l.f2
 bd:i8R l.bd
 r:l.n≤4→∃rs:List X4V,rs.length=l.n∧Zv [] w.heap (.slice l.ad l.n l.cp) l.n 4 (rs.flatMap Yz)
theorem PwA.pl {w w':World}{l:PwV}(h:PwA w l)(hs:Step [] w w')(E:l.n≤4):∃rs,PlA [] w'.heap (l.pl rs)∧rs.length=l.n:=by
 obtain⟨rs,h1,h2⟩:=h.r E;exact⟨rs,⟨h.n,h.b,by show Zv _ _ _ rs.length 4 _;rw[h1];exact h2.ext hs,h.f0,h.f1,h.f2,h.bd⟩,h1⟩
theorem QlG {l:PwV}(h:l.ns.length=147):(Y5 l)[147]?=some (.slice l.ad l.n l.cp):=by
 show(Y5 l)[147+0]?=_;rw[Y5,Mq (by rw[YQ];omega),YQ,h,MT];rfl
theorem QcT {c:Value}(h:∃n,c=.int .i8 n∧(Lit.int .i8 n).wf=true):∃n:Int,c=.int .i8 n∧i8R n:=by
 obtain⟨n,rfl,h⟩:=h;simp only[Lit.wf,Bool.and_eq_true,decide_eq_true_eq]at h;rw[show IntKind.i8.min=-128 from rfl,show IntKind.i8.max=127 from rfl]at h;exact⟨n,O,by omega⟩
def QjP (P:Program)(fs:Array Field)(n:Nat):Bool:=(List.range n).all λj=>fs.toList.any λf=>kT P .u8 5 f.type && decide (f.offset≤j∧j<f.offset+P.cellsOf f.type)
section
variable {H:Type}{enc:TypeId×Value→H}{P:Program}{W:World}{base b0:Nat}{sp:Nat→Bool}{held:Bool}
theorem QgP {fs:Array Field}{n m:Nat}{cs:LV}{xs:List (DataW H×List MemPlace)}(h:QjP P fs n=true)(E:xs.length=fs.size)
  (hx:∀(i:Nat) (f:Field),fs[i]?=some f→DataW.trod enc P W b0 sp held m f.type ((cs.drop f.offset).take (P.cellsOf f.type))=xs[i]?) {j:Nat} {c:Value} (hj:j<n) (hc:cs[j]?=some c):∃k:Nat,c=.int .u8 (k:Int)∧k<256:=by
 have h1:=LW.1 h j (M2.2 hj);obtain⟨f,G,h2⟩:=Nt.1 h1;simp only[Bool.and_eq_true,decide_eq_true_eq]at h2;obtain⟨i,hi,I⟩:=LG G;have J:i<fs.size:=by simpa using hi
 have T:fs[i]?=some f:=by rw[MI J,←I];simp
 exact Qev (Vx E hx T h2.1 h2.2.1 h2.2.2 hc)
theorem Ql8 {t e:TypeId}{c:Value}{fuel:Nat}{x:DataW H×List MemPlace}(ht:P.underlying t=some (.slice e))(he:kT P .u8 5 e=true)(hc:P.cellsOf e=4)
  (V:Cell.okWide P W .any base t c) (Y:DataW.trod enc P W b0 sp held fuel t [c]=some x):∃a n cp,c=.slice a n cp∧(n≤12→∃u:List X4V,u.length=n∧Zv [] W.heap (.slice a n cp) n 4 (u.flatMap Yz)):=by
 rcases DataW.trod_slice ht Y with⟨E,_⟩|⟨a,len,cap,elems,rest,m,_,E,_,_,hl,_,hk,ha,_,_⟩
 ·simp at E;subst E;exact⟨none,0,0,O,λ_=>⟨[],O,Zv.nil _ _ _⟩⟩
 simp at E;subst E;refine⟨some a,len,cap,O,λhm=>?_⟩;have each:∀i,i<len→∃d:X4V,∀r v,(Yz d)[r]?=some v→W.cell? (a.add (i*4+r))=some v:=by
  intro i hi;have I:=ha i hi;rw[hc,LA (show i<elems.length by omega)]at I;obtain⟨cs,E,hb⟩:=Mk.1 I;have hf:=Vo 5 he hb;obtain⟨ns,h1,h2,h3⟩:=QbO cs (λv G=>Qev (hf v G));unfold World.cells? at E;split at E
  ·have hn:cs.length=4:=by
    simpa using(U4 E).1
   refine⟨⟨ns,by omega,h3⟩,λr v G=>?_⟩;have hv':cs[r]?=some v:=by rw[h1];exact G
   have hg:r<4:=by have:=(LY.1 hv').1;omega
   have h4:=(U4 E).2 r r (by simp[hg]);rw[Lg.Addr.add_add,hv']at h4;exact h4
  cases E
 obtain⟨u,J,hu⟩:=QfF len each;refine⟨u,J,?_⟩;have T:(u.flatMap Yz).length=u.length*4:=Go.Lg.Vy Yz 4 UG u;refine⟨by rw[T,J],by omega,.inr ⟨a,cap,rfl,by omega,λ_ _=>by simp,λ_ _=>QhM ht V,λj v G=>?_⟩⟩;have hj:j<u.length*4:=by
  rw[←T];exact(LY.1 G).1
 have hi:j / 4<u.length:=by omega
 have hh:=JF Yz 4 UG u (j / 4) hi;have U:j=j / 4*4+j % 4:=by omega
 have h3:(Yz (u[j / 4]'hi))[j % 4]?=some v:=by
  rw[←hh,LX,if_pos (Nat.mod_lt _ (by omega)),MP,←U];exact G
 rw[←Xz];have:=hu (j / 4) hi (j % 4) v h3;rw[←U]at this;exact this
theorem Qd8 {v:Value}{d:DataW H}{ps:List MemPlace}{t tp te:Nat}{fs:Array Field}{T f8 J:Field}(hu:P.underlying t=some (.struct fs))(ha:(P.cellTypes P.depth t).map (λts=>(ts.length,ts[147]?))=some (152,some tp))(hc:P.cellsOf t=152)
  (g7:fs[7]?=some T) (U:fs[8]?=some f8) (g9:fs[9]?=some J) (hk:T.type=tp) (o7:T.offset=147) (o8:f8.offset=148) (o9:J.offset=151) (c7:P.cellsOf tp=1) (c8:P.cellsOf f8.type=3) (c9:P.cellsOf J.type=1)
  (kb:QjP P fs 147=true) (V:kT P .i8 5 f8.type=true) (k9:kT P .i8 5 J.type=true) (hn:P.underlying tp=some (.slice te)) (ho:kT P .u8 5 te=true) (hp:P.cellsOf te=4)
  (hb:Value.okWide P W .any base t v) (h:DataW.Trod enc P W b0 sp held t v d ps):∃l:PwV,v=.agg (Y5 l).toArray∧PwA W l:=by
 simp only[Value.okWide,hu]at hb;obtain⟨cs,rfl,he,ts,hq,_,hr⟩:=hb;rw[hq]at ha;have hg:=Option.some.inj ha;have hs:ts.length=152:=congrArg Prod.fst hg;have ht:ts[147]?=some tp:=congrArg Prod.snd hg;rw[hc]at he;obtain⟨l⟩:=cs;have hl:l.length=152:=he;obtain⟨fuel,hf⟩:=h;obtain⟨xs,m,_,_,_,G,hv⟩:=DataW.trod_struct hu hf
 have E:∀(i:Nat) (f:Field),fs[i]?=some f→DataW.trod enc P W b0 sp held m f.type ((l.drop f.offset).take (P.cellsOf f.type))=xs[i]?:=hv;have h0:7<fs.size:=(LB.1 g7).1;have g0:∀c∈l.take 147,∃n:Nat,c=.int .u8 (n:Int)∧n<256:=λc hm=>by
  obtain⟨j,hj,hh⟩:=LG hm;have hw:j<147:=by simp at hj;omega
  have hy:l[j]?=some c:=by
   rw[M7]at hh;rw[LA (by omega),hh]
  exact QgP kb G E hw hy
 obtain⟨ns,e1,e2,e3⟩:=QbO _ g0;have hz:ns.length=147:=by rw[e2];simp;omega
 have I:∀j,j<152→∃c,l[j]?=some c:=λj hj=>⟨l[j]'(by omega),LA (by omega)⟩;obtain⟨Y,q1⟩:=I 147 (by omega);obtain⟨x2,q2⟩:=I 148 (by omega);obtain⟨x3,q3⟩:=I 149 (by omega);obtain⟨x4,q4⟩:=I 150 (by omega);obtain⟨x5,q5⟩:=I 151 (by omega);have hi:l.drop 147=[Y,x2,x3,x4,x5]:=by
  apply List.ext_getElem?;intro i;rw[MP]
  match i with
  | 0=>exact q1
  | 1=>exact q2
  | 2=>exact q3
  | 3=>exact q4
  | 4=>exact q5
  | i+5=>rw[Nh (by omega)];rfl
 obtain⟨y2,rfl,z2⟩:=QcT (Vx G E U V (by omega) (by omega) q2);obtain⟨y3,rfl,z3⟩:=QcT (Vx G E U V (by omega) (by omega) q3);obtain⟨y4,rfl,z4⟩:=QcT (Vx G E U V (by omega) (by omega) q4);obtain⟨y5,rfl,z5⟩:=QcT (Vx G E g9 k9 (by omega) (by omega) q5);have w7:=QlM hr 147 tp Y (by simpa using q1) (by rw[hs];exact ht)
 have t7:=QkK (c:=Y) E 7 g7 hk o7 c7 (by rw[hi];rfl) (by omega);obtain⟨a,n,cp,rfl,hP⟩:=Ql8 hn ho hp w7 t7;refine⟨⟨ns,a,n,cp,y2,y3,y4,y5⟩,?_,hz,e3,z2,z3,z4,z5,λh3=>hP (by have h4:n≤4:=h3;omega)⟩;show Value.agg l.toArray=.agg (bys ns++_).toArray;rw[←e1,←hi,My]
end
set_option maxRecDepth 100000 in
theorem Ql9 {H:Type}{enc:TypeId×Value→H}{W:World}{base b0:Nat}{sp:Nat→Bool}{held:Bool}{v:Value}{d:DataW H}{ps:List MemPlace}(E:Value.okWide prog W .any base 73 v)(h:DataW.Trod enc prog W b0 sp held 73 v d ps):
  ∃l:PwV,v=.agg (Y5 l).toArray∧PwA W l :=
 Qd8 underlying73 (tp:=69) (by kernel_rfl) (by kernel_rfl) O O O O O O O (by kernel_rfl) (by kernel_rfl) (by kernel_rfl) (by kernel_rfl) (by kernel_rfl) (by kernel_rfl) underlying69 (by kernel_rfl) (by kernel_rfl) E h
theorem Qg1 {w:World}{l:PwV}(h:PwA w l):QE prog 19 [.agg (Y5 l).toArray] w λr w'=>r=.bool (decide (l.n≤4))∧Step [] w w':=by
 have E:=QlG h.n;refine QE.of_W func19 O ntmps19 results19 (by simp) ?_;refine Qc<|xl O<|QP (us:=Y5 l) O λI J G T H=>Qe<|Qc<|x (Qa O)<|x (Qd H O E)<|x (KC O)<|x (Jj O O)<|Qe<|Qk ⟨[_],La,?_,G⟩;exact congrArg Value.bool (decide_eq_decide.2 (by omega))
end Go.Proofs.YtjcgijbhaemldaaGreatDoor
namespace Go.Lg
section
variable {P:Program}{ops:List Oper}{K:Fr→World→Prop}{f:Fr}{w:World}{d:Option Nat}{ty:Nat}{ps:String}{af:Array Edge}{gd:Option (Nat×Bool)}{t t':Nat}{x y:Operand}{k:IntKind}{a b:Int}
theorem QmH {C:World→Prop}{pl:List (Nat×Bool)}{E:Nat}{t e sz bys:Nat}{z:Value}{x G:Operand}{L:LN}{v:Value}{n:Nat}{cs:LV}{H:Array Obj}{k:IntKind}{hi:Nat}[h:Sl P t e sz bys z]
  (I:QO ops E=⟨d,.slice t x none (some G) none,ty,ps,af,gd⟩) (J:Zv L H v n sz cs) (hx:ev f x=v) (T:ev f G=.int k hi) (h1:hi≤n)
  (U:∀v',Zv L H v' hi sz (cs.take (hi*sz))→XP P ops C K pl (QY f d v') w)
  (V:Z2 ops f (QO ops E)=true:=by rfl):XP P ops C K ((E,true)::pl) f w:=by
 obtain⟨v',h3,h4⟩:=jU (P:=P) (d:=d) (ty:=ty) (ps:=ps) (af:=af) (gd:=gd) (t:=t) J hx T h1;exact Lg.p (λw'=>by rw[I];exact h4 w') (by rw[I];exact U v' h3) V
end
end Go.Lg
namespace Go.Proofs.YtjcgijbhaemldaaGreatDoor
open Go.Lg
end Go.Proofs.YtjcgijbhaemldaaGreatDoor
namespace Go.Lg
section
variable {P:Program}{f:Fr}{w:World}{d:Option Nat}{ty:Nat}{ps:String}{af:Array Edge}{gd:Option (Nat×Bool)}
theorem Qkc {t E:Nat}{x y:Operand}{k:IntKind}{a b:Int}(hx:ev f x=.int k a)(hy:ev f y=.int k b)(ha:0≤a)(hb:0<b)(G:inK k (a / b)):
  (execOp (ev f) ⟨d,.binOp .quo t x y E,ty,ps,af,gd⟩).run P w=.ok (.value (.int k (a / b))) w:=by
 refine YV hx hy ?_;have h1:¬b=0:=by omega
 simp[binOp,Op.intDiv,h1,Int.tdiv_eq_ediv_of_nonneg ha,YL G]
end
end Go.Lg
namespace Go.Proofs.YtjcgijbhaemldaaGreatDoor
open Go.Proofs.Tryz
open Go.Lg
theorem QdS {L:LN}{H:Array Obj}{v v':Value}{qs:List IV}{n:Nat}(h:Xt L H v qs)(E:n≤qs.length)(G:Zv L H v' n 5 ((qs.flatMap Zm).take (n*5))):Xt L H v' (qs.take n):=
 ⟨by rw[Lx,MN E,←QcW Zm 5 YZ];exact G,λq hq=>h.each q (LO hq),λq hq=>h.nm q (LO hq)⟩
theorem Xx {L:LN}{H:Array Obj}:QI L H (nS) []:=Zv.nil _ _ _
theorem Qjw:zA=.agg Jm.toArray:=rfl
set_option maxRecDepth 100000 in
set_option maxHeartbeats 8000000 in
theorem Qbw {w:World}{l:PwV}{nw:Nat}(hl:PwA w l)(hw:nw<256)(hp:Kb w 4096):
  QE prog 6 [.agg (Y5 l).toArray,.int .u8 (nw:Int)] w λr w'=>r=.bool true∧Step [] w w':=by
 have h5:(Y5 l).length=152:=Qki (l:=l.pl []) hl.n;refine QE.of_W func6 O ntmps6 results6 (by simp) ?_;refine Qc<|xl O<|QP (us:=Y5 l) O λb2 w1 hq k7 h6=>Qe<|Qg<|QZ (α:=Unit) [(21,27)] (λz=>[(27,.bool (!decide (l.n≤4)))]) (λz w'=>Step [] w1 w') (by rfl) ?_ ?_
 ·refine Qx<|xl O<|xf<|(U9 (hp.ext hq)).mono ?_;rintro r2 w2 ⟨rfl,hr⟩;refine x (Zp O)<|Qb<|x (Qo (h6.ext hr) O h5)<|xl O<|xf<|(Qg1 (l:=l) ⟨hl.n,hl.b,hl.f0,hl.f1,hl.f2,hl.bd,λhn=>by
   obtain⟨rs,h1,h2⟩:=hl.r hn;exact⟨rs,h1,(h2.ext hq).ext hr⟩⟩).mono ?_
  rintro r3 w3 ⟨rfl,hV⟩;refine x (Zp O)<|x (Qp O)<|xe ?_;exact⟨(),La,hr.trans hV⟩
 rintro⟨⟩ g w4 h7;have U:=hq.trans h7;refine QX rfl (λh8=>?_) (λh8=>?_)
 ·refine Qc<|xl O<|xf<|(U9 (hp.ext U)).mono ?_;rintro r5 w5 ⟨rfl,hW⟩;refine Qe ?_;exact Qk ⟨[_],La,O,U.trans hW⟩
 have hX:l.n≤4:=by simpa using h8
 refine Qi<|Exists.elim (hl.pl U hX) λrs hY=>?_;refine Qc<|x (Qo (h6.ext h7) O h5)<|xl O<|xf<|(QdO hY.1).mono ?_;rintro r6 w6 ⟨ga,_,⟨c,rfl,rfl,hC⟩,hD⟩;have hs:=hC [] (by simp);refine xl rfl<|Qr (us:=YN) O λb5 w7 hA V gb=>xl O<|Qm (us:=c.cells) gb O O O O hs.ones λG hB Y=>xe ?_;have hE:Step [] w6 G:=hA.then1 hB V;have gc:=U.trans ga
 have ha:ZH [b5] G.heap c:=((hs.up (L':=[b5]) λb hb=>.inr (by rw[Lb.1 hb];exact V)).ext hA).st hB;refine QZ (α:=CL) [(31,45)] (λz=>[]) (λz w'=>ZH [] w'.heap z∧QS w'.heap b5 37 z.cells∧Step [] w6 w') (by rfl) ?_ ?_
 ·refine Qc<|Qb<|x (Ve O O (by omega) (by decide))<|x (Zc O O)<|xe<|QD O (λge=>?_) (λge=>?_)
  ·refine Qx<|x (Qa O)<|xl O<|QC (j:=0) (u:=nS) Y O O (by simp) rfl λw9 hF gg=>xe ?_;have h9:=(ha.st hF).up (L':=[]) (by simp);exact⟨{ c with ve:=nS,ev:=[] },Z,⟨⟨Zv.nil _ _ _,by simp⟩,h9.co,h9.rq,h9.ex,h9.cs⟩,gg,hE.then1 hF V⟩
  have k8:0<c.co.length:=by
   have h1:c.cel.co.length=c.co.length:=Li _;have:=hD.c0;omega
  have k9:=hs.co.arr.le;have gh:0≤((nw:Int) / 2) % (c.co.length:Int):=Int.emod_nonneg _ (by omega);have ma:((nw:Int) / 2) % (c.co.length:Int)<(c.co.length:Int):=Int.emod_lt_of_pos _ (by omega);refine exN gh λhi gi=>?_
  refine QU (Step [] G) [(0,true),(1,true),(2,true),(3,true),(4,true),(5,true),(6,true),(7,true),(8,true),(9,true),(10,true),(11,false)] mixed (by rfl) (by kernel_rfl) (Step.drew _ _) ?_
  refine p (λ_=>Qa O)<|pq (λ_ hc=>Qd (Y.ext hc) O O)<|p (λ_=>Qn)<|p (λ_=>Qkc (k:=.u8) (a:=(nw:Int)) (b:=2) O O (by omega) (by decide) (show inK .u8 ((nw:Int) / 2) from⟨by omega,by omega⟩))<|p (λ_=>ZZ (k':=.i64) (n:=(nw:Int) / 2) O ⟨by omega,by omega⟩) <|
   p (λ_=>Qa O)<|pq (λ_ hc=>Qd (Y.ext hc) O O)<|p (λ_=>Qu ha.co.arr O)<|p (λ_=>Ve (k:=.i64) (a:=(nw:Int) / 2) (b:=(c.co.length:Int)) O O (by omega) (by omega)) <|
   QmH (hi:=hi) O ha.co.arr O (show Go.Lg.ev _ _=_ from congrArg (Value.int .i64) gi) (by omega) λv' hv'=>p (λ_=>Qa O)<|pkl (hl:=by kernel_rfl)<|QC (j:=1) (u:=v') Y O O (by simp) hv'.one λmc ht gj=>pe ?_
  have T:=(ZH.st (w:={ G with drawn:=G.drawn+1 }) ha ht).up (L':=[]) (by simp)
  have gk:=(Zv.st (w:={ G with drawn:=G.drawn+1 }) hv' ht).up (L':=[]) (by simp)
  exact⟨{ c with vc:=v',co:=c.co.take hi },Z,⟨T.ev,QdS T.co (by omega) gk,T.rq,T.ex,T.cs⟩,gj,(hE.trans (Step.drew _ _)).then1 ht V⟩
 rintro z g hu ⟨H,I,gl⟩;have hG:=gc.trans gl;have J:=hp.ext hG;have gm:YU z.cel≠0→pmE z.cel []=YU z.cel:=λh=>by unfold pmE;rw[if_pos h]
 have gn:YU z.cel≠0→mrE z.cel [] 0=YU z.cel:=λh=>by unfold mrE;rw[if_pos h]
 have go:YU z.cel≠0→cmE z.cel true=YU z.cel:=λh=>by rw[QgC,if_pos h]
 refine Qc<|x (Qo I O O)<|xl O<|xf<|(QaT H J).mono ?_;rintro mf gq ⟨gr,va,rfl,gs⟩;have gt:RA hu.heap.size gq.heap va (YU z.cel) (Xg z.cel):=gs;refine Exists.elim gt.shape λgu hv=>?_;have gv:=hv.1
 refine Qb<|x (Qj O O)<|x (Qj O O)<|xl O<|Qr (us:=Jm) O λb6 mg gx gy gz=>xl O<|Qm (us:=gu) gz O (show Go.Lg.ev _ _=_ from gv) hv.2.1 O hv.2.2 λg0 g1 mh =>
  Qe ?_
 have he:Step [] hu g0:=gr.trans (gx.then1 g1 gy);refine Qc<|x (Qo (I.ext he) O O)<|xl O<|xf<|(Ul (H.ext he) (J.ext he)).mono ?_;rintro mj mo ⟨g2,us,rfl,g3,g4,_,g5⟩;refine Qb<|x (Qj O O)<|x (Qj O O)<|xl O<|Qr (us:=rp0) O λb8 mq g6 g7 g8=>xl O<|Qm (us:=us) g8 O O g3 O g4 λhH g9 ka =>
  Qe ?_
 have hf:Step [] hu hH:=he.trans (g2.trans (g6.then1 g9 g7));refine Qc<|x (Qo (I.ext hf) O O)<|xl O<|xf<|(VJ (vw:=nS) (u:=[]) (H.ext hf) Xx (J.ext hf)).mono ?_;rintro ms mt ⟨hI,v9,rfl,kb,_⟩;refine Qb<|x (Qj O O)<|x (Qj O O)<|x Qf<|Qe ?_;have hg:=hf.trans hI
 refine Qc<|x (Qo (I.ext hg) O O)<|xl O<|xf<|(Vm (vw:=nS) (u:=[]) (H.ext hg) Xx 0 (J.ext hg)).mono ?_;rintro mu kc ⟨hJ,mv,rfl,ke,_⟩;refine Qb<|x (Qj O O)<|x (Qj O O)<|x Qf<|Qe ?_;have hh:=hg.trans hJ;refine Qc<|x (Qo (I.ext hh) O O)<|xl O<|xf<|(qY (H.ext hh) (J.ext hh)).mono ?_;rintro mw mx ⟨kf,my,rfl,hK⟩
 refine Exists.elim hK.shape λkg hy=>?_;have hL:=hy.1;refine Qb<|x (Qj O O)<|x (Qj O O)<|xl O<|Qr (us:=Jm) O λmz m0 kh ki kj=>xl O<|Qm (us:=kg) kj O (show Go.Lg.ev _ _=_ from hL) hy.2.1 O hy.2.2 λhM kk kn =>
  Qe ?_
 have hN:Step [] kc hM:=kf.trans (kh.then1 kk ki);have hj:=hh.trans hN;refine Qc<|x (Qo (I.ext hj) O O)<|xl O<|xf<|(qZ (H.ext hj) (J.ext hj)).mono ?_;rintro m1 m2 ⟨ko,m3,rfl,hO⟩;refine Exists.elim hO.shape λkp hz=>?_;have hP:=hz.1
 refine Qb<|x (Qj O O)<|x (Qj O O)<|xl O<|Qr (us:=Jm) O λb16 m4 kq kr kt=>xl O<|Qm (us:=kp) kt O (show Go.Lg.ev _ _=_ from hP) hz.2.1 O hz.2.2 λku kv kw =>
  Qe ?_
 have h0:Step [] hM ku:=ko.trans (kq.then1 kv kr);have hk:=hj.trans h0;refine Qc<|x (Qo (I.ext hk) O O)<|xl O<|xf<|(Uk true (H.ext hk) (J.ext hk)).mono ?_;rintro m5 h3 ⟨hm,m6,m7,rfl,kx,_⟩;refine Qb<|x (Qj O O)<|x (Qj O O)<|x (Qj O O)<|x Qf<|x Qf<|Qe ?_;have kz:=hk.trans hm;have hQ:=hG.trans kz
 refine Qg<|Qc<|Qb<|x (Zc O O)<|xe<|Q2 rfl (λho=>?_) (λho=>?_)
 ·refine QZ (α:=Unit) [(4,4),(84,89)] (λ_=>[(4,.bool true)]) (λ_ w'=>w'=h3) (by rfl) ?_ ?_
  ·refine Qx<|Qb<|x (YB O O ho)<|Qb<|Qb<|x (YB O O ho)<|x (Qp O)<|Qe ?_;exact⟨(),La,O⟩
  rintro _ m8 m9 rfl;exact Qk ⟨[.bool true],La,O,hQ⟩
 have E:YU z.cel≠0:=ho;have e9:=gm E;have hR:=gn E;have hS:=go E;obtain rfl:=g5 E;obtain rfl:=kb (by rw[e9];exact E);obtain rfl:=ke (by rw[hR];exact E);obtain⟨rfl,rfl⟩:=kx (by rw[hS];exact E);have k0:=(QgT kn hL ((hK.1 E).trans Qjw)).ext (h0.trans hm);have k4:=(QgT kw hP ((hO.1 E).trans Qjw)).ext hm
 have k5:Step [] hH h3:=((hI.trans hJ).trans (hN.trans h0)).trans hm;refine Qi<|QZ (α:=Unit) [(4,4),(90,163)] (λ_=>[(4,.bool true)]) (λ_ w'=>Step [] h3 w') (by rfl) ?_ ?_
 ·refine Qx<|x (Qo (ka.ext k5) O O)<|x (QK Z)<|xl O<|xf<|(Qdx (L1:=[]) (L2:=[]) (L3:=[]) (L4:=[]) (ps:=false) (nc:=false) (e:=0) (f:=0) (g:=0) (st:=0) (wd:=[]) (sts:=[]) Xx Xx Xx Xx).mono ?_;rintro pa pc ⟨rfl,h4⟩;have hT:=k0.ext h4;have hU:=k4.ext h4;refine Qb<|Qb<|Qb<|x (YB O O O)<|x (Qp O)<|Qb<|Qb<|x (KC O)<|x (YB O O O) <|
   x (Qp rfl)<|Qb<|Qb<|Qb<|x (YB O O e9)<|x (Qp O)<|Qb<|Qb<|x (KC O)<|x (YB O O O) <|
   x (Qp rfl)<|Qb<|Qb<|Qb<|x (YB O O hR)<|x (Qp O)<|Qb<|x (Qa O)<|x (Qd hT O O)<|x (YB O O O) <|
   x (Qp rfl)<|Qb<|x (Qa O)<|x (Qd hT O O)<|x (KC O)<|x (YB O O O)<|x (Qp O)<|Qb<|Qb<|Qb<|x (YB O O O) <|
   x (Qp rfl)<|Qb<|x (Qa O)<|x (Qd hU O O)<|x (YB O O O)<|x (Qp O)<|Qb<|x (Qa O)<|x (Qd hU O O)<|x (KC O)<|x (YB O O O) <|
   x (Qp rfl)<|Qb<|Qb<|Qb<|x (YB O O O)<|x (Qp O)<|Qb<|Qb<|x (KC O)<|x (YB O O O) <|
   x (Qp rfl)<|Qb<|Qb<|x (Zp O)<|x (Qp O)<|Qb<|Qb<|Qb<|x (YB O O hS)<|x (Qp O)<|Qe ?_
  exact⟨(),La,h4⟩
 rintro _ pd pf k6;exact Qk ⟨[.bool true],La,O,hQ.trans k6⟩
open Go.RowKit
theorem YG {a b:Bool}(h1:a=true)(h2:b=true):(a && b)=true:=by rw[h1,h2];rfl
theorem yY {P:Program}{f:FuncId}{fn:Func}{s:ChangeSpec}{c:OpenClaim}(h1:(c.wf (OpenSpec.ofChange s))=true)(h2:(laidOutB P)=true)(h3:(mapsRowed P)=true)(h4:(fn.params.all (P.readableRec ·))=true)(h5:(namedTie P c.named s.vars)=true)(E:((c.stops == []))=true)(G:((P.stops == []))=true)(H:((c.knobs == []))=true)(h9:((P.stopKnobs == []))=true)(I:((c.inPlace == P.inPlace f))=true)(J:((c.unfollowed == P.unfollowed f))=true)(T:((c.recurses == P.recurses f))=true)(U:((c.named == P.varsNamed f))=true)(V:((c.maps == (fn.params.toList++s.plain.varTypes P).any (P.mapsRec ·)))=true)(Y:((c.ifaces == (fn.params.toList++s.plain.varTypes P).any (P.ifacesRec ·)))=true)(ha:((c.mapsOut == P.mapsAmong fn.resultTypes.toList))=true)(hb:((c.loops == (fn.params.toList++s.plain.varTypes P).any (P.loopsFrom ·)))=true)(hc:((c.wideKeys == (fn.params.toList++s.plain.varTypes P++fn.resultTypes.toList).any (P.wideKeysFrom ·)))=true)(he:(s.vars.all (P.varReadable ·))=true)(hf:(fn.resultTypes.all (λt=>P.readableRec t && decide (t<P.types.size)))=true)(hg:((c.ifacesOut == fn.resultTypes.toList.any (P.ifacesRec ·)))=true)(hh:((c.loopsOut == fn.resultTypes.toList.any (P.loopsFrom ·)))=true)(hi:((c.plainKeys == P.plainKeys))=true)(hj:(c.shortTexts.isNone)=true)(hk:(P.stopsHeard)=true)(hl:(P.mayEnter)=true)(hm:((c.lifted == P.liftsFinal))=true)(hn:((P.make == some c.make))=true)(ho:((c.kinds == (if c.domain.isEmpty then[]else fn.params.toList.map λt=>match P.underlying t with|some (.int k)=>some k|_=>none)))=true)(hp:((c.pinned == c.pinnedBy))=true)(hq:((c.veiled == (fn.params.toList++s.plain.varTypes P++fn.resultTypes.toList).any (P.veiledRec ·)))=true)(hr:(c.veiledFits P fn.params.toList (fn.params.toList++s.plain.varTypes P++fn.resultTypes.toList))=true):joinedFacts P f fn s c=true:=by
 unfold joinedFacts;exact(YG (YG (YG (YG (YG (YG (YG (YG (YG (YG (YG (YG (YG (YG (YG (YG (YG (YG (YG (YG (YG (YG (YG (YG (YG (YG (YG (YG (YG (YG (YG h1 h2) h3) h4) h5) E) G) H) h9) I) J) T) U) V) Y) ha) hb) hc) he) hf) hg) hh) hi) hj) hk) hl) hm) hn) ho) hp) hq) hr)
theorem qa:laidOutB prog=true:=by kernel_rfl
theorem QfM:mapsRowed prog=true:=by kernel_rfl
theorem QfO:prog.stopsHeard=true:=by kernel_rfl
theorem QfP:prog.mayEnter=true:=by kernel_rfl
theorem QfN:(false == prog.liftsFinal)=true:=by kernel_rfl
theorem Qio:(prog.make == some Make.cut)=true:=by kernel_rfl
theorem Qis:(Rows.modularErrorsRow.inPlace == prog.inPlace 6)=true:=by kernel_rfl
theorem Qir:(Rows.modularErrorsRow.unfollowed == prog.unfollowed 6)=true:=by kernel_rfl
theorem Qiq:(Rows.modularErrorsRow.recurses == prog.recurses 6)=true:=by kernel_rfl
theorem Qip:(Rows.modularErrorsRow.named == prog.varsNamed 6)=true:=by kernel_rfl
theorem Qkv:Rows.modularErrorsRow.wfByText (OpenSpec.ofChange Rows.modularErrorsSpec)=true:=by kernel_rfl
theorem Qky:Tryz.pinned.checked.prog.mainIs=some (true, "0087da35e19dff2b1c72cbf1a82bebf57530b191c9b8d180c93c2df9ec22b342".toList):=by kernel_rfl
theorem Qkx:prog.funcNamed "overseer/overseerlaw34.ModularErrors" = some 6:=by kernel_rfl
theorem Qkz:false=prog.looks []:=by kernel_rfl
theorem Qkw:([73,5].all λu=>!prog.wantsStandIn u)=true:=by kernel_rfl
theorem QkA:false=Rows.modularErrorsRow.goesBy Tryz.pinned.checked.prog:=by kernel_rfl
open Go.ChangeShapes Go.WideShapes
theorem Qkj {P:Program}{W:World}{base t:Nat}{v:Value}(ht:P.underlying t=some (.int .u8))(h:Value.okWide P W .any base t v):∃n:Nat,v=.int .u8 (n:Int)∧n<256:=by
 obtain⟨n,rfl⟩:=okWide_int ht h;simp only[Value.okWide,ht,Cell.okWide,Cell.ok,IntKind.has,true_and]at h;rw[show IntKind.u8.min=0 from rfl,show IntKind.u8.max=255 from rfl]at h;exact⟨n.toNat,congrArg (Value.int .u8) (by omega),by omega⟩
end Go.Proofs.YtjcgijbhaemldaaGreatDoor
