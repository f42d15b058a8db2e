/- Merged out of 31 texts. -/
import Derived.Test.YtjcgijbhaemldaaGreatDoorMae
import Derived.Shelf.Lay
import Derived.Sort.Grow
import Derived.Deep.Draws
import Derived.Sort.Statements
import Derived.Tactics2
import Derived.Test.YtjcgijbhaemldaaGreatDoorRows
import Derived.JoinedOf
import Derived.Test.YtjcgijbhaemldaaGreatDoorCards
import Derived.SevenTiedAt
namespace Go.Proofs.YtjcgijbhaemldaaGreatDoor
open Go.Proofs.Tryz
open Go.ChangeShapes Go.WideShapes Go.RowKit Go.Lg
section
variable {H:Type}{enc:TypeId×Value→H}{P:Program}{W:World}{base b0:Nat}{sp:Nat→Bool}{held:Bool}
theorem QlC {t e:TypeId}{c:Value}{fuel:Nat}{x:DataW H×List MemPlace}(ht:P.underlying t=some (.slice e))(he:kT P .u8 5 e=true)(hc:P.cellsOf e=28)
  (V:Cell.okWide P W .any base t c) (Y:DataW.trod enc P W b0 sp held fuel t [c]=some x):∃a n cp,c=.slice a n cp∧(n≤12→∃u:List PtV,u.length=n∧Zs [] W.heap (.slice a n cp) n 28 (u.flatMap Yl)):=by
 rcases DataW.trod_slice ht Y with⟨E,_⟩|⟨a,len,cap,elems,rest,m,_,E,_,_,hl,_,hk,ha,_,_⟩
 ·simp at E;subst E;exact⟨none,0,0,O,λ_=>⟨[],O,Zs.nil _ _ _⟩⟩
 simp at E;subst E;refine⟨some a,len,cap,O,λhm=>?_⟩;have each:∀i,i<len→∃d:PtV,∀r v,(Yl d)[r]?=some v→W.cell? (a.add (i*28+r))=some v:=by
  intro i hi;have I:=ha i hi;rw[hc,Lz (show i<elems.length by omega)]at I;obtain⟨cs,E,hb⟩:=Mi.1 I;have hf:=Kj 5 he hb;obtain⟨ns,h1,h2,h3⟩:=zf cs (λv G=>J7 (hf v G));unfold World.cells? at E;split at E
  ·have hn:cs.length=28:=by
    simpa using(Kg E).1
   refine⟨⟨ns,by omega,h3⟩,λr v G=>?_⟩;have hv':cs[r]?=some v:=by rw[h1];exact G
   have hg:r<28:=by have:=(LR.1 hv').1;omega
   have h4:=(Kg E).2 r r (by simp[hg]);rw[Lg.Addr.add_add,hv']at h4;exact h4
  cases E
 obtain⟨u,J,hu⟩:=Qb0 len each;refine⟨u,J,?_⟩;have T:(u.flatMap Yl).length=u.length*28:=Go.Lg.Kn Yl 28 je u;refine⟨by rw[T,J],by omega,.inr ⟨a,cap,rfl,by omega,λ_ _=>by simp,λ_ _=>QcR ht V,λj v G=>?_⟩⟩;have hj:j<u.length*28:=by
  rw[←T];exact(LR.1 G).1
 have hi:j / 28<u.length:=by omega
 have hh:=Jk Yl 28 je u (j / 28) hi;have U:j=j / 28*28+j % 28:=by omega
 have h3:(Yl (u[j / 28]'hi))[j % 28]?=some v:=by
  rw[←hh,LZ,if_pos (Nat.mod_lt _ (by omega)),MB,←U];exact G
 rw[←Xd];have:=hu (j / 28) hi (j % 28) v h3;rw[←U]at this;exact this
end
section
variable {H:Type}{enc:TypeId×Value→H}{P:Program}{W:World}{base b0:Nat}{sp:Nat→Bool}{held:Bool}
theorem QeJ {v:Value}{d:DataW H}{ps:List MemPlace}{t tp te:Nat}{f0 f1 f2 f3 E:Field}(hu:P.underlying t=some (.struct #[f0,f1,f2,f3,E]))(U:(P.cellTypes P.depth t).map (λts=>(ts.length,ts[82]?))=some (86,some tp))(hc:P.cellsOf t=86)
  (ho:f2.type=tp) (o0:f0.offset=0) (o1:f1.offset=81) (o2:f2.offset=82) (o3:f3.offset=83) (o4:E.offset=85) (c0:P.cellsOf f0.type=81) (c1:P.cellsOf f1.type=1) (c2:P.cellsOf tp=1) (c3:P.cellsOf f3.type=2) (c4:P.cellsOf E.type=1)
  (k0:kT P .u8 5 f0.type=true) (k1:kT P .u8 5 f1.type=true) (k3:kT P .u8 5 f3.type=true) (k4:kT P .u8 5 E.type=true) (hp:P.underlying tp=some (.slice te)) (hq:kT P .u8 5 te=true) (hr:P.cellsOf te=28)
  (V:Value.okWide P W .any base t v) (h:DataW.Trod enc P W b0 sp held t v d ps):∃l:LwV,v=.agg (Jj l).toArray∧LwA W l:=by
 simp only[Value.okWide,hu]at V;obtain⟨cs,rfl,Y,ts,hs,_,ht⟩:=V;rw[hs]at U;have ha:=Option.some.inj U;have hv:ts.length=86:=congrArg Prod.fst ha;have hw:ts[82]?=some tp:=congrArg Prod.snd ha;rw[hc]at Y;obtain⟨l⟩:=cs;have hl:l.length=86:=Y;obtain⟨fuel,hf⟩:=h;obtain⟨xs,m,_,_,_,G,hy⟩:=DataW.trod_struct hu hf
 have I:∀(i:Nat) (f:Field),(#[f0,f1,f2,f3,E]:Array Field)[i]?=some f→DataW.trod enc P W b0 sp held m f.type ((l.drop f.offset).take (P.cellsOf f.type))=xs[i]?:=hy;have hD:xs.length=5:=G;have g0:∀c∈l.take 81,∃n:Nat,c=.int .u8 (n:Int)∧n<256:=λc hm=>by
  obtain⟨j,hj,hb⟩:=LF hm;have hE:j<81:=by simp at hj;omega
  have hz:l[j]?=some c:=by
   rw[MZ]at hb;rw[Lz (by omega),hb]
  exact J7 (Xl G I (i:=0) (f:=f0) O k0 (by omega) (by omega) hz)
 obtain⟨ns,e1,e2,e3⟩:=zf _ g0;have h0:ns.length=81:=by rw[e2];simp;omega
 have J:∀j,j<86→∃c,l[j]?=some c:=λj hj=>⟨l[j]'(by omega),Lz (by omega)⟩;obtain⟨h1,he⟩:=J 81 (by omega);obtain⟨T,hg⟩:=J 82 (by omega);obtain⟨h2,hh⟩:=J 83 (by omega);obtain⟨h5,hi⟩:=J 84 (by omega);obtain⟨h6,hk⟩:=J 85 (by omega);have hn:l.drop 81=[h1,T,h2,h5,h6]:=by
  apply Nn;intro i;rw[MB]
  match i with
  | 0=>exact he
  | 1=>exact hg
  | 2=>exact hh
  | 3=>exact hi
  | 4=>exact hk
  | i+5=>rw[M5 (by omega)];rfl
 obtain⟨ct,rfl,h7⟩:=J7 (Xl G I (i:=1) (f:=f1) O k1 (by omega) (by omega) he);obtain⟨y0,rfl,h8⟩:=J7 (Xl G I (i:=3) (f:=f3) O k3 (by omega) (by omega) hh);obtain⟨y1,rfl,h9⟩:=J7 (Xl G I (i:=3) (f:=f3) O k3 (by omega) (by omega) hi);obtain⟨cl,rfl,hA⟩:=J7 (Xl G I (i:=4) (f:=E) O k4 (by omega) (by omega) hk)
 have hB:=Qkg ht 82 tp T (by simpa using hg) (by rw[hv];exact hw);have hC:=QgJ (c:=T) I 2 O ho o2 c2 (by rw[←Nx (i:=1) (j:=81),hn];rfl) (by omega);obtain⟨a,n,cp,rfl,hP⟩:=QlC hp hq hr hB hC;refine⟨⟨ns,ct,a,n,cp,y0,y1,cl⟩,?_,h0,e3,h7,h8,h9,hA,λh3=>hP (by have h4:n≤3:=h3;omega)⟩;show Value.agg l.toArray=.agg (bys ns++_).toArray
 rw[←e1,←hn,Mu]
end
set_option maxRecDepth 100000 in
theorem QmR {H:Type}{enc:TypeId×Value→H}{W:World}{base b0:Nat}{sp:Nat→Bool}{held:Bool}{v:Value}{d:DataW H}{ps:List MemPlace}(E:Value.okWide prog W .any base 30 v)(h:DataW.Trod enc prog W b0 sp held 30 v d ps):
  ∃l:LwV,v=.agg (Jj l).toArray∧LwA W l :=
 QeJ underlying30 (tp:=27) (by kernel_rfl) (by kernel_rfl) O O O O O O (by kernel_rfl) (by kernel_rfl) (by kernel_rfl) (by kernel_rfl) (by kernel_rfl) (by kernel_rfl) (by kernel_rfl) (by kernel_rfl) (by kernel_rfl) underlying27 (by kernel_rfl) (by kernel_rfl) E h
abbrev jA (s:Int):QP:=⟨[s,s+1],2,[0],[(0,s,1),(1,s+1,0)]⟩
theorem Qds {w:World}{nm:ByteArray}{s:Int}(hs:0≤s∧s<100):
  QF prog 69 [.string nm,.int .i64 s] w λr w'=>Step [] w w'∧∃va vm ve,r=.agg #[.string nm,va,.int .i64 2,vm,ve]∧ZD [va,vm,ve]∧∀L:LN,(∀b∈L,b<w.heap.size)→Zp L w'.heap va vm ve (jA s):=by
 refine QF.of_W func69 O ntmps69 results69 (by simp) ?_;refine Qc<|xl O<|Qt (us:=[.string .empty,nS,.int .i64 0,nS,nS]) O λb4 w1 U hh V=>xe ?_;refine Qc<|Qb<|Qb<|Qb<|QM O O<|xl O<|QE (us:=[[.int .i64 s],[.int .i64 (s+1)]]) O O (by decide) (by simp) ⟨rfl,rfl,rfl,rfl,Z⟩ λG w2 J hi Y =>
  xl rfl<|QE (us:=[[.int .i64 0]]) O O (by decide) (by simp) ⟨rfl,rfl,Z⟩ λb10 w3 H hj ha=>Qb<|x (QN ⟨rfl,rfl,rfl,Z⟩) <|
  Qb<|QM rfl O<|x (QN ⟨O,O,O,Z⟩)<|xl O<|QE (us:=[QD (0,s,1),QD (1,s+1,0)]) O O (by decide) (show 2*3≤1000000 by omega) ⟨O,O,O,O,Z⟩ λb16 w4 E hk hc =>
  x (QN ⟨rfl,O,O,O,Z⟩)<|x (Zw [(0,[.string nm]),(1,[.slice (some ⟨G,0,none⟩) 2 2,.int .i64 2,.slice (some ⟨b10,0,none⟩) 1 1,.slice (some ⟨b16,0,none⟩) 2 2])] ⟨O,O,O,O,Z⟩)<|xl O<|Qp (us:=[.string nm,.slice (some ⟨G,0,none⟩) 2 2,.int .i64 2,.slice (some ⟨b10,0,none⟩) 1 1,.slice (some ⟨b16,0,none⟩) 2 2]) (((V.ext J).ext H).ext E) O O O O ⟨O,O,O,O,O,Z⟩ λT I he =>
  xe ?_
 have hl:=U.size;have hn:=J.size;have ho:=H.size;have hp:=E.size;have hq:=V.lt;have hr:=Y.lt;have ht:=ha.lt
 refine Ql ⟨[.agg [.string nm,.slice (some ⟨G,0,none⟩) 2 2,.int .i64 2,.slice (some ⟨b10,0,none⟩) 1 1,.slice (some ⟨b16,0,none⟩) 2 2].toArray],⟨⟨_,O,Qv O (he.at (L:=[]) (by simp)).cells⟩,Z⟩,(((U.trans J).trans H).trans E).then1 I (by omega),_,_,_,rfl,⟨rfl,rfl,rfl,Z⟩,λL hL=>?_⟩
 have k9:QT T.heap G 3 [.int .i64 s,.int .i64 (s+1)]:=(((Y.ext H).ext E)).step I (by simp only[List.mem_singleton];omega);have hf:QT T.heap b10 3 [.int .i64 0]:=((ha.ext E)).step I (by simp only[List.mem_singleton];omega)
 have hg:QT T.heap b16 129 [.int .i64 0,.int .i64 s,.int .i64 1,.int .i64 1,.int .i64 (s+1),.int .i64 0]:=hc.step I (by simp only[List.mem_singleton];omega);have nL:∀{b:Nat},w.heap.size≤b→b∉L:=λhb hm=>by have:=hL _ hm;omega
 exact⟨k9.arr (nL (by omega)) (n:=2) (cap:=2) (sz:=1) O (by omega) (Ls _),hf.arr (nL (by omega)) (n:=1) (cap:=1) (sz:=1) O (by omega) (Ls _),hg.arr (nL (by omega)) (n:=2) (cap:=2) (sz:=3) O (by omega) (Ls _)⟩
abbrev fs1:ByteArray:=⟨#[111,110,101]⟩
abbrev fs2:ByteArray:=⟨#[116,119,111]⟩
abbrev fs3:ByteArray:=⟨#[98,117,102,102,101,114]⟩
abbrev fcE:List J3:=[⟨⟨#[97]⟩,true,false,false,0⟩,⟨⟨#[98]⟩,false,false,false,0⟩,⟨⟨#[99]⟩,true,false,false,0⟩,⟨⟨#[100]⟩,false,false,false,0⟩]
def JB:ZB:=⟨fcE,[⟨fs1,jA 0⟩,⟨fs2,jA 2⟩],[⟨fs3,jA 1⟩],[],[]⟩
def fcP (N:Nat)(i:Nat)(v:Value)(w:World):Prop :=
 if i=4 then ∃b,v=.slice (some ⟨b,0,none⟩) 4 4∧N≤b∧QT w.heap b 89 (fcE.flatMap Zi)
 else if i=6 then ∃va vm ve,v=.agg #[.string fs1,va,.int .i64 2,vm,ve]∧ZD [va,vm,ve]∧∀L:LN,(∀b∈L,b<N)→Zp L w.heap va vm ve (jA 0)
 else if i=8 then ∃va vm ve,v=.agg #[.string fs2,va,.int .i64 2,vm,ve]∧ZD [va,vm,ve]∧∀L:LN,(∀b∈L,b<N)→Zp L w.heap va vm ve (jA 2)
 else if i=9 then KZ N w.heap v [⟨fs1,jA 0⟩,⟨fs2,jA 2⟩]
 else KZ N w.heap v [⟨fs3,jA 1⟩]
theorem KZ.ext {N:Nat}{w w':World}{v:Value}{l:List X4}(h:KZ N w.heap v l)(hs:Step [] w w'):KZ N w'.heap v l:=let⟨qs,h1,h2⟩:=h;⟨qs,h1,λL E=>(h2 L E).ext hs⟩
theorem Qjl {N:Nat}:∀i v w w',fcP N i v w→Step [] w w'→fcP N i v w':=by
 intro i v w w' h hs;unfold fcP at h ⊢;by_cases h4:i=4
 ·rw[if_pos h4]at h ⊢;obtain⟨b,e,n,J⟩:=h;exact⟨b,e,n,J.ext hs⟩
 rw[if_neg h4]at h ⊢;by_cases H:i=6
 ·rw[if_pos H]at h ⊢;obtain⟨va,vm,ve,e,o,E⟩:=h;exact⟨va,vm,ve,e,o,λL G=>(E L G).ext hs⟩
 rw[if_neg H]at h ⊢;by_cases I:i=8
 ·rw[if_pos I]at h ⊢;obtain⟨va,vm,ve,e,o,E⟩:=h;exact⟨va,vm,ve,e,o,λL G=>(E L G).ext hs⟩
 rw[if_neg I]at h ⊢;by_cases h9:i=9
 ·rw[if_pos h9]at h ⊢;exact KZ.ext h hs
 rw[if_neg h9]at h ⊢;exact KZ.ext h hs
theorem KZ.one {N:Nat}{H:Array Obj}{v:Value}{l:List X4}(h:KZ N H v l):v.oneCell'=true:=by
 obtain⟨qs,_,h2⟩:=h;exact(h2 [] (by simp)).arr.one
set_option maxHeartbeats 4000000 in
theorem JN (w:World):QF prog 29 [] w λr w'=>Step [] w w'∧QhR w.heap.size w'.heap r JB:=by
 refine QF.of_W func29 O ntmps29 results29 (by simp) ?_;refine Qc<|xl O<|Qt (us:=YP) O λV T hj h0 hk=>xe ?_;refine Qc<|Qe<|Qc<|xl O<|QE (us:=[[.int .i64 1],[.int .i64 2]]) O O (by decide) (by simp) ⟨rfl,rfl,rfl,rfl,Z⟩ λY w2 hn hT hp=>xl rfl<|QE (us:=[[.int .i64 0]]) rfl rfl (by decide) (by simp) ⟨rfl,rfl,Z⟩ λb4 w3 hh hU hr =>
  x (QN ⟨rfl,O,O,Z⟩)<|x (QN ⟨O,O,O,Z⟩)<|xl O<|QE (us:=[QD (0,1,1),QD (1,2,0)]) O O (by decide) (show 2*3≤1000000 by omega) ⟨O,O,O,O,Z⟩ λb7 w4 ha hV h3 =>
  x (QN ⟨rfl,O,O,O,Z⟩)<|xl O<|Qt (us:=[nS,.int .i64 0,nS,nS]) O λb2 w5 h5 h6 h7=>xl O<|Qp (us:=[.slice (some ⟨Y,0,none⟩) 2 2,.int .i64 2,.slice (some ⟨b4,0,none⟩) 1 1,.slice (some ⟨b7,0,none⟩) 2 2]) h7 O O O O ⟨O,O,O,O,Z⟩ λw6 h8 hD =>
  xe ?_
 have hW:=hj.size;have hX:=hn.size;have hY:=hh.size;have hZ:=ha.size;have hE:=hk.lt;have ga:=hp.lt;have gb:=hr.lt;have hf:Step [] w4 w6:=h5.then1 h8 h6;have hi:=((hn.trans hh).trans ha).trans hf;have hs:=hj.trans hi;have gc:=hs.size;have ge:=hi.size;have hF:=hk.ext hi;have k3:=((hp.ext hh).ext ha).ext hf;have k4:=(hr.ext ha).ext hf
 have k7:=h3.ext hf;have hG:∀{L:LN},(∀b∈L,b<T.heap.size)→Zp L w6.heap (.slice (some ⟨Y,0,none⟩) 2 2) (.slice (some ⟨b4,0,none⟩) 1 1) (.slice (some ⟨b7,0,none⟩) 2 2) (jA 1):=λ{L} E=>by
  have nL:∀{b:Nat},T.heap.size≤b→b∉L:=λhb hm=>by have:=E _ hm;omega
  exact⟨k3.arr (nL (by omega)) (n:=2) (cap:=2) (sz:=1) O (by omega) (Ls _),k4.arr (nL (by omega)) (n:=1) (cap:=1) (sz:=1) O (by omega) (Ls _),k7.arr (nL (by omega)) (n:=2) (cap:=2) (sz:=3) O (by omega) (Ls _)⟩
 refine QX (α:=CL) [(9,22)] (λz=>[]) (λz w'=>Step [] w w'∧QT w'.heap V 37 z.cells∧z.cel=JB∧(∀L:LN,(∀b∈L,b<w.heap.size)→ZJ L w'.heap z)) (by rfl) ?_ ?_
 ·refine QhB (α:=Value×Value×Value) (Step [] w6) [(0,true),(1,true),(2,true),(3,true),(5,true),(7,true),(10,true),(11,true)] (λi=>if i=9 then[6,8]else[]) [4,6,8,9,12] [(13,true),(14,false)] [(13,13),(15,15),(17,18),(21,21)] (fcP T.heap.size)
   (λz=>[(13,z.1),(18,z.2.1),(21,z.2.2)])
   (λz w'=>(∃b,z.1=.slice (some ⟨b,0,none⟩) 4 4∧T.heap.size≤b∧QT w'.heap b 89 (fcE.flatMap Zi))∧KZ T.heap.size w'.heap z.2.1 [⟨fs1,jA 0⟩,⟨fs2,jA 2⟩]∧KZ T.heap.size w'.heap z.2.2 [⟨fs3,jA 1⟩])
   mixed (by rfl) (by kernel_rfl) (Step.drew _ _) (λ_ _ h1 h2=>h1.trans h2) Qjl ?_ ?_
  ·rintro g w' ⟨h4,_,_,h9,U,_⟩ gg;exact⟨(g 13,g 18,g 21),⟨O,O,O,Z⟩,h4,h9,U⟩
  refine p (λ_=>QN ⟨O,O,Z⟩)<|p (λ_=>QN La)<|p (λ_=>QN ⟨O,O,Z⟩)<|p (λ_=>QN La) <|
   p (λ_=>Qm)<|p (λ_=>Qm)<|pq (λ_ hc=>Qo (hD.ext hc) O O)<|p (λ_=>Zw [(0,[.string fs3]),(1,[.slice (some ⟨Y,0,none⟩) 2 2,.int .i64 2,.slice (some ⟨b4,0,none⟩) 1 1,.slice (some ⟨b7,0,none⟩) 2 2])] ⟨O,O,O,O,Z⟩) <|
   pe ⟨⟨?_,?_,?_,?_,?_,Z⟩,?_⟩
  ·intro g w' hc _;have hz:=hc.size;exact QE (us:=[Zi ⟨⟨#[97]⟩,true,false,false,0⟩,Zi ⟨⟨#[98]⟩,false,false,false,0⟩,Zi ⟨⟨#[99]⟩,true,false,false,0⟩,Zi ⟨⟨#[100]⟩,false,false,false,0⟩]) O O (by decide) (show 4*5≤1000000 by omega) ⟨O,O,O,O,O,O,O,O,Z⟩ λb w7 G hb H=>⟨G,⟨b,O,by omega,H⟩,λc J=>by rw[Lb.1 (show c∈[b] from J)];exact⟨hb,H.lt⟩⟩
  ·intro g w' hc _;have hz:=hc.size;refine xc (first:=[]) (capt:=[]) O<|(Qds (nm:=fs1) (s:=0) (by omega)).mono ?_;rintro r w7 ⟨G,va,vm,ve,rfl,ho,hA⟩;exact⟨G,⟨va,vm,ve,O,ho,λL E=>hA L (λb hb=>by have:=E b hb;omega)⟩,λc J=>by cases J⟩
  ·intro g w' hc _;have hz:=hc.size;refine xc (first:=[]) (capt:=[]) O<|(Qds (nm:=fs2) (s:=2) (by omega)).mono ?_;rintro r w7 ⟨G,va,vm,ve,rfl,ho,hA⟩;exact⟨G,⟨va,vm,ve,O,ho,λL E=>hA L (λb hb=>by have:=E b hb;omega)⟩,λc J=>by cases J⟩
  ·rintro g w' hc ⟨⟨va,vm,ve,e6,o6,hH⟩,⟨va',vm',ve',e8,o8,hI⟩,_⟩;have hz:=hc.size;refine QE (us:=[Zj ⟨fs1,⟨va,vm,ve,jA 0⟩⟩,Zj ⟨fs2,⟨va',vm',ve',jA 2⟩⟩]) O O (by decide) (show 2*5≤1000000 by omega) ⟨congrArg Value.cells e6,O,congrArg Value.cells e8,O,Z⟩ λb w7 G hb H=>⟨G,?_,λc J=>by rw[Lb.1 (show c∈[b] from J)];exact⟨hb,H.lt⟩⟩
   refine⟨[⟨fs1,⟨va,vm,ve,jA 0⟩⟩,⟨fs2,⟨va',vm',ve',jA 2⟩⟩],O,λL E=>⟨H.arr (λhm=>by have:=E _ hm;omega) (n:=2) (cap:=2) (sz:=5) O (by omega) (Ls _),λq hq=>?_,λq hq=>?_⟩⟩
   ·simp only[List.mem_cons,List.not_mem_nil,or_false]at hq;rcases hq with rfl|rfl
    ·exact(hH L E).ext G
    exact(hI L E).ext G
   simp only[List.mem_cons,List.not_mem_nil,or_false]at hq;rcases hq with rfl|rfl
   ·exact YV (by decide)
   exact YV (by decide)
  ·intro g w' hc _;have hz:=hc.size;refine QE (us:=[Zj ⟨fs3,⟨.slice (some ⟨Y,0,none⟩) 2 2,.slice (some ⟨b4,0,none⟩) 1 1,.slice (some ⟨b7,0,none⟩) 2 2,jA 1⟩⟩]) O O (by decide) (show 1*5≤1000000 by omega) ⟨O,O,Z⟩ λb w7 G hb H=>⟨G,?_,λc J=>by rw[Lb.1 (show c∈[b] from J)];exact⟨hb,H.lt⟩⟩
   refine⟨[⟨fs3,⟨.slice (some ⟨Y,0,none⟩) 2 2,.slice (some ⟨b4,0,none⟩) 1 1,.slice (some ⟨b7,0,none⟩) 2 2,jA 1⟩⟩],O,λL E=>⟨H.arr (λhm=>by have:=E _ hm;omega) (n:=1) (cap:=1) (sz:=5) O (by omega) (Ls _),λq hq=>?_,λq hq=>?_⟩⟩
   ·simp only[List.mem_singleton]at hq;subst hq;exact((hG E).ext hc).ext G
   simp only[List.mem_singleton]at hq;subst hq;exact YV (by decide)
  rintro⟨v1,v2,v3⟩ g w9 ht ⟨⟨b,e,n,H⟩,h9,U⟩;simp only[]at e h9 U;subst e;have hJ:=hF.ext ht;refine p (λ_=>Zw [(0,[.slice (some ⟨b,0,none⟩) 4 4]),(1,[v2]),(2,[v3])] ⟨O,O,XH (KZ.one h9),O,XH (KZ.one U),O,Z⟩)<|pkl (hl:=by kernel_rfl)<|Qp (us:=[.slice (some ⟨b,0,none⟩) 4 4,v2,v3,nS,nS]) hJ O O O O ⟨O,KZ.one h9,KZ.one U,O,O,Z⟩ λhu hg hK=>pe ?_;obtain⟨q9,e9,hM⟩:=h9
  obtain⟨hv,hN,hO⟩:=U;refine⟨⟨.slice (some ⟨b,0,none⟩) 4 4,v2,v3,nS,nS,fcE,q9,hv,[],[]⟩,Z,(hs.trans ht).then1 hg h0,hK,?_,λL E=>?_⟩
  ·show ZB.mk fcE (q9.map IV.it) (hv.map IV.it) [] []=_;rw[e9,hN];rfl
  have hw:∀I∈V::L,I<T.heap.size:=λI hb'=>by
   rcases Lc.1 hb' with rfl|hb'
   ·exact hE
   have:=E I hb';omega
  have m1:∀I∈[V],I∈V::L:=λI hb'=>by simp only[List.mem_singleton]at hb';simp[hb']
  have hy:∀I∈L,I∈V::L∨hu.heap.size≤I:=λI hb'=>.inl (Ll _ hb');have hP:QT hu.heap b 89 (fcE.flatMap Zi):=H.step hg (by simp only[List.mem_singleton];omega)
  refine⟨⟨hP.arr (λhm=>by have:=E _ hm;omega) (n:=4) (cap:=4) (sz:=5) O (by omega) (Ls _),λe he=>?_⟩,((hM _ hw).st (hg.mono m1)).up hy,((hO _ hw).st (hg.mono m1)).up hy,⟨Zs.nil _ _ 2,λq hq=>(by cases hq),λq hq=>(by cases hq)⟩,⟨Zs.nil _ _ 3,λq hq=>(by cases hq),λq hq=>(by cases hq)⟩⟩;simp only[List.mem_cons,List.not_mem_nil,or_false]at he
  rcases he with rfl|rfl|rfl|rfl <;> exact YV (by decide)
 rintro c g w9 ⟨hQ,hR,hS,hC⟩;refine Ql ⟨[_],⟨⟨_,O,Qv O (hR.at (L:=[]) (by simp)).cells⟩,Z⟩,hQ,c,rfl,hS,hC⟩
theorem Qlh:Xt JB=0:=by kernel_rfl
theorem Qli:(Xq JB).ps=true:=by kernel_rfl
theorem Qlj:(Xq JB).nc=true:=by kernel_rfl
theorem Qjn:(Xq JB).sts.length=1:=by kernel_rfl
theorem Qjm:decide (1<(Xq JB).tg)=true:=by kernel_rfl
theorem Qjp:pmE JB [0,1]=0:=by kernel_rfl
theorem Qjo:pmL JB [0,1]=[2]:=by kernel_rfl
theorem Qjr:mrE JB [0,1] 0=0:=by kernel_rfl
theorem Qjq:mrL JB [0,1] 0=[0]:=by kernel_rfl
theorem Qjt:cmE JB false=0:=by kernel_rfl
theorem Qjs:(cmW (ZQ JB) (Vw JB)).isNone=true:=by kernel_rfl
theorem QgV {w:World}{c:CL}(hC:ZJ [] w.heap c)(G:c.cel=JB)(H:Kb w 4096):
  QF prog 10 [c.val] w λr w'=>Step [] w w'∧∃ev f1 f2 vw vs tg,r=.tuple #[.agg #[.bool true,.int .i64 ev,.int .i64 f1,.int .i64 f2,.bool true,vw,vs,.int .i64 tg],.int .i64 0]∧ZD [vw,vs]∧(∃s,QI [] w'.heap vs [s])∧1<tg:=by
 refine(QcD hC H).mono ?_;rintro r w' ⟨hs,us,rfl,_,U,I⟩;rw[G,Qlh]at *;obtain⟨vw,vs,rfl,J,E⟩:=I O;rw[Qli,Qlj]at *;have hl:=Qjn;obtain⟨s,T⟩:∃s,(Xq JB).sts=[s]:=by
  match (Xq JB).sts,hl with
  | [s],_=>exact⟨s,O⟩
 rw[T]at E;exact⟨hs,_,_,_,vw,vs,_,O,⟨QH J,QH E,Z⟩,⟨s,Qr.ints E (by simp) (by simp)⟩,of_decide_eq_true Qjm⟩
theorem QgT {w:World}{c:CL}{v:Value}(hC:ZJ [] w.heap c)(E:c.cel=JB)(G:QI [] w.heap v [0,1])(H:Kb w 4096):
  QF prog 16 [c.val,v] w λr w'=>Step [] w w'∧∃v',r=.tuple #[v',.int .i64 0]∧QI [] w'.heap v' [2]:=by
 refine(jK hC G H).mono ?_;rintro r w' ⟨hs,v',rfl,_,I⟩;rw[E,Qjp]at *;have h1:=I O;rw[Qjo]at h1;exact⟨hs,v',O,Qr.ints h1 (by simp) (by simp)⟩
theorem QgS {w:World}{c:CL}{v:Value}(hC:ZJ [] w.heap c)(E:c.cel=JB)(G:QI [] w.heap v [0,1])(H:Kb w 4096):
  QF prog 17 [c.val,v,.int .i64 0] w λr w'=>Step [] w w'∧∃v',r=.tuple #[v',.int .i64 0]∧QI [] w'.heap v' [0]:=by
 refine(jm hC G 0 H).mono ?_;rintro r w' ⟨hs,v',rfl,_,I⟩;rw[E,Qjr]at *;have h1:=I O;rw[Qjq]at h1;exact⟨hs,v',O,Qr.ints h1 (by simp) (by simp)⟩
theorem QgU {w:World}{c:CL}(hC:ZJ [] w.heap c)(E:c.cel=JB)(G:Kb w 4096):
  QF prog 11 [c.val,.bool false] w λr w'=>Step [] w w'∧∃v,r=.tuple #[v,.bool true,.int .i64 0]:=by
 refine(QcC hC G).mono ?_;rintro r w' ⟨hs,v,e,rfl,H⟩;rw[E,Qjt]at *;have h1:=H O;rw[Qjs]at h1;subst h1;exact⟨hs,v,O⟩
abbrev rpF (ev f1 f2:Int)(vw vs:Value)(tg:Int):LV:=[.bool true,.int .i64 ev,.int .i64 f1,.int .i64 f2,.bool true,vw,vs,.int .i64 tg]
set_option maxHeartbeats 4000000 in
theorem qz {w:World}(E:Kb w 4096):QF prog 8 [] w λr w'=>r=.bool true∧Step [] w w':=by
 refine QF.of_W func8 O ntmps8 results8 (by simp) ?_;refine Qc<|Qe<|Qc<|xl O<|xf<|(JN w).mono ?_;rintro r1 w1 ⟨V,⟨c1,rfl,h0,h1⟩⟩;refine xl rfl<|xf<|(QgV (h1 [] (by simp)) h0 (E.ext V)).mono ?_;rintro r2 w2 ⟨h2,ev,f1,f2,vw,vs,tg,rfl,Y,⟨s,h3⟩,h4⟩
 refine Qb<|x (Qj O O)<|x (Qj O O)<|xl O<|Qt (us:=yY) O λb1 w3 h5 h6 h7=>xl O<|Qp (us:=rpF ev f1 f2 vw vs tg) h7 O O O O ⟨O,O,O,O,O,Y.1,Y.2.1,O,Z⟩ λw4 h8 h9 =>
  Qe ?_
 have ha:Step [] w2 w4:=h5.then1 h8 h6;have hb:=(V.trans h2).trans ha;refine Qc<|xl O<|xf<|(JN w4).mono ?_;rintro r5 w5 ⟨hc,⟨c5,rfl,hA,hB⟩⟩
 refine xl rfl<|QE (us:=[[.int .i64 0],[.int .i64 1]]) O O (by decide) (by simp) ⟨rfl,rfl,rfl,rfl,Z⟩ λhV w6 I hW hC=>xl rfl<|xf<|(QgT ((hB [] (by simp)).ext I) hA (hC.arr (by simp) (n:=2) (cap:=2) (sz:=1) rfl (by omega) (Ls _)) (((E.ext hb).ext hc).ext I)).mono ?_;rintro r7 w7 ⟨hD,v3,rfl,hE⟩;refine Qb<|x (Qj O O)<|x (Qj O O)<|x Qf<|Qe ?_
 have he:=(hc.trans I).trans hD;have hf:=hb.trans he;refine Qc<|xl O<|xf<|(JN w7).mono ?_;rintro r8 w8 ⟨hg,⟨c8,rfl,hF,hG⟩⟩
 refine xl rfl<|QE (us:=[[.int .i64 0],[.int .i64 1]]) O O (by decide) (by simp) ⟨rfl,rfl,rfl,rfl,Z⟩ λhX w9 J hY hH=>xl rfl<|xf<|(QgS ((hG [] (by simp)).ext J) hF (hH.arr (by simp) (n:=2) (cap:=2) (sz:=1) rfl (by omega) (Ls _)) (((E.ext hf).ext hg).ext J)).mono ?_;rintro hZ hI ⟨hJ,v5,rfl,hK⟩;refine Qb<|x (Qj O O)<|x (Qj O O)<|x Qf<|Qe ?_
 have T:=(hg.trans J).trans hJ;have hh:=hf.trans T;refine Qc<|xl O<|xf<|(JN hI).mono ?_;rintro ga gb ⟨hi,⟨gc,rfl,hL,hM⟩⟩;refine xl rfl<|xf<|(QgU (hM [] (by simp)) hL ((E.ext hh).ext hi)).mono ?_;rintro ge hj ⟨hN,v7,rfl⟩;refine Qb<|x (Qj O O)<|x (Qj O O)<|x (Qj O O)<|x Qf<|x Qf<|Qe ?_;have G:=hi.trans hN;have hO:=hh.trans G
 have hk:=(he.trans T).trans G;have H:=h9.ext hk;have hP:QI [] hj.heap vs [s]:=(h3.ext ha).ext hk;have hl:=(hE.ext T).ext G;have hm:=hK.ext G;refine QX (α:=Unit) [(0,0),(33,88)] (λz=>[(0,.bool true)]) (λz w'=>Step [] hj w') (by rfl) ?_ ?_
 ·refine Qx<|Qb<|xb (Zg O O) (λhn=>?_) (λhn=>absurd O hn);refine Qb<|x (Qa O)<|x (Qd (u:=.bool true) H O O)<|x (Qq O)<|Qb<|x (Qa O)<|x (Qd (u:=.bool true) H O O)<|x (Qq O)<|Qb<|x (Qa O)<|x (Qd H O O)<|x (Qu hP O)<|xb (Zg O O) (λhp=>?_) (λhp=>absurd O hp);refine x (Qq O)<|Qb<|x (Qa O)<|x (Qd H O O)<|xb (ZM O O) (λhq=>?_) (λhq=>absurd h4 hq)
  refine x (Qq O)<|Qb<|Qb<|xb (Zg O O) (λhr=>?_) (λhr=>absurd O hr);refine x (Qq O)<|Qb<|Qb<|xl O<|QE (us:=[[.int .i64 2]]) O O (by decide) (by simp) ⟨rfl,rfl,Z⟩ λgg gh hs gi hQ=>xl rfl<|xf<|(KB (hl.ext hs) (jo (L:=[]) hQ (by simp))).mono ?_;rintro gj gk ⟨rfl,hR⟩;have U:=hs.trans hR
  refine x (Qq O)<|Qb<|Qb<|x (Qu (hl.ext U) O)<|xb (Zg O O) (λht=>?_) (λht=>absurd O ht);refine x (Qq O)<|Qb<|Qb<|xb (Zg O O) (λhu=>?_) (λhu=>absurd O hu);refine x (Qq O)<|Qb<|Qb<|xl O<|QE (us:=[[.int .i64 0]]) O O (by decide) (by simp) ⟨rfl,rfl,Z⟩ λgl gm hv gn hS=>xl rfl<|xf<|(KB ((hm.ext U).ext hv) (jo (L:=[]) hS (by simp))).mono ?_;rintro go gq ⟨rfl,hT⟩
  have hw:=(U.trans hv).trans hT;refine x (Qq O)<|Qb<|Qb<|x (Qu (hm.ext hw) O)<|xb (Zg O O) (λhy=>?_) (λhy=>absurd O hy);refine x (Qq O)<|Qb<|Qb<|xb (Zg O O) (λhz=>?_) (λhz=>absurd O hz);refine x (Qq O)<|Qb<|Qb<|x (Qq O)<|Qe ?_;exact⟨(),La,hw⟩
 rintro z g gr hU;exact Ql ⟨[.bool true],La,O,hO.trans hU⟩
open Go.Sort
structure ItG (c:Nat)(k:Nat)(q:IV):Prop where
 nm:q.nm=⟨#[UInt8.ofNat c]⟩++⟨#[UInt8.ofNat (48+k)]⟩
 g:GdA q.p.a
 e:∀e∈q.p.a.al,e<5
theorem Qf4 (k:Nat)(h:k<3):Xb (nmI 99 k)=true∧Xb (nmI 114 k)=true∧Xb (nmI 101 k)=true:=by
 match k,h with
 | 0,_=>decide
 | 1,_=>decide
 | 2,_=>decide
theorem Qel:∀n,n<4→∀m,m<3→((List.range n).map (nmI 99)++(List.range m).map (nmI 114)).Nodup:=by decide
theorem yj {c:Nat}{co:List IV}(h:∀k (hk:k<co.length),ItG c k (co[k]'hk)):(co.map IV.it).map (·.nm)=(List.range co.length).map (nmI c):=by
 apply Mb
 ·simp
 intro i h1 h2;simp only[List.getElem_map,List.getElem_range];exact(h i (by simpa using h1)).nm
theorem Qln {ns:LN}{co rq:List IV}{qx:List XV}{ks:List KV}{al:LI}(h1:1≤co.length)(h3:co.length≤3)(G:∀k (hk:k<co.length),ItG 99 k (co[k]'hk))(J:∀e,e∈al↔∃q∈co,e∈q.p.a.al)(ha:rq.length≤2)
  (H:∀k (hk:k<rq.length),ItG 114 k (rq[k]'hk)∧∀e∈(rq[k]'hk).p.a.al,e∈al) (hb:qx.length≤2) (T:(qx.map (·.nm)).Nodup) (U:∀q∈qx,(∃k,k<2∧q.nm=⟨#[101]⟩++⟨#[UInt8.ofNat (48+k)]⟩)∧q.ls≠[]∧q.ls.length≤3∧Yu (co.map (·.p.a.st)) none q.ls=0)
  (hc:ks.length≤1) (V:∀q∈ks,q.nm=⟨#[107]⟩∧Y7 (co.map (·.p.a.st)) q.k=0):D25 ⟨XY ns 5,co.map IV.it,rq.map IV.it,qx.map XV.x,ks.map KV.k⟩:=by
 have I:szs (co.map IV.it)=co.map (·.p.a.st):=by unfold szs;rw[MC];rfl
 refine⟨⟨KL ns 5,Qg1 ns⟩,by simp only[List.length_map];omega,by simp only[List.length_map];omega,by simp only[List.length_map];omega,λx hx=>?_,λx hx=>?_,?_,by simp only[List.length_map];omega,λx hx=>?_,?_,by simp only[List.length_map];omega,λx hx=>?_⟩
 ·obtain⟨q,hq,rfl⟩:=Ly.1 hx;obtain⟨k,hk,rfl⟩:=LF hq;have g:=G k hk;exact⟨by show Xb (co[k]'hk).nm=true;rw[g.nm];exact(Qf4 k (by omega)).1,g.g,g.e⟩
 ·obtain⟨q,hq,rfl⟩:=Ly.1 hx;obtain⟨k,hk,rfl⟩:=LF hq;have g:=H k hk;refine⟨by show Xb (rq[k]'hk).nm=true;rw[g.1.nm];exact(Qf4 k (by omega)).2.1,g.1.g,λe he=>?_⟩;obtain⟨y,hy,Y⟩:=(J e).1 (g.2 e he);exact⟨y.it,LK hy,Y⟩
 ·show((co.map IV.it).map (·.nm)++(rq.map IV.it).map (·.nm)).Nodup;rw[yj G,yj (λk hk=>(H k hk).1)];exact Qel _ (by omega) _ (by omega)
 ·obtain⟨q,hq,rfl⟩:=Ly.1 hx;obtain⟨⟨k,k1,k2⟩,E,_,g4⟩:=U q hq;refine⟨by show Xb q.nm=true;rw[k2];exact(Qf4 k (by omega)).2.2,E,?_⟩;show Yu (szs (co.map IV.it)) none q.ls=0;rw[I];exact g4
 ·show((qx.map XV.x).map (·.nm)).Nodup;rw[MC];exact T
 obtain⟨q,hq,rfl⟩:=Ly.1 hx;obtain⟨g1,E⟩:=V q hq;refine⟨by show Xb q.nm=true;rw[g1];decide,?_⟩;show Y7 (szs (co.map IV.it)) q.k=0;rw[I];exact E
def flk (l:PlV)(i:Nat):Int:=[l.f0,l.f1,l.f2].getD i 0
theorem Qmn {l:PlV}(h:l.ns.length=147){i:Nat}(hi:i<3):(YA l)[0+148+i*1]?=some (.int .i8 (flk l i)):=by
 rw[show 0+148+i*1=147+(1+i) by omega,QfT h]
 match i,hi with
 | 0,_=>rfl
 | 1,_=>rfl
 | 2,_=>rfl
theorem Qmm {L:LN}{H:Array Obj}{l:PlV}(h:PlA L H l)(i:Nat)(hi:i<3):i8R (flk l i):=by
 match i,hi with
 | 0,_=>exact h.f0
 | 1,_=>exact h.f1
 | 2,_=>exact h.f2
theorem Qg0 (ns:LN):∀e∈XY ns 5,Ue e.nm:=λe he=>by
 unfold XY at he;obtain⟨k,_,rfl⟩:=Ly.1 he;unfold JO;split <;> exact YV (by simp)
set_option maxRecDepth 100000 in
set_option maxHeartbeats 8000000 in
theorem Qeo {w:World}{l:PlV}(h:PlA [] w.heap l):
  QF prog 20 [.agg (YA l).toArray] w λr w'=>Step [] w w'∧∃k,QhR w.heap.size w'.heap r k∧D25 k:=by
 refine Zb (1+l.ns.getD 5 0 % 3) λn hn=>?_;have hn3:1≤n∧n≤3:=by omega
 refine QF.of_W func20 O ntmps20 results20 (by simp) ?_;refine Qc<|xl O<|QQ (us:=YA l) O λb1 w1 hs1 hb1 m6=>xl O<|Qt (us:=YP) O λb2 w2 kv hb2 m7=>xe ?_;have m8:=hs1.trans kv;have hl1:=m6.lt;have hl2:=m7.lt;have gt:=m6.ext kv;have m9:((l.ns.drop 0).take 5).length=5:=by rw[Lx,L8,h.n];rfl
 have hflt:∀n∈(l.ns.drop 0).take 5,n<256:=λn hn=>h.b n (My (LQ hn));refine Qc<|x (Qa O)<|x (KE (us:=bys ((l.ns.drop 0).take 5)) gt O (by rw[ZG];exact m9) (λj u hu=>QbQ (l:=l) (o:=0) (m:=5) j u hu))<|xl O<|xf<|(Qbo (ns:=(l.ns.drop 0).take 5) m9 hflt).mono ?_;rintro ve w3 ⟨pa,gj⟩;refine Zb (XY ((l.ns.drop 0).take 5) 5) λev kg=>?_;rw[kg]at gj
 refine x (QN ⟨Zn gj,Z⟩)<|xl O<|Qt (us:=YP) O λE w4 hs4 hb3 hB3=>xl O<|Qp (us:=[ve,Q0,Q0,Q0,Q0]) hB3 O O O O ⟨QH gj,O,O,O,O,Z⟩ λw5 hs5 pc =>
  xe ?_
 have pd:Step [] w3 w5:=hs4.then1 hs5 hb3;refine Qc<|xl O<|Qt (us:=[Q0]) O λb4 w6 pf hb4 pg=>xe ?_;have ph:=pd.trans pf;have gu:=pa.trans ph;have H:=kv.trans gu;have hz3:=pa.size;have hz35:=pd.size;have hl3:=pc.lt;have hl4:=pg.lt;have kw:=gt.ext gu;have hB36:=pc.ext pf;have q5:=Qc1 (l:=l) h.n (j:=5) (by omega);have q5l:=YL h.b 5
 refine Zb (l.ns.getD 5 0) λcn hcn=>?_;rw[hcn]at q5 q5l hn
 refine Qc<|x (Qa O)<|x (Qd kw O q5)<|x (JU (a:=(cn:Int)) (b:=3) O O (by omega) (by omega))<|x (ZO (k':=.i64) O ⟨by omega,by omega⟩)<|QM O O<|Qe<|QX (α:=Value×List IV×Value×LI) [(6,7),(26,55)] (λ_=>[]) (λz w'=>Step [E,b4] w6 w'∧QT w'.heap E 37 [ve,z.1,Q0,Q0,Q0]∧QT w'.heap b4 39 [z.2.2.1]∧V5 w6.heap.size w' z.1 z.2.2.1 z.2.1 z.2.2.2∧z.2.1.length=n∧(∀k (hk:k<z.2.1.length),ItG 99 k (z.2.1[k]'hk))∧z.2.2.2.length≤5*n∧∀e,e∈z.2.2.2↔∃q∈z.2.1,e∈q.p.a.al) (by rfl) ?_ ?_
 ·refine Qc<|Qb<|Qb<|xe<|Qh<|Qz (α:=Nat×Value×List IV×Value×LI) [(6,7),(27,55)] (λz=>[(27,.int .i64 z.1)])
   (λz w'=>z.1≤n∧Step [E,b4] w6 w'∧QT w'.heap E 37 [ve,z.2.1,Q0,Q0,Q0]∧QT w'.heap b4 39 [z.2.2.2.1]∧V5 w6.heap.size w' z.2.1 z.2.2.2.1 z.2.2.1 z.2.2.2.2∧z.2.2.1.length=z.1∧(∀k (hk:k<z.2.2.1.length),ItG 99 k (z.2.2.1[k]'hk))∧z.2.2.2.2.length≤5*z.1∧∀e,e∈z.2.2.2.2↔∃q∈z.2.2.1,e∈q.p.a.al)
   (λz=>n - z.1) (by rfl) (0,Q0,[],Q0,[]) La
   ⟨Lk _,Step.refl _ _,hB36,pg,V5.nil,O,λk hk=>absurd hk (by simp),by simp,by simp⟩ ?_
  rintro⟨i,vc,co,va,al⟩ g7 w7 ⟨hi,h7,gk,hZ,hg,gv,hR,kx,gl⟩;simp only[]at hi gk hZ hg gv hR kx gl;refine Qc<|x (QA O O)<|xe<|Qg<|QC O (λkz=>?_) (λkz=>?_)
  ·refine Qy ?_;have k0:i=n:=by have h29:¬(i:Int)<1+(cn:Int) % 3:=kz;omega
   exact⟨(vc,co,va,al),Z,h7,gk,hZ,hg,by simp only[];omega,hR,by simp only[];omega,gl⟩
  have hy:i<n:=by have h29:(i:Int)<1+(cn:Int) % 3:=kz;omega
  have k4:b1∉[E,b4]:=by simp only[List.mem_cons,List.not_mem_nil,or_false];omega
  have hS:=kw.step h7 k4;have qs:=Qc1 (l:=l) h.n (j:=0+6+i*1) (by omega);have qsl:=YL h.b (0+6+i*1);refine Zb (l.ns.getD (0+6+i*1) 0) λm hm=>?_;rw[hm]at qs qsl;have k5:=YF m 5;have gx:=Kc m 5;have ga:=yR m 5;refine Zb (setK m 5) λsk gy=>?_;rw[gy]at k5 gx ga
  refine Qi<|Qg<|Qh<|Qc<|Qb<|Qe<|Qc<|Qb<|x (Qa O)<|x (Zv (i:=i) O O (by omega))<|x (Qd hS O qs)<|xl O<|xf<|(Vz m qsl _).mono ?_;rintro vs w8 ⟨Y,kh⟩;rw[gy]at kh;refine Qe ?_;have pj:=Y.size;have h8:=hg.ext Y;have hI8:=Qr.ints (L:=[]) h8.a (by omega) (by simp);have hJ8:=Qr.ints (L:=[]) kh (by omega) (by simp)
  refine Qc<|x (Qd (hZ.ext Y) O O)<|Qb<|xl O<|xf<|(Qby hI8 hJ8 (by omega)).mono ?_;rintro pn w9 ⟨I,po,hal2,pp,gb⟩;have ki:=Y.trans I;have k6:=I.size;have hz7:=h7.size;refine xl O<|QB (hZ.ext ki) O O (by simp) (QH gb) λU hh hB410=>xe ?_;have hl36:E<w6.heap.size:=by omega
  have h0:V5 w6.heap.size w9 vc pn co po:=h8.setA (Zc gb (by omega)) I.any (λb hb=>.inr (Qn gb b hb).1);have hj:=h0.low hh (λb hb=>by rw[Lb.1 hb];omega);have gz:QT U.heap E 37 [ve,vc,Q0,Q0,Q0]:=(gk.ext ki).step hh (by simp only[List.mem_singleton];omega);have k7:=(hS.ext ki).step hh (by simp only[List.mem_singleton];omega)
  have k8:QI [] U.heap vs sk:=Qr.ints (L:=[]) (Qk (Qs kh I) hh (λb hb hm=>by have:=(Qn kh b hb).1;rw[Lb.1 hm]at this;omega)) (by omega) (by simp);have hz10:=hh.size;have n3v:E∉ob vc:=QR hj.c (by omega);have n1v:b1∉ob vc:=QR hj.c (by omega);have gc:=Qb5 (ns:=l.ns) (o:=0+9+i*27) (by have:=h.n;omega);have g0:=QgA (o:=0+9+i*27) h.b
  have g1:=λj u=>QbQ (l:=l) (o:=0+9+i*27) (m:=27) j u;refine Zb (grN l.ns (0+9+i*27)) λgr h4=>?_;have k9:∀j u,(bys gr)[j]?=some u→(YA l)[0+9+i*27+j]?=some u:=by rw[←h4];exact g1
  rw[h4]at gc g0;have g2:Step [] U { U with drawn:=U.drawn+1 }:=Step.drew _ _
  have g3:(48:Int)+(i:Int)=((48+i:Nat):Int):=by omega
  refine Zb (⟨#[99]⟩++⟨#[UInt8.ofNat (48+i)]⟩:ByteArray) λnm hB=>?_;refine QV (Step (ob vc) U) [(0,true),(1,true),(2,true),(3,true),(4,true),(5,true),(6,true),(7,true),(8,true),(9,true),(10,true),(11,true),(12,false),(13,true),(14,false),(15,false),(16,true),(17,false)] mixed (by rfl) (by kernel_rfl) (Step.drew _ _) ?_
  refine p (λ_=>Qa O)<|pq (λ_ hc=>Qd (gz.step hc n3v) O O)<|p (λ_=>Qm)<|p (λ_=>Y5 O O ⟨by omega,by omega⟩)<|p (λ_=>ZO (k':=.i32) O ⟨by omega,by omega⟩)<|p (λ_=>QbK (n:=48+i) (congrArg (Value.int .i32) g3) (by omega)) <|
   p (λ_=>Yz (a:=⟨#[99]⟩) (b:=⟨#[UInt8.ofNat (48+i)]⟩) O O (by show 1+1≤1000000000;omega))<|p (λ_=>Qm)<|p (λ_=>Qm)<|p (λ_=>Qa O)<|p (λ_=>Zv (i:=i) O O (by omega))<|pq (λ_ hc=>KE (us:=bys gr) (k7.step hc n1v) O (by rw[ZG];exact gc) k9)<|?_
  refine pk<|xf<|(qE (k8.ext g2) (λe he=>by have:=ga e he;omega) gx gc g0).mono ?_;rintro r11 hf ⟨ge,a,⟨xa,xm,hz,rfl,hA⟩,hG,gm⟩;have hC:=g2.trans ge;have pt:=hC.size;have gg:=hA [] (by simp);refine⟨hC.any,?_⟩
  refine p (λ_=>Zw [(0,[.string nm]),(1,[xa,.int .i64 a.st,xm,hz])] ⟨congrArg (λb=>(Value.string b).cells) hB,O,O,O,Z⟩)<|pk<|QE (us:=[Zj ⟨nm,⟨xa,xm,hz,a⟩⟩]) O O (by decide) (show 1*5≤1000000 by omega) ⟨O,O,Z⟩ λb14 hT V hb14 ma=>⟨(hC.trans V).any,?_⟩;have ho:=hC.trans V;have g4:=hj.ext ho
  refine pk<|Q2 (news:=Zj ⟨nm,⟨xa,xm,hz,a⟩⟩) (L:=[]) g4.c O O O (ma.at (by simp)) (UU gg.al.one gg.mr.one gg.ed.one) (by omega) (by have:=ho.size;omega) λmc hE g5 G mf=>⟨(ho.any (L:=ob vc)).trans' G,?_⟩;have mg:=g4.setC (VM (q:=⟨nm,⟨xa,xm,hz,a⟩⟩) (N:=U.heap.size) (λL hL=>(hA L hL).ext V) (by omega) hj.avlt) g5 G mf
  refine p (λ_=>Qa O)<|pkl (hl:=by kernel_rfl)<|QB ((gz.ext ho).step G n3v) O O (by simp) (QH g5) λhH H hU=>pe ?_;have hge:=Qn hj.c;have n4v:b4∉ob vc:=QR hj.c (by omega);have hB416:=((hB410.ext ho).step G n4v).step H (by simp only[List.mem_singleton];omega);have hs710:Step [b4] w7 U:=ki.any.trans' hh
  have hs615:Step [E,b4] w6 hE:=((h7.trans' (hs710.mono (by simp))).trans ho.any).then G (λb hb=>.inr (hge b hb).1);refine Qx<|QM O O<|Qb<|xe ?_
  refine⟨(i+1,mc,co++[⟨nm,⟨xa,xm,hz,a⟩⟩],pn,po),by simp only[];omega,La,hy,hs615.trans' (H.mono (by simp)),hU,hB416,mg.low H (λb hb=>by rw[List.mem_singleton.1 hb];omega),by simp only[List.length_append,List.length_singleton];omega,λk hk=>?_,by simp only[];omega,λe=>?_⟩
  ·simp only[]at hk ⊢;by_cases ha:k<co.length
   ·rw[LX ha];exact hR k ha
   have g6:k=i:=by simp only[List.length_append,List.length_singleton]at hk;omega
   subst g6;rw[Mq (by omega)];simp only[gv,Nat.sub_self,List.getElem_cons_zero];exact⟨hB.symm,hG,λe he=>by rw[gm]at he;exact(ga e he).2⟩
  simp only[]at pp ⊢;rw[pp,gl];constructor
  ·rintro(⟨q,hq,he⟩|he)
   ·exact⟨q,LW _ hq,he⟩
   exact⟨_,M2 _ (Lb.2 O),by rw[gm];exact he⟩
  rintro⟨q,hq,he⟩;rcases Lp.1 hq with hq|hq
  ·exact .inl ⟨q,hq,he⟩
  rw[Lb.1 hq,gm]at he;exact .inr he
 rintro⟨vc,co,va,al⟩ g7 w7 ⟨h7,gk,hZ,hg,gv,hR,kx,gl⟩;simp only[]at gk hZ hg gv hR kx gl;have hz7:=h7.size;have k4:b1∉[E,b4]:=by simp only[List.mem_cons,List.not_mem_nil,or_false];omega
 have hS:=kw.step h7 k4;have mh:b1∉[E]:=by simp only[List.mem_singleton];omega
 have n43:b4∉[E]:=by simp only[List.mem_singleton];omega
 have pu:=Qc1 (l:=l) h.n (j:=90) (by omega);have q90l:=YL h.b 90;refine Zb (l.ns.getD 90 0) λrn hrn=>?_;rw[hrn]at pu q90l;refine Zb (rn % 3) λr hr=>?_;refine QX (α:=Value×List IV) [(8,9),(56,87)] (λ_=>[]) (λz w'=>Step [E] w7 w'∧QT w'.heap E 37 [ve,vc,z.1,Q0,Q0]∧V5 w7.heap.size w' z.1 Q0 z.2 []∧z.2.length=r∧∀k (hk:k<z.2.length),ItG 114 k (z.2[k]'hk)∧∀e∈(z.2[k]'hk).p.a.al,e∈al) (by rfl) ?_ ?_
 ·refine Qc<|x (Qa O)<|x (Qd hS O pu)<|x (JU (a:=(rn:Int)) (b:=3) O O (by omega) (by omega))<|x (ZO (k':=.i64) O ⟨by omega,by omega⟩)<|Qb<|xe<|Qh<|Qz (α:=Nat×Value×List IV) [(8,9),(60,87)] (λz=>[(60,.int .i64 z.1)])
   (λz w'=>z.1≤r∧Step [E] w7 w'∧QT w'.heap E 37 [ve,vc,z.2.1,Q0,Q0]∧V5 w7.heap.size w' z.2.1 Q0 z.2.2 []∧z.2.2.length=z.1∧∀k (hk:k<z.2.2.length),ItG 114 k (z.2.2[k]'hk)∧∀e∈(z.2.2[k]'hk).p.a.al,e∈al)
   (λz=>r - z.1) (by rfl) (0,Q0,[]) La
   ⟨Lk _,Step.refl _ _,gk,V5.nil,O,λk hk=>absurd hk (by simp)⟩ ?_
  rintro⟨i,vr,rq⟩ g8 w8 ⟨hi,Y,gn,h8,kj,h4⟩;simp only[]at hi gn h8 kj h4;refine Qc<|x (QA O O)<|xe<|Qg<|QC O (λmj=>?_) (λmj=>?_)
  ·refine Qy ?_;have k0:i=r:=by have h62:¬(i:Int)<(rn:Int) % 3:=mj;omega
   exact⟨(vr,rq),Z,Y,gn,h8,by simp only[];omega,h4⟩
  have hy:i<r:=by have h62:(i:Int)<(rn:Int) % 3:=mj;omega
  have ka:=hS.step Y mh;have hB48:=hZ.step Y n43;have qs:=Qc1 (l:=l) h.n (j:=0+91+i*1) (by omega);have qsl:=YL h.b (0+91+i*1);refine Zb (l.ns.getD (0+91+i*1) 0) λm hm=>?_;rw[hm]at qs qsl;have k5:=YF m 5;have gx:=Kc m 5;have ga:=yR m 5;refine Zb (setK m 5) λsk gy=>?_;rw[gy]at k5 gx ga
  refine Qi<|Qg<|Qh<|Qc<|Qb<|Qe<|Qc<|Qb<|x (Qa O)<|x (Zv (i:=i) O O (by omega))<|x (Qd ka O qs)<|xl O<|xf<|(Vz m qsl _).mono ?_;rintro vs w9 ⟨I,gb⟩;rw[gy]at gb;have pj:=Y.size;have k6:=I.size;have hva8:=Qs (Qk hg.a Y (λb hb hm=>by rw[Lb.1 hm]at hb;exact QR hg.a (by omega) hb)) I;have g1:=Qn gb;have hlv:=Q3 hg.a
  have hD:=QjD gb (by omega) (hB48.ext I) (λhm=>by have:=(g1 b4 hm).1;omega) (QW hva8 (by omega) (λb hb hbs=>by have:=(g1 b hbs).1;have:=hlv b hb;omega));refine x (Zm (l:=[]) (l':=[_]))<|xl O<|xf<|hD.mono ?_;rintro vd U ⟨hh,pw⟩;have pz:Yn (sk.filter λx=>decide (x∈al)):=List.Pairwise.filter _ gx;have hFL:=LT (λx=>decide (x∈al)) sk
  have kk:∀e∈sk.filter λx=>decide (x∈al),e∈sk∧e∈al:=λe he=>by
   have:=LO.1 he;exact⟨this.1,of_decide_eq_true this.2⟩
  refine Zb (sk.filter λx=>decide (x∈al)) λF hF=>?_;rw[hF]at pw pz hFL kk;refine Qe ?_;have kb:Step [] w8 U:=I.then hh (λb hb=>.inr (g1 b hb).1);have hz10:=kb.size;have hj:=h8.ext kb;have gz:=gn.ext kb;have k7:=ka.ext kb;have k8:QI [] U.heap vd F:=Qr.ints (L:=[]) pw (by omega) (by simp);have n3v:E∉ob vr:=QR hj.c (by omega)
  have n1v:b1∉ob vr:=QR hj.c (by omega);have gc:=Qb5 (ns:=l.ns) (o:=0+93+i*27) (by have:=h.n;omega);have g0:=QgA (o:=0+93+i*27) h.b;have k9:=λj u=>QbQ (l:=l) (o:=0+93+i*27) (m:=27) j u;refine Zb (grN l.ns (0+93+i*27)) λgr p0=>?_;have hgs2:∀j u,(bys gr)[j]?=some u→(YA l)[0+93+i*27+j]?=some u:=by rw[←p0];exact k9
  rw[p0]at gc g0;have g2:Step [] U { U with drawn:=U.drawn+1 }:=Step.drew _ _
  have g3:(48:Int)+(i:Int)=((48+i:Nat):Int):=by omega
  refine Zb (⟨#[114]⟩++⟨#[UInt8.ofNat (48+i)]⟩:ByteArray) λnm hB=>?_;refine QV (Step (ob vr) U) [(0,true),(1,true),(2,true),(3,true),(4,true),(5,true),(6,true),(7,true),(8,true),(9,true),(10,true),(11,true),(12,false),(13,true),(14,false),(15,false),(16,true),(17,false)] mixed (by rfl) (by kernel_rfl) (Step.drew _ _) ?_
  refine p (λ_=>Qa O)<|pq (λ_ hc=>Qd (gz.step hc n3v) O O)<|p (λ_=>Qm)<|p (λ_=>Y5 O O ⟨by omega,by omega⟩)<|p (λ_=>ZO (k':=.i32) O ⟨by omega,by omega⟩)<|p (λ_=>QbK (n:=48+i) (congrArg (Value.int .i32) g3) (by omega)) <|
   p (λ_=>Yz (a:=⟨#[114]⟩) (b:=⟨#[UInt8.ofNat (48+i)]⟩) O O (by show 1+1≤1000000000;omega))<|p (λ_=>Qm)<|p (λ_=>Qm)<|p (λ_=>Qa O)<|p (λ_=>Zv (i:=i) O O (by omega))<|pq (λ_ hc=>KE (us:=bys gr) (k7.step hc n1v) O (by rw[ZG];exact gc) hgs2)<|?_
  refine pk<|xf<|(qE (k8.ext g2) (λe he=>by have:=ga e (kk e he).1;omega) pz gc g0).mono ?_;rintro r11 hf ⟨ge,a,⟨xa,xm,hz,rfl,hA⟩,hG,gm⟩;have hC:=g2.trans ge;have pt:=hC.size;have gg:=hA [] (by simp);refine⟨hC.any,?_⟩
  refine p (λ_=>Zw [(0,[.string nm]),(1,[xa,.int .i64 a.st,xm,hz])] ⟨congrArg (λb=>(Value.string b).cells) hB,O,O,O,Z⟩)<|pk<|QE (us:=[Zj ⟨nm,⟨xa,xm,hz,a⟩⟩]) O O (by decide) (show 1*5≤1000000 by omega) ⟨O,O,Z⟩ λb14 hT V hb14 ma=>⟨(hC.trans V).any,?_⟩;have ho:=hC.trans V;have g4:=hj.ext ho
  refine pk<|Q2 (news:=Zj ⟨nm,⟨xa,xm,hz,a⟩⟩) (L:=[]) g4.c O O O (ma.at (by simp)) (UU gg.al.one gg.mr.one gg.ed.one) (by omega) (by have:=ho.size;omega) λmc hE g5 G mf=>⟨(ho.any (L:=ob vr)).trans' G,?_⟩;have mg:=g4.setC (VM (q:=⟨nm,⟨xa,xm,hz,a⟩⟩) (N:=U.heap.size) (λL hL=>(hA L hL).ext V) (by omega) hj.avlt) g5 G mf
  refine p (λ_=>Qa O)<|pkl (hl:=by kernel_rfl)<|QB ((gz.ext ho).step G n3v) O O (by simp) (QH g5) λhH H hU=>pe ?_;have hge:=Qn hj.c;have hs715:Step [E] w7 hE:=((Y.trans kb.any).trans ho.any).then G (λb hb=>.inr (hge b hb).1);refine Qx<|QM O O<|Qb<|xe ?_
  refine⟨(i+1,mc,rq++[⟨nm,⟨xa,xm,hz,a⟩⟩]),by simp only[];omega,La,hy,hs715.trans' H,hU,mg.low H (λb hb=>by rw[Lb.1 hb];omega),by simp only[List.length_append,List.length_singleton];omega,λk hk=>?_⟩;simp only[]at hk ⊢;by_cases ha:k<rq.length
  ·rw[LX ha];exact h4 k ha
  have g6:k=i:=by simp only[List.length_append,List.length_singleton]at hk;omega
  subst g6;rw[Mq (by omega)];simp only[kj,Nat.sub_self,List.getElem_cons_zero];exact⟨⟨hB.symm,hG,λe he=>by rw[gm]at he;exact(ga e (kk e he).1).2⟩,λe he=>by rw[gm]at he;exact(kk e he).2⟩
 rintro⟨vr,rq⟩ g8 w8 ⟨Y,gn,h8,kj,h4⟩;simp only[]at gn h8 kj h4;have pj:=Y.size;have ka:=hS.step Y mh;have g147:=QfT (l:=l) h.n 0;have hX6:Zs [E,b4] w6.heap l.vx l.xs.length 4 (l.xs.flatMap YJ):=((h.x.up (L':=[E,b4]) (λb hb=>.inr (by simp only[List.mem_cons,List.not_mem_nil,or_false]at hb;omega))).ext m8).ext gu
 have p4:Zs [E] w8.heap l.vx l.xs.length 4 (l.xs.flatMap YJ):=((hX6.st h7).up (L':=[E]) (λb hb=>.inl (by simp only[List.mem_singleton]at hb;simp[hb]))).st Y
 refine QX (α:=Value×List XV) [(10,14),(88,151)] (λ_=>[]) (λz w'=>Step [E] w8 w'∧QT w'.heap E 37 [ve,vc,vr,z.1,Q0]∧Xf Zt 2 99 (λq=>[(q.v,q.ls.length,2,q.ls.flatMap QU)]) w8.heap.size w' z.1 z.2∧z.2.length≤2∧(z.2.map (·.nm)).Nodup∧∀q∈z.2,(∃k,k<2∧q.nm=⟨#[101]⟩++⟨#[UInt8.ofNat (48+k)]⟩)∧q.ls≠[]∧q.ls.length≤3∧Yu (co.map (·.p.a.st)) none q.ls=0) (by rfl) ?_ ?_
 ·refine Qc<|x (Qa O)<|x (Qd ka O g147)<|x (Qu p4 O)<|Qb<|xe<|Qh<|Qz (α:=Nat×Value×List XV) [(10,14),(91,151)] (λz=>[(91,.int .i64 z.1)])
   (λz w'=>z.1≤l.xs.length∧z.1≤2∧Step [E] w8 w'∧QT w'.heap E 37 [ve,vc,vr,z.2.1,Q0]∧Xf Zt 2 99 (λq=>[(q.v,q.ls.length,2,q.ls.flatMap QU)]) w8.heap.size w' z.2.1 z.2.2∧z.2.2.length≤z.1∧(z.2.2.map (·.nm)).Nodup∧∀q∈z.2.2,(∃k,k<z.1∧q.nm=⟨#[101]⟩++⟨#[UInt8.ofNat (48+k)]⟩)∧q.ls≠[]∧q.ls.length≤3∧Yu (co.map (·.p.a.st)) none q.ls=0)
   (λz=>l.xs.length - z.1) (by rfl) (0,Q0,[]) La
   ⟨Lk _,Lk _,Step.refl _ _,gn,Xf.nil,Ls _,List.Pairwise.nil,λq hq=>by cases hq⟩ ?_
  rintro⟨i,vx,qx⟩ g9 w9 ⟨hi,hi2,I,hV,h0,kn,hW,hI⟩;simp only[]at hi hi2 hV h0 kn hW hI;have p5:(∀q∈qx,(∃k,k<2∧q.nm=⟨#[101]⟩++⟨#[UInt8.ofNat (48+k)]⟩)∧q.ls≠[]∧q.ls.length≤3∧Yu (co.map (·.p.a.st)) none q.ls=0):=λq hq=>by
   obtain⟨⟨k,k1,k2⟩,h2⟩:=hI q hq;exact⟨⟨k,by omega,k2⟩,h2⟩
  refine Qc<|x (QA O O)<|xe<|Qg<|QC O (λp6=>?_) (λp6=>?_)
  ·refine Qy ?_;exact⟨(vx,qx),Z,I,hV,h0,by simp only[];omega,hW,p5⟩
  have hy:i<l.xs.length:=by have h93:(i:Int)<(l.xs.length:Int):=p6;omega
  have hX9:=p4.st I;refine Qi<|Qg<|Qh<|Qc<|Qb<|xig U2 hX9 O O hy λa94 p7=>?_;refine Zb (l.xs[i]'hy) λxr hxr=>?_;rw[hxr]at p7;refine x (QJ p7 O (U2 xr))<|xl O<|Qt (us:=[.int .u8 0,.int .u8 0,.int .u8 0,.int .u8 0]) O λb11 U hh hb11 hB11=>x Qf<|xl O<|Qp (us:=YJ xr) hB11 O O (U2 xr) O (V1 xr.1) λhf ge p8=>xe ?_;have h5:Step [] w9 hf:=hh.then1 ge hb11
  refine Qg<|Qc<|Qb<|x (Zg O O)<|xe<|Q6 O (λp9=>?_) (λp9=>?_)
  ·refine Qy ?_;exact⟨(vx,qx),Z,I.trans h5.any,hV.ext h5,h0.ext h5,by simp only[];omega,hW,p5⟩
  have hi3:i<2:=by have h98:¬(i:Int)=2:=p9;omega
  have g3:(48:Int)+(i:Int)=((48+i:Nat):Int):=by omega
  have pt:=h5.size;have hl11:=p8.lt;refine Zb (⟨#[101]⟩++⟨#[UInt8.ofNat (48+i)]⟩:ByteArray) λnm hB=>?_;refine Qi<|Qc<|Qb<|QM O O<|x (ZO (k':=.i32) O ⟨by omega,by omega⟩)<|x (QbK (n:=48+i) (congrArg (Value.int .i32) g3) (by omega))<|x (Yz (a:=⟨#[101]⟩) (b:=⟨#[UInt8.ofNat (48+i)]⟩) O O (by show 1+1≤1000000000;omega))<|x (QN La) <|
   xl rfl<|Qt (us:=[.string .empty,Q0]) O λhJ hT V qc gt=>xl O<|Qp (us:=[.string nm,Q0]) gt O (show Go.Lg.ev _ _=_ from congrArg (λs=>Value.agg #[.string s,Q0]) hB) O O ⟨O,O,Z⟩ λhK hM hB1213=>xe ?_
  have ko:Step [] hf hK:=V.then1 hM qc;have mo:=h5.trans ko;have hz1113:=ko.size;have k6:=I.size;have hltC:=Q3 hg.c;have nc3:E∉ob vc:=QR hg.c (by omega);have ql:∀b∈ob vc,b∉[E]:=λb hb hm=>by rw[Lb.1 hm]at hb;exact nc3 hb
  have hC13:=Qs (Qk (Qk hg.c Y ql) I ql) mo;have mq:=hV.ext mo;have hB1113:=p8.ext ko;have hl12:=gt.lt;have qo:E∉[hJ]:=by simp only[List.mem_singleton];omega
  have n1112:b11∉[hJ]:=by simp only[List.mem_singleton];omega
  have qr:=QW (L:=[hJ]) hC13 (by omega) (λb hb hm=>by rw[Lb.1 hm]at hb;have:=hltC hJ hb;omega)
  refine QX (α:=Value×List (Int×Int)) [(13,14),(104,140)] (λ_=>[]) (λz w'=>Step [hJ] hK w'∧QT w'.heap hJ 99 [.string nm,z.1]∧w'.ownsRow hK.heap.size 101 2 z.1 z.2.length (z.2.flatMap QU)∧z.2.length≤co.length∧z.2.Pairwise (λp q=>p.1<q.1)∧∀p∈z.2,0≤p.1∧p.1<(co.length:Int)∧0≤p.2∧p.2<cget (co.map (·.p.a.st)) p.1.toNat) (by rfl) ?_ ?_
  ·refine Qc<|x (Qa O)<|x (Qd mq O O)<|x (Qu qr O)<|Qb<|xe<|Qh<|Qz (α:=Nat×Value×List (Int×Int)) [(13,14),(107,140)] (λz=>[(107,.int .i64 z.1)])
    (λz w'=>z.1≤co.length∧Step [hJ] hK w'∧QT w'.heap hJ 99 [.string nm,z.2.1]∧w'.ownsRow hK.heap.size 101 2 z.2.1 z.2.2.length (z.2.2.flatMap QU)∧z.2.2.length≤z.1∧z.2.2.Pairwise (λp q=>p.1<q.1)∧∀p∈z.2.2,0≤p.1∧p.1<(z.1:Int)∧0≤p.2∧p.2<cget (co.map (·.p.a.st)) p.1.toNat)
    (λz=>co.length - z.1) (by rfl) (0,Q0,[]) La
    ⟨Lk _,Step.refl _ _,hB1213,QO _ _ _ _,Ls _,List.Pairwise.nil,λp hp=>by cases hp⟩ ?_
   rintro⟨k,vl,ls⟩ g14 h6 ⟨hk,J,hN,T,ms,gh,hO⟩;simp only[]at hk hN T ms gh hO;refine Qc<|x (QA O O)<|xe<|Qg<|QC O (λmt=>?_) (λmt=>?_)
   ·refine Qy ?_;have g6:k=co.length:=by have h109:¬(k:Int)<(co.length:Int):=mt;omega
    rw[g6]at hO;exact⟨(vl,ls),Z,J,hN,T,by simp only[];omega,gh,hO⟩
   have ha:k<co.length:=by have h109:(k:Int)<(co.length:Int):=mt;omega
   have hAC14:=qr.st J;have hX:=mq.step J qo;have q0:=hB1113.step J n1112;refine Qi<|Qg<|Qh<|Qc<|Qb<|Qe<|Qc<|x (Qa O)<|x (Qd hX O O)<|Qb<|xig Xa hAC14 O O ha λa113 q4=>?_;refine Zb (co[k]'ha) λq hq=>?_;rw[hq]at q4;refine x (Zd O)<|x (Zd O)<|x (Qw ((q4.from 1).fld 1 (.int .i64 q.p.a.st) O) O)<|Qe ?_;have mu:=(hR k ha).g;rw[hq]at mu;have hqp:=mu.p
   have hqs:=mu.s;have mv:=JP (ns:=xr.1) (j:=0+k*1) (by rw[xr.2.1];omega);have qx0l:=YL xr.2.2 (0+k*1);refine Zb (xr.1.getD (0+k*1) 0) λxk hxk=>?_;rw[hxk]at mv qx0l;have hmod:0≤(xk:Int) % (q.p.a.st+2):=Int.emod_nonneg _ (by omega)
   refine Qc<|Qb<|x (Zv (i:=k) O O (by omega))<|x (Qd q0 O mv)<|x (ZO (k':=.i64) O ⟨by omega,by omega⟩)<|Qb<|QM O O<|x (JU (a:=(xk:Int)) (b:=q.p.a.st+2) O O (by omega) (by omega))<|Qb<|x (QA O O)<|xe ?_;have hgeL:=Qn T;have q9:=J.size;have j1:=hM.size;have j2:hJ∉ob vl:=QR T (by omega);have hn11v:b11∉ob vl:=QR T (by omega)
   have hcget:cget (co.map (·.p.a.st)) k=q.p.a.st:=by
    unfold cget;simp[List.getD,List.getElem?_map,List.getElem?_eq_getElem ha,hq]
   refine QC O (λh125=>?_) (λh125=>?_)
   ·refine Qi<|Qx<|QM O O<|Qb<|xe ?_;exact⟨(k+1,vl,ls),by simp only[];omega,La,ha,J,hN,T,by simp only[];omega,gh,λp hp=>by have:=hO p hp;simp only[];omega⟩
   have hd14:Step [] h6 { h6 with drawn:=h6.drawn+1 }:=Step.drew _ _
   refine Zb ((xk:Int) % (q.p.a.st+2)) λst hst=>?_;refine QV (Step (ob vl) h6) [(0,true),(1,true),(2,true),(3,true),(4,true),(5,true),(6,true),(7,true),(8,true),(9,true),(10,true),(11,false),(12,false),(13,true),(14,false)] mixed (by rfl) (by kernel_rfl) (Step.drew _ _) ?_
   refine p (λ_=>Qa O)<|pq (λ_ hc=>Qd (hN.step hc j2) O O)<|p (λ_=>Qm)<|p (λ_=>Qm)<|p (λ_=>Zv (i:=k) O O (by omega))<|pq (λ_ hc=>Qd (q0.step hc hn11v) O mv)<|p (λ_=>ZO (k':=.i64) O ⟨by omega,by omega⟩)<|p (λ_=>Qm)<|p (λ_=>Y5 O O ⟨by omega,by omega⟩) <|
    p (λ_=>JU (a:=(xk:Int)) (b:=q.p.a.st+2) O O (by omega) (by omega))<|p (λ_=>QN ⟨O,O,Z⟩)<|pk<|QE (us:=[QU ((k:Int),(xk:Int) % (q.p.a.st+2))]) O O (by decide) (show 1*2≤1000000 by omega) ⟨O,O,Z⟩ λb137 hE G hb137 hB137=>?_
   have go:=hd14.trans G;have hz1415:=go.size;refine⟨go.any,?_⟩;refine pk<|Q2 (news:=QU ((k:Int),(xk:Int) % (q.p.a.st+2))) (L:=[]) (Qs T go) O O O (hB137.at (by simp)) (ji _) (by omega) (by omega) λkp hH gq H j3=>⟨(go.any (L:=ob vl)).trans' H,?_⟩;have hge16:∀b∈ob kp,hK.heap.size≤b:=λb hb=>(Qn gq b hb).1
   refine p (λ_=>Qa O)<|pkl (hl:=by kernel_rfl)<|QB ((hN.ext go).step H j2) O O (by simp) (QH gq) λmw hv hS=>pe ?_;refine Qx<|QM O O<|Qb<|xe ?_
   refine⟨(k+1,kp,ls++[((k:Int),(xk:Int) % (q.p.a.st+2))]),by simp only[];omega,La,ha,((J.trans go.any).then H (λb hb=>.inr (hgeL b hb).1)).trans' hv,hS,?_,by simp only[List.length_append,List.length_singleton];omega,?_,λp hp=>?_⟩
   ·have h9:=Qk gq hv (λb hb=>by have:=hge16 b hb;simp only[List.mem_singleton];omega);simp only[List.length_append,List.flatMap_append];simpa using h9
   ·simp only[];rw[Ms];exact⟨gh,Ny _ _,λp hp p' mx=>by rw[Lb.1 mx];have:=hO p hp;simp only[];omega⟩
   simp only[]at hp ⊢;rcases Lp.1 hp with hp|hp
   ·have:=hO p hp;omega
   rw[Lb.1 hp];simp only[Int.toNat_natCast];rw[hcget];omega
  rintro⟨vl,ls⟩ g14 h6 ⟨J,hN,T,ms,gh,hO⟩;simp only[]at hN T ms gh hO;have q9:=J.size;have j1:=hM.size;have hY:Step [] w9 h6:=mo.then1 J (by omega);have hX:=mq.step J qo;have kq:=h0.ext hY;refine Qc<|x (Qa O)<|x (Qd hN O O)<|x (Qu (QW (L:=[]) T (by omega) (by simp)) rfl)<|x (ZM rfl rfl)<|xe<|QC O (λj4=>?_) (λj4=>?_)
  ·refine Qi<|Qx<|QM O O<|Qb<|xe<|⟨(i+1,vx,qx),by simp only[];omega,La,hy,by simp only[];omega,I.trans hY.any,hX,kq,by simp only[];omega,hW,λq hq=>?_⟩;obtain⟨⟨k,k1,k2⟩,h2⟩:=hI q hq;exact⟨⟨k,by simp only[];omega,k2⟩,h2⟩
  have za:(0:Int)<(ls.length:Int):=j4;have hxx:=QH T;refine Qx<|x (Qa O)<|x (Qd hX O O)<|x (Qo hN O O)<|xl O<|QE (us:=[Zt ⟨nm,vl,ls⟩]) O O (by decide) (show 1*2≤1000000 by omega) ⟨O,O,Z⟩ λb148 hE G hb148 hB148=>?_
  refine xl O<|Q2 (news:=Zt ⟨nm,vl,ls⟩) (L:=[]) (Qs kq.own G) O O O (hB148.at (by simp)) (UN hxx) (by omega) (by have:=hY.size;have:=G.size;omega) λkp hH gq H j3=>?_;have hs1115:Step [] hf hE:=(ko.then1 J qc).trans G
  have hM16:=(h0.ext h5).app hs1115 (q:=⟨nm,vl,ls⟩) (λt ht=>by rw[Lb.1 ht];exact⟨hK.heap.size,101,Qs T G,by show ls.length≤_;omega,hz1113⟩) (by omega) gq H j3;have hgeX:=Qn kq.own;have n3x:E∉ob vx:=QR kq.own (by omega);refine x (Qa O)<|xl O<|QB ((hX.ext G).step H n3x) O O (by simp) (QH gq) λmw hv hB317=>xe ?_;refine Qx<|QM O O<|Qb<|xe ?_
  have kr:Step [E] w8 hH:=((I.trans hY.any).trans G.any).then H (λb hb=>.inr (hgeX b hb).1);refine⟨(i+1,kp,qx++[⟨nm,vl,ls⟩]),by simp only[];omega,La,hy,by simp only[];omega,kr.trans' hv,hB317,hM16.low hv (λb hb=>by rw[Lb.1 hb];omega),by simp only[List.length_append,List.length_singleton];omega,?_,λq hq=>?_⟩
  ·simp only[List.map_append,List.map_cons,List.map_nil];rw[Np];refine⟨hW,by simp,λs hs s' hs' e=>?_⟩;obtain⟨q,hq,rfl⟩:=Ly.1 hs;obtain⟨⟨k,k1,k2⟩,_⟩:=hI q hq;have hk0:k=0:=by omega
   have hi1:i=1:=by omega
   rw[Lb.1 hs',k2,←hB,hk0,hi1]at e;exact absurd e (by decide)
  rcases Lp.1 hq with hq|hq
  ·obtain⟨⟨k,k1,k2⟩,h2⟩:=hI q hq;exact⟨⟨k,by simp only[];omega,k2⟩,h2⟩
  rw[Lb.1 hq];refine⟨⟨i,Nat.lt_succ_self _,hB.symm⟩,λe=>by rw[show ls=[] from e]at za;exact absurd za (by decide),by show ls.length≤3;omega,QdF ls none (λb hb=>by cases hb) gh (λp hp=>?_)⟩;rw[Lh];exact hO p hp
 rintro⟨vx,qx⟩ g9 w9 ⟨I,hV,h0,kn,hW,hI⟩;simp only[]at hV h0 kn hW hI;have k6:=I.size;have zb:=ka.step I mh;have g151:=QfT (l:=l) h.n 4;have hbd:=h.bd;have hbdb:=QcF l.bd (b:=8) (by decide);refine Zb (l.bd.tmod 8) λbd zv=>?_;rw[zv]at hbdb
 refine Qc<|x (Qa O)<|x (Qd zb O g151)<|x (ZO (k':=.i64) O ⟨by omega,by omega⟩)<|x (QfJ O O (by decide))<|x (QN ⟨O,O,Z⟩)<|xl O<|Qt (us:=[.string .empty,Q0,.int .i64 0]) O λb15 U hh my mz =>
  xl rfl<|Qp (us:=[.string ⟨#[107]⟩,Q0,.int .i64 bd]) mz O (show Go.Lg.ev _ _=_ from congrArg (λn=>Value.agg #[.string ⟨#[107]⟩,Q0,.int .i64 n]) zv) O O ⟨O,O,O,Z⟩ λhf ge z0=>xe ?_
 have h5:Step [] w9 hf:=hh.then1 ge my;have hB111:=zb.ext h5;have hB311:=hV.ext h5;have n115:b1∉[b15]:=by simp only[List.mem_singleton];omega
 have n315:E∉[b15]:=by simp only[List.mem_singleton];omega
 have hl15:=z0.lt;refine QX (α:=Value×List (Int×Int)) [(16,16),(157,179)] (λ_=>[]) (λz w'=>Step [b15] hf w'∧QT w'.heap b15 153 [.string ⟨#[107]⟩,z.1,.int .i64 bd]∧w'.ownsRow hf.heap.size 155 2 z.1 z.2.length (z.2.flatMap QU)∧z.2.length≤n∧z.2.Pairwise (λp q=>p.1<q.1)∧∀p∈z.2,0≤p.1∧p.1<(n:Int)∧-4<p.2∧p.2<4) (by rfl) ?_ ?_
 ·refine Qc<|Qb<|Qb<|xe<|Qh<|Qz (α:=Nat×Value×List (Int×Int)) [(16,16),(158,179)] (λz=>[(158,.int .i64 z.1)])
   (λz w'=>z.1≤n∧Step [b15] hf w'∧QT w'.heap b15 153 [.string ⟨#[107]⟩,z.2.1,.int .i64 bd]∧w'.ownsRow hf.heap.size 155 2 z.2.1 z.2.2.length (z.2.2.flatMap QU)∧z.2.2.length≤z.1∧z.2.2.Pairwise (λp q=>p.1<q.1)∧∀p∈z.2.2,0≤p.1∧p.1<(z.1:Int)∧-4<p.2∧p.2<4)
   (λz=>n - z.1) (by rfl) (0,Q0,[]) La
   ⟨Lk _,Step.refl _ _,z0,QO _ _ _ _,Ls _,List.Pairwise.nil,λp hp=>by cases hp⟩ ?_
  rintro⟨i,vt,ts⟩ g12 hT ⟨hi,V,hP,hw,kc,gi,hQ⟩;simp only[]at hi hP hw kc gi hQ;refine Qc<|x (QA O O)<|xe<|Qg<|QC O (λm0=>?_) (λm0=>?_)
  ·refine Qy ?_;have k0:i=n:=by have h160:¬(i:Int)<1+(cn:Int) % 3:=m0;omega
   rw[k0]at kc hQ;exact⟨(vt,ts),Z,V,hP,hw,kc,gi,hQ⟩
  have hy:i<n:=by have h160:(i:Int)<1+(cn:Int) % 3:=m0;omega
  have z2:=hB111.step V n115;have qf:=Qmn (l:=l) h.n (i:=i) (by omega);have qfb:=Qmm h i (by omega);refine Zb (flk l i) λfk hfk=>?_;rw[hfk]at qf qfb;refine Qi<|Qg<|Qh<|Qc<|Qb<|Qe<|Qc<|Qb<|x (Qa O)<|x (Zv (i:=i) O O (by omega))<|x (Qd z2 O qf)<|x (Q8 O O)<|xe<|QC O (λh165=>?_) (λh165=>?_)
  ·refine Qi<|Qx<|QM O O<|Qb<|xe ?_;exact⟨(i+1,vt,ts),by simp only[];omega,La,hy,V,hP,hw,by simp only[];omega,gi,λp hp=>by have:=hQ p hp;simp only[];omega⟩
  have hmd:=QcF fk (b:=4) (by decide);have hd12:Step [] hT { hT with drawn:=hT.drawn+1 }:=Step.drew _ _
  have hz12:=V.size;have hgeT:=Qn hw;have z3:b15∉ob vt:=QR hw (by omega);have hn1v:b1∉ob vt:=QR hw (by omega);refine QV (Step (ob vt) hT) [(0,true),(1,true),(2,true),(3,true),(4,true),(5,true),(6,true),(7,true),(8,true),(9,true),(10,false),(11,false),(12,true),(13,false)] mixed (by rfl) (by kernel_rfl) (Step.drew _ _) ?_
  refine p (λ_=>Qa O)<|pq (λ_ hc=>Qd (hP.step hc z3) O O)<|p (λ_=>Qm)<|p (λ_=>Qm)<|p (λ_=>Qa O)<|p (λ_=>Zv (i:=i) O O (by omega))<|pq (λ_ hc=>Qd (z2.step hc hn1v) O qf)<|p (λ_=>ZO (k':=.i64) O ⟨by omega,by omega⟩) <|
   p (λ_=>QfJ O O (by decide))<|p (λ_=>QN ⟨O,O,Z⟩)<|pk<|QE (us:=[QU ((i:Int),fk.tmod 4)]) O O (by decide) (show 1*2≤1000000 by omega) ⟨O,O,Z⟩ λb176 hK hM hb176 hB176=>?_
  have gs:=hd12.trans hM;have hz1213:=gs.size;refine⟨gs.any,?_⟩;refine pk<|Q2 (news:=QU ((i:Int),fk.tmod 4)) (L:=[]) (Qs hw gs) O O O (hB176.at (by simp)) (ji _) (by omega) (by omega) λz4 h6 T J hn14=>⟨(gs.any (L:=ob vt)).trans' J,?_⟩;have hge14:∀b∈ob z4,hf.heap.size≤b:=λb hb=>(Qn T b hb).1
  refine p (λ_=>Qa O)<|pkl (hl:=by kernel_rfl)<|QB ((hP.ext gs).step J z3) O O (by simp) (QH T) λhE G mz=>pe ?_;refine Qx<|QM O O<|Qb<|xe<|⟨(i+1,z4,ts++[((i:Int),fk.tmod 4)]),by simp only[];omega,La,hy,((V.trans gs.any).then J (λb hb=>.inr (hgeT b hb).1)).trans' G,mz,?_,by simp only[List.length_append,List.length_singleton];omega,?_,λp hp=>?_⟩
  ·have h9:=Qk T G (λb hb=>by have:=hge14 b hb;simp only[List.mem_singleton];omega);simp only[List.length_append,List.flatMap_append];simpa using h9
  ·simp only[];rw[Ms];exact⟨gi,Ny _ _,λp hp p' mx=>by rw[Lb.1 mx];have:=hQ p hp;simp only[];omega⟩
  simp only[]at hp ⊢;rcases Lp.1 hp with hp|hp
  ·have:=hQ p hp;omega
  rw[Lb.1 hp];simp only[];omega
 rintro⟨vt,ts⟩ g12 hT ⟨V,hP,hw,kc,gi,hQ⟩;simp only[]at hP hw kc gi hQ;have hz12:=V.size;have hgT:=Qn hw;refine Qc<|x (Qa O)<|x (Qd hP O O)<|xl O<|xf<|(QjC hw (by omega)).mono ?_;rintro vu hK ⟨hM,kt⟩;have z5:(nzT ts).Pairwise (λp q=>p.1<q.1):=List.Pairwise.filter _ gi;have hul:=LT (λp:Int×Int=>!decide (p.2=0)) ts
 have z9:∀p∈nzT ts,0≤p.1∧p.1<(n:Int)∧p.2≠0∧-65536≤p.2∧p.2≤65536:=λp hp=>by
  have h1:=LO.1 hp;have h2:=hQ p h1.1;have h3:¬p.2=0:=by simpa using h1.2
  omega
 refine Zb (nzT ts) λus hus=>?_;have hul':us.length≤3:=by rw[←hus];exact LH hul (by omega)
 rw[hus]at kt z5 z9;have n15t:b15∉ob vt:=QR hw (by omega);refine x (Qa O)<|xl O<|QB (hP.step hM n15t) O O (by simp) (QH kt) λh6 J hB1514=>xe ?_;have hY:Step [] w9 h6:=(((h5.then1 V my).then hM (λb hb=>.inr (by have:=(hgT b hb).1;omega)))).then1 J my;have j1:=hM.size;have q9:=J.size;have hgU:=Qn kt
 have T:=Qk kt J (λb hb=>by have:=(hgU b hb).1;simp only[List.mem_singleton];omega);have hX:=hV.ext hY;refine QX (α:=Value×List KV) [(184,190)] (λ_=>[]) (λz w'=>Step [E] h6 w'∧QT w'.heap E 37 [ve,vc,vr,vx,z.1]∧z.2.length≤1∧(∀q∈z.2,q.nm=⟨#[107]⟩∧Y7 (co.map (·.p.a.st)) q.k=0)∧∀L:LN,(∀b∈L,b<w6.heap.size)→zw L w'.heap z.1 z.2) (by rfl) ?_ ?_
 ·refine Qc<|x (Qa O)<|x (Qd hB1514 O O)<|x (Qu (QW (L:=[]) T (by omega) (by simp)) rfl)<|x (ZM rfl rfl)<|xe<|QC O (λh187=>?_) (λh187=>?_)
  ·refine Qi ?_;exact⟨(Q0,[]),Z,Step.refl _ _,hX,by decide,λq hq=>(by cases hq),λL _=>⟨Zs.nil _ _ 3,λq hq=>(by cases hq),λq hq=>(by cases hq)⟩⟩
  refine Qx<|x (Qo hB1514 O O)<|xl O<|QE (us:=[ZA ⟨⟨#[107]⟩,vu,us,bd⟩]) O O (by decide) (show 1*3≤1000000 by omega) ⟨O,O,Z⟩ λb189 hE G hb189 hB189=>?_;refine x (Qa O)<|xl O<|QB (hX.ext G) O O (by simp) rfl λhH H hU=>xe ?_;refine⟨(_,[⟨⟨#[107]⟩,vu,us,bd⟩]),Z,G.any.trans' H,hU,Ls _,λq hq=>?_,λL hL=>?_⟩
  ·rw[Lb.1 hq];refine⟨rfl,?_⟩;have hgr0:grt bd=false:=by unfold grt;rw[decide_eq_false (by omega),decide_eq_false (by omega)];rfl
   have hct:=QdE (sz:=co.map (·.p.a.st)) us none (λb hb=>by cases hb) z5 (λp hp=>by rw[Lh,gv];exact z9 p hp);show Y7 _ ⟨_,us,bd⟩=0;unfold Y7;rw[if_neg (by simp only[];omega),if_neg (by rw[hct];decide),if_neg (by simp only[];rw[hgr0];decide)]
  have ku:∀b∈E::L,b<hf.heap.size:=λb hb=>by
   rcases Lc.1 hb with rfl|hb
   ·omega
   have:=hL b hb;omega
  have h1:zw (E::L) hE.heap (.slice (some ⟨b189,0,none⟩) 1 1) [⟨⟨#[107]⟩,vu,us,bd⟩]:=by
   refine⟨hB189.arr (λhb=>by have:=ku _ hb;omega) O (by decide) (Ls _),λq hq=>?_,λq hq=>?_⟩
   ·rw[Lb.1 hq];exact(QW (L:=E::L) T (by omega) (λb hb ke=>by have:=(hgU b hb).1;have:=ku b ke;omega)).ext G
   rw[Lb.1 hq];exact YV (by decide)
  exact(h1.st (H.mono (by simp))).up (λb hb=>.inl (Ll _ hb))
 rintro⟨vk,ks⟩ g16 hH ⟨H,hU,ha,hgk,m1⟩;simp only[]at hU ha hgk m1;have hge3:=Qn gj;have hlt3:=Q3 gj;have kr:Step [E] w8 hH:=(I.trans hY.any).trans' H;have hs716:Step [E] w7 hH:=Y.trans' kr;have m2:Step [E,b4] w6 hH:=h7.trans' (hs716.mono (by simp));have m3:∀b∈[E],b<w6.heap.size:=λb hb=>by rw[Lb.1 hb];omega
 have hE16:=Qk (Qs gj ph) m2 (λb hb hm=>by have:=hlt3 b hb;simp only[List.mem_cons,List.not_mem_nil,or_false]at hm;omega);have hC16:=hg.low hs716 m3;have hR16:=h8.low kr (λb hb=>by have:=m3 b hb;omega);have hX16:=(h0.ext hY).low H (λb hb=>by have:=m3 b hb;omega);have n23:b2∉[E]:=by simp only[List.mem_singleton];omega
 have n234:b2∉[E,b4]:=by simp only[List.mem_cons,List.not_mem_nil,or_false];omega
 have hB216:=(m7.ext gu).step m2 n234;refine Qc<|x (Qo hU O O)<|xl O<|Qp (us:=[ve,vc,vr,vx,vk]) hB216 O O O O ⟨QH hE16,QH hC16.c,QH hR16.c,QH hX16.own,(m1 [] (by simp)).arr.one,Z⟩ λmw hv hB217=>xe ?_;have m4:∀b∈[b2],b<w6.heap.size:=λb hb=>by rw[Lb.1 hb];omega
 have lo2':∀b∈[b2],b<w2.heap.size:=λb hb=>by rw[Lb.1 hb];omega
 have hE17:=Qk hE16 hv (λb hb hm=>by have:=(hge3 b hb).1;have:=lo2' b hm;omega);have hC17:=hC16.low hv m4;have hR17:=hR16.low hv (λb hb=>by have:=m4 b hb;omega);have m5:=hX16.low hv (λb hb=>by have:=m4 b hb;omega);have hs017:Step [] w mw:=((m8.trans gu).then m2 (λb hb=>.inr (by simp only[List.mem_cons,List.not_mem_nil,or_false]at hb;omega))).then1 hv (by omega)
 have hcon:∀q∈co,Ue q.nm:=λq hq=>by
  obtain⟨k,hk,rfl⟩:=LF hq;rw[(hR k hk).nm];exact Jv 99 k
 have hrqn:∀q∈rq,Ue q.nm:=λq hq=>by
  obtain⟨k,hk,rfl⟩:=LF hq;rw[(h4 k hk).1.nm];exact Jv 114 k
 have hxnm:∀q∈qx,Ue q.nm:=λq hq=>by
  obtain⟨⟨k,_,k2⟩,_⟩:=hI q hq;rw[k2];exact Jv 101 k
 have hevn:∀e∈ev,Ue e.nm:=λe he=>Qg0 _ e (by rw[kg];exact he);have hevl:ev.length=5:=by rw[←kg];exact KL _ _
 refine Ql ⟨[.agg [ve,vc,vr,vx,vk].toArray],⟨⟨_,O,Qv O (hB217.at (L:=[]) (by simp)).cells⟩,Z⟩,hs017,⟨ev,co.map IV.it,rq.map IV.it,qx.map XV.x,ks.map KV.k⟩,⟨⟨ve,vc,vr,vx,vk,ev,co,rq,qx,ks⟩,rfl,rfl,λL hL=>?_⟩,?_⟩
 ·have ku:∀b∈L,b<w2.heap.size:=λb hb=>by have:=hL b hb;omega
  have hLn:b2∉L:=λhm=>by have:=hL b2 hm;omega
  have kf:∀b∈b2::L,b<w6.heap.size:=λb hb=>by
   rcases Lc.1 hb with rfl|hb
   ·omega
   have:=hL b hb;omega
  refine⟨⟨QW hE17 (by show ev.length≤_;omega) (λb hb ke=>by have:=(hge3 b hb).1;have:=ku b ke;omega),hevn⟩,hC17.itms (by omega) hcon (λb hb=>by have:=kf b (Ll _ hb);omega),hR17.itms (by omega) hrqn (λb hb=>by have:=kf b (Ll _ hb);omega),⟨QW m5.own (by show qx.length≤_;omega) (λb hb ke=>by have:=(Qn m5.own b hb).1;have:=kf b (Ll _ ke);omega),λq hq=>?_,hxnm⟩,?_⟩
  ·exact m5.each q hq _ (Lb.2 O) L (λb hb=>.inl (by have:=kf b (Ll _ hb);omega))
  exact((m1 (b2::L) kf).st (hv.mono (by simp))).up (λb hb=>.inl (Ll _ hb))
 rw[←kg];exact Qln (by omega) (by omega) hR gl (by omega) h4 kn hW hI ha hgk
section
variable {base:Nat}{w w':World}{vc va vc' va':Value}{co:List IV}{al:List J3}
end
end Go.Proofs.YtjcgijbhaemldaaGreatDoor
namespace Go.Lg
section
variable {P:Program}{f:Fr}{w:World}{d:Option Nat}{ty:Nat}{ps:String}{af:Array Edge}{gd:Option (Nat×Bool)}
abbrev i4 (p:Int×Int×Int×Int):LV:=[.int .i64 p.1,.int .i64 p.2.1,.int .i64 p.2.2.1,.int .i64 p.2.2.2]
end
end Go.Lg
namespace Go.Proofs.YtjcgijbhaemldaaGreatDoor
open Go.Lg
def enc (u:LI):Int:=u.foldl (λn e=>n*33+(e+1)) 0
def rn (a:QP)(x:Int)(u:LI):Int:=u.foldl (λs v=>nxt a.ed s v) x
def x0 (a:QP):Int:=if 0<a.st then 0 else -1
end Go.Proofs.YtjcgijbhaemldaaGreatDoor
namespace Go.Lg
section
variable {P:Program}{ops:List Oper}{K:Fr→World→Prop}{f:Fr}{w:World}{d:Option Nat}{ty:Nat}{ps:String}{af:Array Edge}{gd:Option (Nat×Bool)}
end
section
variable {P:Program}{ops:List Oper}{K:Fr→World→Prop}{f:Fr}{w:World}{d:Option Nat}{ty:Nat}{ps:String}{af:Array Edge}{gd:Option (Nat×Bool)}{C:World→Prop}{pl:List (Nat×Bool)}{i0:Nat}
end
end Go.Lg
namespace Go.Proofs.YtjcgijbhaemldaaGreatDoor
open Go.Lg
end Go.Proofs.YtjcgijbhaemldaaGreatDoor
namespace Go.Lg
end Go.Lg
namespace Go.Proofs.YtjcgijbhaemldaaGreatDoor
open Go.Lg
open Go.Proofs.Tryz
open Go.ChangeShapes Go.WideShapes Go.RowKit
structure PwV where
 ns:LN
 ad:Option Addr
 n:Nat
 cp:Nat
 f0:Int
 f1:Int
 f2:Int
 bd:Int
def PwV.pl (l:PwV)(rs:List X4V):PlV:=⟨l.ns,.slice l.ad l.n l.cp,rs,l.f0,l.f1,l.f2,l.bd⟩
abbrev Xk (l:PwV):LV:=bys l.ns++[.slice l.ad l.n l.cp,.int .i8 l.f0,.int .i8 l.f1,.int .i8 l.f2,.int .i8 l.bd]
structure PwA (w:World)(l:PwV):Prop where
 n:l.ns.length=147
 b:∀n∈l.ns,n<256
 f0:i8R l.f0
 f1:i8R l.f1
 f2:i8R l.f2
 bd:i8R l.bd
 r:l.n≤4→∃rs:List X4V,rs.length=l.n∧Zs [] w.heap (.slice l.ad l.n l.cp) l.n 4 (rs.flatMap YJ)
theorem PwA.pl {w w':World}{l:PwV}(h:PwA w l)(hs:Step [] w w')(E:l.n≤4):∃rs,PlA [] w'.heap (l.pl rs)∧rs.length=l.n:=by
 obtain⟨rs,h1,h2⟩:=h.r E;exact⟨rs,⟨h.n,h.b,by show Zs _ _ _ rs.length 4 _;rw[h1];exact h2.ext hs,h.f0,h.f1,h.f2,h.bd⟩,h1⟩
theorem Qmk {l:PwV}(h:l.ns.length=147):(Xk l)[147]?=some (.slice l.ad l.n l.cp):=by
 show(Xk l)[147+0]?=_;rw[Xk,Mg (by rw[ZG];omega),ZG,h,Mv];rfl
theorem Qdo {c:Value}(h:∃n,c=.int .i8 n∧(Lit.int .i8 n).wf=true):∃n:Int,c=.int .i8 n∧i8R n:=by
 obtain⟨n,rfl,h⟩:=h;simp only[Lit.wf,Bool.and_eq_true,decide_eq_true_eq]at h;rw[show IntKind.i8.min=-128 from rfl,show IntKind.i8.max=127 from rfl]at h;exact⟨n,O,by omega⟩
def Qkn (P:Program)(fs:Array Field)(n:Nat):Bool:=(List.range n).all λj=>fs.toList.any λf=>kT P .u8 5 f.type && decide (f.offset≤j∧j<f.offset+P.cellsOf f.type)
section
variable {H:Type}{enc:TypeId×Value→H}{P:Program}{W:World}{base b0:Nat}{sp:Nat→Bool}{held:Bool}
theorem Qhp {fs:Array Field}{n m:Nat}{cs:LV}{xs:List (DataW H×List MemPlace)}(h:Qkn P fs n=true)(E:xs.length=fs.size)
  (hx:∀(i:Nat) (f:Field),fs[i]?=some f→DataW.trod enc P W b0 sp held m f.type ((cs.drop f.offset).take (P.cellsOf f.type))=xs[i]?) {j:Nat} {c:Value} (hj:j<n) (hc:cs[j]?=some c):∃k:Nat,c=.int .u8 (k:Int)∧k<256:=by
 have h1:=LS.1 h j (M7.2 hj);obtain⟨f,G,h2⟩:=Nz.1 h1;simp only[Bool.and_eq_true,decide_eq_true_eq]at h2;obtain⟨i,hi,I⟩:=LF G;have J:i<fs.size:=by simpa using hi
 have T:fs[i]?=some f:=by rw[MN J,←I];simp
 exact J7 (Xl E hx T h2.1 h2.2.1 h2.2.2 hc)
theorem QmP {t e:TypeId}{c:Value}{fuel:Nat}{x:DataW H×List MemPlace}(ht:P.underlying t=some (.slice e))(he:kT P .u8 5 e=true)(hc:P.cellsOf e=4)
  (V:Cell.okWide P W .any base t c) (Y:DataW.trod enc P W b0 sp held fuel t [c]=some x):∃a n cp,c=.slice a n cp∧(n≤12→∃u:List X4V,u.length=n∧Zs [] W.heap (.slice a n cp) n 4 (u.flatMap YJ)):=by
 rcases DataW.trod_slice ht Y with⟨E,_⟩|⟨a,len,cap,elems,rest,m,_,E,_,_,hl,_,hk,ha,_,_⟩
 ·simp at E;subst E;exact⟨none,0,0,O,λ_=>⟨[],O,Zs.nil _ _ _⟩⟩
 simp at E;subst E;refine⟨some a,len,cap,O,λhm=>?_⟩;have each:∀i,i<len→∃d:X4V,∀r v,(YJ d)[r]?=some v→W.cell? (a.add (i*4+r))=some v:=by
  intro i hi;have I:=ha i hi;rw[hc,Lz (show i<elems.length by omega)]at I;obtain⟨cs,E,hb⟩:=Mi.1 I;have hf:=Kj 5 he hb;obtain⟨ns,h1,h2,h3⟩:=zf cs (λv G=>J7 (hf v G));unfold World.cells? at E;split at E
  ·have hn:cs.length=4:=by
    simpa using(Kg E).1
   refine⟨⟨ns,by omega,h3⟩,λr v G=>?_⟩;have hv':cs[r]?=some v:=by rw[h1];exact G
   have hg:r<4:=by have:=(LR.1 hv').1;omega
   have h4:=(Kg E).2 r r (by simp[hg]);rw[Lg.Addr.add_add,hv']at h4;exact h4
  cases E
 obtain⟨u,J,hu⟩:=Qb0 len each;refine⟨u,J,?_⟩;have T:(u.flatMap YJ).length=u.length*4:=Go.Lg.Kn YJ 4 U2 u;refine⟨by rw[T,J],by omega,.inr ⟨a,cap,rfl,by omega,λ_ _=>by simp,λ_ _=>QcR ht V,λj v G=>?_⟩⟩;have hj:j<u.length*4:=by
  rw[←T];exact(LR.1 G).1
 have hi:j / 4<u.length:=by omega
 have hh:=Jk YJ 4 U2 u (j / 4) hi;have U:j=j / 4*4+j % 4:=by omega
 have h3:(YJ (u[j / 4]'hi))[j % 4]?=some v:=by
  rw[←hh,LZ,if_pos (Nat.mod_lt _ (by omega)),MB,←U];exact G
 rw[←Xd];have:=hu (j / 4) hi (j % 4) v h3;rw[←U]at this;exact this
theorem QeI {v:Value}{d:DataW H}{ps:List MemPlace}{t tp te:Nat}{fs:Array Field}{J f8 f9:Field}(hu:P.underlying t=some (.struct fs))(V:(P.cellTypes P.depth t).map (λts=>(ts.length,ts[147]?))=some (152,some tp))(hc:P.cellsOf t=152)
  (Y:fs[7]?=some J) (T:fs[8]?=some f8) (g9:fs[9]?=some f9) (hi:J.type=tp) (o7:J.offset=147) (o8:f8.offset=148) (o9:f9.offset=151) (c7:P.cellsOf tp=1) (c8:P.cellsOf f8.type=3) (c9:P.cellsOf f9.type=1)
  (kb:Qkn P fs 147=true) (U:kT P .i8 5 f8.type=true) (k9:kT P .i8 5 f9.type=true) (hk:P.underlying tp=some (.slice te)) (hn:kT P .u8 5 te=true) (ho:P.cellsOf te=4)
  (ha:Value.okWide P W .any base t v) (h:DataW.Trod enc P W b0 sp held t v d ps):∃l:PwV,v=.agg (Xk l).toArray∧PwA W l:=by
 simp only[Value.okWide,hu]at ha;obtain⟨cs,rfl,hb,ts,hp,_,hq⟩:=ha;rw[hp]at V;have he:=Option.some.inj V;have hr:ts.length=152:=congrArg Prod.fst he;have hs:ts[147]?=some tp:=congrArg Prod.snd he;rw[hc]at hb;obtain⟨l⟩:=cs;have hl:l.length=152:=hb;obtain⟨fuel,hf⟩:=h;obtain⟨xs,m,_,_,_,G,ht⟩:=DataW.trod_struct hu hf
 have E:∀(i:Nat) (f:Field),fs[i]?=some f→DataW.trod enc P W b0 sp held m f.type ((l.drop f.offset).take (P.cellsOf f.type))=xs[i]?:=ht;have hz:7<fs.size:=(LB.1 Y).1;have g0:∀c∈l.take 147,∃n:Nat,c=.int .u8 (n:Int)∧n<256:=λc hm=>by
  obtain⟨j,hj,hg⟩:=LF hm;have hv:j<147:=by simp at hj;omega
  have hw:l[j]?=some c:=by
   rw[MZ]at hg;rw[Lz (by omega),hg]
  exact Qhp kb G E hv hw
 obtain⟨ns,e1,e2,e3⟩:=zf _ g0;have hy:ns.length=147:=by rw[e2];simp;omega
 have I:∀j,j<152→∃c,l[j]?=some c:=λj hj=>⟨l[j]'(by omega),Lz (by omega)⟩;obtain⟨x1,q1⟩:=I 147 (by omega);obtain⟨x2,q2⟩:=I 148 (by omega);obtain⟨x3,q3⟩:=I 149 (by omega);obtain⟨x4,q4⟩:=I 150 (by omega);obtain⟨x5,q5⟩:=I 151 (by omega);have hh:l.drop 147=[x1,x2,x3,x4,x5]:=by
  apply Nn;intro i;rw[MB]
  match i with
  | 0=>exact q1
  | 1=>exact q2
  | 2=>exact q3
  | 3=>exact q4
  | 4=>exact q5
  | i+5=>rw[M5 (by omega)];rfl
 obtain⟨y2,rfl,z2⟩:=Qdo (Xl G E T U (by omega) (by omega) q2);obtain⟨y3,rfl,z3⟩:=Qdo (Xl G E T U (by omega) (by omega) q3);obtain⟨y4,rfl,z4⟩:=Qdo (Xl G E T U (by omega) (by omega) q4);obtain⟨y5,rfl,z5⟩:=Qdo (Xl G E g9 k9 (by omega) (by omega) q5);have w7:=Qkg hq 147 tp x1 (by simpa using q1) (by rw[hr];exact hs)
 have t7:=QgJ (c:=x1) E 7 Y hi o7 c7 (by rw[hh];rfl) (by omega);obtain⟨a,n,cp,rfl,hP⟩:=QmP hk hn ho w7 t7;refine⟨⟨ns,a,n,cp,y2,y3,y4,y5⟩,?_,hy,e3,z2,z3,z4,z5,λh3=>hP (by have h4:n≤4:=h3;omega)⟩;show Value.agg l.toArray=.agg (bys ns++_).toArray;rw[←e1,←hh,Mu]
end
set_option maxRecDepth 100000 in
theorem QmQ {H:Type}{enc:TypeId×Value→H}{W:World}{base b0:Nat}{sp:Nat→Bool}{held:Bool}{v:Value}{d:DataW H}{ps:List MemPlace}(E:Value.okWide prog W .any base 73 v)(h:DataW.Trod enc prog W b0 sp held 73 v d ps):
  ∃l:PwV,v=.agg (Xk l).toArray∧PwA W l :=
 QeI underlying73 (tp:=69) (by kernel_rfl) (by kernel_rfl) O O O O O O O (by kernel_rfl) (by kernel_rfl) (by kernel_rfl) (by kernel_rfl) (by kernel_rfl) (by kernel_rfl) underlying69 (by kernel_rfl) (by kernel_rfl) E h
theorem QhD {w:World}{l:PwV}(h:PwA w l):QF prog 19 [.agg (Xk l).toArray] w λr w'=>r=.bool (decide (l.n≤4))∧Step [] w w':=by
 have E:=Qmk h.n;refine QF.of_W func19 O ntmps19 results19 (by simp) ?_;refine Qc<|xl O<|QQ (us:=Xk l) O λI J G T H=>Qe<|Qc<|x (Qa O)<|x (Qd H O E)<|x (z6 O)<|x (Js O O)<|Qe<|Ql ⟨[_],La,?_,G⟩;exact congrArg Value.bool (decide_eq_decide.2 (by omega))
end Go.Proofs.YtjcgijbhaemldaaGreatDoor
namespace Go.Lg
section
variable {P:Program}{ops:List Oper}{K:Fr→World→Prop}{f:Fr}{w:World}{d:Option Nat}{ty:Nat}{ps:String}{af:Array Edge}{gd:Option (Nat×Bool)}{t t':Nat}{x y:Operand}{k:IntKind}{a b:Int}
end
end Go.Lg
namespace Go.Proofs.YtjcgijbhaemldaaGreatDoor
open Go.Lg
theorem QeY (st:List Ed):∀(f k:Nat),(wrd st f k).length≤f
 | 0,_=>Ls _
 | f+1,k=>by
  rw[wrd];split
  ·have:=QeY st f (gE st k).2.1.toNat;simp only[List.length_cons];omega
  simp
theorem Qc0 {wt:Int→Bool}{pm:Ed→Bool}{es:List Ed}:∀(f i:Nat) (st:List Ed),(jd wt pm es f i st).1.length≤i+f
 | 0,_,_=>by simp[jd]
 | f+1,i,st=>by
  rw[jd];split
  ·split
   ·have:=QeY st (i+1) i;simp only[List.length_reverse];omega
   have:=Qc0 (wt:=wt) (pm:=pm) (es:=es) f (i+1) ((ZH es (gE st i).1).foldl (JR pm i) st);omega
  simp
theorem Qiw (A:QP)(h:A.st≤4096):(qg A).length≤4097:=by
 unfold qg;split
 ·simp
 have:=Qc0 (wt:=λs=>decide (s∈Yx A)) (pm:=λe=>decide (e.2.2∈X5 A.st.toNat)) (es:=A.ed) (A.st.toNat+1) 0 [(((0:Nat):Int),-1,-1)];show(pth _ _ _ _ _).1.length≤4097;unfold pth;omega
open Go.Proofs.Tryz
def rpU (c:ZB):Rpt:=if Xt c=0 then Xq c else⟨false,0,0,0,false,[],[],0⟩
abbrev rpC (R:Rpt)(vw vs:Value):LV:=rpW R.ps R.ev R.f1 R.f2 R.nc vw vs R.tg
theorem QjX {c:ZB}(h:Xt c=0):(Xq c).wd.length≤1099511627776∧(Xq c).sts.length≤1099511627776:=by
 have h2:=(UO h).2;have h1:=Qiw (ZQ c) (JH h).2.st1;have h3:(Y8 c).length≤12:=by
  unfold XM at h2;split at h2
  ·rename_i h4;exact absurd h2 h4
  rename_i h4;exact(Qa2 (Lm.1 h4)).1
 exact⟨LH h1 (by omega),by show((Y8 c).map (·.st)).length≤_;rw[Lh];omega⟩
theorem Qai {N:Nat}{w:World}{c:ZB}{us:LV}(E:Xt c=0→∃vw vs,us=[.bool (Xq c).ps,.int .i64 (Xq c).ev,.int .i64 (Xq c).f1,.int .i64 (Xq c).f2,.bool (Xq c).nc,vw,vs,.int .i64 (Xq c).tg]∧Qr 3 N w vw (Xq c).wd∧Qr 3 N w vs (Xq c).sts)(G:Xt c≠0→us=yY):
  ∃vw vs,us=rpC (rpU c) vw vs∧QI [] w.heap vw (rpU c).wd∧QI [] w.heap vs (rpU c).sts:=by
 unfold rpU;by_cases h:Xt c=0
 ·rw[if_pos h];obtain⟨vw,vs,e,h1,h2⟩:=E h;have hl:=QjX h;exact⟨vw,vs,e,h1.ints hl.1 (by simp),h2.ints hl.2 (by simp)⟩
 rw[if_neg h];exact⟨nS,nS,G h,Zs.nil _ _ _,Zs.nil _ _ _⟩
set_option maxRecDepth 100000 in
set_option maxHeartbeats 8000000 in
theorem zF {w:World}{l:PwV}{m:LwV}(hl:PwA w l)(hm:LwA w m)(Y:Kb w 4096):
  QF prog 5 [.agg (Xk l).toArray,.agg (Jj m).toArray] w λr w'=>r=.bool true∧Step [] w w':=by
 have hG:=Qmu hm.n;have ht:(Xk l).length=152:=QkP (l:=l.pl []) hl.n;have hH:(Jj m).length=86:=Qgh (l:=m.ln []) hm.n;refine QF.of_W func5 O ntmps5 results5 (by simp) ?_;refine Qc<|xl O<|QQ (us:=Xk l) O λb2 w1 hI g8 hJ=>xl O<|QQ (us:=Jj m) O λb3 w2 hu g9 hv=>Qe ?_;have ha:=hI.trans hu;have hw:=hJ.ext hu
 refine Qg<|QX (α:=Bool) [(11,23)] (λz=>[(23,.bool z)]) (λz w'=>Step [] w2 w'∧(z=false→l.n≤4∧m.n≤3)) (by rfl) ?_ ?_
 ·refine Qx<|xl O<|xf<|(qz (Y.ext ha)).mono ?_;rintro r3 w3 ⟨rfl,E⟩;refine x (Zo O)<|Qb<|x (Qo (hw.ext E) O ht)<|xl O<|xf<|(QhD (l:=l) ⟨hl.n,hl.b,hl.f0,hl.f1,hl.f2,hl.bd,λhn=>by
   obtain⟨rs,h1,h2⟩:=hl.r hn;exact⟨rs,h1,(h2.ext ha).ext E⟩⟩).mono ?_
  rintro r4 w4 ⟨rfl,hb⟩;refine xB (Zo O) (λhy=>?_) (λhy=>?_)
  ·refine x (Qq O)<|Qb<|xs O<|xs O<|xs O<|xs O<|x (Qq O)<|xe ?_;exact⟨true,La,E.trans hb,λh=>by cases h⟩
  have he:l.n≤4:=by simpa using hy
  refine x (Qq O)<|Qb<|x (Qa O)<|x (Qd ((hv.ext E).ext hb) O hG)<|x (z6 O)<|x (ZM O O)<|x (Qq O)<|xe<|⟨decide ((3:Int)<(m.n:Int)),La,E.trans hb,λh=>⟨he,?_⟩⟩;have:=of_decide_eq_false h;omega
 rintro z g H ⟨hf,hz⟩;have G:=ha.trans hf;refine QY rfl (λh0=>?_) (λh0=>?_)
 ·refine Qc<|xl O<|xf<|(qz (Y.ext G)).mono ?_;rintro r6 w6 ⟨rfl,hK⟩;refine Qe ?_;exact Ql ⟨[_],La,O,G.trans hK⟩
 obtain⟨he,hL⟩:=hz h0;refine Qi<|Exists.elim (hl.pl G he) λrs hM=>?_;refine Qg<|Qg<|QV (Step [] H) [(0,true),(2,true),(6,true),(1,false),(3,false),(4,false),(5,true)] mixed (by rfl) (by kernel_rfl) (Step.drew _ _) ?_;refine pq (λ_ hc=>Qo ((hw.ext hf).ext hc) O ht)<|pq (λ_ hc=>Qo ((hv.ext hf).ext hc) O hH)<|p (λ_=>Qm)<|pk<|xf<|(Qeo (w:={ H with drawn:=H.drawn+1 }) hM.1).mono ?_
 rintro r7 w7 ⟨hN,_,⟨c,rfl,rfl,hC⟩,_⟩;have hg:Step [] H w7:=(Step.drew _ _).trans hN;refine⟨hg,?_⟩;refine Exists.elim (hm.ln (G.trans hg) hL) λts hO=>?_;refine pk<|xf<|(QbZ hO).mono ?_;rintro r8 w8 ⟨h3,_,⟨d,rfl,rfl,hD⟩,_⟩;have hh:=hg.trans h3;refine⟨hh,?_⟩
 refine pk<|QE (us:=[c.cells,d.cells]) O O (by decide) (by exact(by decide:2*5≤1000000)) ⟨O,O,O,O,Z⟩ λhP I J ka hQ=>⟨hh.trans J,?_⟩;have hR:=hh.trans J;have hS:=G.trans hR;have h4:∀w',Step [] I w'→Zs [] w'.heap (.slice (some ⟨hP,0,none⟩) 2 2) [c,d].length 5 ([c,d].flatMap CL.cells):=λw' hs=>(hQ.ext hs).arr (by simp) rfl (by simp) (Ls 2)
 have hT:∀q∈[c,d],ZJ [] I.heap q:=λq hq=>by
  rcases Lc.1 hq with rfl|hq
  ·exact((hC [] (by simp)).ext h3).ext J
  rw[Lb.1 hq];exact(hD [] (by simp)).ext J
 refine p (λ_=>Qu (h4 I (Step.refl _ _)) O)<|pe ?_;refine Qh<|Qz (α:=Nat) [(4,4),(6,10),(31,54)] (λz=>[(31,.int .i64 z)]) (λz w'=>z≤2∧Step [] I w') (λz=>2 - z) (by rfl) 0 La ⟨by omega,Step.refl _ _⟩ ?_;rintro k g h5 ⟨hk,T⟩;have h6:=hS.trans T;refine Qc<|x (QA O O)<|xe<|Qg<|QC O (λh7=>?_) (λh7=>?_)
 ·refine Qy<|Qc<|Qe ?_;exact Ql ⟨[.bool true],La,O,h6⟩
 have hU:k<2:=by have hi:(k:Int)<(2:Int):=h7;omega
 have hj:k<[c,d].length:=hU;refine Qi<|Qg<|Qh<|Qc<|xig (g:=CL.cells) (i:=k) (λ_=>O) (h4 h5 T) O O hj λkb hi=>?_;have h8:=Li hj;refine Zb ([c,d][k]'hj) λq hq=>?_;rw[hq]at hi h8;have h9:=(hT q h8).ext T;refine x (QJ hi O O)<|xl O<|Qt (us:=YP) O λb6 kc hV hW hX=>xl O<|Qp (us:=q.cells) hX O O O O h9.ones λhY hZ hA=>xe ?_
 have ho:Step [] h5 hY:=hV.then1 hZ hW;have hB:=h9.ext ho;have hE:=(Y.ext h6).ext ho;refine Qc<|x (Qo hA O O)<|xl O<|xf<|(UF hB hE).mono ?_;rintro ke ga ⟨gb,us,rfl,gc,ge,gg,gh⟩;refine Qb<|x (Qj O O)<|x (Qj O O)<|xl O<|Qt (us:=yY) O λb7 kf gi gj gk=>xl O<|Qp (us:=us) gk O O gc O ge λgl gm gn =>
  Qe ?_
 have hp:Step [] ga gl:=gi.then1 gm gj;have U:=gb.trans hp;refine Qc<|x (Qo (hA.ext U) O O)<|xl O<|xf<|(Qec (hB.ext U) (hE.ext U)).mono ?_;rintro kg go ⟨gq,gr,rfl,gs,gt,gu,gv⟩;refine Qb<|x (Qj O O)<|x (Qj O O)<|xl O<|Qt (us:=yY) O λb9 kh gx gy gz=>xl O<|Qp (us:=gr) gz O O gs O gt λhF g0 g1 =>
  Qe ?_
 have hr:Step [] go hF:=gx.then1 g0 gy;have V:=gq.trans hr;obtain⟨vw,vs,rfl,g2,g3⟩:=Qai gg gh;obtain⟨ki,kj,rfl,g4,g5⟩:=Qai gu gv;refine QX (α:=Bool) [(45,53)] (λz=>[(53,.bool z)]) (λz w'=>z=false∧Step [] hF w') (by rfl) ?_ ?_
 ·refine Qx<|x (Qo (gn.ext V) O O)<|x (Qo g1 O O)<|xl O<|xf<|(Qd8 (g2.ext (hp.trans V)) (g3.ext (hp.trans V)) (g4.ext hr) (g5.ext hr)).mono ?_;rintro kk kn ⟨rfl,g6⟩;refine x (Zo O)<|Qb<|Qb<|Qb<|x (Q8 O O)<|x (Qq O)<|xe ?_;exact⟨_,La,by simp,g6⟩
 rintro z g ko ⟨rfl,g7⟩;refine Ym rfl<|Qi<|Qx<|QM O O<|Qb<|xe ?_;exact⟨k+1,by omega,La,by omega,((((T.trans ho).trans U).trans V).trans g7)⟩
open Go.RowKit
theorem YS {a b:Bool}(h1:a=true)(h2:b=true):(a && b)=true:=by rw[h1,h2];rfl
theorem js {P:Program}{f:FuncId}{fn:Func}{s:ChangeSpec}{c:OpenClaim}(h1:(c.wf (OpenSpec.ofChange s))=true)(h2:(laidOutB P)=true)(h3:(mapsRowed P)=true)(h4:(fn.params.all (P.readableRec ·))=true)(h5:(namedTie P c.named s.vars)=true)(E:((c.stops == []))=true)(G:((P.stops == []))=true)(H:((c.knobs == []))=true)(h9:((P.stopKnobs == []))=true)(I:((c.inPlace == P.inPlace f))=true)(J:((c.unfollowed == P.unfollowed f))=true)(T:((c.recurses == P.recurses f))=true)(U:((c.named == P.varsNamed f))=true)(V:((c.maps == (fn.params.toList++s.plain.varTypes P).any (P.mapsRec ·)))=true)(Y:((c.ifaces == (fn.params.toList++s.plain.varTypes P).any (P.ifacesRec ·)))=true)(ha:((c.mapsOut == P.mapsAmong fn.resultTypes.toList))=true)(hb:((c.loops == (fn.params.toList++s.plain.varTypes P).any (P.loopsFrom ·)))=true)(hc:((c.wideKeys == (fn.params.toList++s.plain.varTypes P++fn.resultTypes.toList).any (P.wideKeysFrom ·)))=true)(he:(s.vars.all (P.varReadable ·))=true)(hf:(fn.resultTypes.all (λt=>P.readableRec t && decide (t<P.types.size)))=true)(hg:((c.ifacesOut == fn.resultTypes.toList.any (P.ifacesRec ·)))=true)(hh:((c.loopsOut == fn.resultTypes.toList.any (P.loopsFrom ·)))=true)(hi:((c.plainKeys == P.plainKeys))=true)(hj:(c.shortTexts.isNone)=true)(hk:(P.stopsHeard)=true)(hl:(P.mayEnter)=true)(hm:((c.lifted == P.liftsFinal))=true)(hn:((P.make == some c.make))=true)(ho:((c.kinds == (if c.domain.isEmpty then[]else fn.params.toList.map λt=>match P.underlying t with|some (.int k)=>some k|_=>none)))=true)(hp:((c.pinned == c.pinnedBy))=true)(hq:((c.veiled == (fn.params.toList++s.plain.varTypes P++fn.resultTypes.toList).any (P.veiledRec ·)))=true)(hr:(c.veiledFits P fn.params.toList (fn.params.toList++s.plain.varTypes P++fn.resultTypes.toList))=true):joinedFacts P f fn s c=true:=by
 unfold joinedFacts;exact(YS (YS (YS (YS (YS (YS (YS (YS (YS (YS (YS (YS (YS (YS (YS (YS (YS (YS (YS (YS (YS (YS (YS (YS (YS (YS (YS (YS (YS (YS (YS h1 h2) h3) h4) h5) E) G) H) h9) I) J) T) U) V) Y) ha) hb) hc) he) hf) hg) hh) hi) hj) hk) hl) hm) hn) ho) hp) hq) hr)
theorem qA:laidOutB prog=true:=by kernel_rfl
theorem Qgn:mapsRowed prog=true:=by kernel_rfl
theorem Qgp:prog.stopsHeard=true:=by kernel_rfl
theorem Qgq:prog.mayEnter=true:=by kernel_rfl
theorem Qgo:(false == prog.liftsFinal)=true:=by kernel_rfl
theorem Qi2:(prog.make == some Make.cut)=true:=by kernel_rfl
theorem Qi6:(Rows.modularReportsRow.inPlace == prog.inPlace 5)=true:=by kernel_rfl
theorem Qi5:(Rows.modularReportsRow.unfollowed == prog.unfollowed 5)=true:=by kernel_rfl
theorem Qi4:(Rows.modularReportsRow.recurses == prog.recurses 5)=true:=by kernel_rfl
theorem Qi3:(Rows.modularReportsRow.named == prog.varsNamed 5)=true:=by kernel_rfl
theorem Qk0:Rows.modularReportsRow.wfByText (OpenSpec.ofChange Rows.modularReportsSpec)=true:=by kernel_rfl
theorem Qk3:Tryz.pinned.checked.prog.mainIs=some (true, "0087da35e19dff2b1c72cbf1a82bebf57530b191c9b8d180c93c2df9ec22b342".toList):=by kernel_rfl
theorem Qk2:prog.funcNamed "overseer/overseerlaw34.ModularReports" = some 5:=by kernel_rfl
theorem Qk4:false=prog.looks []:=by kernel_rfl
theorem Qk1:([73,30].all λu=>!prog.wantsStandIn u)=true:=by kernel_rfl
theorem Qk5:false=Rows.modularReportsRow.goesBy Tryz.pinned.checked.prog:=by kernel_rfl
end Go.Proofs.YtjcgijbhaemldaaGreatDoor
