/- Merged out of 30 texts. -/
import Derived.Test.YtnlnkchlcpfehaaGreatDoorNhb
import Derived.Shelf.SlSortCmp.NoneTotal
import Derived.Ground.SlsfProg
import Derived.Tactics
import Derived.Sort.Grow
import Derived.Deep.Draws
import Derived.Sort.Statements
import Derived.Shelf.Lay
import Derived.Tactics2
import Derived.Laws.IdiomStrings
set_option maxHeartbeats 40000000
set_option maxRecDepth 100000
set_option linter.all false
open Go Go.Lg
open Go.Value renaming int->oG
open Go.IntKind renaming i64->oH
open _root_.List renaming mem_singleton->oJ,not_mem_nil->oK,mem_cons->oL,length_append->oN,replicate->oO,length_singleton->oP,length->oQ,getD->oR,range->oV,map_cons->oY,append_assoc->o6,length_map->Oc,flatMap_cons->Of,cons_append->Oh,nil_append->Om,append_nil->Oy,length_nil->OI,flatMap_nil->OM,map_set->OQ
open _root_.Nat renaming zero_add->oZ,add_zero->OD,sub_zero->OJ,zero_le->OR
open _root_.Array renaming getElem?_eq_getElem->Ol,getElem?_mapIdx->Ox
open _root_.Option renaming map_some->Oz,isSome_none->OE
open _root_.Bool renaming false_eq_true->OF,true_and->OO
open Go renaming World->O1,Value->O2,Operand->O3,Program->O4
open Go.Proofs Go.Proofs.Tryz
open Go.Proofs.Tryz renaming prog->sV
variable {w w' W':O1}{L L' X ds ns av:LN}{n t sz i b T j E g N id ty cap b1 B kt lo hi b2 bp M gf gp:Nat}{cs us news capt:LV}{H:xA}{a:Q6}{α:Type}{y G:O3}{z va ve vm vt v' vl vs vb vx vk:O2}{l u al ul out rs:LI}{c:ZF}{P:O4}{f:Fr}{fn:Func}{aa:List Q6}{lf:Lf}{o:Oper}{d:xE}{af:xC}{gd:xq}{es:List Ed}{K:xx}{k':IntKind}{qs:List IV}{at_:Array Nat}{rest:xt}{co:List XD}{ops:xD}{qx:List XV}{ks:List KV}
namespace Go.Lg
inductive Cd where
 | ex (b:Nat) (q:XV)
 | co (b:Nat) (q:KV)
def Cd.val:Cd->O2
 | .ex b _=>.func (.func 293) #[] #[.pointer (some ⟨b,0,none⟩)]
 | .co b _=>.func (.func 296) #[] #[.pointer (some ⟨b,0,none⟩)]
def Cd.src:Cd->Sum XV KV
 | .ex _ q=>.inl q
 | .co _ q=>.inr q
def Qgx (t:LI):Sum XV KV->Bool
 | .inl q=>Uq t q.x
 | .inr q=>qz t q.k
def Cd.vio (t:LI)(c:Cd):Bool:=Qgx t c.src
abbrev qj (c:Cd):LV:=[c.val]
theorem QpJ (c:Cd):(qj c).length=1:=rfl
def CdA (H:xA):Cd->Prop
 | .ex b q=>QZ H b 105 (Q3 q)/\jT [] H q.v q.ls
 | .co b q=>QZ H b 110 (Q9 q)/\jT [] H q.v q.ts
theorem CdA.I {w w':O1}{c:Cd}(h:CdA ↑w c)(E:sX w w'):CdA ↑w' c:=by
 cases c with
 | ex b q=>exact⟨h.1.I E,h.2.I E⟩
 | co b q=>exact⟨h.1.I E,h.2.I E⟩
def Cd.rg (n:Nat):Cd->Prop
 | .ex _ q=>∀p∈q.ls,0<=p.1/\p.1<(n:Int)
 | .co _ q=>(∀p∈q.ts,0<=p.1/\p.1<(n:Int)/\-65536<=p.2/\p.2<=65536)/\q.ts.length<=8
theorem QcY {q:XV}(w:O1):QY sV 254 [sT (Q3 q)] w λr w'=>sX w w'/\∃b,r=(Cd.ex b q).val/\↑w<=b/\QZ ↑w' b 105 (Q3 q):=by
 refine Zq func254 ?_;refine Qc<|Zl (Q3 q) λb1 I E G H=>Qb<|Qc<|x ZD<|Qb<|Qh ⟨[_],La,E,b1,U,G,H⟩
theorem Qes {q:KV}(w:O1):QY sV 255 [sT (Q9 q)] w λr w'=>sX w w'/\∃b,r=(Cd.co b q).val/\↑w<=b/\QZ ↑w' b 110 (Q9 q):=by
 refine Zq func255 ?_;refine Qc<|Zl (Q9 q) λb1 I E G H=>Qb<|Qc<|x ZD<|Qb<|Qh ⟨[_],La,E,b1,U,G,H⟩
def CdB (H:xA):Cd->Prop
 | .ex b q=>QZ H b 105 (Q3 q)
 | .co b q=>QZ H b 110 (Q9 q)
def Cd.blk:Cd->Nat
 | .ex b _=>b
 | .co b _=>b
theorem CdB.lt {H:xA}{c:Cd}(h:CdB H c):c.blk<H.size:=by cases c <;> exact QZ.lt h
theorem CdB.J {X:LN}{w w':O1}{c:Cd}(h:CdB ↑w c)(E:O5 X w w')(G:c.blk∉X):CdB ↑w' c:=by
 cases c <;> exact QZ.J h E G
structure CdL (base:Nat)(w:O1)(v:O2)(cds:List Cd):Prop where
 own:w.ownsRow base 400 1 v cds.length (cds.flatMap qj)
 bx:∀c∈cds,CdB ↑w c/\c.blk∉ob v
theorem CdL.add {base:Nat}{E G:O1}{v H:O2}{cds:List Cd}{c:Cd}(h:CdL base w v cds)(O:sX w E)(S:CdB ↑E c)(hb:↑w<=c.blk)
  (T:G.ownsRow base 400 1 H (cds.length+1) (cds.flatMap qj++[c.val])) (V:O5 (ob v) E G) (Y:∀b∈ob H,b∈ob v\/↑E<=b):CdL base G H (cds++[c]):=by
 have ha:c.blk∉ob v:=λI=>ov ((Q8 h.own) _ I)
 refine⟨?_,λd hd=>?_⟩
 ·rw[Ll,LA];simpa using T
 have key:CdB ↑E d/\d.blk∉ob v:=by
  rcases Lc.1 hd with hd|hd
  ·exact⟨(h.bx d hd).1.J O od,(h.bx d hd).2⟩
  simp only[oJ]at hd;subst hd;exact⟨S,ha⟩
 refine⟨key.1.J V key.2,λI=>?_⟩;rcases Y _ I with J|J
 ·exact key.2 J
 have:=key.1.lt;omega
theorem Qkt (hX:jD [] ↑w vx qx)(hK:jz [] ↑w vk ks)(hF:qx.length<=32)(hG:ks.length<=32):
  QY sV 184 [.agg #[vs,vx,vk]] w λr w'=>sX w w'/\∃cds,CdL ↑w w' r cds/\cds.map Cd.src=qx.map Sum.inl++ks.map Sum.inr:=by
 refine Zq func184 ?_;refine Qc<|Zl [vs,vx,vk] λb1 J H hH h1=>Qb<|Qc<|Qb<|Qd<|Qc<|Qo U h1 U U<|QF (hX.I H).arr U<|Qa<|xe<|Q7 (α:=Nat×O2×List Cd) [(3,3),(5,5),(11,20)] (λz=>[(3,z.2.1),(11,sS z.1)]) (λz w'=>z.1<=qx.length/\sX J w'/\CdL ↑J w' z.2.1 z.2.2/\z.2.2.map Cd.src=(qx.take z.1).map Sum.inl) (λz=>qx.length - z.1) (0,nS,[]) oB
  ⟨Lo _,O5.Z _ _,⟨QE _ _ _ _,λc hc=>(by cases hc)⟩,rfl⟩ ?_
 rintro⟨k,vo,cds⟩ g wA ⟨hk,I,V,Y⟩;simp only[]at hk V Y;have hI:cds.length=k:=by have:=OV oQ Y;simp at this;omega
 refine Zo rfl U (λhi=>?_) (λhi=>?_)
 ·refine Qw ?_;have h6:qx.length<=k:=by have hl:¬(k:Int)<(qx.length:Int):=hi;omega
  rw[Lu h6]at Y;refine Qd<|Qc<|Qo U (h1.I I) U U<|QF ((hK.I H).I I).arr U<|Qa<|xe<|Q7 (α:=Nat×O2×List Cd) [(3,3),(7,7),(24,33)] (λz=>[(3,z.2.1),(24,sS z.1)]) (λz w'=>z.1<=ks.length/\sX J w'/\CdL ↑J w' z.2.1 z.2.2/\z.2.2.map Cd.src=qx.map Sum.inl++(ks.take z.1).map Sum.inr) (λz=>ks.length - z.1) (0,vo,cds) oB
   ⟨Lo _,I,V,by simp only[];rw[Y];simp⟩ ?_
  rintro⟨j,vp,cdt⟩ g wB ⟨hj,ha,O,he⟩;simp only[]at hj O he;have hJ:cdt.length=qx.length+j:=by have:=OV oQ he;simp at this;omega
  refine Zo U U (λhm=>?_) (λhm=>?_)
  ·refine Qw ?_;have h7:ks.length<=j:=by have hl:¬(j:Int)<(ks.length:Int):=hm;omega
   rw[Lu h7]at he;refine Qj<|Qb<|Qh ⟨[_],La,H.D ha,cdt,⟨ZB O.own H.size,O.bx⟩,he⟩
  have S:j<ks.length:=by have hl:(j:Int)<(ks.length:Int):=hm;omega
  have h2:=Lm S;have h3:ks.take (j+1)=ks.take j++[ks[j]'S]:=Ln S;refine Qf<|Qd<|Qm<|Qc<|xig Xq ((hK.I H).I ha).arr U U S λaA hA=>?_;refine Zf (ks[j]'S) λq hq=>?_;rw[hq]at hA h2 h3;have hn:=((hK.I H).I ha).each q h2;refine x (Qr hA U U)<|QM [.string .empty,nS,sS 0] λb7 w4 ho hp hr=>QK (Q9 q) hr ⟨U,hn.one,U,Z⟩ λw5 hs ht=>xe ?_;have hf:sX wB w5:=ho.O hs hp;refine Qs<|Qa<|QT ht U U<|Qz<|(Qes w5).Y ?_;rintro r6 w6 ⟨hu,E,rfl,h8,hv⟩;refine Qn<|Za [[(Cd.co E q).val]] λh9 w7 hg hB hw=>?_;have G:=(hf.D hu).D hg;have hC:=(ha.D G).size;have hD:=hf.size;refine Qn<|Q2 (news:=[(Cd.co E q).val]) (L:=[]) (Ql O.own G) U U U (hw.at od) (by simp[Cd.val,Value.oneCell']) oa oa λv8 w8 hy hh hz =>
   Qb ?_
  have hge:=Qg O.own;have hE:=O.add (c:=Cd.co E q) G (QZ.I hv hg) (by show _<=E;omega) hy hh hz;have h0:sX J w8:=(ha.D G).S hh (λb hb=>.inr (hge b hb).1);refine Qs<|QH U U<|Qa<|xe ?_;exact⟨(j+1,v8,cdt++[Cd.co E q]),og,oB,S,h0,hE,by simp only[];rw[Lr,he,h3];simp[Cd.src]⟩
 have T:k<qx.length:=by have hl:(k:Int)<(qx.length:Int):=hi;omega
 have h4:=Lm T;have h5:qx.take (k+1)=qx.take k++[qx[k]'T]:=Ln T;refine Qf<|Qd<|Qm<|Qc<|xig Xx ((hX.I H).I I).arr U U T λaA hA=>?_;refine Zf (qx[k]'T) λq hq=>?_;rw[hq]at hA h4 h5;have hn:=((hX.I H).I I).each q h4;refine x (Qr hA U U)<|QM [.string .empty,nS] λb7 w4 ho hp hr=>QK (Q3 q) hr ⟨U,hn.one,Z⟩ λw5 hs ht=>xe ?_;have hf:sX wA w5:=ho.O hs hp;refine Qs<|Qa<|QT ht U U<|Qz<|(QcY w5).Y ?_;rintro r6 w6 ⟨hu,E,rfl,h8,hv⟩;refine Qn<|Za [[(Cd.ex E q).val]] λh9 w7 hg hB hw=>?_;have G:=(hf.D hu).D hg;have hC:=(I.D G).size;have hD:=hf.size;refine Qn<|Q2 (news:=[(Cd.ex E q).val]) (L:=[]) (Ql V.own G) U U U (hw.at od) (by simp[Cd.val,Value.oneCell']) oa oa λv8 w8 hy hh hz =>
  Qb ?_
 have h0:sX J w8:=(I.D G).S hh (λb hb=>.inr ((Qg V.own) b hb).1);refine Qs<|QH U U<|Qa<|xe ?_;exact⟨(k+1,v8,cds++[Cd.ex E q]),og,oB,T,h0,(V.add (c:=Cd.ex E q) G (QZ.I hv hg) (by show _<=E;omega) hy hh hz),by simp only[];rw[Lr,Y,h5];simp[Cd.src]⟩
theorem Qpb [Fu sV gp fn]{cap:LV}{q:Cd->Bool}{v:O2}{l:List Cd}(h:Zn L ↑w v l.length 1 (l.flatMap qj))
  (Y:∀e∈l,∀(G:O1),sX w G->QY sV gp ([e.val]++cap) G λr w'=>r=.bool (q e)/\sX G w'):
  QY sV 252 [v,.func (.func gp) #[] cap.toArray] w λr w'=>r=sS (fix q 0 l)/\sX w w':=by
 have hc:=h.le;refine Zq func252 ?_;refine Qc<|Qb<|Qd<|Qj<|QF h U<|Qa<|xe<|Q7 (α:=Nat) [(4,5),(8,18)] (λz=>[(8,sS z)]) (λz w'=>z<=l.length/\sX w w'/\fix q z (l.drop z)=fix q 0 l) (λz=>l.length - z) 0 La
  ⟨Lo _,O5.Z _ _,U⟩ ?_
 rintro k g G ⟨hk1,H,E⟩;refine Zo rfl U (λJ=>?_) (λJ=>?_)
 ·refine Qw ?_;have ha:l.length<=k:=by have hb:¬(k:Int)<(l.length:Int):=J;omega
  rw[Lt ha]at E;refine Qc<|Qb<|Qh ⟨[_],La,by rw[<-E];rfl,H⟩
 have I:k<l.length:=by have hb:(k:Int)<(l.length:Int):=J;omega
 rw[Zc I,Yw]at E;have S:=Lm I;refine Qf<|Qd<|Qm<|Qj<|Qb<|Qj<|Qa<|Qa<|xig QpJ (h.I H) U U I λhf T=>?_;refine Zf (l[k]'I) λe he=>?_;rw[he]at T E S;refine x (Qy T U)<|Qn<|xc (first:=[]) (capt:=cap) U<|(Y e S G H).Y ?_;rintro r2 w2 ⟨rfl,V⟩;refine xe<|QU rfl (λO=>?_) (λO=>?_)
 ·rw[OU O]at E;refine Qj<|Qb<|Qh ⟨[_],La,by rw[<-E];rfl,H.D V⟩
 rw[OT (by rw[O];decide)]at E;refine Qf<|Qs<|QH U U<|Qa<|xe ?_;exact⟨k+1,oa,La,I,H.D V,E⟩
theorem Qnn {c:Cd}{t:LI}(E:CdA ↑w c)(H:QL [] ↑w vt t)(G:c.rg t.length)(I:∀i,i<t.length->0<=O6 t i/\O6 t i<=4096):
  ∃g fn cap,c.val=.func (.func g) #[] #[cap]/\Fu sV g fn/\QY sV g ([vt]++[cap]) w λr w'=>r=.bool (c.vio t)/\sX w w':=by
 cases c with
 | ex b q=>exact⟨_,_,_,U,inferInstance,QmY E.1 E.2 H G⟩
 | co b q=>exact⟨_,_,_,U,inferInstance,QmX E.1 E.2 H G.1 G.2 I⟩
theorem Qh7 {bt:Nat}{c:Cd}{t:LI}(E:QZ ↑w bt 63 [vt])(G:CdA ↑w c)(H:QL [] ↑w vt t)(I:c.rg t.length)(J:∀i,i<t.length->0<=O6 t i/\O6 t i<=4096):
  QY sV 253 ([c.val]++[sP bt]) w λr w'=>r=.bool (c.vio t)/\sX w w':=by
 obtain⟨gq,fn,cap,O,T,hcall⟩:=Qnn G H I J;rw[O];refine Zq func253 ?_;refine Qc<|Qb<|Qj<|Xn E U U<|Qn<|xc (g:=gq) (fn:=fn) (first:=[]) (capt:=[cap]) U<|hcall.Y ?_;rintro V Y ⟨rfl,S⟩;refine Qb<|Qh ⟨[_],La,U,S⟩
theorem Qb8 {v:O2}{cds:List Cd}{t:LI}(h:Zn L ↑w v cds.length 1 (cds.flatMap qj))(J:∀c∈cds,CdA ↑w c)(H:QL [] ↑w vt t)(O:∀c∈cds,c.rg t.length)(S:∀i,i<t.length->0<=O6 t i/\O6 t i<=4096):
  QY sV 183 [v,vt] w λr w'=>r=sS (fix (Cd.vio t) 0 cds)/\sX w w':=by
 refine Zq func183 ?_;refine Qc<|Qn<|yN (us:=[vt]) H.cells λT w1 G ha V=>Qb<|Qj<|x ZD<|Qz<|(Qpb (q:=Cd.vio t) (cap:=[sP T]) (h.I G) (λc I Y E=>Qh7 (V.I E) (((J c I).I G).I E) ((H.I G).I E) (O c I) S)).Y ?_;rintro r2 Y ⟨rfl,E⟩;refine Qb<|Qh ⟨[_],La,U,G.D E⟩
theorem QkF {sz t:LI}(I:QL [] ↑w vs sz)(G:QL [] ↑w vt t)(h:QnH sz t):
  QY sV 251 [.agg #[vs,vx,vk],vt] w λr w'=>r=sS 0/\sX w w':=by
 have he:=G.le;have h0:=h.1;refine Zq func251 ?_;refine Qc<|Zl [vs,vx,vk] λb2 T E hf J=>Qb<|Qd<|Qj<|QF (G.I E) U<|Qo U J U U<|QF (I.I E) U<|x (XH U U) <|
  xe ?_
 refine ZH rfl (λO=>?_) (λO=>?_)
 ·refine Qf<|Qd<|Qj<|QF (G.I E) U<|Qa<|xe<|Q7 (α:=Nat) [(4,6),(15,31)] (λz=>[(15,sS z)]) (λz w'=>z<=t.length/\w'=T) (λz=>t.length - z) 0 La ⟨Lo _,U⟩ ?_;rintro k g V ⟨hk,rfl⟩;refine Zo U U (λS=>?_) (λS=>?_)
  ·refine Qw<|Qc<|Qb<|Qh ⟨[_],La,U,E⟩
  have H:k<t.length:=by have hg:(k:Int)<(t.length:Int):=S;omega
  have hb:=h.2 k H;refine Qf<|Qd<|Qm<|Qj<|xic (i:=k) (G.I E) U U H λhh Y=>x (Qy Y U)<|x Qi<|Qb<|QX (α:=Unit) [(20,30)] (λz=>[(30,.bool false)]) (λz w'=>w'=V) om ?_ ?_
  ·refine Qs<|Qa<|xb (YX U U) (λha=>oa) (λha=>?_);refine Qa<|Qa<|Qo U J U U<|Qa<|xic (i:=k) (I.I E) U U oa λhi hc=>x (Qy hc U) <|
    x (YC rfl U)<|QC U<|xe ?_
   exact⟨(),⟨OV Value.bool (OZ oa),Z⟩,U⟩
  rintro _ g w3 rfl;refine ZO U<|Qf<|Qs<|QH U U<|Qa<|xe ?_;exact⟨k+1,oa,La,H,U⟩
 exact OW (show(t.length:Int)=(sz.length:Int) by omega) O
theorem jW {sz t:LI}(H:QL [] ↑w vs sz)(S:jD [] ↑w vx qx)(hK:jz [] ↑w vk ks)(T:QL [] ↑w vt t)(V:YG sz (qx.map (·.x)) (ks.map (·.k))=0)(h:QnH sz t):
  QY sV 182 [.agg #[vs,vx,vk],vt] w λr w'=>r=sS 0/\sX w w':=by
 refine Zq func182 ?_;refine Qc<|Zl [vs,vx,vk] λb2 w1 E ha I=>Qb<|Qd<|Qc<|QT I U U<|Qz<|(jg (H.I E) (S.I E) (hK.I E)).Y ?_;rintro r2 w2 ⟨J,O⟩;rw[V]at J;subst J;refine Qb<|Qj<|Zx U U<|xe<|ZO rfl<|Qf ?_;have G:=E.D O;refine Qc<|QT (I.I O) U U<|Qa<|Qz<|(QkF (H.I G) (T.I G) h).Y ?_;rintro r3 w3 ⟨rfl,Y⟩;refine Qb<|Qh ⟨[_],La,U,G.D Y⟩
def UO (qx:List qv)(ks:List xK)(t:LI):Int×Int×Bool :=
 if 0<=fix (Uq t) 0 qx then(1,fix (Uq t) 0 qx,true)else if 0<=fix (qz t) 0 ks then(2,fix (qz t) 0 ks,true)else(0,0,false)
theorem QmV {cds:List Cd}(t:LI)(h:cds.map Cd.src=qx.map Sum.inl++ks.map Sum.inr):
  fix (Cd.vio t) 0 cds=if 0<=fix (Uq t) 0 (qx.map (·.x))then fix (Uq t) 0 (qx.map (·.x))else if 0<=fix (qz t) 0 (ks.map (·.k))then fix (qz t) 0 (ks.map (·.k))+qx.length else -1:=by
 have E:fix (Cd.vio t) 0 cds=fix (Qgx t) 0 (cds.map Cd.src):=(VY (Qgx t) Cd.src cds 0).symm;rw[E,h,jd,VY,Lh,QaD,VY (Qgx t) Sum.inr ks 0];have e1:fix (λa=>Qgx t (Sum.inl a)) 0 qx=fix (Uq t) 0 (qx.map (·.x)):=(VY (Uq t) XV.x qx 0).symm;have e2:fix (λa=>Qgx t (Sum.inr a)) 0 ks=fix (qz t) 0 (ks.map (·.k)):=(VY (qz t) KV.k ks 0).symm;rw[e1,e2]
theorem Qol {P:Int×Int×Bool}{a b:Int}{c:Bool}(h:P=(a,b,c)):(Value.tuple #[sS a,sS b,.bool c,sS 0])=.tuple #[sS P.1,sS P.2.1,.bool P.2.2,sS 0]:=by rw[h]
theorem zp {sz t:LI}(hS:QL [] ↑w vs sz)(S:jD [] ↑w vx qx)(hK:jz [] ↑w vk ks)(ht:QL [] ↑w vt t)(hc:YG sz (qx.map (·.x)) (ks.map (·.k))=0)(h:QnH sz t):
  QY sV 108 [.agg #[vs,vx,vk],vt] w λr w'=>sX w w'/\r=.tuple #[sS (UO (qx.map (·.x)) (ks.map (·.k)) t).1,sS (UO (qx.map (·.x)) (ks.map (·.k)) t).2.1,.bool (UO (qx.map (·.x)) (ks.map (·.k)) t).2.2,sS 0]:=by
 have T:=VM hc;have hu:qx.length<=32:=by have:=T.xl;simpa using this
 have hv:ks.length<=32:=by have:=T.kl;simpa using this
 refine Zq func108 ?_;refine Qc<|Zl [vs,vx,vk] λb2 w1 V h5 hj=>x Qi<|x Qi<|x Qi<|Qb<|Qd<|Qc<|QT hj U U<|Qa<|Qz<|(jW (hS.I V) (S.I V) (hK.I V) (ht.I V) hc h).Y ?_;rintro r2 w2 ⟨rfl,hk⟩;refine Qb<|Qj<|Zx U U<|xe<|ZO rfl<|Qf ?_;have he:=V.D hk;have hl:=hj.I hk;refine Qc<|QT hl U U<|Qz<|(Qkt (S.I he) (hK.I he) hu hv).Y ?_;rintro r3 w3 ⟨hn,cds,hL,hf⟩;have hb:=he.D hn;have h6:cds.length=qx.length+ks.length:=by have:=OV oQ hf;simpa using this
 have hw:∀i,i<t.length->0<=O6 t i/\O6 t i<=4096:=λi hi=>by
  have H:=h.2 i hi;have Y:i<sz.length:=by rw[<-h.1];exact hi
  have h3:=T.s _ (Lm Y);rw[ZL Y]at h3;omega
 have ho:∀c∈cds,c.src∈qx.map Sum.inl++ks.map Sum.inr:=λc I=>by rw[<-hf];exact LP I
 have hy:∀c∈cds,CdA ↑w3 c:=λc I=>by
  have H:=ho c I;have Y:=(hL.bx c I).1;cases c with
  | ex b q =>
   have G:q∈qx:=by simpa[Cd.src]using H
   exact⟨Y,(S.each q G).I hb⟩
  | co b q =>
   have G:q∈ks:=by simpa[Cd.src]using H
   exact⟨Y,(hK.each q G).I hb⟩
 have hz:∀c∈cds,c.rg t.length:=λc I=>by
  have H:=ho c I;rw[h.1];cases c with
  | ex b q =>
   have G:q∈qx:=by simpa[Cd.src]using H
   exact T.x q.x (LP G)
  | co b q =>
   have G:q∈ks:=by simpa[Cd.src]using H
   exact T.k q.k (LP G)
 have g1:=Qeq (Uq t) (qx.map (·.x)) 0;have g2:=Qeq (qz t) (ks.map (·.k)) 0;simp only[Oc]at g1 g2;refine Qa<|Qz<|(Qb8 (QB (L:=[]) hL.own oa od) hy (ht.I hb) hz hw).Y ?_;rintro r4 w4 ⟨rfl,hp⟩;rw[(QmV t hf)];have ha:=hb.D hp;refine Zf (UO (qx.map (·.x)) (ks.map (·.k)) t) λP J=>?_;rw[J];unfold UO at J;refine Zf (fix (Uq t) 0 (qx.map (·.x))) λO hg=>?_;refine Zf (fix (qz t) 0 (ks.map (·.k))) λi2 hh=>?_;rw[hg,hh]at J;rw[hg]at g1;rw[hh]at g2;refine Zf (if 0<=O then O else if 0<=i2 then i2+(qx.length:Int)else -1) λr E=>?_
 rw[hg,hh,E];refine Qb<|Qm<|Qj<|Z5 U U<|Qb<|QO U (λh0=>?_) (λh0=>?_)
 ·have n1:¬0<=O:=λh=>by rw[OU h]at E;omega
  have n2:¬0<=i2:=λh=>by rw[OT n1,OU h]at E;omega
  refine Qc<|x Qi<|x Qi<|x Qi<|Qb<|Qh ⟨[_,_,_,_],oD,ha,Qol (by rw[<-J,OT n1,OT n2])⟩
 have hs:=(hl.I hn).I hp;refine Qj<|Qo U hs U U<|QF (S.I ha).arr U<|Z5 U U<|Qb<|QO U (λh4=>?_) (λh4=>?_)
 ·have p1:0<=O:=by
   refine Lp.1 λn1=>?_;by_cases h:0<=i2
   ·rw[OT n1,OU h]at E;omega
   rw[OT n1,OT h]at E;omega
  have e:r=O:=by rw[OU p1]at E;exact E.symm
  refine Qj<|x Qi<|x Qi<|x Qi<|Qb<|Qh ⟨[_,_,_,_],oD,ha,Qol (by rw[<-J,OU p1,e])⟩
 have n1:¬0<=O:=λh=>by rw[OU h]at E;omega
 have p2:0<=i2:=by
  refine Lp.1 λn2=>?_;rw[OT n1,OT n2]at E;omega
 have e:r - (qx.length:Int)=i2:=by rw[OT n1,OU p2]at E;omega
 refine Qd<|Zz [] (YW 0 9 [])<|p Qv<|p (QG U)<|pq (λ_ hc=>Qk (hs.I hc) U U)<|p (λ_=>Yo (S.I ha).arr U) <|
  p (λ_=>XR U U ⟨oa,oa⟩)<|p ZG<|p ZG<|p ZG<|p ZG <|
  pe ?_
 exact Qh ⟨[_,_,_,_],oD,ha.D (O5.C _ _),Qol (by rw[<-J,OT n1,OU p2,<-e])⟩
def YO (base:Nat)(av:LN)(H:xA)(v:O2)(n sz:Nat)(cs:LV):Prop:=∀L:LN,(∀b∈L,b<base\/b∈av)->Zn L H v n sz cs
theorem YO.I {base:Nat}{av:LN}{w w':O1}{v:O2}{n sz:Nat}{cs:LV}(h:YO base av ↑w v n sz cs)(E:sX w w'):YO base av ↑w' v n sz cs:=λL G=>(h L G).I E
theorem YO.app {base:Nat}{I:LN}{v:O2}(h:YO base av ↑w v n sz cs)(J:O5 av w w')(O:∀b∈I,b∈av\/↑w<=b):YO base I ↑w' v n sz cs:=by
 intro L S;have T:Zn (av++L.filter λb=>decide (b<base)) ↑w v n sz cs:=h _ (λb E=>by
  rcases Lc.1 E with E|E
  ·exact .inr E
  exact .inl (by simpa using(L6.1 E).2))
 refine T.grow J (λb E=>Lc.2 (.inl E)) λb E=>?_;rcases S b E with G|G
 ·exact .inl (Lc.2 (.inr (L6.2 ⟨E,oA G⟩)))
 rcases O b G with H|H
 ·exact .inl (Lc.2 (.inl H))
 exact .inr H
theorem YO.of_own {base:Nat}{v:O2}{e:Nat}(h:w.ownsRow N e sz v n cs)(H:n<=1099511627776)(E:base<=N)(I:∀b∈av,b<N):YO base av ↑w v n sz cs:=λL J =>
 QB h H λb E hbL=>by
  have O:=(Qg h b E).1;rcases J b hbL with G|G
  ·omega
  have:=I b G;omega
structure YJ {α:Type}(g:α->LV)(sz T:Nat)(p:α->O2×Nat×Nat×LV)(base:Nat)(w:O1)(v:O2)(l:List α):Prop where
 own:w.ownsRow base T sz v l.length (l.flatMap g)
 each:∀q∈l,YO base (ob v) ↑w (p q).1 (p q).2.1 (p q).2.2.1 (p q).2.2.2
theorem YJ.nil {g:α->LV}{p:α->O2×Nat×Nat×LV}{base:Nat}:YJ g sz T p base w (nS) []:=⟨QE _ _ _ _,λq E=>by cases E⟩
theorem YJ.I {α:Type}{g:α->LV}{sz T:Nat}{p:α->O2×Nat×Nat×LV}{base:Nat}{w w':O1}{v:O2}{l:List α}(h:YJ g sz T p base w v l)(E:sX w w'):YJ g sz T p base w' v l:=⟨Ql h.own E,λq G=>(h.each q G).I E⟩
theorem YJ.app {α:Type}{g:α->LV}{sz T:Nat}{p:α->O2×Nat×Nat×LV}{base N e:Nat}{w E G:O1}{v H:O2}{l:List α}{q:α}(h:YJ g sz T p base w v l)(S:sX w E)
  (V:E.ownsRow N e (p q).2.2.1 (p q).1 (p q).2.1 (p q).2.2.2) (Y:(p q).2.1<=1099511627776) (hN:↑w<=N) (I:base<=↑w)
  (ho:G.ownsRow base T sz H (l.length+1) (l.flatMap g++g q)) (J:O5 (ob v) E G) (O:∀b∈ob H,b∈ob v\/↑E<=b):YJ g sz T p base G H (l++[q]):=by
 refine⟨?_,λd hd=>?_⟩
 ·rw[Ll,LA];simpa using ho
 rcases Lc.1 hd with hd|hd
 ·exact((h.each d hd).I S).app J O
 simp only[oJ]at hd;subst hd;exact(YO.of_own V Y oa (λb I=>ov ((Q8 h.own) b I))).app J O
theorem QdH {ha hb hc:O2}{b:Q6}(h:ZM L ↑w va vm ve a)(h':ZM L' ↑w ha hb hc b):
  QY sV 16 [.agg #[va,sS a.st,vm,ve],.agg #[ha,sS b.st,hb,hc]] w λr w'=>r=.bool (decide (a.st=b.st/\a.al=b.al/\a.mr=b.mr/\a.ed=b.ed))/\sX w w':=by
 refine Zq func16 ?_;refine Qc<|Zl [va,sS a.st,vm,ve] λb2 w1 hh hl hi=>Zl [ha,sS b.st,hb,hc] λb3 w2 he E H=>Qb ?_;have I:=hh.D he;have J:=hi.I he;refine QX (α:=Bool) [(4,30)] (λz=>[(4,.bool z)]) (λz w'=>sX w w'/\z=decide (a.st=b.st/\a.al=b.al/\a.mr=b.mr/\a.ed=b.ed)) om ?_ ?_
 ·refine Qs<|Qo U J U U<|Qo U H U U<|xb (QR U U) (λh9=>?_) (λh9=>?_)
  ·refine Qa<|Qo U J U U<|Qo U H U U<|Qz<|(JQ (h.al.I I) (h'.al.I I)).Y ?_;rintro r3 w3 ⟨O,S⟩;have T:=I.D S;refine Qj7 (decide (a.al=b.al)) (λE=>?_) (λE=>?_)
   ·rw[E]at O;subst O;refine QC U<|Qa<|Qo U (J.I S) U U<|Qo U (H.I S) U U<|Qz<|(JQ (h.mr.I T) (h'.mr.I T)).Y ?_;rintro r4 w4 ⟨V,hf⟩;have Y:=T.D hf;have hg:=S.D hf;refine Qj7 (decide (a.mr=b.mr)) (λG=>?_) (λG=>?_)
    ·rw[G]at V;subst V;refine QC U<|Qa<|Qo U (J.I hg) U U<|Qo U (H.I hg) U U<|Qz<|(QaG (h.ed.I Y) (h'.ed.I Y)).Y ?_;rintro r5 w5 ⟨rfl,hj⟩;refine QC U<|Qb<|⟨_,La,Y.D hj,bD ⟨λe=>⟨h9,OY E,OY G,e⟩,λe=>e.2.2.2⟩⟩
    rw[G]at V;subst V;refine QC U<|Qa<|Zt<|Ys<|QC U<|Qb<|⟨_,La,Y,bF (λe=>O0 G e.2.2.1)⟩
   rw[E]at O;subst O;refine QC U<|Qa<|Zt<|Ys<|QC U<|Qa<|Zt<|Ys<|x (qE U) <|
    Qb<|⟨_,La,T,bF (λe=>O0 E e.2.1)⟩
  refine Qa<|Zt<|Ys<|QC U<|Qa<|Zt<|Ys<|x (qE U) <|
   Qa<|Zt<|Ys<|QC U<|Qb<|⟨_,La,I,bF (λe=>h9 e.1)⟩
 rintro z g w6 ⟨hk,rfl⟩;exact Qh ⟨[_],La,U,hk⟩
theorem Qli (h:ZM L ↑w va vm ve a):
  QY sV 132 [.agg #[va,sS a.st,vm,ve]] w λr w'=>r=.bool (VH a)/\sX w w':=by
 refine Zq func132 ?_;refine Qc<|Zl [va,sS a.st,vm,ve] λb1 S hb hg G=>Qb<|QX (α:=Bool) [(2,11)] (λz=>[(2,.bool z)]) (λz w'=>sX w w'/\z=VH a) om ?_ ?_
 ·refine Zz [] (YW 0 10 [1,6,7]) ?_;have T:=hb.D (O5.C [] S);refine pq (λ_ E=>Zu (G.J E od) rfl rfl)<|pk<|xg<|(Js (h.I T)).Y ?_;rintro r2 w2 ⟨rfl,V⟩;have H:=T.D V;have I:=(O5.C [] S).D V;refine⟨I,?_⟩;refine pb (λ_=>QR U U) (λJ=>?_) (λJ=>?_)
  ·have E:JB a=0:=J;refine p Qv<|pq (λ_ E=>Zu (G.J E od) rfl rfl)<|pq (λ_ E=>Zu (G.J E od) rfl rfl) <|
    pk<|xg<|(JJ (h.I H) ((Z4 a).1 E)).Y ?_
   rintro r3 w3 ⟨O,hh,hi,hj,rfl,he⟩;have Y:=H.D O;refine⟨I.D O,?_⟩;refine pk<|xg<|(QdH (h.I Y) (he [] od)).Y ?_;rintro r4 w4 ⟨rfl,ha⟩;refine⟨(I.D O).D ha,?_⟩;refine p (Y9 U)<|p ZG<|pe ?_;refine⟨_,La,Y.D ha,?_⟩;unfold VH;rw[OX E,OO];exact bD ⟨λe=>⟨e.1.symm,e.2.1.symm,e.2.2.1.symm,e.2.2.2.symm⟩,λe=>⟨e.1.symm,e.2.1.symm,e.2.2.1.symm,e.2.2.2.symm⟩⟩
  have E:¬JB a=0:=J;refine p Qv<|ps<|ps<|ps<|ps<|p (Y9 U)<|p ZG<|pe ?_;exact⟨_,La,H,by unfold VH;rw[OZ E];rfl⟩
 rintro z g w5 ⟨hf,rfl⟩;exact Qh ⟨[_],La,U,hf⟩
section
variable {pS:String}
theorem Zh [Ag P t sz]{x:O3}{o:Nat}(h:QZ ↑w b T cs)(hx:ev f x=.pointer (some ⟨b,o,none⟩))(G:us.length=sz)(H:(cs.drop o).take sz=us):
  (execOp (ev f) ⟨d,.load t x,ty,pS,af,gd⟩).run P w=.ok (.value (sT us)) w:=zU hx G λj v E=>by
 rw[KG,JS,h.cell];rw[<-H,LW]at E;split at E
 ·simpa using E
 cases E
end
theorem Qel {v:O2}(h:X4 L ↑w v qs):
  QY sV 178 [v] w λr w'=>sX w w'/\w'.ownsRow ↑w 66 4 r (qs.map (·.p)).length ((qs.map (·.p)).flatMap ZX):=by
 have ho:=h.arr.le;refine Zq func178 ?_;refine Qc<|Qb<|Qc<|Qb<|Qd<|Qj<|QF h.arr U<|Qa<|xe<|Q7 (α:=Nat×O2) [(3,3),(5,5),(8,17)] (λz=>[(3,z.2),(8,sS z.1)]) (λz w'=>z.1<=qs.length/\sX w w'/\w'.ownsRow ↑w 66 4 z.2 z.1 (((qs.take z.1).map (·.p)).flatMap ZX)) (λz=>qs.length - z.1) (0,nS) oB
  ⟨Lo _,O5.Z _ _,QE _ _ _ _⟩ ?_
 rintro⟨k,vo⟩ g w1 ⟨hk,H,J⟩;refine Zo rfl U (λO=>?_) (λO=>?_)
 ·refine Qw ?_;have hc:k=qs.length:=by have I:¬(k:Int)<(qs.length:Int):=O;omega
  subst hc;rw[Lu (Lx _)]at J;refine Qj<|Qb<|Qh ⟨[_],La,H,by rw[Lh];exact J⟩
 have E:k<qs.length:=by have I:(k:Int)<(qs.length:Int):=O;omega
 have V:=Lm E;have Y:qs.take (k+1)=qs.take k++[qs[k]'E]:=Ln E;refine Qf<|Qd<|Qm<|Qc<|xig Yv (h.arr.I H) U U E λhp I=>?_;refine Zf (qs[k]'E) λq hq=>?_;rw[hq]at I V Y;have G:=h.each q V;refine x (Qr I U U)<|QM [.string .empty,nS,sS 0,nS,nS] λb5 w2 he hf S=>QK (QJ q) S ⟨U,G.al.one,U,G.mr.one,G.ed.one,Z⟩ λw3 hg S =>
  xe ?_
 have hh:sX w1 w3:=he.O hg hf;refine Qs<|Qa<|QQ U<|x (Zh (us:=ZX q.p) S U U U)<|Qn<|Za [ZX q.p] λhr w4 hi hs hj=>?_;have T:=hh.D hi;have ha:=Ql J T;have ht:=(H.D T).size;have hl:∀u∈ZX q.p,u.oneCell'=true:=by
  intro u hu;simp only[oL,oK,or_false]at hu;rcases hu with rfl|rfl|rfl|rfl
  ·exact G.al.one
  ·rfl
  ·exact G.mr.one
  exact G.ed.one
 refine Qn<|Q2 (news:=ZX q.p) (L:=[]) ha U U U (hj.at od) hl oa oa λv5 w5 hm hn hv=>Qb<|Qs<|QH rfl rfl<|Qa<|xe<|⟨(k+1,v5),og,oB,E,(H.D T).S hn (λb hb=>.inr ((Qg ha) b hb).1),?_⟩;simp only[];rw[Y,Lr,LA];simpa using hm
theorem QjK {r:O2}{base e:Nat}{ps:List AV}(h:w.ownsRow base e 4 r ps.length (ps.flatMap ZX))(E:ps.length<=1099511627776)(G:∀b∈L,b<base)(H:∀p∈ps,ZM L ↑w p.va p.vm p.ve p.a):KU L ↑w r ps :=
 ⟨QB h E (λb I hbL=>oy (Qg h b I).1 (G b hbL)),H⟩
theorem QjJ {n m:Int}(E:QZ ↑w b 3 [sS m]):
  QY sV 134 ([sS n]++[sP b]) w λr w'=>r=.bool (decide (m<=n))/\sX w w':=by
 refine Zq func134 ?_;refine Qc<|Qb<|Qj<|Xn E U U<|x (YC U U)<|Qb<|Qh ⟨[_],La,U,O5.Z _ _⟩
abbrev U4 (n:Int):LV:=[sS n]
theorem Qpc (n:Int):(U4 n).length=1:=rfl
theorem Qn4:∀l:LI,l.flatMap U4=l.map (.int .i64)
 | []=>rfl
 | a::l=>by rw[LM,Qn4 l];rfl
theorem QL.fl {v:O2}(h:QL L H v l):Zn L H v l.length 1 (l.flatMap U4):=by
 rw[Qn4 l];exact h
theorem QjH [Fu sV gp fn]{cap:LV}{q:Int->Bool}{v:O2}(h:Zn L ↑w v l.length 1 (l.flatMap U4))
  (Y:∀e∈l,∀(G:O1),sX w G->QY sV gp ([sS e]++cap) G λr w'=>r=.bool (q e)/\sX G w'):
  QY sV 66 [v,.func (.func gp) #[] cap.toArray] w λr w'=>r=sS (fix q 0 l)/\sX w w':=by
 have hc:=h.le;refine Zq func66 ?_;refine Qc<|Qb<|Qd<|Qj<|QF h U<|Qa<|xe<|Q7 (α:=Nat) [(4,5),(8,18)] (λz=>[(8,sS z)]) (λz w'=>z<=l.length/\sX w w'/\fix q z (l.drop z)=fix q 0 l) (λz=>l.length - z) 0 La
  ⟨Lo _,O5.Z _ _,U⟩ ?_
 rintro k g G ⟨hk1,H,E⟩;refine Zo rfl U (λJ=>?_) (λJ=>?_)
 ·refine Qw ?_;have ha:l.length<=k:=by have hb:¬(k:Int)<(l.length:Int):=J;omega
  rw[Lt ha]at E;refine Qc<|Qb<|Qh ⟨[_],La,by rw[<-E];rfl,H⟩
 have I:k<l.length:=by have hb:(k:Int)<(l.length:Int):=J;omega
 rw[Zc I,Yw]at E;have S:=Lm I;refine Qf<|Qd<|Qm<|Qj<|Qb<|Qj<|Qa<|Qa<|xig Qpc (h.I H) U U I λhf T=>?_;refine Zf (l[k]'I) λe he=>?_;rw[he]at T E S;refine x (Qy T U)<|Qn<|xc (first:=[]) (capt:=cap) U<|(Y e S G H).Y ?_;rintro r2 w2 ⟨rfl,V⟩;refine xe<|QU rfl (λO=>?_) (λO=>?_)
 ·rw[OU O]at E;refine Qj<|Qb<|Qh ⟨[_],La,by rw[<-E];rfl,H.D V⟩
 rw[OT (by rw[O];decide)]at E;refine Qf<|Qs<|QH U U<|Qa<|xe ?_;exact⟨k+1,oa,La,I,H.D V,E⟩
theorem QpI [Fu sV gp fn]{cap:LV}{q:Int->Bool}{v:O2}(h:Zn L ↑w v l.length 1 (l.flatMap U4))
  (G:∀e∈l,∀(E:O1),sX w E->QY sV gp ([sS e]++cap) E λr w'=>r=.bool (q e)/\sX E w'):
  QY sV 133 [v,.func (.func gp) #[] cap.toArray] w λr w'=>r=.bool (l.any q)/\sX w w':=by
 refine Zq func133 ?_;refine Qc<|Qb<|Qj<|Qa<|jF<|(QjH h G).Y ?_;rintro I E ⟨rfl,H⟩;refine x (YC U U)<|Qb<|Qh ⟨[_],La,OV Value.bool (QbN q l 0),H⟩
theorem QfF {q:IV}{nev:Nat}{vg:O2}{amg:LI}{bm:Nat}{seen:List ByteArray}(hA:ZM L ↑w q.p.va q.p.vm q.p.ve q.p.a)(h1:JF q.nm)(hg:QL L' ↑w vg amg)(h9:amg.length<=4096)(hm:Yu J0 ↑w bm (nmM seen))(hbL:bm∈L)(h2:bm∈L'):
  QY sV 74 [sT (QJ q),sS nev,vg,.map (some bm)] w λr w'=>r=sS (Yy nev amg seen q.it)/\O5 [bm] w w'/\(Yy nev amg seen q.it=0->Yu J0 ↑w' bm (nmM (seen++[q.nm]))):=by
 have E:Yy nev amg seen q.it=(if Xj q.nm=false then 7 else if q.nm∈seen then 8 else if JB q.p.a≠0 then JB q.p.a else if VH q.p.a=false then 6 else if q.p.a.st=0 then 12 else
  if(q.p.a.al.any λe=>decide ((nev:Int)<=e))=true then 2 else if(mns q.p.a.al amg).length≠0 then 9 else 0):=rfl
 refine Zf (Yy nev amg seen q.it) λR hR=>?_;rw[hR]at E ⊢;refine Zq func74 ?_;refine Qc<|Zl (QJ q) λb4 w1 ht hB h3=>Zl [sS nev] λb5 w2 T hC h4=>Qb ?_;have V:=ht.D T;have Y:=h3.I T;refine Qd<|Qm<|Qc<|Qo U Y U U<|Qz<|(V8 q.nm h1 w2).Y ?_;rintro r3 w3 ⟨rfl,rfl⟩;refine x (Zy U)<|Qb<|QU U (λhi=>?_) (λhi=>?_)
 ·have G:Xj q.nm=false:=by simpa using hi
  rw[OU G]at E;subst E;refine Qc<|Qb<|Qh ⟨[_],La,U,V.any,λe=>OW e ol⟩
 have G:¬Xj q.nm=false:=by simpa using hi
 rw[OT G]at E;have hu:=hm.I V;refine Qj<|Qo U Y U U<|x (Qcx hu U U)<|Qb<|QO U (λha=>?_) (λha=>?_)
 ·rw[OU ha]at E;subst E;refine Qc<|Qb<|Qh ⟨[_],La,U,V.any,λe=>OW e ol⟩
 rw[OT ha]at E;refine Qf ?_;have hD:=hm.lt;refine Qj<|Qo U Y U U<|Qn<|XY (k:=q.nm) hu U U λw4 hj hv=>xe ?_;rw[show ev _ _=Value.bool true from rfl,Qfl ha]at hv;have H:O5 [bm] w w4:=V.any.Q hj;have hE:=ht.size;have hc:=Y.J hj (by simp;omega);have hf:ZM L ↑w4 q.p.va q.p.vm q.p.ve q.p.a:=hA.st (H.Y (λb I=>by simp at I;subst I;exact hbL));have h5:QL L' ↑w4 vg amg:=hg.st (H.Y (λb I=>by simp at I;subst I;exact h2));refine Qd<|Qc<|QQ U<|x (Zh (us:=ZX q.p) hc U U U)<|Qz<|(Js hf).Y ?_;rintro r5 w5 ⟨rfl,hh⟩;refine Qb<|Qj<|Zx U U<|xe<|QO rfl (λJ=>?_) (λJ=>?_)
 ·rw[OU J]at E;subst E;refine Qj<|Qb<|Qh ⟨[_],La,U,H.D hh,λe=>OW e J⟩
 rw[OT J]at E;refine Qf<|Qd<|Qm<|Qc<|QQ U<|x (Zh (us:=ZX q.p) (hc.I hh) U U U)<|Qz<|(Qli (hf.I hh)).Y ?_;rintro r6 w6 ⟨rfl,h6⟩;have O:=hh.D h6;have hw:=H.D O;have hy:=hc.I O;refine x (Zy U)<|Qb<|QU U (λhk=>?_) (λhk=>?_)
 ·have G:VH q.p.a=false:=by simpa using hk
  rw[OU G]at E;subst E;refine Qc<|Qb<|Qh ⟨[_],La,U,hw,λe=>OW e ol⟩
 have G:¬VH q.p.a=false:=by simpa using hk
 rw[OT G]at E;refine Qc<|QQ U<|Qo U hy U U<|x (QR U U)<|Qb<|QO U (λhl=>?_) (λhl=>?_)
 ·have ho:q.p.a.st=0:=hl;rw[OU ho]at E;subst E;refine Qc<|Qb<|Qh ⟨[_],La,U,hw,λe=>OW e ol⟩
 have ho:¬q.p.a.st=0:=hl;rw[OT ho]at E;refine Qc<|QQ U<|Qo U hy U U<|x ZD<|Qz<|(QpI (q:=λe=>decide ((nev:Int)<=e)) (cap:=[sP b5]) (QL.fl (hf.al.I O)) (λe he w2 T=>QjJ (((h4.J hj (by simp;omega)).I O).I T))).Y ?_;rintro r7 w7 ⟨rfl,h7⟩;have S:=O.D h7;refine Qb<|QU U (λhp=>?_) (λhp=>?_)
 ·rw[OU hp]at E;subst E;refine Qc<|Qb<|Qh ⟨[_],La,U,(H.D S),λe=>OW e ol⟩
 rw[OT (by rw[hp];decide)]at E;have hF:=((Z4 q.p.a).1 (Lp.1 J)).al_le;refine Qc<|QQ U<|Qo U (hc.I S) U U<|Qa<|Qz<|(QhM (hf.al.I S) (h5.I S) oa).Y ?_;rintro r8 w8 ⟨h8,rfl⟩;have hz:=S.D h8;have h0:=H.D hz;refine x (yF U)<|Qb<|QO U (λhq=>?_) (λhq=>?_)
 ·have hs:(mns q.p.a.al amg).length≠0:=λe=>hq (Ls e);rw[OU hs]at E;subst E;refine Qc<|Qb<|Qh ⟨[_],La,U,h0,λe=>OW e ol⟩
 have hs:¬(mns q.p.a.al amg).length≠0:=λe=>hq (λh=>e (by rw[show mns q.p.a.al amg=[] from h];rfl));rw[OT hs]at E;subst E;refine Qf<|Qc<|Qb<|Qh ⟨[_],La,U,h0,λ_=>hv.I hz⟩
theorem QaM {v:O2}{l:xw}(h:jT L ↑w v l):
  QY sV 82 [v] w λr w'=>sX w w'/\w'.ownsRow ↑w 107 2 r l.length (l.flatMap QD):=by
 have hc:=h.le;refine Zq func82 ?_;refine Qc<|Qb ?_;obtain⟨ao,cap,G⟩:=h.shape;refine Qd<|Qj<|x (XS (show ev _ _=_ from G) U)<|xe<|QU rfl (λH=>?_) (λH=>?_)
 ·refine Qc<|Qb<|Qh ⟨[nS],La,O5.Z _ _,?_⟩;rcases h.2.2 with⟨E,I⟩|⟨a,c,E,_⟩
  ·have:l=[]:=Ls I;subst this;exact QE _ _ _ _
  rw[E]at G;cases G;cases H
 rcases h.2.2 with⟨E,I⟩|⟨a,c,E,I,V⟩
 ·rw[E]at G;injection G with e1;subst e1;cases H
 refine Qf<|Qc ?_;have Y:∀u∈l.flatMap QD,u.oneCell'=true:=by
  intro u hu;obtain⟨p,_,J⟩:=Me.1 hu;simp only[oL,oK,or_false]at J;rcases J with rfl|rfl <;> rfl
 refine Qn<|XZ λb5 w1 O S T=>Qa<|Qn<|Q2 (base:=↑w) (T.own (n:=0) (sz:=2) U oa S) U (show ev _ _=_ from E) h.1 (V.I O) Y oa (ov T.lt) λv2 w2 ha hb he=>Qb<|Qh ⟨[v2],La,O.O hb S,?_⟩;simpa[tup]using ha
theorem QaL {v:O2}{l:xw}(h:jT L ↑w v l):
  QY sV 83 [v] w λr w'=>sX w w'/\w'.ownsRow ↑w 112 2 r l.length (l.flatMap QD):=by
 have hc:=h.le;refine Zq func83 ?_;refine Qc<|Qb ?_;obtain⟨ao,cap,G⟩:=h.shape;refine Qd<|Qj<|x (XS (show ev _ _=_ from G) U)<|xe<|QU rfl (λH=>?_) (λH=>?_)
 ·refine Qc<|Qb<|Qh ⟨[nS],La,O5.Z _ _,?_⟩;rcases h.2.2 with⟨E,I⟩|⟨a,c,E,_⟩
  ·have:l=[]:=Ls I;subst this;exact QE _ _ _ _
  rw[E]at G;cases G;cases H
 rcases h.2.2 with⟨E,I⟩|⟨a,c,E,I,V⟩
 ·rw[E]at G;injection G with e1;subst e1;cases H
 refine Qf<|Qc ?_;have Y:∀u∈l.flatMap QD,u.oneCell'=true:=by
  intro u hu;obtain⟨p,_,J⟩:=Me.1 hu;simp only[oL,oK,or_false]at J;rcases J with rfl|rfl <;> rfl
 refine Qn<|XZ λb5 w1 O S T=>Qa<|Qn<|Q2 (base:=↑w) (T.own (n:=0) (sz:=2) U oa S) U (show ev _ _=_ from E) h.1 (V.I O) Y oa (ov T.lt) λv2 w2 ha hb he=>Qb<|Qh ⟨[v2],La,O.O hb S,?_⟩;simpa[tup]using ha
theorem YO.low {base:Nat}{v:O2}(h:YO base av ↑w v n sz cs)(G:O5 X w w')(H:∀b∈X,b<base):YO base av ↑w' v n sz cs:=by
 intro L I;have J:Zn (X++L) ↑w v n sz cs:=h _ (λb E=>by
  rcases Lc.1 E with E|E
  ·exact .inl (H b E)
  exact I b E)
 exact(J.J G (λb E=>Lc.2 (.inl E))).up (λb E=>.inl (Lc.2 (.inr E)))
theorem YJ.low {α:Type}{g:α->LV}{sz T:Nat}{p:α->O2×Nat×Nat×LV}{base:Nat}{X:LN}{w w':O1}{v:O2}{l:List α}(h:YJ g sz T p base w v l)(E:O5 X w w')(G:∀b∈X,b<base):YJ g sz T p base w' v l :=
 ⟨Qe h.own E (λb H I=>oy (Qg h.own b H).1 (G b I)),λq J=>(h.each q J).low E G⟩
theorem YJ.arr {g:α->LV}{p:α->O2×Nat×Nat×LV}{base:Nat}{v:O2}{l:List α}(h:YJ g sz T p base w v l)(E:l.length<=1099511627776)(G:∀b∈L,b<base):Zn L ↑w v l.length sz (l.flatMap g):=
 QB h.own E (λb H hbL=>oy (Qg h.own b H).1 (G b hbL))
abbrev xvP (q:XV):O2×Nat×Nat×LV:=(q.v,q.ls.length,2,q.ls.flatMap QD)
abbrev kvP (q:KV):O2×Nat×Nat×LV:=(q.v,q.ts.length,2,q.ts.flatMap QD)
abbrev XvN (base:Nat)(w:O1)(v:O2)(l:List XV):Prop:=YJ Q3 2 105 xvP base w v l
abbrev KvN (base:Nat)(w:O1)(v:O2)(l:List KV):Prop:=YJ Q9 3 110 kvP base w v l
theorem XvN.xcs {base:Nat}{v:O2}{l:List XV}{qs:List XV}(h:XvN base w v l)(J:l.map (·.x)=qs.map (·.x))(E:∀q∈qs,JF q.nm)(O:l.length<=1099511627776)(G:∀b∈L,b<base):jD L ↑w v l:=by
 refine⟨h.arr O G,λq E=>h.each q E L (λb S=>.inl (G b S)),λq T=>?_⟩;have V:q.x∈qs.map (·.x):=by rw[<-J];exact LP T
 obtain⟨H,Y,e⟩:=LD.1 V;have I:=E H Y;have h3:H.nm=q.nm:=OV qv.nm e;rw[h3]at I;exact I
theorem KvN.kcs {base:Nat}{v:O2}{l:List KV}{qs:List KV}(h:KvN base w v l)(J:l.map (·.k)=qs.map (·.k))(E:∀q∈qs,JF q.nm)(O:l.length<=1099511627776)(G:∀b∈L,b<base):jz L ↑w v l:=by
 refine⟨h.arr O G,λq E=>h.each q E L (λb S=>.inl (G b S)),λq T=>?_⟩;have V:q.k∈qs.map (·.k):=by rw[<-J];exact LP T
 obtain⟨H,Y,e⟩:=LD.1 V;have I:=E H Y;have h3:H.nm=q.nm:=OV xK.nm e;rw[h3]at I;exact I
theorem Qp {base e:Nat}{v:O2}(h:w.ownsRow base e sz v n cs):v.oneCell'=true:=by
 rcases h.2 with⟨E,_⟩|⟨g,cap,cur,E,_⟩ <;> subst E <;> rfl
theorem xL {base e:Nat}{v:O2}(h:w.ownsRow base e sz v n cs):v.cells=#[v]:=by
 rcases h.2 with⟨E,_⟩|⟨g,cap,cur,E,_⟩ <;> subst E <;> rfl
theorem Qa8 {q:XV}(h:q.v.oneCell'=true):∀u∈Q3 q,u.oneCell'=true:=by
 intro u E;simp only[oL,oK,or_false]at E;rcases E with rfl|rfl
 ·rfl
 exact h
theorem Qfz {q:KV}(h:q.v.oneCell'=true):∀u∈Q9 q,u.oneCell'=true:=by
 intro u E;simp only[oL,oK,or_false]at E;rcases E with rfl|rfl|rfl
 ·rfl
 ·exact h
 rfl
def Qsb (N:Nat)(w:O1)(r:O2)(sz:LI)(ex:List qv)(cs:List xK):Prop:=∃vs vx vk qx ks,r=.agg #[vs,vx,vk]/\qx.map (·.x)=ex/\ks.map (·.k)=cs/\∀L:LN,(∀b∈L,b<N)->QL L ↑w vs sz/\jD L ↑w vx qx/\jz L ↑w vk ks
theorem QaU {c:CL}(h:ZI L ↑w c):
  QY sV 77 [c.val] w λr w'=>sX w w'/\Qsb ↑w w' r (szs c.V.co) c.V.ex c.V.cs:=by
 have m8:=h.co.arr.le;have m9:=h.ex.arr.le;have pa:=h.cs.arr.le;refine Zq func77 ?_;refine Qc<|Zl c.cells λb1 w1 hZ pc ga=>QM [nS,nS,nS] λb2 w2 gb pd gc=>xe ?_;have pf:=hZ.size;have pg:=ga.lt;have ph:=gc.lt;refine Qc<|x (Qx Z)<|QM [nS,nS,nS] λG w3 g7 g8 h3=>QK [nS,nS,nS] h3 oC λw4 g9 h3 =>
  xe ?_
 have pj:=h3.lt;have V:sX w2 w4:=g7.O g9 g8;have gg:sX w w4:=(hZ.D gb).D V;have gh:=(ga.I gb).I V;have ka:=gc.I V;have h4:=h.I gg;have pm:b1<G:=oa
 have pn:b2<G:=oa
 have kb:↑w<=G:=oa
 have hI:∀{wa wb:O1},O5 [G] wa wb->sX w wa->sX w wb:=λha E=>E.O ha kb;refine Qd<|Qc<|Qo U gh U U<|QF h4.co.arr U<|Qa<|xe<|Q7 (α:=Nat×O2) [(5,5),(14,26)] (λz=>[(14,sS z.1)]) (λz w'=>z.1<=c.co.length/\O5 [G] w4 w'/\QZ ↑w' G 196 [z.2,nS,nS]/\Qq 3 ↑w4 w' z.2 ((c.co.take z.1).map (·.p.a.st))) (λz=>c.co.length - z.1) (0,nS) La
  ⟨Lo _,O5.Z _ _,h3,QE _ _ _ _⟩ ?_
 rintro⟨k,vs⟩ g w5 ⟨hk,hu,h8,O⟩;simp only[]at hk h8 O;have gi:=hI hu gg;have h5:=h.I gi;have gj:=gh.J hu (by simp;omega);have kc:=ka.J hu (by simp;omega);have po:=hu.size;refine Zo rfl U (λhJ=>?_) (λhJ=>?_)
 ·refine Qw ?_;have ke:c.co.length<=k:=by have T:¬(k:Int)<(c.co.length:Int):=hJ;omega
  rw[Lu ke]at O;refine Qd<|Qc<|Qo U gj U U<|QF h5.ex.arr U<|Qa<|xe<|Q7 (α:=Nat×O2×List XV) [(7,7),(30,45)] (λz=>[(30,sS z.1)]) (λz w'=>z.1<=c.ex.length/\O5 [G] w5 w'/\QZ ↑w' G 196 [vs,z.2.1,nS]/\XvN ↑w5 w' z.2.1 z.2.2/\z.2.2.map (·.x)=(c.ex.take z.1).map (·.x)) (λz=>c.ex.length - z.1) (0,nS,[]) La
   ⟨Lo _,O5.Z _ _,h8,YJ.nil,U⟩ ?_
  rintro⟨j,vx,qx⟩ g w6 ⟨hj,Y,hK,hf,hg⟩;simp only[]at hj hK hf hg;have gk:=hI Y gi;have h6:=h.I gk;have kf:=gj.J Y (by simp;omega);have kg:=kc.J Y (by simp;omega);have pp:=Y.size;have pu:qx.length=j:=by have:=OV oQ hg;simp at this;omega
  refine Zo U U (λhM=>?_) (λhM=>?_)
  ·refine Qw ?_;have kh:c.ex.length<=j:=by have T:¬(j:Int)<(c.ex.length:Int):=hM;omega
   rw[Lu kh]at hg;refine Qd<|Qc<|Qo U kf U U<|QF h6.cs.arr U<|Qa<|xe<|Q7 (α:=Nat×O2×List KV) [(9,9),(49,66)] (λz=>[(49,sS z.1)]) (λz w'=>z.1<=c.cs.length/\O5 [G] w6 w'/\QZ ↑w' G 196 [vs,vx,z.2.1]/\KvN ↑w6 w' z.2.1 z.2.2/\z.2.2.map (·.k)=(c.cs.take z.1).map (·.k)) (λz=>c.cs.length - z.1) (0,nS,[]) La
    ⟨Lo _,O5.Z _ _,hK,YJ.nil,U⟩ ?_
   rintro⟨i,vk,ks⟩ g w7 ⟨hi,hh,hN,hl,hn⟩;simp only[]at hi hN hl hn;have gl:=hI hh gk;have h7:=h.I gl;have ki:=kg.J hh (by simp;omega);have pw:=hh.size;have pz:ks.length=i:=by have:=OV oQ hn;simp at this;omega
   refine Zo U U (λhO=>?_) (λhO=>?_)
   ·refine Qw ?_;have kj:c.cs.length<=i:=by have T:¬(i:Int)<(c.cs.length:Int):=hO;omega
    rw[Lu kj]at hn;have kk:Zb [vs,vx,vk]:=⟨Qp O,Qp hf.own,Qp hl.own,Z⟩;refine Qc<|QT hN U U<|QK [vs,vx,vk] ki kk λw8 h9 kn=>xe ?_;refine Qh ⟨[.agg #[vs,vx,vk]],⟨Yl kn,Z⟩,gl.O h9 oa,?_⟩;have ko:=Qe ((Qe O Y (λb E H=>by have:=(Qg O b E).1;simp at H;omega))) hh (λb E H=>by have:=(Qg O b E).1;simp at H;omega);have kq:=Qe ko h9 (λb E H=>by have:=(Qg O b E).1;simp at H;omega);have kr:=(YJ.low hf hh (by simp;omega)).low h9 (by simp;omega);have kt:=YJ.low hl h9 (by simp;omega);refine⟨vs,vx,vk,qx,ks,U,hg,hn,λL hL=>⟨?_,XvN.xcs kr hg h.ex.nm oa (λb E=>ov (hL b E)),KvN.kcs kt hn h.cs.nm oa (λb E=>ov (hL b E))⟩⟩;have he:szs c.V.co=c.co.map (·.p.a.st):=by show((c.co.map IV.it).map _)=_;rw[Mn];rfl
    rw[he];exact Qq.ints kq (by rw[Lh];omega) (λb E=>ov (hL b E))
   have ho:i<c.cs.length:=by have T:(i:Int)<(c.cs.length:Int):=hO;omega
   have gm:=Lm ho;have gn:c.cs.take (i+1)=c.cs.take i++[c.cs[i]'ho]:=Ln ho;refine Qf<|Qd<|Qm<|Qc<|xig Xq h7.cs.arr U U ho λp0 go=>?_;refine Zf (c.cs[i]'ho) λq hq=>?_;rw[hq]at go gm gn;have J:=h7.cs.each q gm;refine x (Qr go U U)<|QM [.string .empty,nS,sS 0] λb9 w9 ku kv hv=>QK (Q9 q) hv ⟨U,J.one,U,Z⟩ λhp kw hv =>
    xe ?_
   have hA:sX w7 hp:=ku.O kw kv;have gp:=hN.I hA;have hP:=Qg hl.own;have S:G∉ob vk:=λH=>ov (hP G H).1
   have hQ:b9∉ob vk:=λH=>ov (hP b9 H).2
   refine Zz (ob vk) [oE 0,oE 1,oE 2,oE 3,oE 4,oE 5,oE 7,oE 8,oF 6,oE 9,oF 10,oF 11,oE 12,oF 13] ?_;have kx:=hA.D (O5.C [] hp);refine p (QG U)<|pq (λ_ I=>Qk (gp.J I S) U U)<|p (QG U)<|pq (λ_ I=>Qk (hv.J I hQ) U U) <|
    p (QG rfl)<|pq (λ_ I=>Qk (hv.J I hQ) U U)<|p (QG U)<|pq (λ_ I=>Qk (hv.J I hQ) U U) <|
    pk<|xg<|(QaL (J.I kx)).Y ?_
   rintro hw p1 ⟨kz,hR⟩;have hy:=(O5.C [] hp).D kz;refine⟨hy.any,?_⟩;refine p (λ_=>Qx ⟨U,xL hR,U,Z⟩)<|pk<|Za [Q9 ⟨q.nm,hw,q.ts,q.bd⟩] λp2 p3 hz p4 k0=>⟨(hy.D hz).any,?_⟩;have hB:=(hA.D hy).D hz;have hS:↑hp=({ hp with drawn:=hp.drawn+1 }:O1).heap.size:=rfl
   have p5:=hA.size;have p6:=hB.size;refine pk<|Q2 (news:=Q9 ⟨q.nm,hw,q.ts,q.bd⟩) (L:=[]) (Ql hl.own hB) U U U (k0.at od) (Qfz (q:=⟨q.nm,hw,q.ts,q.bd⟩) (Qp hR)) oa oa λhT gq gr hC k4=>⟨((hy.D hz).any (L:=ob vk)).Q hC,?_⟩;have k5:KvN ↑w6 gq hT (ks++[⟨q.nm,hw,q.ts,q.bd⟩]):=YJ.app hl hB (Ql hR hz) J.le (by rw[<-hS];omega) oa gr hC k4;have k6:=(gp.J ((hy.D hz).any (L:=ob vk)) S).J hC S;refine p (QG U)<|pkk<|Qu (j:=2) (u:=hT) k6 U U od (Qp gr) λp7 gs k7=>pe ?_;have k8:O5 [G] w6 gq:=(hh.D hB).S hC (λb E=>.inr (hP b E).1);refine Qs<|QH U U<|Qa<|xe<|⟨(i+1,hT,ks++[⟨q.nm,hw,q.ts,q.bd⟩]),og,La,ho,?_,k7,YJ.low k5 gs (by simp;omega),?_⟩
   ·exact k8.Q gs
   simp only[];rw[Lr,hn,gn,Lr];rfl
  have hr:j<c.ex.length:=by have T:(j:Int)<(c.ex.length:Int):=hM;omega
  have gt:=Lm hr;have gu:c.ex.take (j+1)=c.ex.take j++[c.ex[j]'hr]:=Ln hr;refine Qf<|Qd<|Qm<|Qc<|xig Xx h6.ex.arr U U hr λp8 gv=>?_;refine Zf (c.ex[j]'hr) λq hq=>?_;rw[hq]at gv gt gu;have J:=h6.ex.each q gt;refine x (Qr gv U U)<|QM [.string .empty,nS] λb7 p9 k9 ma hD=>QK (Q3 q) hD ⟨U,J.one,Z⟩ λhs mf hD =>
   xe ?_
  have hE:sX w6 hs:=k9.O mf ma;have gw:=hK.I hE;have hU:=Qg hf.own;have S:G∉ob vx:=λH=>ov (hU G H).1
  have gx:b7∉ob vx:=λH=>ov (hU b7 H).2
  refine Zz (ob vx) (YW 0 12 [6,8,9,11]) ?_;have mg:=hE.D (O5.C [] hs);refine p (QG U)<|pq (λ_ I=>Qk (gw.J I S) U U)<|p (QG U)<|pq (λ_ I=>Qk (hD.J I gx) U U) <|
   p (QG rfl)<|pq (λ_ I=>Qk (hD.J I gx) U U)<|pk<|xg<|(QaM (J.I mg)).Y ?_
  rintro h0 qc ⟨mh,hV⟩;have h1:=(O5.C [] hs).D mh;refine⟨h1.any,?_⟩;refine p (λ_=>Qx ⟨U,xL hV,Z⟩)<|pk<|Za [Q3 ⟨q.nm,h0,q.ls⟩] λqf ql h2 qm mj=>⟨(h1.D h2).any,?_⟩;have hF:=(hE.D h1).D h2;have hS:↑hs=({ hs with drawn:=hs.drawn+1 }:O1).heap.size:=rfl
  have qo:=hE.size;have qr:=hF.size;refine pk<|Q2 (news:=Q3 ⟨q.nm,h0,q.ls⟩) (L:=[]) (Ql hf.own hF) U U U (mj.at od) (Qa8 (q:=⟨q.nm,h0,q.ls⟩) (Qp hV)) oa oa λhW gy gz hG mo=>⟨((h1.D h2).any (L:=ob vx)).Q hG,?_⟩;have mq:XvN ↑w5 gy hW (qx++[⟨q.nm,h0,q.ls⟩]):=YJ.app hf hF (Ql hV h2) J.le (by rw[<-hS];omega) oa gz hG mo;have ms:=(gw.J ((h1.D h2).any (L:=ob vx)) S).J hG S;have mt:O5 [G] w5 gy:=(Y.D hF).S hG (λb E=>.inr (hU b E).1);refine p (QG U)<|pkk<|Qu (j:=1) (u:=hW) ms U U od (Qp gz) λq0 g0 mu=>pe ?_;refine Qs<|QH U U<|Qa<|xe<|⟨(j+1,hW,qx++[⟨q.nm,h0,q.ls⟩]),og,La,hr,?_,mu,YJ.low mq g0 (by simp;omega),?_⟩
  ·exact mt.Q g0
  simp only[];rw[Lr,hg,gu,Lr];rfl
 have ht:k<c.co.length:=by have T:(k:Int)<(c.co.length:Int):=hJ;omega
 have g2:=Lm ht;have g3:c.co.take (k+1)=c.co.take k++[c.co[k]'ht]:=Ln ht;have q1:((c.co.take k).map (·.p.a.st)).length=k:=by simp;omega
 refine Qf<|Qd<|Qm<|Qc<|xig Yv h5.co.arr U U ht λq2 T=>?_;refine Zf (c.co[k]'ht) λq hq=>?_;rw[hq]at T g2 g3;have J:=h5.co.each q g2;refine x (Qr T U U)<|QM [.string .empty,nS,sS 0,nS,nS] λb5 q3 mv mw hX=>QK (QJ q) hX ⟨U,J.al.one,U,J.mr.one,J.ed.one,Z⟩ λmy mz hX =>
  xe ?_
 have g4:sX w5 my:=mv.O mz mw;have m2:=h8.I g4;refine Qs<|Qo U m2 U U<|QQ U<|Qo U hX U U<|Qn<|Za [[sS q.p.a.st]] λq4 q5 m3 q6 m4=>?_;have hH:=g4.D m3;have j1:=hH.size;have g5:=Qg O;have S:G∉ob vs:=λH=>ov (g5 G H).1
 refine Qn<|Q2 (news:=[sS q.p.a.st]) (L:=[]) (Ql O hH) U U U (m4.at od) oq oa oa λv24 m5 hY V j2=>?_;have m6:O5 [G] w4 m5:=(hu.D hH).S V (λb E=>.inr (g5 b E).1);refine QQ rfl<|Qn<|Qu (j:=0) (u:=v24) ((h8.I hH).J V S) U U od (Qp hY) λj3 g6 m7 =>
  xe ?_
 refine Qs<|QH U U<|Qa<|xe<|⟨(k+1,v24),og,La,ht,m6.Q g6,m7,?_⟩;simp only[];rw[g3,Lr];exact Qq.snoc (n:=q.p.a.st) (Qe hY g6 (λb E H=>by have:=(Qg hY b E).1;simp at H;omega))
theorem Qca (n:Nat):Vo (n+1)=Vo n++[(n:Int)]:=by unfold Vo;rw[NC,Lr];rfl
theorem Qba (n:Nat):(Vo n).length=n:=by unfold Vo;simp
theorem Kk {k:Nat}{l:List IV}(h:k<l.length):(l.drop k).map (·.it)=(l[k]'h).it::(l.drop (k+1)).map (·.it):=by rw[Zc h];rfl
theorem jp {s:List ByteArray}{x:XD}(h:Yy n u s x=0):ZK x.a:=by
 unfold Yy at h;split at h
 ·cases h
 split at h
 ·cases h
 split at h
 ·rename_i E G;exact OW h G
 rename_i E;exact(Z4 _).1 (Lp.1 E)
theorem UF {s:List ByteArray}{x:XD}{l:List XD}:YE n al s u (x::l)=if Yy n al s x≠0 then(Yy n al s x,s,u)else YE n al (s++[x.nm]) (mrg (· || ·) u x.a.al) l:=rfl
theorem UD {s:List ByteArray}{x:XD}{l:List XD}:J3 n u s (x::l)=if Yy n u s x≠0 then Yy n u s x else J3 n u (s++[x.nm]) l:=rfl
theorem Xl {c:CL}(h:ZI L ↑w c):
  QY sV 32 [c.val] w λr w'=>r=sS (Zj c.V)/\sX w w':=by
 have kc:=h.co.arr.le;have ke:=h.rq.arr.le;have E:Zj c.V=(if Kv c.ev≠0 then Kv c.ev else if c.co.length=0 then 12 else if 8<c.co.length\/12<c.co.length+c.rq.length then 3 else
  if(YE c.ev.length (Vo c.ev.length) [] [] (c.co.map (·.it))).1≠0 then(YE c.ev.length (Vo c.ev.length) [] [] (c.co.map (·.it))).1 else
  if J3 c.ev.length (YE c.ev.length (Vo c.ev.length) [] [] (c.co.map (·.it))).2.2 (YE c.ev.length (Vo c.ev.length) [] [] (c.co.map (·.it))).2.1 (c.rq.map (·.it))≠0 then J3 c.ev.length (YE c.ev.length (Vo c.ev.length) [] [] (c.co.map (·.it))).2.2 (YE c.ev.length (Vo c.ev.length) [] [] (c.co.map (·.it))).2.1 (c.rq.map (·.it))else
  YG (szs c.V.co) c.V.ex c.V.cs):=by
  unfold Zj;rw[show c.V.co.length=c.co.length from Lh ..,show c.V.rq.length=c.rq.length from Lh ..];rfl
 refine Zf (Zj c.V) λR hR=>?_;rw[hR]at E ⊢;refine Zf (YE c.ev.length (Vo c.ev.length) [] [] (c.co.map (·.it))) λCO h6=>?_;rw[h6]at E;refine Zq func32 ?_;refine Qc<|Zl c.cells λb1 w1 h7 kf h8=>Qb<|Qd<|Qc<|Qo U h8 U U<|Qz<|(jh (h.ev.I h7)).Y ?_;rintro r2 w2 ⟨rfl,h9⟩;refine Qb ?_;have Y:=h7.D h9;have hl:=h8.I h9;have h2:=h.I Y;refine Qj<|Zx U U<|xe<|QO rfl (λhm=>?_) (λhm=>?_)
 ·rw[OU hm]at E;subst E;refine Qj<|Qb<|Qh ⟨[_],La,U,Y⟩
 rw[OT hm]at E;have kg:c.ev.length<=32:=by
  refine Lp.1 λhn=>?_;apply hm;unfold Kv;rw[OU oa];decide
 refine Qf<|Qd<|Qc<|Qo U hl U U<|QF h2.co.arr U<|Qb<|Qm<|Qj<|x (QR U U)<|Qb<|QO U (λhu=>?_) (λhu=>?_)
 ·have hv:c.co.length=0:=by have hX:(c.co.length:Int)=0:=hu;omega
  rw[OU hv]at E;subst E;refine Qc<|Qb<|Qh ⟨[_],La,U,Y⟩
 have hv:¬c.co.length=0:=by have hX:¬(c.co.length:Int)=0:=hu;omega
 rw[OT hv]at E;refine QX (α:=Bool) [(27,37)] (λz=>[(27,.bool z)]) (λz w'=>w'=w2/\z=decide (8<c.co.length\/12<c.co.length+c.rq.length)) om ?_ ?_
 ·refine Qs<|Qa<|xb (Yc U U) (λhY=>?_) (λhY=>?_)
  ·refine Qa<|Zt<|Zt<|QC U<|Qb<|⟨_,La,U,bT (.inl oa)⟩
  refine Qa<|Qa<|Qo U hl U U<|QF h2.rq.arr U<|x (XX U U ⟨oa,oa⟩) <|
   x (Yc rfl U)<|QC U<|Qb<|⟨_,La,U,bD oa⟩
 rintro z g w3 ⟨rfl,rfl⟩;refine QO rfl (λhw=>?_) (λhw=>?_)
 ·rw[OU hw]at E;subst E;refine Qc<|Qb<|Qh ⟨[_],La,U,Y⟩
 rw[OT hw]at E;refine Qf<|Qc<|Qn<|YM J0 λbm w4 hA kh hB=>Qb ?_;have ki:=hB.lt;have kj:=hl.lt;have hC:=Y.D hA;have hD:=hl.I hA;have hE:b1≠bm:=oa
 have hge:↑w<=bm:=oa
 have hM:ZI [bm] ↑w c:=h.up (λb hb=>.inr (by simp at hb;omega));have hG:=hM.I hC;refine Qc<|x Qi<|Qb<|Qd<|Qc<|Qo U hD U U<|QF hG.ev.arr U<|Qa<|xe<|Q7 (α:=Nat×O2) [(6,6),(8,8),(42,49)] (λz=>[(6,z.2),(42,sS z.1)]) (λz w'=>z.1<=c.ev.length/\sX w4 w'/\Qq 3 ↑w4 w' z.2 (Vo z.1)) (λz=>c.ev.length - z.1) (0,nS) oB
  ⟨Lo _,O5.Z _ _,QE _ _ _ _⟩ ?_
 rintro⟨k,vg⟩ g w5 ⟨hk,ha,ho⟩;simp only[]at hk ho;have kk:=Qba k;refine Zo rfl U (λhy=>?_) (λhy=>?_)
 ·refine Qw ?_;have hc:k=c.ev.length:=by have he:¬(k:Int)<(c.ev.length:Int):=hy;omega
  subst hc;have hZ:QL [bm] ↑w5 vg (Vo c.ev.length):=Qq.ints ho oa (by simp;omega);have ga:=hB.I ha;have hH:=hD.I ha;have hI:=hG.I ha;have gb:=hC.D ha;refine Qd<|Qc<|Qo U hH U U<|QF hI.co.arr U<|Qa<|xe<|Q7 (α:=Nat×O2×List ByteArray×LI) [(2,2),(7,7),(10,11),(53,72)] (λz=>[(7,z.2.1),(53,sS z.1)]) (λz w'=>z.1<=c.co.length/\O5 [bm] w5 w'/\Yu J0 ↑w' bm (nmM z.2.2.1)/\QL [bm] ↑w' z.2.1 z.2.2.2/\z.2.2.2.length<=32*z.1/\YE c.ev.length (Vo c.ev.length) z.2.2.1 z.2.2.2 ((c.co.drop z.1).map (·.it))=CO) (λz=>c.co.length - z.1) (0,nS,[],[]) oB
   ⟨Lo _,O5.Z _ _,ga,Zn.nil _ _ _,od,h6⟩ ?_
  rintro⟨k,vu,sn,u⟩ g w6 ⟨hk,hf,hp,hz,gc,H⟩;simp only[]at hk hp hz gc H;have hJ:sX w w6:=gb.O hf hge;have h0:=hH.J hf (oA hE);have S:=hI.st hf;refine Zo U U (λh1=>?_) (λh1=>?_)
  ·refine Qw ?_;have hc:k=c.co.length:=by have he:¬(k:Int)<(c.co.length:Int):=h1;omega
   subst hc;rw[Lt (Lx _)]at H;have gg:CO=(0,sn,u):=H.symm;subst gg;rw[OT od]at E;simp only[]at E;refine Zf (J3 c.ev.length u sn (c.rq.map (·.it))) λRQ hK=>?_;rw[hK]at E;refine Qd<|Qc<|Qo U h0 U U<|QF S.rq.arr U<|Qa<|xe<|Q7 (α:=Nat×List ByteArray) [(2,2),(13,14),(76,90)] (λz=>[(76,sS z.1)]) (λz w'=>z.1<=c.rq.length/\O5 [bm] w6 w'/\Yu J0 ↑w' bm (nmM z.2)/\J3 c.ev.length u z.2 ((c.rq.drop z.1).map (·.it))=RQ) (λz=>c.rq.length - z.1) (0,sn) La
    ⟨Lo _,O5.Z _ _,hp,hK⟩ ?_
   rintro⟨k,sm⟩ g w7 ⟨hk,hg,hL,I⟩;simp only[]at hk hL I;have hN:sX w w7:=hJ.O hg hge;have hO:=h0.J hg (oA hE);have hh:=S.st hg;have gh:=hz.st hg;refine Zo U U (λh3=>?_) (λh3=>?_)
   ·refine Qw ?_;have hc:c.rq.length<=k:=by have he:¬(k:Int)<(c.rq.length:Int):=h3;omega
    rw[Lt hc]at I;have gi:RQ=0:=I.symm;rw[OT (by rw[gi];decide)]at E;refine Qc<|QT hO U U<|Qz<|(QaU hh).Y ?_;rintro r8 w8 ⟨gj,vs,vx,vk,qx,ks,rfl,gk,gl,hF⟩;obtain⟨gm,gn,go⟩:=hF [] od;refine Qz<|(jg gm gn go).Y ?_;rintro r9 w9 ⟨rfl,gp⟩;rw[gk,gl,<-E];refine Qb<|Qh ⟨[_],La,U,(hN.D gj).D gp⟩
   have G:k<c.rq.length:=by have he:(k:Int)<(c.rq.length:Int):=h3;omega
   have O:=Lm G;rw[Kk G,UD]at I;refine Qf<|Qd<|Qm<|Qc<|xig Yv hh.rq.arr U U G λkn hP=>?_;refine Zf (c.rq[k]'G) λq hq=>?_;rw[hq]at hP O I;have J:=hh.rq.each q O;refine x (Qr hP U U)<|QM [.string .empty,nS,sS 0,nS,nS] λb13 ko gq gr h4=>QK (QJ q) h4 ⟨U,J.al.one,U,J.mr.one,J.ed.one,Z⟩ λgs gt h4 =>
    xe ?_
   have T:sX w7 gs:=gq.O gt gr;refine Qc<|QT h4 U U<|Qo U (hO.I T) U U<|QF (hh.ev.I T).arr U<|Qa<|Qa<|Qz<|(QfF (J.I T) (hh.rq.nm q O) (gh.I T) oa (hL.I T) od od).Y ?_;rintro kq kr ⟨rfl,hQ,gu⟩;refine Qb<|Qj<|Zx U U<|xe<|QO U (λhi=>?_) (λhi=>?_)
   ·rw[OU hi]at I;rw[OU (by rw[<-I];exact hi)]at E;refine Qj<|Qb<|Qh ⟨[_],La,by rw[E,<-I];rfl,(hN.D T).O hQ hge⟩
   rw[OT hi]at I;refine Qf<|Qs<|QH U U<|Qa<|xe ?_;exact⟨(k+1,sm++[q.nm]),og,La,G,(hg.D T).Q hQ,gu (Lp.1 hi),I⟩
  have G:k<c.co.length:=by have he:(k:Int)<(c.co.length:Int):=h1;omega
  have O:=Lm G;rw[Kk G,UF]at H;refine Qf<|Qd<|Qm<|Qc<|xig Yv S.co.arr U U G λkt hS=>?_;refine Zf (c.co[k]'G) λq hq=>?_;rw[hq]at hS O H;have J:=S.co.each q O;have gv:=hZ.st hf;refine x (Qr hS U U)<|QM [.string .empty,nS,sS 0,nS,nS] λku kv gw gx hs=>QK (QJ q) hs ⟨U,J.al.one,U,J.mr.one,J.ed.one,Z⟩ λgy gz hs =>
   xe ?_
  have V:sX w6 gy:=gw.O gz gx;have kw:=hp.lt;refine Qd<|Qc<|QT hs U U<|Qo U (h0.I V) U U<|QF (S.ev.I V).arr U<|Qa<|Qa<|Qz<|(QfF (J.I V) (S.co.nm q O) (gv.I V) oa (hp.I V) od od).Y ?_;rintro kx g0 ⟨rfl,h5,g2⟩;refine Qb<|Qj<|Zx U U<|xe<|QO U (λhj=>?_) (λhj=>?_)
  ·rw[OU hj]at H;rw[OU (by rw[<-H];exact hj)]at E;refine Qj<|Qb<|Qh ⟨[_],La,by rw[E,<-H];rfl,(hJ.D V).O h5 hge⟩
  rw[OT hj]at H;have hT:Yy c.ev.length (Vo c.ev.length) sn q.it=0:=Lp.1 hj;have g3:=(jp hT).al_le;have kz:q.p.a.al.length<=32:=g3;refine Qf ?_;have ht:O5 [bm] w6 g0:=V.any.Q h5;have g4:=hz.st ht;have k0:=ht.size;refine Qs<|Qa<|QQ U<|Qo U (hs.J h5 (by simp;omega)) U U<|Qz<|(QdD g4 (S.st ht |>.co.each q O |>.al) oa).Y ?_;rintro g5 k4 ⟨hU,g6⟩;refine Qb ?_;have k5:=Qbz (· || ·) u q.p.a.al;refine Qs<|QH U U<|Qa<|xe ?_;exact⟨(k+1,g5,sn++[q.nm],mrg (· || ·) u q.p.a.al),og,oB,G,(hf.Q ht).D hU,(g2 hT).I hU,Qq.ints g6 (by show(mrg _ _ _).length<=_;omega) (by simp;omega),og,H⟩
 have G:k<c.ev.length:=by have he:(k:Int)<(c.ev.length:Int):=hy;omega
 refine Qf<|Qd<|Qm<|Qj<|Qb<|Qs<|Qa<|Qa<|Qn<|Za [[sS k]] λk6 k7 hV k8 g7=>?_;have hW:=ha.D hV;have k9:=hW.size;have g8:=Qg ho;refine Qn<|Q2 (news:=[sS k]) (L:=[]) (Ql ho hV) U U U (g7.at od) oq oa oa λg9 ma ka kb mf =>
  Qb<|Qs<|QH U U<|Qa<|xe ?_
 refine⟨(k+1,g9),og,oB,G,hW.S kb (λb hb=>.inr (g8 b hb).1),?_⟩;simp only[];rw[Qca];exact Qq.snoc (n:=(k:Int)) ka
theorem QrM {pS:String}{C:xz}{pl:xt}
  {e bys:Nat}  {x I:O3}  {v:O2}    {k:IntKind}  [h:Sl P t e sz bys z]
  (J:QS ops E=⟨d,.slice t x none (some G) (some I),ty,pS,af,gd⟩) (O:Zn L H v n sz cs) (hx:ev f x=v) (S:ev f G=.int k hi) (T:ev f I=.int k' hi) (V:hi<=n)
  (hK:∀v',Zn L H v' hi sz (cs.take (hi*sz))->XP P ops C K pl (QN f d v') w)
  (Y:Z9 ops f (QS ops E)=true:=by rfl):XP P ops C K ((E,true)::pl) f w:=by
 obtain⟨v',h3,h4⟩:=QiH (P:=P) (d:=d) (ty:=ty) (pS:=pS) (af:=af) (gd:=gd) (t:=t) O hx S T V;exact Lg.p (λw'=>by rw[J];exact h4 w') (by rw[J];exact hK v' h3) Y
structure Qln (c:ZF):Prop where
 ev:c.ev.length<=32
 c0:c.co.length≠0
 c8:c.co.length<=8
 cr:c.co.length+c.rq.length<=12
 co:∀x∈c.co,ZK x.a
 rq:∀x∈c.rq,ZK x.a
 ce:∀x∈c.co,∀e∈x.a.al,e<(c.ev.length:Int)
 re:∀x∈c.rq,∀e∈x.a.al,e<(c.ev.length:Int)
 cd:YG (szs c.co) c.ex c.cs=0
 e0:Kv c.ev=0
theorem Qdm {s:List ByteArray}{x:XD}(h:Yy n u s x=0):∀e∈x.a.al,e<(n:Int):=by
 unfold Yy at h;split at h
 ·cases h
 split at h
 ·cases h
 split at h
 ·rename_i E G;exact OW h G
 split at h
 ·cases h
 split at h
 ·cases h
 split at h
 ·cases h
 rename_i E;intro e H;refine Lp.1 λI=>E ?_;rw[Nt];exact⟨e,H,OX oa⟩
theorem Qdp {n:Nat}{al:LI}:∀{l:List XD}{s:List ByteArray}{u:LI},(YE n al s u l).1=0->∀x∈l,ZK x.a/\∀e∈x.a.al,e<(n:Int)
 | [],_,_,_,x,hx=>by cases hx
 | y::l,s,u,h,x,hx=>by
  rw[UF]at h;by_cases E:Yy n al s y≠0
  ·rw[OU E]at h;exact OW h E
  rw[OT E]at h;have G:Yy n al s y=0:=Lp.1 E;rcases Lj.1 hx with rfl|hx
  ·exact⟨jp G,Qdm G⟩
  exact Qdp h x hx
theorem Qdj {n:Nat}{u:LI}:∀{l:List XD}{s:List ByteArray},J3 n u s l=0->∀x∈l,ZK x.a/\∀e∈x.a.al,e<(n:Int)
 | [],_,_,x,hx=>by cases hx
 | y::l,s,h,x,hx=>by
  rw[UD]at h;by_cases E:Yy n u s y≠0
  ·rw[OU E]at h;exact OW h E
  rw[OT E]at h;have G:Yy n u s y=0:=Lp.1 E;rcases Lj.1 hx with rfl|hx
  ·exact⟨jp G,Qdm G⟩
  exact Qdj h x hx
theorem ZW (h:Zj c=0):Qln c:=by
 unfold Zj at h;by_cases E:Kv c.ev≠0
 ·rw[OU E]at h;exact OW h E
 rw[OT E]at h;by_cases I:c.co.length=0
 ·rw[OU I]at h;cases h
 rw[OT I]at h;by_cases J:8<c.co.length\/12<c.co.length+c.rq.length
 ·rw[OU J]at h;cases h
 rw[OT J]at h;by_cases G:(YE c.ev.length (Vo c.ev.length) [] [] c.co).1≠0
 ·rw[OU G]at h;exact OW h G
 rw[OT G]at h;by_cases H:J3 c.ev.length (YE c.ev.length (Vo c.ev.length) [] [] c.co).2.2 (YE c.ev.length (Vo c.ev.length) [] [] c.co).2.1 c.rq≠0
 ·rw[OU H]at h;exact OW h H
 rw[OT H]at h;have a4:=Qdp (Lp.1 G);have O:=Qdj (Lp.1 H);have S:c.ev.length<=32:=by
  refine Lp.1 λT=>?_;apply E;unfold Kv;rw[OU oa];decide
 exact⟨S,I,oa,oa,λx hx=>(a4 x hx).1,λx hx=>(O x hx).1,λx hx=>(a4 x hx).2,λx hx=>(O x hx).2,h,Lp.1 E⟩
theorem Y0.e {c:Int}(h:Y0 N H aa va vt c):c=Qce aa:=by
 unfold Y0 at h;unfold Qce;by_cases E:qt aa≠0
 ·rw[OU E]at h ⊢;exact h.1
 rw[OT E]at h ⊢;cases G:xo aa with
 | none=>rw[G]at h;exact h.1
 | some z=>rw[G]at h;exact h.1
theorem Y0.bad {c:Int}(h:Y0 N H aa va vt c)(I:c≠0):va=zA/\vt=ZE:=by
 unfold Y0 at h;by_cases E:qt aa≠0
 ·rw[OU E]at h;exact h.2
 rw[OT E]at h;cases G:xo aa with
 | none=>rw[G]at h;exact h.2
 | some z=>rw[G]at h;exact OW h.1 I
theorem Y0.good {c:Int}(h:Y0 N H aa va vt c)(G:c=0):JK N H va (syA aa)/\QeK N H vt (syQ aa)/\xo aa=some (syA aa,syQ aa)/\qt aa=0:=by
 unfold Y0 at h;unfold syA syQ;by_cases E:qt aa≠0
 ·rw[OU E]at h;exact OW (h.1.symm.D G) E
 rw[OT E]at h;cases I:xo aa with
 | none=>rw[I]at h;rw[h.1]at G;cases G
 | some z=>rw[I]at h;exact⟨h.2.1,h.2.2,U,Lp.1 E⟩
theorem Y0.st1 {c:Int}(h:Y0 N ↑w aa va vt c)(G:b<N)(H:O5 [b] w w'):Y0 N ↑w' aa va vt c:=by
 unfold Y0 at *;split
 ·rename_i E;rw[OU E]at h;exact h
 rename_i E;rw[OT E]at h;cases I:xo aa with
 | none=>rw[I]at h;exact h
 | some z=>rw[I]at h;exact⟨h.1,KW h.2.1 G H,Qk6 h.2.2 G H⟩
theorem Y0.Y {N M:Nat}{H:xA}{aa:List Q6}{va vt:O2}{c:Int}(h:Y0 N H aa va vt c)(hM:M<=N):Y0 M H aa va vt c:=by
 unfold Y0 at *;split
 ·rename_i E;rw[OU E]at h;exact h
 rename_i E;rw[OT E]at h;cases G:xo aa with
 | none=>rw[G]at h;exact h
 | some z=>rw[G]at h;exact⟨h.1,h.2.1.Y hM,h.2.2.Y hM⟩
theorem QlT (c:ZF):Y3 c=if Zj c≠0 then Zj c else if Qce (O7 c.co)≠0 then Qce (O7 c.co)else Qce (O7 c.co++O7 c.rq):=by
 unfold Y3;split
 ·rfl
 have e:Qce (O7 c.co)=if qt (O7 c.co)≠0 then qt (O7 c.co)else match xo (O7 c.co)with|none=>3|some _=>0:=rfl
 by_cases E:qt (O7 c.co)≠0
 ·rw[OU E]at e;rw[OU E,e,OU E]
 rw[OT E]at e;rw[OT E];cases G:xo (O7 c.co)with
 | none=>rw[G]at e;simp only[]at e;rw[e];rfl
 | some z=>rw[G]at e;simp only[]at e;rw[e];rfl
theorem Qgi (c:CL):(c.co.map (·.p)).map (·.a)=O7 c.V.co:=by unfold O7;show _=(c.co.map IV.it).map _;rw[Mn,Mn];rfl
theorem QnA (c:CL):(c.rq.map (·.p)).map (·.a)=O7 c.V.rq:=by unfold O7;show _=(c.rq.map IV.it).map _;rw[Mn,Mn];rfl
theorem Qfi {ps:List AV}(h:∀p∈ps,ZK p.a):∀p∈ps,p.a.st<=4096:=λp E=>(h p E).st1
def Qa3 (N:Nat)(H:xA)(c:ZF)(va vt:O2)(e:Int):Prop:=if Zj c≠0 then e=Zj c/\va=zA/\vt=ZE else Y0 N H (O7 c.co) va vt e
theorem Qlc {c:CL}(h:ZI L ↑w c)(hh:Kb w 4096):
  QY sV 177 [c.val] w λr w'=>sX w w'/\∃va vt e,r=.tuple #[va,vt,sS e]/\Qa3 ↑w ↑w' c.V va vt e:=by
 refine Zq func177 ?_;refine Qc<|Zl c.cells λb1 w1 Y hs hi=>QM [nS,sS 0,nS,nS] λb2 w2 ha ht J=>x Qi<|Qb ?_;have hb:=Y.D ha;have hu:=Y.size;have hc:=hi.I ha;refine Qd<|Qc<|QT hc U U<|Qz<|(Xl (h.I hb)).Y ?_;rintro r3 w3 ⟨rfl,E⟩;refine Qb ?_;have O:=hb.D E;have hv:=J.lt;refine Qj<|Zx U U<|xe<|QO rfl (λH=>?_) (λH=>?_)
 ·refine Qc<|x (Qx Z)<|Qa<|QK [nS,sS 0,nS,nS] (J.I E) oD λw4 hj hk=>x Qi<|Qb<|Qh ⟨[zA,ZE,sS (Zj c.V)],⟨Yl hk,U,U,Z⟩,O.O hj oa,zA,ZE,_,U,by unfold Qa3;rw[OU H];exact⟨U,U,U⟩⟩
 refine Qf<|Qc<|Qo U (hc.I E) U U<|Qz<|(Qel (h.I O).co).Y ?_;rintro r5 w5 ⟨S,hl⟩;have I:=O.D S;have hm:∀p∈c.co.map (·.p),ZK p.a:=λp T=>by
  obtain⟨q,V,rfl⟩:=LD.1 T;exact(ZW (Lp.1 H)).co q.it (LP V)
 have hw:=h.co.arr.le;have hn:KU [] ↑w5 r5 (c.co.map (·.p)):=QjK hl (by rw[Lh];omega) od (λp T=>by
  obtain⟨q,V,rfl⟩:=LD.1 T;exact(((h.co.each q V).up (L':=[]) od).I I))
 refine Qz<|(QdE (km:=4096) hn (hh.I I) ol (Qfi hm)).Y ?_;rintro r6 w6 ⟨hf,va,vt,e,rfl,hR⟩;rw[Qgi]at hR;have ho:∃us,va=sT us/\us.length=4/\Zb us:=by
  by_cases he:e=0
  ·exact J5 (hR.good he).1
  exact⟨[nS,sS 0,nS,nS],(hR.bad he).1,U,U,U,U,U,Z⟩
 refine Exists.elim ho λus G=>?_;refine QW rfl U<|QW U U<|QW U U<|Qn<|Zv (us:=us) ((J.I E).I (S.D hf)) U G.1 G.2.1 U G.2.2 λw7 hg hr =>
  x Qi<|Qb<|Qh ⟨[sT us,vt,sS e],⟨⟨_,U,Yb G.2.1 (hr.at (L:=[]) od).cells⟩,rfl,rfl,Z⟩,(I.D hf).O hg oa,va,vt,e,by rw[G.1];rfl,?_⟩
 unfold Qa3;rw[OT H];exact(hR.st1 (oy S.size E.size) hg).Y I.size
theorem QbW {v:O2}{m:Int}(h:QL L ↑w v l)(O:Kb w m)(hb:∀n∈l,0<=n/\n<m)(hl:l.length<=1000000):
  QY sV 107 [v] w λr w'=>r=.string ⟨(J6 l).toArray⟩/\sX w w':=by
 refine Zq func107 ?_;refine Qc<|Qb<|Qc<|QM [.pointer none,nS] λH w1 ha S hc=>xe ?_;refine Qd<|Qj<|QF h U<|Qa<|xe<|Q7 (α:=Nat×O2) [(5,5),(8,16)] (λz=>[(8,sS z.1)]) (λz w'=>z.1<=l.length/\sX w w'/\(z.2=.pointer none\/z.2=me H)/\Bl z.2 H (J6 (l.take z.1)) w'/\(J6 (l.take z.1)).length<=8*z.1) (λz=>l.length - z.1) (0,.pointer none) La
  ⟨Lo _,ha,.inl U,⟨_,hc,QE _ _ _ _⟩,Lx _⟩ ?_
 rintro⟨k,p⟩ g w2 ⟨hk,E,I,G,he⟩;simp only[]at hk I G he;refine Zo rfl U (λh9=>?_) (λh9=>?_)
 ·refine Qw<|Qc ?_;rw[Lu oa]at G;refine jF<|(j6 E S I G).Y ?_;rintro r3 w3 ⟨rfl,hf⟩;refine Qb<|Qh ⟨[.string ⟨(J6 l).toArray⟩],La,U,hf⟩
 have J:k<l.length:=oa
 have hm:=hb l[k] (Lm J);obtain⟨q,hq⟩:∃q:Nat,l[k]=q:=⟨l[k].toNat,oa⟩;have hg:l[k].toNat=q:=oa
 have hn:=qV 7 q (ov O.le);have T:J6 (l.take (k+1))=J6 (l.take k)++(Lib.decDigits q++[32]):=by
  rw[Ln J];unfold J6;rw[LA,List.flatMap_singleton,hg]
 refine Qf<|Qd<|Qm<|Qc<|xii (h.I E) U U J λho hh=>x (Qy hh U)<|Qb<|Qs<|Qa<|Qn<|xf ?_;refine(show QY _ _ [sS l[k]] _ _ by rw[hq];exact(QfD q oa w2 (O.I E))).Y ?_;rintro r4 w4 ⟨rfl,V⟩;have hi:(⟨(Lib.decDigits q).toArray⟩:ByteArray).size+(⟨#[32]⟩:ByteArray).size<=1000000000:=by show(Lib.decDigits q).toArray.size+1<=_;simp;omega
 refine x (YT U U hi)<|jF<|(Vs (E.D V) S I (G.I V) ((⟨(Lib.decDigits q).toArray⟩:ByteArray)++(⟨#[32]⟩:ByteArray)) (by rw[ByteArray.size_append];show _+((Lib.decDigits q).toArray.size+1)<=_;simp;omega)).Y ?_;rintro r5 w5 ⟨hj,Y⟩;refine xe<|Qs<|QH U U<|Qa<|xe<|⟨(k+1,me H),og,La,og,hj,.inr U,?_,?_⟩
 ·simp only[];rw[T];have e:((⟨(Lib.decDigits q).toArray⟩++⟨#[32]⟩:ByteArray)).data.toList=Lib.decDigits q++[32]:=by rw[ByteArray.data_append];simp
  rw[e]at Y;exact Y
 simp only[];rw[T];simp;omega
structure Sty where
 c:CL
 p:AV
 vq:O2
 qs:List TV
 s:AV
 vt:O2
 ts:List TV
 vs:O2
 vx:O2
 vk:O2
 qx:List XV
 ks:List KV
 bm:Nat
 mm:List (ByteArray×O2)
abbrev Sty.cells (q:Sty):LV:=[q.c.ve,q.c.vc,q.c.vr,q.c.vx,q.c.vk,q.p.va,sS q.p.a.st,q.p.vm,q.p.ve,q.vq,q.s.va,sS q.s.a.st,q.s.vm,q.s.ve,q.vt,q.vs,q.vx,q.vk,.map (some q.bm)]
structure Kc (L:LN)(b:Nat)(H:xA)(q:Sty):Prop where
 B:QZ H b 246 q.cells
 bL:b∉L
 c:ZI L H q.c
 p:ZM L H q.p.va q.p.vm q.p.ve q.p.a
 s:ZM L H q.s.va q.s.vm q.s.ve q.s.a
 qs:Ka L H q.vq q.qs
 ts:Ka L H q.vt q.ts
 k1:QL L H q.vs (szs q.c.V.co)
 k2:jD L H q.vx q.qx
 k3:jz L H q.vk q.ks
 mL:q.bm∉L
 m:Yu J0 H q.bm q.mm
theorem Kc.I {L:LN}{b:Nat}{w w':O1}{q:Sty}(h:Kc L b ↑w q)(E:sX w w'):Kc L b ↑w' q:=⟨h.B.I E,h.bL,h.c.I E,h.p.I E,h.s.I E,h.qs.I E,h.ts.I E,h.k1.I E,h.k2.I E,h.k3.I E,h.mL,h.m.I E⟩
theorem Kc.st {L:LN}{b:Nat}{w w':O1}{q:Sty}(h:Kc L b ↑w q)(E:O5 L w w'):Kc L b ↑w' q:=⟨h.B.J E h.bL,h.bL,h.c.st E,h.p.st E,h.s.st E,h.qs.st E,h.ts.st E,h.k1.st E,h.k2.st E,h.k3.st E,h.mL,h.m.J E h.mL⟩
theorem Kc.up {L L':LN}{b:Nat}{H:xA}{q:Sty}(h:Kc L b H q)(E:∀b∈L',b∈L\/H.size<=b):Kc L' b H q :=
 ⟨h.B,λI=>by rcases E _ I with G|G;exact h.bL G;have:=h.B.lt;omega,h.c.up E,h.p.up E,h.s.up E,h.qs.up E,h.ts.up E,h.k1.up E,h.k2.up E,h.k3.up E,λI=>by rcases E _ I with G|G;exact h.mL G;have:=h.m.lt;omega,h.m⟩
structure Qr6 (q:Sty):Prop where
 ok:Zj q.c.V=0
 p:xo (O7 q.c.V.co)=some (q.p.a,q.qs.map (·.2))
 s:xo (O7 q.c.V.co++O7 q.c.V.rq)=some (q.s.a,q.ts.map (·.2))
 ex:q.qx.map (·.x)=q.c.V.ex
 cs:q.ks.map (·.k)=q.c.V.cs
 m:zd q.c.co.length q.mm (q.qs.map (·.2))
theorem Y8 {l:List XD}(h:∀x∈l,ZK x.a):∀a∈O7 l,ZK a:=λa E=>by
 obtain⟨x,hx,rfl⟩:=LD.1 E;exact h x hx
def stp (a:Q6)(s v:Int):Int×Bool×Int:=if cks a s≠0 then(0,false,cks a s)else if v∉a.al then(0,false,9)else if 0<=xh a.ed s v then(xh a.ed s v,true,0)else(0,false,0)
theorem QkZ (h:ZM L ↑w va vm ve a)(s v:Int):
  QY sV 257 [.agg #[va,sS a.st,vm,ve],sS s,sS v] w λr w'=>r=.tuple #[sS (stp a s v).1,.bool (stp a s v).2.1,sS (stp a s v).2.2]/\sX w w':=by
 have E:stp a s v=(if cks a s≠0 then(0,false,cks a s)else if v∉a.al then(0,false,9)else if 0<=xh a.ed s v then(xh a.ed s v,true,0)else(0,false,0)):=rfl
 refine Zf (stp a s v) λR hR=>?_;rw[hR]at E ⊢;refine Zq func257 ?_;refine Qc<|Zl [va,sS a.st,vm,ve] λb3 w1 Y he J=>x Qi<|x Qi<|Qb<|Qd<|Qc<|QT J U U<|Qa<|Qz<|(Kw (h.I Y) s).Y ?_;rintro r2 w2 ⟨rfl,O⟩;refine Qb ?_;have H:=Y.D O;refine Qj<|Zx U U<|xe<|QO rfl (λI=>?_) (λI=>?_)
 ·rw[OU I]at E;subst E;refine Qj<|x Qi<|x Qi<|Qb<|Qh ⟨[_,_,_],oC,U,H⟩
 rw[OT I]at E;refine Qf<|Qd<|Qc<|Qo U (J.I O) U U<|Qa<|Qz<|(Yr (h.al.I H) v).Y ?_;rintro r3 w3 ⟨rfl,rfl⟩;refine x (yF U)<|xe<|QO rfl (λS=>?_) (λS=>?_)
 ·rw[OU S]at E;subst E;refine Qc<|x Qi<|x Qi<|Qb<|Qh ⟨[_,_,_],oC,U,H⟩
 rw[OT S]at E;refine Qf ?_;have G:cks a s=0:=Lp.1 I;have ha:JB a=0:=by
  unfold cks at G;refine Lp.1 λT=>?_;rw[OU T]at G;exact T G
 have hsr:0<=s/\s<a.st:=by
  unfold cks at G;rw[OT (by rw[ha];decide)]at G;refine Lp.1 λT=>?_;rw[OU oa]at G;cases G
 refine Qd<|Qc<|QT (J.I O) U U<|Qa<|Qa<|Qz<|(Qdz (h.ed.I H) ((Z4 a).1 ha) s v hsr.1 hsr.2).Y ?_;rintro r4 w4 ⟨rfl,hb⟩;refine Qb<|Qj<|x (YC U U)<|xe<|QO rfl (λV=>?_) (λV=>?_)
 ·rw[OU V]at E;subst E;refine Qj<|x Qi<|x Qi<|Qb<|Qh ⟨[_,_,_],oC,U,H.D hb⟩
 rw[OT V]at E;subst E;refine Qf<|Qc<|x Qi<|x Qi<|Qb<|Qh ⟨[_,_,_],oC,U,H.D hb⟩
theorem Qi4 (es:List Ed)(s v:Int):xh es s v=(xj es s v).getD (-1):=by
 induction es with
 | nil=>rfl
 | cons e es ih =>
  rw[xh,xj];by_cases h:e.1=s/\e.2.1=v
  ·rw[OU h,OU h];rfl
  rw[OT h,OT h];exact ih
theorem Qop (h:ZK a){s v:Int}(I:0<=s)(J:s<a.st)(E:v∈a.al):(stp a s v).2.1=(xj a.ed s v).isSome:=by
 have G:cks a s=0:=by unfold cks;rw[OT (by rw[(Z4 a).2 h];decide),OT oa]
 unfold stp;rw[OT (by rw[G];decide),OT (oA E),Qi4];cases H:xj a.ed s v with
 | none=>rfl
 | some t =>
  have:=(h.ed _ (Qc4 H)).2.2.2.1;rw[Option.getD_some,OU (oA this)];rfl
theorem Qcj {q:Sty}{t:LI}(E:Kc L b ↑w q)(G:QL L' ↑w vt t)(H:q.c.co.length<=t.length):
  QY sV 106 [sP b,vt] w λr w'=>sX w w'/\∃v1 v2,r=.tuple #[v1,v2]/\QL L' ↑w' v1 (t.take q.c.co.length)/\QL L' ↑w' v2 (t.drop q.c.co.length):=by
 refine Zq func106 ?_;refine Qc<|x Qi<|Qb<|Qj<|Yd U<|QQ U<|Qo U E.B U U<|QF E.c.co.arr U<|Qb<|Qd<|Zz [] (YW 0 9 [])<|p Qv<|p Qv<|p Qv<|QrM (hi:=q.c.co.length) U G U U U H λv1 I=>p Qv<|p Qv<|QoF (lo:=q.c.co.length) U G U U H λv2 J =>
  p ZG<|p ZG<|pe ?_
 refine Qh ⟨[_,_],oB,O5.C _ _,v1,v2,U,?_,?_⟩
 ·rw[Nat.mul_one,<-NX]at I;have e:(t.take q.c.co.length).length=q.c.co.length:=by rw[LB];omega
  unfold QL;rw[e];exact I
 exact QL.drop J
theorem QiG {v:Int}{y:XD}{l:List XD}{s:Int}{ss:LI}:rfr v i (y::l) (s::ss)=if v∈y.a.al/\(xj y.a.ed s v).isSome=false then(i:Int)else rfr v (i+1) l ss:=rfl
theorem Qd4 {q:Sty}{vr:O2}{v:Int}(O:Kc L b ↑w q)(hr:QL L' ↑w vr rs)(ho:∀x∈q.c.rq,ZK x.p.a)(hv:Vt (O7 q.c.V.rq) rs):
  QY sV 187 [sP b,vr,sS v] w λr w'=>r=sS (rfr v 0 q.c.V.rq rs)/\sX w w':=by
 have h3:=O.c.rq.arr.le;have h4:rs.length=q.c.rq.length:=by rw[hv.1];unfold O7;show((q.c.rq.map IV.it).map _).length=_;simp
 refine Zf (rfr v 0 q.c.V.rq rs) λR hR=>?_;rw[hR];refine Zq func187 ?_;refine Qc<|Qb<|Qd<|Qj<|Yd U<|QQ U<|Qo U O.B U U<|QF O.c.rq.arr U<|Qa<|xe<|Q7 (α:=Nat) [(6,11),(18,44)] (λz=>[(18,sS z)]) (λz w'=>z<=q.c.rq.length/\sX w w'/\rfr v z ((q.c.rq.drop z).map (·.it)) (rs.drop z)=R) (λz=>q.c.rq.length - z) 0 La
  ⟨Lo _,O5.Z _ _,hR⟩ ?_
 rintro k g w1 ⟨hk,I,E⟩;refine Zo rfl U (λY=>?_) (λY=>?_)
 ·refine Qw ?_;have hp:q.c.rq.length<=k:=by have hq:¬(k:Int)<(q.c.rq.length:Int):=Y;omega
  rw[Lt hp]at E;have hs:R=-1:=E.symm;refine Qc<|Qb<|Qh ⟨[_],La,by rw[hs];rfl,I⟩
 have G:k<q.c.rq.length:=by have hq:(k:Int)<(q.c.rq.length:Int):=Y;omega
 have H:k<rs.length:=oa
 have ha:=Lm G;rw[Kk G,Zc H,QiG]at E;have J:∀hz:k<(O7 q.c.V.rq).length,0<=rs[k]'H/\rs[k]'H<((O7 q.c.V.rq)[k]'hz).st:=λhz=>hv.2 k H hz;have hg:k<(O7 q.c.V.rq).length:=by unfold O7;show k<((q.c.rq.map IV.it).map _).length;simpa using G
 have J:=J hg;have ht:(O7 q.c.V.rq)[k]'hg=(q.c.rq[k]'G).p.a:=by unfold O7;show((q.c.rq.map IV.it).map _)[k]'_=_;simp[IV.it]
 rw[ht,ZL H]at J;rw[ZL H]at E;refine Qf<|Qd<|Qm<|Qj<|xig Yv (O.c.rq.arr.I I) U U G λh5 hh=>?_;refine Zf (q.c.rq[k]'G) λy hy=>?_;rw[hy]at hh ha E J;have S:=(O.c.rq.each y ha).I I;have hi:=ho y ha;refine x (Qr hh U U)<|QM [.string .empty,nS,sS 0,nS,nS] λb8 w2 hu hw V=>x Qi <|
  QK (QJ y) V ⟨U,S.al.one,U,S.mr.one,S.ed.one,Z⟩ λw3 h0 V=>xe ?_
 have T:sX w1 w3:=hu.O h0 hw;refine Qd<|Qc<|QQ U<|Qo U V U U<|Qa<|Qz<|(Kz (S.al.I T) hi.ali v).Y ?_;rintro r4 w4 ⟨rfl,rfl⟩;refine x (yF U)<|xe<|QO rfl (λhb=>?_) (λhb=>?_)
 ·rw[OT (λe=>hb e.1)]at E;refine Qw<|Qs<|QH U U<|Qa<|xe ?_;exact⟨k+1,oa,La,G,I.D T,E⟩
 have hj:v∈y.p.a.al:=Lp.1 hb;have hl:=Qop hi J.1 J.2 hj;refine Qf<|Qd<|Zz [] (YW 0 15 [7])<|p (QG U)<|pq (λ_ hc=>Zh (us:=ZX y.p) (V.J hc od) rfl rfl rfl)<|p Qv<|p Qv<|pic (i:=k) rfl ((hr.I I).I T) rfl rfl H λh6 h1 =>
  pq (λ_ hc=>Qy (h1.I hc) U)<|p Qv<|pk<|xg<|(QkZ ((S.I T).I (O5.C _ _)) (O6 rs k) v).Y ?_
 rintro r5 w5 ⟨rfl,h2⟩;have hm:=(O5.C [] w4).D h2;refine⟨hm,?_⟩;refine p Qv<|p (λ_=>Zi U U)<|p (λ_=>Zi U U)<|p (λ_=>Zi U U)<|p ZG <|
  p ZG<|p ZG<|pe ?_
 have hn:=(I.D T).D hm;refine Qj<|x (Zy U)<|xe<|QU rfl (λhe=>?_) (λhe=>?_)
 ·have hf:(xj y.p.a.ed (O6 rs k) v).isSome=false:=by rw[<-hl];simpa using he
  rw[OU ⟨hj,hf⟩]at E;refine Qj<|Qb<|Qh ⟨[_],La,by rw[<-E];rfl,hn⟩
 have hf:¬(xj y.p.a.ed (O6 rs k) v).isSome=false:=by rw[<-hl];simpa using he
 rw[OT (λe=>hf e.2)]at E;refine Qf<|Qs<|QH U U<|Qa<|xe ?_;exact⟨k+1,oa,La,G,hn,E⟩
open Go.RowKit
def X5 (L:LN)(W W':O1):Prop:=∀(k:Nat) (o:Obj),k∉L->W.heap[k]?=some o->o.isCells=true->W'.heap[k]?=some o
theorem X5.refl (L:LN)(W:O1):X5 L W W:=λ_ _ _ h _=>h
theorem X5.D {A B C:O1}(h:X5 L A B)(k:X5 L B C):X5 L A C:=λi o E H G=>k i o E (h i o E H G) G
theorem X5.J {W:O1}(h:O5 L W W'):X5 L W W':=λk _ G E _=>(h.block k (LK.1 E).1 G).D E
theorem At.cst {W:O1}{a:Addr}(h:At L ↑W a us)(I:X5 L W W')(J:W.heap.size<=↑W'):At L ↑W' a us:=by
 refine⟨h.out,λu G=>LQ (h.lt u G) J,λj u G=>?_⟩;have E:=h.cell j u G;unfold cel at E ⊢;rw[YB]at E ⊢;cases H:W.heap[a.block]? with
 | none=>rw[H]at E;cases E
 | some o =>
  rw[H]at E;cases o with
  | cells c t m=>rw[I a.block _ (h.out u (Mt G)) H rfl];exact E
  | _=>cases E
theorem Zn.cst {L:LN}{W W':O1}{v:O2}{n sz:Nat}{cs:LV}(h:Zn L ↑W v n sz cs)(E:X5 L W W')(G:W.heap.size<=↑W'):Zn L ↑W' v n sz cs :=
 ⟨h.1,h.2.1,h.2.2.imp id λ⟨a,cap,H,I,J⟩=>⟨a,cap,H,I,J.cst E G⟩⟩
structure LwC (B:Nat)(L:LN)(W W':O1):Prop where
 lw:Lw B L W W'
 cst:X5 L W W'
theorem LwC.D {B:Nat}{L:LN}{E w w':O1}(h:LwC B L E w)(k:LwC B L w w'):LwC B L E w':=⟨h.lw.D k.lw,h.cst.D k.cst⟩
def rdC {α:Type}(B:Nat)(L:LN)(I:List α->O1->Prop)(X:Exit->List α->O1->Prop)(xs:List α)(W:O1):Exit->LN->Fr->O1->Prop
 | .normal,_,_,W'=>Vg B L W W'/\X5 L W W'/\I xs W'
 | .ret,_,_,W'=>Vg B L W W'/\X .ret xs W'
 | .exit i,_,_,W'=>Vg B L W W'/\X (.exit i) xs W'
 | _,_,_,_=>False
theorem QdF {m:Nat}{Q:Exit->LN->Fr->O1->Prop}{g:O3}{ps:LN}{assign body:Code}(L:LN)(h1:1<=m)
    [hF:Fu P gf fn]  (hg:ev f g=.func (.func gf) #[] capt.toArray) {encs:α->LV} {S Sp:List α->Prop}  (hp:∀p∈ps,p<n) (hm:∀x,(encs x).length=ps.length)
  (hn:SeqStopsK (fen none) (m - 1) P gf capt.toArray (λx=>(encs x).toArray) (LwC ↑w L) S Sp N w)
  (I:List α->O1->Prop) (hI:∀s,YI ↑w (I s)) (X:Exit->List α->O1->Prop) (hX:∀e s,YI ↑w (X e s)) (h0:I [] w) (A:Fr->α->Fr->O1->Prop) (hA:∀x E,YI ↑w (A f x E))
  (he:∀l pre x W,I pre W->WG (some l) (m - 1 - 1) P n assign (QdR (λhb E W'=>hb=[]/\Vg ↑w L W W'/\X5 L W W'/\I pre W'/\A f x E W') (λ_ _ _ _=>False)) [] (QdP f ps (encs x)) W)
  (hf:∀l pre x E W,I pre W->A f x E W->pre.length<N->WG (some l) (m - 1 - 1) P n body (rdC ↑w L I X (pre++[x]) W) [] E W)
  (hq:∀D xs W,↑w<=D->S xs->I xs W->W.heap[D]?=some (.deferred (some []))->Q .normal (D::ds) f W)
  (hh:∀D e pre W,↑w<=D->Sp pre->X e pre W->W.heap[D]?=some (.deferred (some []))->(e=.ret\/∃i,e=.exit i)->Q e (D::ds) f W):
  WG none m P n (.rangeFunc g ps.toArray assign body) Q ds f w:=by
 unfold WG at he hf ⊢;intro a J;have eg:∀args w,(callFunc gf args).run P w=.ok (.enter gf args) w:=by
  intro args w;have h1:¬fn.name = "runtime.NumGoroutine" := by simpa using hF.nm
  have O:¬fn.body=none:=by have:=hF.b;intro e;rw[e]at this;cases this
  simp[callFunc,hF.f,h1,O]
 have keep:∀{W W':O1},Vg ↑w L W W'->KeepsFrom ↑w W W':=λh=>⟨h.lw.size,λk o _ T ho=>h.other k o T ho⟩;refine wpIn_rangeFunc_ownH (F:=fen none) U h1 (gf:=gf) (lb:=capt.toArray) (by rw[J.eval];exact hg) Z eg hn (λh k=>h.D k)
  (λW l o o' hl ho hs _=>⟨⟨U,U,U,od,λk T _=>World.putObj_heap_other oa⟩,λk o2 _ T hc=>by
   have ht:k≠l:=λe=>by subst e;rw[ho]at T;cases T;rw[hs]at hc;cases hc
   rw[World.putObj_heap_other ht];exact T⟩) (Below.refl _ _) (λx=>by simp[hm x]) I
  (λc pre W=>match c with| .ret=>X .ret pre W| .exit i=>X (.exit i) pre W|_=>False) (YI.own hI) (λc=>YI.own λs=>?_) h0
  (λx V W=>∃E,Xm n [] V E/\A f x E W) (λx V=>YI.own λ_=>YI.ex λE=>YI.and (YI.pure _) (hA x E)) ?_ ?_ ?_ ?_
 ·cases c <;> first|exact hX _ s|exact YI.pure _
 ·intro l pre x W K hi hK;have hr:Xm n [] { tmps:=(ps.toArray.zip (encs x).toArray).foldl (λt (p,v)=>t.setIfInBounds p v) a.tmps,defers:=[] } (QdP f ps (encs x)):=by
   have O:Xm n [] { a with defers:=[] } f:=⟨J.size,U,J.get⟩
   have H:=qB ps (encs x) _ _ O hp;have e:(ps.toArray.zip (encs x).toArray).foldl (λt (p,v)=>t.setIfInBounds p v) a.tmps=(ps.zip (encs x)).foldl (λt (x:Nat×O2)=>t.setIfInBounds x.1 x.2) a.tmps:=od
   rw[e];exact H
  refine wpIn_mono (he l pre x W hi _ hr) ?_;rintro e V W' ⟨hb,E,O,_,H⟩;cases e with
  | normal=>obtain⟨rfl,h4,hu,G,h6⟩:=H;exact hK V W' (keep h4) ⟨h4.lw,hu⟩ G ⟨E,O,h6⟩
  | exit id=>exact H.elim
  | goto l=>exact H.elim
  | ret=>exact H.elim
  | panic ch=>exact H.elim
  | outgrown=>exact H.elim
 ·rintro l pre x V W _ _ hi ⟨E,O,H⟩ hv;refine wpIn_mono (hf l pre x E W hi H hv V O) ?_;rintro e hw W' ⟨hb,hy,h4,_,G⟩;cases e with
  | normal=>exact⟨keep G.1,⟨G.1.lw,G.2.1⟩,G.2.2⟩
  | exit id=>exact⟨keep G.1,G.2⟩
  | goto l=>exact G.elim
  | ret=>exact⟨keep G.1,G.2⟩
  | panic ch=>exact G.elim
  | outgrown=>exact G.elim
 ·intro D xs W hD Y hi hd;exact⟨D::ds,f,⟨J.size,by rw[show coll (D::ds)={ target:=.collected D,args:=#[] }::coll ds from rfl,J.defers],J.get⟩,λ_ _=>rfl,hq D xs W hD Y hi hd⟩
 intro D c pre W hD Y hx hd;have hj:Xm n (D::ds) { a with defers:={ target:=.collected D,args:=#[] }::a.defers } f:=⟨J.size,by rw[show coll (D::ds)={ target:=.collected D,args:=#[] }::coll ds from rfl,J.defers],J.get⟩
 cases c with
 | ret=>exact wpIn_ret ⟨_,f,hj,λ_ _=>U,hh D .ret pre W hD Y hx hd (.inl U)⟩
 | exit i=>exact wpIn_exit ⟨_,f,hj,λ_ _=>U,hh D (.exit i) pre W hD Y hx hd (.inr ⟨i,U⟩)⟩
 | _=>exact hx.elim
theorem xy2 {m:Nat}{rest:xD}{pS:String}{x z:O3}{l:Nat}{R:Ending->O1->Prop}
  (hx:ev f x=.func (.yield l) #[] #[]) (E:YieldAt (fen none) (m - 1) P l #[ev f y,ev f z] w R) (hK:∀e w',R e w'->∃v,e=.returned v/\J9 P m ops K rest (QN f d v) w')
  (G:Z9 ops f ⟨d,.call ⟨.value x,#[y,z],at_⟩,ty,pS,af,gd⟩=true:=by rfl):
  J9 P m ops K (⟨d,.call ⟨.value x,#[y,z],at_⟩,ty,pS,af,gd⟩::rest) f w:=by
 obtain⟨fn,tmps,assign,body,H,I⟩:=E;have J:(execOp (ev f) ⟨d,.call ⟨.value x,#[y,z],at_⟩,ty,pS,af,gd⟩).run P w=.ok (.round l fn tmps assign body) w:=by
  simp[execOp,resolve,hx,Deferred.ofValue,invoke,H]
 unfold J9;rw[G];simp only[XOY,J,upY,cond_true];exact I.mono λe w' h=>by obtain⟨v,rfl,O⟩:=hK e w' h;exact O
def wrf (rq:List XD)(rs:LI):LI->List (Int×Int)
 | []=>[]
 | v::l=>if 0<=rfr v 0 rq rs then(v,rfr v 0 rq rs)::wrf rq rs l else wrf rq rs l
theorem Qb7 (rq:List XD)(rs:LI)(v:Int):∀l,wrf rq rs (l++[v])=wrf rq rs l++if 0<=rfr v 0 rq rs then[(v,rfr v 0 rq rs)]else[]
 | []=>by simp only[Om,wrf]
 | a::l=>by
  simp only[Oh,wrf,Qb7 rq rs v l];by_cases h:0<=rfr a 0 rq rs
  ·rw[OU h,OU h];rfl
  rw[OT h,OT h]
theorem Uo (rq:List XD)(rs:LI)(b:LI):∀a,wrf rq rs (a++b)=wrf rq rs a++wrf rq rs b
 | []=>rfl
 | x::a=>by
  simp only[Oh,wrf,Uo rq rs b a];by_cases h:0<=rfr x 0 rq rs
  ·rw[OU h,OU h];rfl
  rw[OT h,OT h]
theorem QlG (rq:List XD)(rs:LI)(l:LI)(k:Nat):(wrf rq rs (l.take k)).length<=(wrf rq rs l).length:=by
 have h:=Uo rq rs (l.drop k) (l.take k);rw[MG]at h;rw[h,Ll];omega
theorem Qh5 {rq:List XD}{k:Nat}(h:k<l.length):wrf rq rs (l.take (k+1))=wrf rq rs (l.take k)++if 0<=rfr (O6 l k) 0 rq rs then[(O6 l k,rfr (O6 l k) 0 rq rs)]else[]:=by
 rw[Ln h,Qb7,ZL h]
theorem zR {rq:List XD}{rs:LI}{x:Int×Int}:∀{l:LI},x∈wrf rq rs l↔x.1∈l/\0<=x.2/\x.2=rfr x.1 0 rq rs
 | []=>by simp[wrf]
 | v::l=>by
  rw[wrf];have ih:=zR (rq:=rq) (rs:=rs) (x:=x) (l:=l);by_cases h:0<=rfr v 0 rq rs
  ·rw[OU h,Lj,ih,Lj];constructor
   ·rintro(rfl|⟨E,G⟩)
    ·exact⟨.inl U,h,U⟩
    exact⟨.inr E,G⟩
   rintro⟨E|E,G,H⟩
   ·exact .inl (by rw[<-E];exact Prod.ext_iff.2 ⟨U,H⟩)
   exact .inr ⟨E,G,H⟩
  rw[OT h,ih,Lj];constructor
  ·rintro⟨E,G⟩;exact⟨.inr E,G⟩
  rintro⟨E|E,G,H⟩
  ·exact OW (by rw[<-E,<-H];exact G) h
  exact⟨E,G,H⟩
theorem zh {st:Int}{vr:O2}(J:vr.cells=#[vr]):
  QY sV 109 [sP b,sS st,vr] w λr w'=>sX w w'/\∃b1 b2 E,r=.func (.func 185) #[] #[sP b1,sP b2,sP E] /\
   ↑w<=b1/\↑w<=b2/\↑w<=E/\QZ ↑w' b1 241 [sP b]/\QZ ↑w' b2 3 [sS st]/\QZ ↑w' E 63 [vr]:=by
 refine Zq func109 ?_;refine Qc<|Zl [sP b] λE w1 I O S=>Zl [sS st] λT w2 G hb V=>Qn<|yN (us:=[vr]) J λY w3 H hc ha=>x Qi <|
  xe ?_
 have he:=I.size;have hf:=G.size;refine Qc<|x ZD<|Qb<|Qh ⟨[_],La,(I.D G).D H,E,T,Y,U,O,oa,oa,(S.I G).I H,V.I H,ha⟩
theorem UU {O m:Nat}{q:Sty}{vr:O2}{es:LI}{st:Int}{fl:xw}(hs:QZ ↑w b1 241 [sP b])(h5:QZ ↑w b2 3 [sS st])(h6:QZ ↑w O 63 [vr])
  (h7:b1∉L) (h8:O∉L) (hA:∀x∈L,x<↑w) (hS:Kc L b ↑w q) (hr:QL L ↑w vr rs) (hB:∀x∈q.c.rq,ZK x.p.a) (hv:Vt (O7 q.c.V.rq) rs) (G:cks q.p.a st=0) (ht:enb q.p.a st=es) (hg:wrf q.c.V.rq rs es=fl):
  SeqStopsK (fen none) m sV 185 #[sP b1,sP b2,sP O] (λx:{ x:Int×Int // x∈fl }=>[sS x.1.1,sS x.1.2].toArray) (LwC ↑w L)
   (λys=>ys.map (·.1)=fl) (λpre=>pre.map (·.1) <+: fl) fl.length w:=by
 intro l J Jx W hC hJ hD hY h0;have Y:sX w W:=O5.of_below hC;have ab:∀{ys:List { x:Int×Int // x∈fl }} {W1 W2:O1},J ys W1->sX W1 W2->J ys W2:=λ{ys W1 W2} hj ha=>hJ ys W1 W2 none hj ⟨ha.os,ha.tape,ha.output,ha.size,λk hk _=>ha.block k hk od⟩ (λr e=>by cases e);have hE:es.length<=1099511627776:=by
  have E:=hS.p.ed.le;have h2:=Vz q.p.a.ed st;rw[<-ht];unfold enb;rw[Lh];omega
 have hF:=QlG q.c.V.rq rs es;rw[hg]at hF;have key:QY sV 185 [.func (.yield l) #[] #[],sP b1,sP b2,sP O] W (λ_ W'=>(∃ys,ys.map (·.1)=fl/\J ys W')\/(∃pre,pre.map (·.1) <+: fl/\Jx pre W')):=by
  refine QY.of_G m func185 U ntmps185 results185 od ?_;have hu:=hS.I Y;refine Zk<|jB (sX W) [oE 0,oE 1,oE 2,oE 3,oE 4,oF 5,oE 6,oE 7,oE 8,oE 9,oE 10] mixed om om oe (O5.C _ _) ?_;refine pq (λ_ G=>Qk ((hs.I Y).I G) U U)<|p (Yt U)<|p (QG U)<|pq (λ_ G=>Zh (us:=ZX q.p) (hu.B.I G) U U U)<|pq (λ_ G=>Qk ((h5.I Y).I G) U U)<|pk<|xg<|(QeT (hu.p.I (O5.C _ _)) st).Y ?_;rintro r1 w1 ⟨hG,ve,rfl,_,hh⟩;have hh:=hh G;have hm:=(O5.C [] W).D hG;refine⟨hm,?_⟩;refine p Qv<|p (λ_=>Zi U U)<|p (λ_=>Zi U U)<|p ZG<|p ZG<|pe ?_;have hL:=Y.size;have hM:({ W with drawn:=W.drawn+1 }:O1).heap.size=W.heap.size:=rfl
  rw[ht]at hh;have hw:QL L ↑w1 ve es:=Qq.ints hh hE (λx hx=>ov (hA x hx));refine Zk<|QI om om<|Qa<|QF hw U<|Qa<|xe<|Yf<|ze (α:=Nat×List { x:Int×Int // x∈fl }) [(8,9),(21,38)] (λz=>[(21,sS z.1)]) (λz ds W'=>ds=[]/\z.1<=es.length/\O5 L w W'/\QL L ↑W' ve es/\z.2.map (·.1)=wrf q.c.V.rq rs (es.take z.1)/\J z.2 W') (λz=>es.length - z.1) om (0,[]) La
   ⟨U,Lo _,(Y.D hm).any,hw,U,ab h0 hm⟩ ?_
  rintro⟨k,ys⟩ g ds w2 ⟨rfl,hk,S,hn,hb,ho⟩;refine Zk<|QI om om<|Z5 U U<|xe<|Zk<|Qa5 U (λhp=>?_) (λhp=>?_)
  ·refine VS ?_;have hH:es.length<=k:=by have hi:¬(k:Int)<(es.length:Int):=hp;omega
   rw[Lu hH,hg]at hb;exact⟨λ_ h=>(by cases h),MN,[],λW' H=>⟨Z,.inl ⟨ys,hb,ab ho H⟩⟩⟩
  refine YV ?_;have T:k<es.length:=by have hi:(k:Int)<(es.length:Int):=hp;omega
  have I:=Qh5 (rq:=q.c.V.rq) (rs:=rs) T;have hy:O6 es k∈es:=by rw[<-ZL T];exact Lm T
  refine Zf (O6 es k) λv hz=>?_;rw[hz]at I hy;refine Zf (rfr v 0 q.c.V.rq rs) λj hj=>?_;rw[hj]at I;refine Zk<|Yf<|Zk<|QI om om<|xic (i:=k) hn U U T λhN hi=>?_;rw[hz]at hi;refine x (Qy hi U)<|Qb<|Zk<|QI om om<|Xn (hs.J S h7) U U<|Xn (h6.J S h8) U U<|Qa<|Qz<|(Qd4 (v:=v) (hS.st S) (hr.st S) hB hv).Y ?_;rintro r3 w3 ⟨h3,V⟩;rw[hj]at h3;subst h3;refine Qb<|Zk<|V9 om ?_;refine J9.pre3 ?_;refine Qa<|xb (YC U U) (λhq=>?_) (λhq=>?_)
  ·have hl:0<=j:=hq;have hf:(v,j)∈fl:=by rw[<-hg];exact zR.2 ⟨hy,hl,hj.symm⟩
   rw[OU hl]at I;have h4:(ys++[(⟨(v,j),hf⟩:{ x:Int×Int // x∈fl })]).map (·.1) <+: fl:=by
    rw[Lr,hb,show[(⟨(v,j),hf⟩:{ x:Int×Int // x∈fl })].map (·.1)=[(v,j)] from rfl,<-I,<-hg];have h9:=Uo q.c.V.rq rs (es.drop (k+1)) (es.take (k+1));rw[MG]at h9;exact⟨_,h9.symm⟩
   have hI:ys.length<fl.length:=by have E:=h4.length_le;rw[Lh,Ll,LE]at E;omega
   refine Qa<|xe<|J9.pre3 ?_;refine Qa<|Qa<|Qa<|xe<|xy2 (l:=l) U (hY ys ⟨(v,j),hf⟩ w3 (ab ho V) hI) λen W3 hK=>Or.elim hK (λE=>⟨.bool true,E.1,?_⟩) (λE=>⟨.bool false,E.1,?_⟩)
   ·refine J9.of_XL<|x (Zy U)<|QC U<|xe<|Ua U<|YV ?_;refine QI om om<|QH U U<|Qa<|xe ?_;exact⟨(k+1,ys++[⟨(v,j),hf⟩]),og,La,U,T,(S.D V).lw E.2.2.lw,(hn.I V).cst E.2.2.cst E.2.2.lw.size,by simp only[];rw[I,Lr,hb];rfl,E.2.1⟩
   refine J9.of_XL<|x (Zy U)<|QC U<|xe<|QbZ U ?_;refine VR ⟨λ_ h=>(by cases h),MN,[],λW' H=>⟨Z,.inr ⟨ys++[⟨(v,j),hf⟩],h4,?_⟩⟩⟩;exact hD _ W3 W' none E.2 ⟨H.os,H.tape,H.output,H.size,λk hk _=>H.block k hk od⟩ (λr e=>by cases e)
  have hl:¬0<=j:=hq;rw[OT hl,LS]at I;refine Qa<|xe<|J9.of_XL<|Zt<|Ys<|QC U<|xe<|Ua U<|YV ?_;refine QI om om<|QH U U<|Qa<|xe ?_;exact⟨(k+1,ys),og,La,U,T,S.D V,hn.I V,by simp only[];rw[I,hb],ab ho V⟩
 refine(callsIn_wide (n:=m)).2 ?_;have ea:(#[.func (.yield l) #[] #[]]++[sP b1,sP b2,sP O].toArray:Array O2)=#[.func (.yield l) #[] #[],sP b1,sP b2,sP O]:=od
 rw[ea];unfold QY at key;refine Calls.mono key λe w' he=>?_;cases e with
 | returned v=>exact⟨⟨v,U⟩,he⟩
 | panicked c=>exact he.elim
 | outgrown=>exact he.elim
section
variable {pS:String}
theorem YL [h1:Ag P t sz]{x:O3}{o:Nat}{cs':LV}(E:QZ ↑w b T cs)(hx:ev f x=.pointer (some ⟨b,o,none⟩))(H:ev f y=sT us)(I:us.length=sz)(S:o+sz<=cs.length)(J:Zb us)(O:cs.take o++us++cs.drop (o+sz)=cs')
  (hK:∀w',O5 [b] w w'->QZ ↑w' b T cs'->K (QN f d undef) w'):XO P ⟨d,.store t x y,ty,pS,af,gd⟩ f w K:=by
 have G:=run_storeCells_at P b o T us 0 cs.toArray w E (by simp;omega) J.all;subst I;simp only[OD,O]at G;refine xk (w':=w.setRow b cs'.toArray) ?_ (hK _ (O5.setRow _ _ _) (X9 E));simp[execOp,hx,H,Instr.storeAt,Instr.sureAddr,storeVar,VT (sz:=us.length),Value.cells,G]
end
instance:Bw sV 246 [nS,nS,nS,nS,nS,nS,sS 0,nS,nS,nS,nS,sS 0,nS,nS,nS,nS,nS,nS,.map none] [(0,5),(5,4),(9,1),(10,4),(14,1),(15,3),(18,1)]:={}
theorem Y0.shape {v:O2}{c:Int}(h:Y0 N H aa v vt c):∃(a:Q6) (va vm ve:O2) (qs:List TV),v=.agg #[va,sS a.st,vm,ve]/\Zb [va,sS a.st,vm,ve]/\vt.oneCell'=true /\
  (c=0->xo aa=some (a,qs.map (·.2))/\qt aa=0/\∀L:LN,(∀b∈L,b<N)->ZM L H va vm ve a/\Ka L H vt qs):=by
 by_cases G:c=0
 ·obtain⟨⟨va,vm,ve,I,E⟩,⟨qs,T,O⟩,V,Y⟩:=h.good G;have J:=E [] od;exact⟨syA aa,va,vm,ve,qs,I,⟨J.al.one,U,J.mr.one,J.ed.one,Z⟩,(O [] od).arr.one,λ_=>⟨by rw[T];exact V,Y,λL S=>⟨E L S,O L S⟩⟩⟩
 obtain⟨I,E⟩:=h.bad G;exact⟨⟨[],0,[],[]⟩,ZE,ZE,ZE,[],I,oD,by rw[E];rfl,λe=>OW e G⟩
def plE (c:ZF):Int:=if Zj c≠0 then Zj c else Qce (O7 c.co)
theorem Qa3.shape {N:Nat}{H:xA}{c:ZF}{v vt:O2}{e:Int}(h:Qa3 N H c v vt e):e=plE c/\∃(a:Q6) (va vm ve:O2) (qs:List TV),v=.agg #[va,sS a.st,vm,ve]/\Zb [va,sS a.st,vm,ve]/\vt.oneCell'=true /\
  (e=0->Zj c=0/\xo (O7 c.co)=some (a,qs.map (·.2))/\qt (O7 c.co)=0/\∀L:LN,(∀b∈L,b<N)->ZM L H va vm ve a/\Ka L H vt qs):=by
 unfold Qa3 at h;unfold plE;by_cases E:Zj c≠0
 ·rw[OU E]at h ⊢;obtain⟨G,I,J⟩:=h;exact⟨G,⟨[],0,[],[]⟩,ZE,ZE,ZE,[],I,oD,by rw[J];rfl,λe=>OW (G.symm.D e) E⟩
 rw[OT E]at h ⊢;obtain⟨a,va,vm,ve,qs,G,I,J,O⟩:=h.shape;exact⟨h.e,a,va,vm,ve,qs,G,I,J,λe=>⟨Lp.1 E,O e⟩⟩
theorem QlS (c:ZF):Y3 c=if plE c≠0 then plE c else Qce (O7 c.co++O7 c.rq):=by
 rw[QlT];unfold plE;by_cases h:Zj c≠0
 ·rw[OU h,OU h,OU h]
 rw[OT h,OT h]
theorem Qnz {ps:List AV}(h:∀p∈ps,ZM L H p.va p.vm p.ve p.a):∀u∈ps.flatMap ZX,u.oneCell'=true:=by
 intro u I;obtain⟨p,J,G⟩:=Me.1 I;have E:=h p J;simp only[oL,oK,or_false]at G;rcases G with rfl|rfl|rfl|rfl
 ·exact E.al.one
 ·rfl
 ·exact E.mr.one
 exact E.ed.one
theorem Qpk {F:LN->Array Obj->Prop}(st:∀{L:LN}{w w':O1},F L ↑w->O5 L w w'->F L ↑w')(up:∀{L L':LN}{H:xA},F L H->(∀b∈L',b∈L\/H.size<=b)->F L' H)
  (h:∀L:LN,(∀x∈L,x<N)->F L ↑w) (E:b<N) (G:O5 [b] w w'):∀L:LN,(∀x∈L,x<N)->F L ↑w':=λL I =>
 up (st (h (b::L) (λx hx=>by
  rcases Lj.1 hx with rfl|hx
  ·exact E
  exact I x hx)) (G.Y (λx hx=>by simp only[oJ]at hx;subst hx;exact Lq))) (λx hx=>.inl (Lk _ hx))
theorem zd.nil (n:Nat):zd n [] []:=λu _ _=>by simp[O9]
theorem Qdu {c:CL}(h0:ZI L ↑w c)(hy:Kb w 4096):
  QY sV 105 [c.val] w λr w'=>sX w w'/\∃vp,r=.tuple #[vp,sS (Y3 c.V)]/\(Y3 c.V≠0->vp=.pointer none) /\
   (Y3 c.V=0->∃b q,vp=sP b/\q.c=c/\Qr6 q/\Kc [] b ↑w' q/\∀L:LN,(∀x∈L,x<↑w)->ZM L ↑w' q.s.va q.s.vm q.s.ve q.s.a/\(ZI L ↑w c->Kc L b ↑w' q)):=by
 have h:=h0.up (L':=[]) od;have hE:=QlS c.V;refine Zf (Y3 c.V) λE hEq=>?_;rw[hEq]at hE ⊢;refine Zq func105 ?_;refine Qc<|Zl c.cells λb1 w1 gr k5 hz=>x Qi<|Qb ?_;have k6:=hz.lt;refine Qc<|QT hz U U<|x (Q5 [(0,c.cells)] ⟨U,U,Z⟩)<|Zl [c.ve,c.vc,c.vr,c.vx,c.vk,nS,sS 0,nS,nS,nS,nS,sS 0,nS,nS,nS,nS,nS,nS,.map none] λG w2 hM k7 I=>Qb ?_;have h2:=gr.D hM;have gs:=I.lt;have hN:=hz.I hM;have hge:↑w<=G:=oa
 have k8:b1≠G:=oa
 refine Qc<|Qb<|Qd<|Qj<|Qa<|QT hN U U<|Qz<|(Qlc (h.I h2) (hy.I h2)).Y ?_;rintro r3 w3 ⟨hh,v3,vq,e3,rfl,hP⟩;obtain⟨h3,pa,pva,pvm,pve,qs,rfl,gt,gu,gv⟩:=hP.shape;refine Qa<|QW U U<|QW U U<|QW U U<|Yd U<|QQ U<|Qn<|YL (us:=[pva,sS pa.st,pvm,pve]) (I.I hh) U U U od gt rfl λw4 gw I =>
  Yd rfl<|QQ U<|Qn<|Qu (j:=9) (u:=vq) I U U od gu λw5 gx I=>Qb ?_
 have hi:O5 [G] w3 w5:=gw.Q gx;have hj:sX w w5:=(h2.D hh).O hi hge;refine Qj<|Zx U U<|xe<|QO rfl (λhl=>?_) (λhl=>?_)
 ·have gy:plE c.V≠0:=by rw[<-h3];exact hl
  rw[OU gy,<-h3]at hE;subst hE;refine Qj<|x Qi<|Qb<|Qh ⟨[_,_],oB,hj,.pointer none,U,λ_=>U,λe=>OW e hl⟩
 have hO:e3=0:=Lp.1 hl;rw[OT (by rw[<-h3,hO];decide)]at hE;obtain⟨hQ,h4,k9,gz⟩:=gv hO;have he:=ZW hQ;refine Qf ?_;have h6:=(hN.I hh).J hi (by simp;omega);have h5:=h.I hj;have ma:=h.co.arr.le;have mf:=h.rq.arr.le;have mg:c.co.length<=8:=by have:=he.c8;have e:c.V.co.length=c.co.length:=Lh ..;omega
 have mh:c.co.length+c.rq.length<=12:=by have:=he.cr;have e:c.V.co.length=c.co.length:=Lh ..;have e':c.V.rq.length=c.rq.length:=Lh ..;omega
 refine Qd<|Qd<|Zz [] [oE 0,oE 1,oE 2,oE 3,oE 5,oE 6,oF 4,oF 7,oF 8,oF 9,oE 10,oE 11,oE 12,oE 13,oE 14,oE 15,oF 16,oE 17,oE 18,oF 19,oE 20]<|p Qv<|p Qv<|p (QG U)<|pq (λ_ hc=>Qk (h6.J hc od) rfl rfl)<|p (QG rfl) <|
  pq (λ_ hc=>Qk (h6.J hc od) rfl rfl)<|pk<|xg<|(Qel (h5.co.I (O5.C _ _))).Y ?_
 rintro r6 w6 ⟨hS,hT⟩;have h7:=(O5.C [] w5).D hS;refine⟨h7,?_⟩;refine pk<|xg<|(Qel (h5.rq.I h7)).Y ?_;rintro r7 w7 ⟨h8,g0⟩;have hU:=h7.D h8;refine⟨hU,?_⟩;have mj:=hS.size;have mo:=h8.size;have mq:({ w5 with drawn:=w5.drawn+1 }:O1).heap.size=w5.heap.size:=rfl
 have g2:Zn [] ↑w7 r7 (c.rq.map (·.p)).length 4 ((c.rq.map (·.p)).flatMap ZX):=QB g0 (by rw[Lh];omega) od;refine pk<|Qbt (Ql hT h8) U g2 U (Qnz λp S=>by
   obtain⟨q,T,rfl⟩:=LD.1 S;exact(h.rq.each q T)) (by rw[Lh,Lh];omega) oa λv8 w8 hV g3 ms=>?_
 have hn:sX w5 w8:=hU.S g3 (λb hb=>.inr (ov ((Qg hT) b hb).1));refine⟨hn,?_⟩;have hA:=hj.D hn;have mt:=hn.size;have g4:KU [] ↑w8 v8 (c.co.map (·.p)++c.rq.map (·.p)):=by
  rw[<-Ll,<-LA]at hV;exact QjK hV (by rw[Ll,Lh,Lh];omega) od (λp S=>by
   rcases Lc.1 S with S|S
   ·obtain⟨q,T,rfl⟩:=LD.1 S;exact(h.co.each q T).I hA
   obtain⟨q,T,rfl⟩:=LD.1 S;exact(h.rq.each q T).I hA)
 have g5:∀p∈c.co.map (·.p)++c.rq.map (·.p),ZK p.a:=λp S=>by
   rcases Lc.1 S with S|S
   ·obtain⟨q,T,rfl⟩:=LD.1 S;exact he.co q.it (LP T)
   obtain⟨q,T,rfl⟩:=LD.1 S;exact he.rq q.it (LP T)
 refine pk<|xg<|(QdE (km:=4096) g4 (hy.I hA) ol (Qfi g5)).Y ?_;rintro r9 w9 ⟨g6,v9,vt,e9,rfl,hR⟩;rw[Lr,Qgi,QnA]at hR;have hW:=hR.e;obtain⟨sa,sva,svm,sve,ts,rfl,hR1,hR2,g7⟩:=hR.shape;have hB:=hn.D g6;refine⟨hB,?_⟩;refine p Qv<|p (λ_=>Zi U U)<|p (λ_=>Zi U U)<|p (λ_=>Zi U U)<|p (Yt U) <|
  p (QG rfl)<|pkk<|YL (us:=[sva,sS sa.st,svm,sve]) (I.I hB) U U U od hR1 rfl λmu g8 I=>p (Yt rfl)<|p (QG rfl) <|
  pkk<|Qu (j:=14) (u:=vt) I U U od hR2 λho g9 I=>p ZG<|pe ?_
 have hX:O5 [G] w9 ho:=g8.Q g9;have hr:O5 [G] w5 ho:=hB.any.Q hX;have ht:sX w ho:=hj.O hr hge;refine Qj<|Zx U U<|xe<|QO rfl (λhC=>?_) (λhC=>?_)
 ·rw[<-hW]at hE;subst hE;refine Qj<|x Qi<|Qb<|Qh ⟨[_,_],oB,ht,.pointer none,U,λ_=>U,λe=>OW e hC⟩
 have hY:e9=0:=Lp.1 hC;have hZ:E=0:=by rw[hE,<-hW,hY]
 obtain⟨ka,mv,kb⟩:=g7 hY;refine Qf ?_;have kc:=h6.J hr (by simp;omega);refine Qj<|Qa<|QT kc U U<|Qz<|(QaU (h.I ht)).Y ?_;rintro mw V ⟨hg,vs,vx,vk,qx,ks,rfl,ke,kf,ga⟩;have hD:=ga [] od;refine Qn<|YM J0 λbm kg gb my kh=>Yd U<|QQ U<|Qn<|YL (us:=[vs,vx,vk]) ((I.I hg).I gb) U U U od ⟨hD.1.one,hD.2.1.arr.one,hD.2.2.arr.one,Z⟩ rfl λmz gc I =>
  Yd rfl<|QQ U<|Qn<|Qu (j:=18) (u:=.map (some bm)) I U U od rfl λhF gg I=>xe ?_
 have m2:=ht.size;have m3:=hg.size;have m4:=hr.size;have m5:=hi.size;have m6:=hh.size;have m7:G<V.heap.size:=oa
 have ki:bm≠G:=oa
 have gh:O5 [G] V hF:=(gb.any.Q gc).Q gg;have kj:O5 [G] kg hF:=gc.Q gg;have kk:Yu J0 ↑hF bm []:=kh.J kj (oA ki);have kn:O5 [G] w3 V:=(hi.Q hr).D hg;have ko:O5 [G] w9 V:=hX.D hg;have fP:∀{w':O1},O5 [G] V w'->∀L:LN,(∀x∈L,x<↑w2)->ZM L ↑w' pva pvm pve pa/\Ka L ↑w' vq qs:=λJ =>
  Qpk (F:=λL H=>ZM L H pva pvm pve pa/\Ka L H vq qs) (λh J=>⟨h.1.st J,h.2.st J⟩) (λh O=>⟨h.1.up O,h.2.up O⟩) gz gs (kn.Q J)
 have fS:∀{w':O1},O5 [G] V w'->∀L:LN,(∀x∈L,x<↑w8)->ZM L ↑w' sva svm sve sa/\Ka L ↑w' vt ts:=λJ =>
  Qpk (F:=λL H=>ZM L H sva svm sve sa/\Ka L H vt ts) (λh J=>⟨h.1.st J,h.2.st J⟩) (λh O=>⟨h.1.up O,h.2.up O⟩) kb oa (ko.Q J)
 have fC:∀{w':O1},O5 [G] V w'->∀L:LN,(∀x∈L,x<↑ho)->QL L ↑w' vs (szs c.V.co)/\jD L ↑w' vx qx/\jz L ↑w' vk ks:=λJ =>
  Qpk (F:=λL H=>QL L H vs (szs c.V.co)/\jD L H vx qx/\jz L H vk ks) (λh J=>⟨h.1.st J,h.2.1.st J,h.2.2.st J⟩) (λh O=>⟨h.1.up O,h.2.1.up O,h.2.2.up O⟩) ga oa J
 have kq:=(zS (Y8 he.co) h4).1;have kr:(O7 c.V.co).length=c.co.length:=by unfold O7;show((c.co.map IV.it).map _).length=_;simp
 have gi:=(fP gh [] od).2;have m8:=gi.arr.le;refine Qd<|Qj<|Yd U<|Qo U I U U<|QF gi.arr U<|Qa<|xe<|Q7 (α:=Nat×List (ByteArray×O2)) [(6,7),(61,73)] (λz=>[(61,sS z.1)]) (λz w'=>z.1<=qs.length/\O5 [G] V w'/\QZ ↑w' G 246 [c.ve,c.vc,c.vr,c.vx,c.vk,pva,sS pa.st,pvm,pve,vq,sva,sS sa.st,svm,sve,vt,vs,vx,vk,.map (some bm)]/\Yu J0 ↑w' bm z.2/\zd c.co.length z.2 ((qs.take z.1).map (·.2))) (λz=>qs.length - z.1) (0,[]) La
  ⟨Lo _,gh,I,kk,zd.nil _⟩ ?_
 rintro⟨k,mm⟩ g gj ⟨hk,Y,hu,hG,hH⟩;have hv:sX w gj:=(ht.D hg).O Y hge;refine Zo rfl U (λhI=>?_) (λhI=>?_)
 ·refine Qw ?_;have kt:qs.length<=k:=by have ku:¬(k:Int)<(qs.length:Int):=hI;omega
  rw[Lu kt]at hH;refine Qj<|x Qi<|Qb ?_;have aP:=fP Y [] od;have aS:=fS Y [] od;have aC:=fC Y [] od;refine Qh ⟨[_,_],oB,hv,sP G,by rw[hZ];rfl,λe=>OW hZ e,λ_=>⟨G,⟨c,⟨pva,pvm,pve,pa⟩,vq,qs,⟨sva,svm,sve,sa⟩,vt,ts,vs,vx,vk,qx,ks,bm,mm⟩,U,U,⟨hQ,h4,ka,ke,kf,hH⟩,⟨hu,od,h.I hv,aP.1,aS.1,aP.2,aS.2,aC.1,aC.2.1,aC.2.2,od,hG⟩,λL O=>?_⟩⟩;have bP:=fP Y L (λb hb=>ov (O b hb));have bS:=fS Y L (λb hb=>ov (O b hb));have bC:=fC Y L (λb hb=>ov (O b hb));exact⟨bS.1,λkv=>⟨hu,λhm=>ov (O _ hm),kv.I hv,bP.1,bS.1,bP.2,bS.2,bC.1,bC.2.1,bC.2.2,λhm=>by have h9:bm<w.heap.size:=O bm hm;omega,hG⟩⟩
 have hf:k<qs.length:=by have ku:(k:Int)<(qs.length:Int):=hI;omega
 have gk:=(fP Y [] od).2;have hJ:=Lm hf;have hK:(qs.take (k+1)).map (·.2)=(qs.take k).map (·.2)++[(qs[k]'hf).2]:=by rw[Ln hf,Lr];rfl
 have gl:(qs[k]'hf).2∉(qs.take k).map (·.2):=by
  have h1:((qs.take (k+1)).map (·.2)).Nodup:=by
   rw[NX];exact((JL (Y8 he.co) h4).1.nd).sublist (List.take_sublist _ _)
  rw[hK]at h1;intro hm;exact(ME.1 h1).2.2 _ hm _ (Lb.2 U) U
 have kw:((qs.take k).map (·.2)).length=k:=by rw[Lh,LB];omega
 refine Qf<|Qd<|Qm<|Qj<|xig (g:=YS) Us gk.arr U U hf λm9 gm=>?_;refine Zf (qs[k]'hf) λq T=>?_;rw[T]at gm hJ hK gl;have gn:=kq q.2 (LP hJ);have go:=gn.bd (m:=4096) (λa ha=>(Y8 he.co a ha).st1);have pc:q.2.length=c.co.length:=by rw[gn.1,kr]
 refine x (Qy gm U)<|x Qi<|Qb<|Zz [] [oE 0,oE 1,oE 2,oE 3,oE 4,oE 6,oF 5,oF 7]<|p Qv<|p (Yt U)<|p (QG U)<|pq (λ_ hc=>Qk (hu.J hc od) rfl rfl) <|
  p Qv<|p Qv<|pk<|xg<|(QbW ((gk.each q hJ).I (O5.C _ _)) ((hy.I hv).I (O5.C _ _)) go oa).Y ?_
 rintro pd pf ⟨rfl,kx⟩;have hw:=(O5.C [] gj).D kx;refine⟨hw,?_⟩;refine pkk<|XY (k:=Vl q.2) (hG.I hw) U U λkz gp k0=>pe ?_;have k4:O5 [G] V kz:=(Y.D hw).O gp oa;have gq:=hH.add gl (λx hx=>(go x hx).1);rw[kw]at gq;refine Qs<|QH U U<|Qa<|xe ?_;exact⟨(k+1,xd mm (Vl q.2) (sS (k:Int))),og,La,hf,k4,((hu.I hw).J gp (by simp;omega)),k0,by simp only[];rw[hK];exact gq⟩
theorem zY {W:O1}{base e:Nat}{v:O2}(h:W.ownsRow base e sz v n cs)(E:X5 [] W W'):W'.ownsRow base e sz v n cs :=
 ⟨h.1,h.2.imp id λ⟨g,cap,cur,G,H,I,J⟩=>⟨g,cap,cur,G,H,E g _ od I rfl,J⟩⟩
theorem X5.Y {W:O1}(h:X5 L W W')(E:∀b∈L,b∈L'):X5 L' W W':=λk o G=>h k o (λH=>G (E k H))
theorem X5.nonc {W:O1}(I:O5 X W W')(J:∀r∈X,∃o:Obj,W.heap[r]?=some o/\o.isCells=false):X5 [] W W':=λk o _ E O =>
 (I.block k (LK.1 E).1 (λhx=>by
  obtain⟨S,G,H⟩:=J k hx;rw[E]at G;cases G;rw[O]at H;cases H)).D E
theorem YI.cst {I:xz}(h:∀W W',I W->X5 [] W W'->W.heap.size<=↑W'->I W'):YI B I:=λW W' _ hi E G=>h W W' hi (X5.nonc E (λr H=>(G r H).2)) E.size
theorem YO.cst {base:Nat}{av:LN}{W W':O1}{v:O2}{n sz:Nat}{cs:LV}(h:YO base av ↑W v n sz cs)(E:Lg.X5 [] W W')(G:W.heap.size<=↑W'):YO base av ↑W' v n sz cs:=λL H=>(h L H).cst (E.Y od) G
abbrev Z2 (r:Rsn):LV:=[sS r.st,sS r.kd,sS r.ix,sS r.ev]
theorem QiA (r:Rsn):(Z2 r).length=4:=rfl
structure KT (base:Nat)(w:O1)(v1 v2 v3 v4:O2)(cos rqs:List TV)(pls:LI)(fbs:List Rsn):Prop where
 o1:w.ownsRow base 63 1 v1 cos.length (cos.flatMap YS)
 o2:w.ownsRow base 63 1 v2 rqs.length (rqs.flatMap YS)
 o3:Qq 3 base w v3 pls
 o4:w.ownsRow base 171 4 v4 fbs.length (fbs.flatMap Z2)
 d12:Dj v1 v2
 d13:Dj v1 v3
 d14:Dj v1 v4
 d23:Dj v2 v3
 d24:Dj v2 v4
 d34:Dj v3 v4
 e1:∀p∈cos,YO base (ob v1++(ob v2++(ob v3++ob v4))) ↑w p.1 p.2.length 1 (p.2.map (.int .i64))
 e2:∀p∈rqs,YO base (ob v1++(ob v2++(ob v3++ob v4))) ↑w p.1 p.2.length 1 (p.2.map (.int .i64))
theorem qT {v:O2}:Dj (nS) v:=λb E=>by simp[ob]at E
theorem KT.nil (base:Nat)(w:O1):KT base w (nS) (nS) (nS) (nS) [] [] [] []:=
 ⟨QE _ _ _ _,QE _ _ _ _,QE _ _ _ _,QE _ _ _ _,qT,qT,qT,qT,qT,qT,λp E=>(by cases E),λp E=>(by cases E)⟩
variable {base:Nat}{w7 w8:O1}{v1 v2 v3 v4:O2}{cos rqs:List TV}{pls:LI}{fbs:List Rsn}
theorem KT.I (h:KT base w v1 v2 v3 v4 cos rqs pls fbs)(E:sX w w7):KT base w7 v1 v2 v3 v4 cos rqs pls fbs :=
 ⟨Ql h.o1 E,Ql h.o2 E,Ql h.o3 E,Ql h.o4 E,h.d12,h.d13,h.d14,h.d23,h.d24,h.d34,λp G=>(h.e1 p G).I E,λp G=>(h.e2 p G).I E⟩
theorem KT.low {X:LN}(h:KT base w v1 v2 v3 v4 cos rqs pls fbs)(E:O5 X w w7)(G:∀b∈X,b<base):KT base w7 v1 v2 v3 v4 cos rqs pls fbs:=by
 have k:∀{e sz n:Nat} {v:O2} {cs:LV},w.ownsRow base e sz v n cs->w7.ownsRow base e sz v n cs:=λo=>Qe o E (λb I J=>oy (Qg o b I).1 (G b J));exact⟨k h.o1,k h.o2,k h.o3,k h.o4,h.d12,h.d13,h.d14,h.d23,h.d24,h.d34,λp H=>(h.e1 p H).low E G,λp H=>(h.e2 p H).low E G⟩
theorem KT.cst (h:KT base w v1 v2 v3 v4 cos rqs pls fbs)(E:Lg.X5 [] w w7)(H:w.heap.size<=↑w7):KT base w7 v1 v2 v3 v4 cos rqs pls fbs :=
 ⟨zY h.o1 E,zY h.o2 E,zY h.o3 E,zY h.o4 E,h.d12,h.d13,h.d14,h.d23,h.d24,h.d34,λp G=>(h.e1 p G).cst E H,λp G=>(h.e2 p G).cst E H⟩
theorem qU {a b E:O2}(h:Dj a b)(I:∀x∈ob E,x∈ob a\/n<=x)(J:∀x∈ob b,x<n):Dj E b:=λx hx G=>by
 rcases I x hx with H|H
 ·exact h x H G
 have:=J x G;omega
theorem V1 {a b E:O2}(h:Dj a b)(H:∀x∈ob E,x∈ob b\/n<=x)(I:∀x∈ob a,x<n):Dj a E:=λx hx J=>by
 rcases H x J with G|G
 ·exact h x hx G
 have:=I x hx;omega
theorem KT.lt (h:KT base w v1 v2 v3 v4 cos rqs pls fbs):(∀x∈ob v1,x<↑w)/\(∀x∈ob v2,x<↑w)/\(∀x∈ob v3,x<↑w)/\∀x∈ob v4,x<w.heap.size:=⟨Q8 h.o1,Q8 h.o2,Q8 h.o3,Q8 h.o4⟩
theorem QcK {a b c d:LN}{x:Nat}(h:x∈a++(b++(c++d))):x∈a\/x∈b\/x∈c\/x∈d:=by simpa using h
theorem y7 {a b c d:LN}{x:Nat}(h:x∈a\/x∈b\/x∈c\/x∈d):x∈a++(b++(c++d)):=by simpa using h
theorem KT.a1 {e:Nat}{q:TV}(h:KT base w v1 v2 v3 v4 cos rqs pls fbs)(V:sX w w7)(Y:w7.ownsRow N e 1 q.1 q.2.length (q.2.map (.int .i64)))(ha:q.2.length<=1099511627776)(hN:↑w<=N)(G:base<=↑w)(ho:w8.ownsRow base 63 1 v' (cos.length+1) (cos.flatMap YS++YS q))
  (O:O5 (ob v1) w7 w8) (S:∀b∈ob v',b∈ob v1\/↑w7<=b):KT base w8 v' v2 v3 v4 (cos++[q]) rqs pls fbs:=by
 have l:=h.lt;have hz:=V.size;have I:=h.I V;have av:∀b∈ob v'++(ob v2++(ob v3++ob v4)),b∈ob v1++(ob v2++(ob v3++ob v4))\/↑w7<=b:=by
  intro b G;rcases QcK G with E|E|E|E
  ·rcases S b E with T|T
   ·exact .inl (y7 (.inl T))
   exact .inr T
  ·exact .inl (y7 (.inr (.inl E)))
  ·exact .inl (y7 (.inr (.inr (.inl E))))
  exact .inl (y7 (.inr (.inr (.inr E))))
 have st:O5 (ob v1++(ob v2++(ob v3++ob v4))) w7 w8:=O.Y (λb G=>y7 (.inl G));have g:∀{v:O2} {n sz:Nat} {cs:LV},YO base (ob v1++(ob v2++(ob v3++ob v4))) ↑w7 v n sz cs->YO base (ob v'++(ob v2++(ob v3++ob v4))) ↑w8 v n sz cs:=λa=>a.app st av;refine⟨by rw[Ll,LA];simpa using ho,Qe I.o2 O (λb G J=>h.d12 b J G),Qe I.o3 O (λb G J=>h.d13 b J G),Qe I.o4 O (λb G J=>h.d14 b J G),qU h.d12 S (λx hx=>ov (l.2.1 x hx)),qU h.d13 S (λx hx=>ov (l.2.2.1 x hx)),qU h.d14 S (λx hx=>ov (l.2.2.2 x hx)),h.d23,h.d24,h.d34,?_,?_⟩
 ·exact λp H=>by
   rcases Lc.1 H with H|H
   ·exact g (I.e1 p H)
   simp only[oJ]at H;subst H;exact g (YO.of_own Y ha oa (λb G=>by
   rcases QcK G with E|E|E|E
   ·have:=l.1 b E;omega
   ·have:=l.2.1 b E;omega
   ·have:=l.2.2.1 b E;omega
   have:=l.2.2.2 b E;omega))
 exact λp H=>g (I.e2 p H)
theorem KT.a2 {e:Nat}{q:TV}(h:KT base w v1 v2 v3 v4 cos rqs pls fbs)(V:sX w w7)(Y:w7.ownsRow N e 1 q.1 q.2.length (q.2.map (.int .i64)))(ha:q.2.length<=1099511627776)(hN:↑w<=N)(G:base<=↑w)(ho:w8.ownsRow base 63 1 v' (rqs.length+1) (rqs.flatMap YS++YS q))
  (O:O5 (ob v2) w7 w8) (S:∀b∈ob v',b∈ob v2\/↑w7<=b):KT base w8 v1 v' v3 v4 cos (rqs++[q]) pls fbs:=by
 have l:=h.lt;have hz:=V.size;have I:=h.I V;have av:∀b∈ob v1++(ob v'++(ob v3++ob v4)),b∈ob v1++(ob v2++(ob v3++ob v4))\/↑w7<=b:=by
  intro b G;rcases QcK G with E|E|E|E
  ·exact .inl (y7 (.inl E))
  ·rcases S b E with T|T
   ·exact .inl (y7 (.inr (.inl T)))
   exact .inr T
  ·exact .inl (y7 (.inr (.inr (.inl E))))
  exact .inl (y7 (.inr (.inr (.inr E))))
 have st:O5 (ob v1++(ob v2++(ob v3++ob v4))) w7 w8:=O.Y (λb G=>y7 (.inr (.inl G)));have g:∀{v:O2} {n sz:Nat} {cs:LV},YO base (ob v1++(ob v2++(ob v3++ob v4))) ↑w7 v n sz cs->YO base (ob v1++(ob v'++(ob v3++ob v4))) ↑w8 v n sz cs:=λa=>a.app st av;refine⟨Qe I.o1 O (λb G J=>h.d12 b G J),by rw[Ll,LA];simpa using ho,Qe I.o3 O (λb G J=>h.d23 b J G),Qe I.o4 O (λb G J=>h.d24 b J G),V1 h.d12 S (λx hx=>ov (l.1 x hx)),h.d13,h.d14,qU h.d23 S (λx hx=>ov (l.2.2.1 x hx)),qU h.d24 S (λx hx=>ov (l.2.2.2 x hx)),h.d34,?_,?_⟩
 ·exact λp H=>g (I.e1 p H)
 exact λp H=>by
  rcases Lc.1 H with H|H
  ·exact g (I.e2 p H)
  simp only[oJ]at H;subst H;exact g (YO.of_own Y ha oa (λb G=>by
  rcases QcK G with E|E|E|E
  ·have:=l.1 b E;omega
  ·have:=l.2.1 b E;omega
  ·have:=l.2.2.1 b E;omega
  have:=l.2.2.2 b E;omega))
theorem KT.a3 {q:Int}(h:KT base w v1 v2 v3 v4 cos rqs pls fbs)(V:sX w w7)(Y:w8.ownsRow base 3 1 v' (pls.length+1) (pls.map (.int .i64)++[sS q]))
  (J:O5 (ob v3) w7 w8) (O:∀b∈ob v',b∈ob v3\/↑w7<=b):KT base w8 v1 v2 v' v4 cos rqs (pls++[q]) fbs:=by
 have l:=h.lt;have hz:=V.size;have H:=h.I V;have av:∀b∈ob v1++(ob v2++(ob v'++ob v4)),b∈ob v1++(ob v2++(ob v3++ob v4))\/↑w7<=b:=by
  intro b E;rcases QcK E with G|G|G|G
  ·exact .inl (y7 (.inl G))
  ·exact .inl (y7 (.inr (.inl G)))
  ·rcases O b G with S|S
   ·exact .inl (y7 (.inr (.inr (.inl S))))
   exact .inr S
  exact .inl (y7 (.inr (.inr (.inr G))))
 have st:O5 (ob v1++(ob v2++(ob v3++ob v4))) w7 w8:=J.Y (λb E=>y7 (.inr (.inr (.inl E))));have g:∀{v:O2} {n sz:Nat} {cs:LV},YO base (ob v1++(ob v2++(ob v3++ob v4))) ↑w7 v n sz cs->YO base (ob v1++(ob v2++(ob v'++ob v4))) ↑w8 v n sz cs:=λa=>a.app st av;refine⟨Qe H.o1 J (λb E I=>h.d13 b E I),Qe H.o2 J (λb E I=>h.d23 b E I),Qq.snoc Y,Qe H.o4 J (λb E I=>h.d34 b I E),h.d12,V1 h.d13 O (λx hx=>ov (l.1 x hx)),h.d14,V1 h.d23 O (λx hx=>ov (l.2.1 x hx)),h.d24,qU h.d34 O (λx hx=>ov (l.2.2.2 x hx)),?_,?_⟩
 ·exact λp T=>g (H.e1 p T)
 exact λp T=>g (H.e2 p T)
theorem KT.a4 {q:Rsn}(h:KT base w v1 v2 v3 v4 cos rqs pls fbs)(V:sX w w7)(Y:w8.ownsRow base 171 4 v' (fbs.length+1) (fbs.flatMap Z2++Z2 q))
  (J:O5 (ob v4) w7 w8) (O:∀b∈ob v',b∈ob v4\/↑w7<=b):KT base w8 v1 v2 v3 v' cos rqs pls (fbs++[q]):=by
 have l:=h.lt;have hz:=V.size;have H:=h.I V;have av:∀b∈ob v1++(ob v2++(ob v3++ob v')),b∈ob v1++(ob v2++(ob v3++ob v4))\/↑w7<=b:=by
  intro b E;rcases QcK E with G|G|G|G
  ·exact .inl (y7 (.inl G))
  ·exact .inl (y7 (.inr (.inl G)))
  ·exact .inl (y7 (.inr (.inr (.inl G))))
  rcases O b G with S|S
  ·exact .inl (y7 (.inr (.inr (.inr S))))
  exact .inr S
 have st:O5 (ob v1++(ob v2++(ob v3++ob v4))) w7 w8:=J.Y (λb E=>y7 (.inr (.inr (.inr E))));have g:∀{v:O2} {n sz:Nat} {cs:LV},YO base (ob v1++(ob v2++(ob v3++ob v4))) ↑w7 v n sz cs->YO base (ob v1++(ob v2++(ob v3++ob v'))) ↑w8 v n sz cs:=λa=>a.app st av;refine⟨Qe H.o1 J (λb E I=>h.d14 b E I),Qe H.o2 J (λb E I=>h.d24 b E I),Qe H.o3 J (λb E I=>h.d34 b E I),by rw[Ll,LA];simpa using Y,h.d12,h.d13,V1 h.d14 O (λx hx=>ov (l.1 x hx)),h.d23,V1 h.d24 O (λx hx=>ov (l.2.1 x hx)),V1 h.d34 O (λx hx=>ov (l.2.2.1 x hx)),?_,?_⟩
 ·exact λp T=>g (H.e1 p T)
 exact λp T=>g (H.e2 p T)
theorem j8 (c:ZF)(pl:Q6)(ps:List (LI)):∀(l:List (LI)) (i:Nat) (s:Spc),(l.zipIdx i).foldl (Qor c pl ps) s =
  ⟨s.a,s.co++l.map (·.take c.co.length),s.rq++l.map (·.drop c.co.length),s.pl++l.map (λt=>plx ps (t.take c.co.length)),s.fb++(l.zipIdx i).filterMap (λp=>rsn c pl (plx ps (p.1.take c.co.length)) p.2 p.1)⟩
 | [],i,s=>od
 | t::l,i,s=>by
  rw[NN,L5,j8 c pl ps l (i+1)];unfold Qor;simp only[oY,o6,Oh,Om,List.filterMap_cons];cases rsn c pl (plx ps (t.take c.co.length)) i t with
  | none=>rfl
  | some r=>simp
theorem yC {c:ZF}{rs:LI}:∀{l:LI},(∀x∈wrf c.rq rs l,(c.ev.getD x.1.toNat ⟨.empty,false,false,false,0⟩).co=true)->rfd c rs l=none
 | [],_=>rfl
 | v::l,h=>by
  rw[wrf]at h;rw[rfd];by_cases E:0<=rfr v 0 c.rq rs
  ·rw[OU E]at h;have G:=h _ Lq;rw[OT (λe=>by rw[G]at e;cases e.2)];exact yC λx hx=>h x (Lk _ hx)
  rw[OT E]at h;rw[OT (λe=>E e.1)];exact yC h
theorem yB {c:ZF}{rs:LI}{x:Int×Int}{t:xw}:∀{l:LI}{p:xw},wrf c.rq rs l=p++x::t->(∀y∈p,(c.ev.getD y.1.toNat ⟨.empty,false,false,false,0⟩).co=true)->(c.ev.getD x.1.toNat ⟨.empty,false,false,false,0⟩).co=false->rfd c rs l=some (x.2,x.1)
 | [],p,h,_,_=>by simp[wrf]at h
 | v::l,p,h,G,hx=>by
  rw[wrf]at h;rw[rfd];by_cases E:0<=rfr v 0 c.rq rs
  ·rw[OU E]at h;cases p with
   | nil =>
    simp only[Om,List.cons.injEq]at h;obtain⟨H,_⟩:=h;subst H;rw[OU ⟨E,hx⟩]
   | cons y p =>
    simp only[Oh,List.cons.injEq]at h;obtain⟨H,J⟩:=h;have I:=G y Lq;subst H;rw[OT (λe=>by simp only[]at I;rw[I]at e;cases e.2)];exact yB J (λy O=>G y (Lk _ O)) hx
  rw[OT E]at h;rw[OT (λe=>E e.1)];exact yB h G hx
theorem Qh8 (c:ZF)(t:LI):vio c t=if(UO c.ex c.cs t).2.2=true then some ((UO c.ex c.cs t).1,(UO c.ex c.cs t).2.1)else none:=by
 unfold vio UO;by_cases E:0<=fix (Uq t) 0 c.ex
 ·rw[OU E,OU E];rfl
 rw[OT E,OT E];by_cases G:0<=fix (qz t) 0 c.cs
 ·rw[OU G,OU G];rfl
 rw[OT G,OT G];rfl
def Qr8 (N:Nat)(H:xA)(v:O2)(s:Spc):Prop:=∃va vm ve v1 v2 v3 v4 cos rqs,v=.agg #[va,sS s.a.st,vm,ve,v1,v2,v3,v4]/\cos.map (·.2)=s.co/\rqs.map (·.2)=s.rq /\
 ∀L:LN,(∀b∈L,b<N)->ZM L H va vm ve s.a/\Ka L H v1 cos/\Ka L H v2 rqs/\QL L H v3 s.pl/\Zn L H v4 s.fb.length 4 (s.fb.flatMap Z2)
instance:Bw sV 163 [nS,sS 0,nS,nS,nS,nS,nS,nS] [(0,4),(4,1),(5,1),(6,1),(7,1)]:={}
def spF (c:ZF)(pl:Q6)(ps:List (LI))(l:List (LI)):List Rsn:=l.zipIdx.filterMap (λp=>rsn c pl (plx ps (p.1.take c.co.length)) p.2 p.1)
theorem Qit {pl:Q6}{ps:List (LI)}{l:List (LI)}{k:Nat}(h:k<l.length):spF c pl ps (l.take (k+1))=spF c pl ps (l.take k)++(rsn c pl (plx ps ((l[k]'h).take c.co.length)) k (l[k]'h)).toList:=by
 unfold spF;rw[Ln h,List.zipIdx_append,List.filterMap_append];have e:0+(l.take k).length=k:=by rw[LB];omega
 rw[e];simp only[List.zipIdx_cons,List.zipIdx_nil,List.filterMap_cons,List.filterMap_nil];cases rsn c pl (plx ps ((l[k]'h).take c.co.length)) k (l[k]'h) <;> rfl
theorem Qe5 (c:ZF)(pl:Q6)(ps:List (LI))(l:List (LI)):(spF c pl ps l).length<=l.length:=by
 unfold spF;refine LH (List.length_filterMap_le _ _) ?_;rw[List.length_zipIdx];exact Lx _
theorem QdX {pl sa:Q6}{ps ts:List (LI)}(E:xo (O7 c.co)=some (pl,ps))(G:xo (O7 c.co++O7 c.rq)=some (sa,ts)):
  spc c=⟨sa,ts.map (·.take c.co.length),ts.map (·.drop c.co.length),ts.map (λt=>plx ps (t.take c.co.length)),spF c pl ps ts⟩:=by
 unfold spc syA syQ;rw[E,G];simp only[];rw[j8];simp[spF]
theorem QkI {s:List ByteArray}{x:XD}(h:Yy n u s x=0):x.a.st≠0:=by
 unfold Yy at h;split at h
 ·cases h
 split at h
 ·cases h
 split at h
 ·rename_i G E;exact OW h E
 split at h
 ·cases h
 split at h
 ·cases h
 assumption
theorem Qdo {n:Nat}{al:LI}:∀{l:List XD}{s:List ByteArray}{u:LI},(YE n al s u l).1=0->∀x∈l,x.a.st≠0
 | [],_,_,_,x,hx=>by cases hx
 | y::l,s,u,h,x,hx=>by
  rw[UF]at h;by_cases E:Yy n al s y≠0
  ·rw[OU E]at h;exact OW h E
  rw[OT E]at h;have G:Yy n al s y=0:=Lp.1 E;rcases Lj.1 hx with rfl|hx
  ·exact QkI G
  exact Qdo h x hx
theorem QkJ (h:Zj c=0):∀x∈c.co,x.a.st≠0:=by
 unfold Zj at h;by_cases E:Kv c.ev≠0
 ·rw[OU E]at h;exact OW h E
 rw[OT E]at h;by_cases H:c.co.length=0
 ·rw[OU H]at h;cases h
 rw[OT H]at h;by_cases I:8<c.co.length\/12<c.co.length+c.rq.length
 ·rw[OU I]at h;cases h
 rw[OT I]at h;by_cases G:(YE c.ev.length (Vo c.ev.length) [] [] c.co).1≠0
 ·rw[OU G]at h;exact OW h G
 exact Qdo (Lp.1 G)
theorem QcB (h:Zj c=0){A:Q6}{Q:List (LI)}(O:xo (O7 c.co)=some (A,Q)):ZK A/\A.st=(Q.length:Int)/\0<Q.length/\∀e∈A.al,0<=e/\e<(c.ev.length:Int):=by
 have G:=ZW h;have H:=Y8 G.co;have hsp:=JL H O;refine⟨hsp.1.okay H,hsp.1.st,?_,λe J=>?_⟩
 ·refine Nat.pos_of_ne_zero λS=>?_;obtain⟨a,I,E⟩:=hsp.2.1 S;obtain⟨x,hx,rfl⟩:=LD.1 I;exact QkJ h x hx E
 rw[hsp.1.al]at J;obtain⟨a,I,E⟩:=(QfP H e).1 J;obtain⟨x,hx,rfl⟩:=LD.1 I;exact⟨((G.co x hx).al e E).1,G.ce x hx e E⟩
theorem QiR {Q:List (LI)}(h:0<Q.length)(t:LI):0<=plx Q t/\plx Q t<(Q.length:Int):=by
 unfold plx;split
 ·rename_i E;have:=MJ E;omega
 omega
theorem Vt.take {a b:List Q6}{t:LI}(h:Vt (a++b) t):Vt a (t.take a.length):=by
 have E:=h.1;rw[Ll]at E;refine⟨by rw[LB];omega,λi H G=>?_⟩;have:=h.2 i oa (by rw[Ll];omega);rw[MI G]at this;rw[Nh];exact this
theorem Vt.drop {a b:List Q6}{t:LI}(h:Vt (a++b) t):Vt b (t.drop a.length):=by
 have E:=h.1;rw[Ll]at E;refine⟨by rw[LY];omega,λi G H=>?_⟩;have:=h.2 (a.length+i) oa (by rw[Ll];omega);rw[M8 oa]at this;rw[List.getElem_drop];simpa using this
theorem Vt.tpOk {l:List XD}{t:LI}(h:Vt (O7 l) t):QnH (szs l) t:=by
 have E:=h.1;unfold O7 at E;rw[Lh]at E;refine⟨by unfold szs;rw[Lh];exact E,λi hi=>?_⟩;have G:=h.2 i hi (by unfold O7;rw[Lh];omega);have H:i<(szs l).length:=by unfold szs;rw[Lh];omega
 rw[<-ZL hi,<-ZL H];unfold O7 szs at *;simpa using G
theorem KT.add {base G:Nat}{W H I J:O1}{v1 v2 v3 E c0 c1 c2 c3:O2}{cos rqs:List TV}{pls:LI}{fbs:List Rsn}{q:Rsn}(hB:QZ ↑W G T [c0,c1,c2,c3,v1,v2,v3,E])(O:KT base W v1 v2 v3 E cos rqs pls fbs)(ha:G<base)(S:sX W H)
  (ho:I.ownsRow base 171 4 v' (fbs.length+1) (fbs.flatMap Z2++Z2 q)) (V:O5 (ob E) H I) (hn:∀b∈ob v',b∈ob E\/↑H<=b) (Y:O5 [G] I J):
  O5 (G::ob E) W J/\KT base J v1 v2 v3 v' cos rqs pls (fbs++[q])/\(∀x∈G::ob E,∃o:Obj,W.heap[x]?=some o/\o.isCells=true):=by
 refine⟨((S.any).Q (V.Y λx hx=>Lk _ hx)).Q (Y.Y λx hx=>?_),(O.a4 S ho V hn).low Y (λx hx=>?_),λx hx=>?_⟩
 ·simp only[oJ]at hx;subst hx;exact Lq
 ·simp only[oJ]at hx;subst hx;exact ha
 rcases Lj.1 hx with rfl|hx
 ·exact hB.cells
 exact Go.Lg.QV O.o4 x hx
theorem jw {c:CL}(h0:ZI L ↑w c)(mt:Kb w 4096):
  QY sV 53 [c.val] w λr w'=>sX w w'/\∃v,r=.tuple #[v,sS (Y3 c.V)]/\(∃us,v=sT us/\us.length=8/\Zb us)/\(Y3 c.V=0->Qr8 ↑w ↑w' v (spc c.V)):=by
 have h:=h0.up (L':=[]) od;refine Zf (Y3 c.V) λE hE=>?_;refine QY.of_G 20 func53 U ntmps53 results53 od ?_;refine Zk<|QI om om<|Zl c.cells λb1 w1 hG hb1 mu=>QM [nS,sS 0,nS,nS,nS,nS,nS,nS] λb2 w2 h8 hb2 gw=>Qb ?_;have ke:=hG.D h8;have mv:=mu.lt;have kf:=gw.lt;have mw:=mu.I h8;refine Zk<|QI om om<|QT mw U U<|Qz<|(Qdu (h.I ke) (mt.I ke)).Y ?_;rintro r3 w3 ⟨hw,vp,rfl,j2,my⟩;rw[hE]at j2 my ⊢;have mz:=ke.D hw;refine Qa<|QW U U<|QW U U<|x Qi<|Qb<|Zk<|Zk<|QI om om<|Qa<|Zx U U<|xe<|QnK U (λkg=>?_) (λkg=>?_)
 ·refine Zk<|QI om om<|x (Q5 [] Z)<|Qa<|QK [nS,sS 0,nS,nS,nS,nS,nS,nS] (gw.I hw) ⟨U,U,U,U,U,U,U,U,Z⟩ λw4 hK j3=>Qb<|VR ⟨λ_ h=>(by cases h),MN,[.agg #[nS,sS 0,nS,nS,nS,nS,nS,nS],sS E],λW' hM=>⟨⟨Yl (j3.I hM),rfl,Z⟩,(mz.O hK oa).D hM,_,rfl,⟨_,rfl,rfl,rfl,rfl,rfl,rfl,rfl,rfl,rfl,rfl,Z⟩,λe=>OW e kg⟩⟩
 have m2:E=0:=Lp.1 kg;obtain⟨b,q,rfl,rfl,hQ,ho,za⟩:=my m2;refine YV<|Zk<|QI om om<|Qa<|Yd U<|QQ U<|x (Zh (us:=ZX q.s) ho.B U U U)<|x (Q5 [(0,ZX q.s)] ⟨U,U,Z⟩)<|QM [nS,sS 0,nS,nS,nS,nS,nS,nS] λH w5 hR kh h4 =>
  QK [q.s.va,sS q.s.a.st,q.s.vm,q.s.ve,nS,nS,nS,nS] h4 ⟨ho.s.al.one,U,ho.s.mr.one,ho.s.ed.one,U,U,U,U,Z⟩ λJ gx h4=>xe ?_
 have m3:sX w3 J:=hR.O gx kh;have ki:=h4.lt;have m4:=ho.I m3;have hz3:=hw.size;refine Zk<|Zk<|QI om om<|Qa<|Yd U<|Qo U m4.B U U<|QF m4.ts.arr U<|Qa<|xe ?_;have m5:=(zS (λa ha=>by
  rcases Lc.1 ha with ha|ha
  ·exact Y8 (ZW hQ.ok).co a ha
  exact Y8 (ZW hQ.ok).rq a ha) hQ.s)
 have kj:=m5.1;have m6:=m5.2;simp only[]at kj m6;have hU:=ZW hQ.ok;have hckc:=hU.c8;have hY:q.c.V.co.length=q.c.co.length:=Lh ..;have zb:q.c.V.rq.length=q.c.rq.length:=Lh ..;have hcr:=hU.cr;have zv:(O7 q.c.V.co++O7 q.c.V.rq).length=q.c.co.length+q.c.rq.length:=by rw[Ll];unfold O7;rw[Lh,Lh,hY,zb]
 refine Zf (q.ts.map (·.2)) λT hT=>?_;rw[hT]at kj m6;have hTn:q.ts.length=T.length:=by rw[<-hT,Lh]
 refine Yf<|ze (α:=Nat×(O2×O2×O2×O2)×List TV×List TV×LI) [(7,17),(37,99),(100,118)] (λz=>[(37,sS z.1)]) (λz ds W'=>z.1<=q.ts.length/\O5 [H] J W'/\qw ↑J ↑W' ds W'/\QZ ↑W' H 163 [q.s.va,sS q.s.a.st,q.s.vm,q.s.ve,z.2.1.1,z.2.1.2.1,z.2.1.2.2.1,z.2.1.2.2.2] /\
  KT ↑J W' z.2.1.1 z.2.1.2.1 z.2.1.2.2.1 z.2.1.2.2.2 z.2.2.1 z.2.2.2.1 z.2.2.2.2 (spF q.c.V q.p.a (q.qs.map (·.2)) (T.take z.1))/\z.2.2.1.map (·.2)=(T.take z.1).map (·.take q.c.co.length)/\z.2.2.2.1.map (·.2)=(T.take z.1).map (·.drop q.c.co.length)/\z.2.2.2.2=(T.take z.1).map (λt=>plx (q.qs.map (·.2)) (t.take q.c.co.length)))
  (λz=>q.ts.length - z.1) om (0,(nS,nS,nS,nS),[],[],[]) La
  ⟨Lo _,O5.Z _ _,⟨MN,λD hD=>by cases hD⟩,h4,KT.nil _ _,rfl,rfl,rfl⟩ ?_
 rintro⟨k,⟨v1,v2,v3,O⟩,cos,rqs,pls⟩ g ds w7 ⟨hk,kk,m7,kn,S,gh,gi,gj⟩;simp only[]at hk kn S gh gi gj;have gk:sX w3 w7:=m3.O kk kh;have m8:=mz.D gk;have hz7:=kk.size;have gy:(T.take k).length=k:=by rw[LB];omega
 have hcosl:cos.length=k:=by have:=OV oQ gh;rw[Lh,Lh,gy]at this;exact this
 have hrqsl:rqs.length=k:=by have:=OV oQ gi;rw[Lh,Lh,gy]at this;exact this
 have hplsl:pls.length=k:=by rw[gj,Lh,gy]
 have m9:=Qe5 q.c.V q.p.a (q.qs.map (·.2)) (T.take k);rw[gy]at m9;refine Zf (spF q.c.V q.p.a (q.qs.map (·.2)) (T.take k)) λfbs gz=>?_;rw[gz]at S m9;refine Zf (ob v1++(ob v2++(ob v3++ob O))) λav gl=>?_;have hZ:∀x∈av,↑J<=x/\x<w7.heap.size:=λx hx=>by
  rw[<-gl]at hx;rcases QcK hx with G|G|G|G
  ·exact Qg S.o1 x G
  ·exact Qg S.o2 x G
  ·exact Qg S.o3 x G
  exact Qg S.o4 x G
 have g0:H∉av:=λI=>ov (hZ H I).1
 have ko:∀x∈av,x∈H::av:=λx hx=>Lk _ hx;have g2:Kc (H::av) b ↑w7 q:=(ho.up (λx hx=>.inr (by
  rcases Lj.1 hx with rfl|hx
  ·exact kh
  have:=(hZ x hx).1;omega))).I gk
 refine Zk<|QI om om<|Z5 U U<|xe<|Zk<|Qa5 U (λpa=>?_) (λpa=>?_)
 ·refine VS ?_;rw[Lu oa]at gh gi gj gz;have hsp:=QdX hQ.p hQ.s;rw[hT,hY,<-gh,<-gi,<-gj,gz]at hsp;have pc:=hw.D gk;refine Zk<|QI om om<|QT kn U U<|QK [q.s.va,sS q.s.a.st,q.s.vm,q.s.ve,v1,v2,v3,O] (gw.I pc) ⟨ho.s.al.one,U,ho.s.mr.one,ho.s.ed.one,Qp S.o1,Qp S.o2,Qp S.o3,Qp S.o4,Z⟩ λw8 g3 z1=>Qb ?_;have z2:b2<J.heap.size:=oa
  have gm:qw ↑J ↑w7 ds w8:=m7.blk g3 (gw.I pc);have z3:b2∉ds:=λI=>ov (gm.2 b2 I).1
  have z4:=S.low g3 (λx hx=>by simp only[oJ]at hx;subst hx;exact z2);refine VR ⟨λD hD=>(gm.2 D hD).2.2,gm.1,[.agg #[q.s.va,sS q.s.a.st,q.s.vm,q.s.ve,v1,v2,v3,O],sS E],λW' hM=>?_⟩;have g4:Lg.X5 [] w8 W':=Lg.X5.nonc hM (λD hD=>⟨_,(gm.2 D hD).2.2,U⟩);have ga:=hM.size;have h5:=z4.cst g4 ga;refine⟨⟨Yl (z1.J hM z3),OV sS m2.symm,Z⟩,(m8.O g3 oa).S hM (λD hD=>.inr (ov (gm.2 D hD).1)),_,U,⟨_,U,U,ho.s.al.one,U,ho.s.mr.one,ho.s.ed.one,Qp S.o1,Qp S.o2,Qp S.o3,Qp S.o4,Z⟩,λ_=>?_⟩;have z5:pls.length<=1099511627776:=oa
  have hl8:fbs.length<=1099511627776:=oa
  rw[hsp];refine⟨q.s.va,q.s.vm,q.s.ve,v1,v2,v3,O,cos,rqs,U,U,U,λL hL=>⟨?_,⟨QB h5.o1 oa (λx hx I=>?_),λp hp=>h5.e1 p hp L (λx hx=>?_)⟩,⟨QB h5.o2 oa (λx hx I=>?_),λp hp=>h5.e2 p hp L (λx hx=>?_)⟩,QB h5.o3 z5 (λx hx I=>?_),QB h5.o4 hl8 (λx hx I=>?_)⟩⟩
  ·have G:=((za (b2::L) (λx hx=>by
    rcases Lj.1 hx with rfl|hx
    ·exact kf
    have:=hL x hx;omega)).1.I gk).st (g3.Y (λx hx=>by simp only[oJ]at hx;subst hx;exact Lq))
   have h2:=G.up (L':=L) (λx hx=>.inl (Lk _ hx));exact⟨h2.al.cst (g4.Y od) ga,h2.mr.cst (g4.Y od) ga,h2.ed.cst (g4.Y od) ga⟩
  ·have:=(Qg h5.o1 x hx).1;have:=hL x I;omega
  ·exact .inl (ov (hL x hx))
  ·have:=(Qg h5.o2 x hx).1;have:=hL x I;omega
  ·exact .inl (ov (hL x hx))
  ·have:=(Qg h5.o3 x hx).1;have:=hL x I;omega
  have:=(Qg h5.o4 x hx).1;have:=hL x I;omega
 have gn:k<q.ts.length:=by have h39:(k:Int)<(q.ts.length:Int):=pa;omega
 have go:k<T.length:=oa
 have pd:=Lm gn;have hTe:T[k]'go=(q.ts[k]'gn).2:=by subst hT;simp
 have hq:=Qit (c:=q.c.V) (pl:=q.p.a) (ps:=q.qs.map (·.2)) go;have gp:T.take (k+1)=T.take k++[T[k]'go]:=Ln go;have gb:=kj _ (Lm go);rw[gz]at hq;rw[hTe]at hq gp gb;refine YV<|Qgr (α:=(O2×O2×O2×O2)×List TV×List TV×LI) [(7,17),(38,117)] (λz=>[(37,sS k)]) (λz hN W'=>O5 [H] J W'/\qw ↑J ↑W' hN W'/\QZ ↑W' H 163 [q.s.va,sS q.s.a.st,q.s.vm,q.s.ve,z.1.1,z.1.2.1,z.1.2.2.1,z.1.2.2.2] /\
  KT ↑J W' z.1.1 z.1.2.1 z.1.2.2.1 z.1.2.2.2 z.2.1 z.2.2.1 z.2.2.2 (spF q.c.V q.p.a (q.qs.map (·.2)) (T.take (k+1)))/\z.2.1.map (·.2)=(T.take (k+1)).map (·.take q.c.co.length)/\z.2.2.1.map (·.2)=(T.take (k+1)).map (·.drop q.c.co.length)/\z.2.2.2=(T.take (k+1)).map (λt=>plx (q.qs.map (·.2)) (t.take q.c.co.length))) om ?_ ?_
 rotate_left
 ·rintro⟨⟨u1,u2,u3,u4⟩,cos',rqs',pls'⟩ g hN W ⟨hsW,hDW,hBW,hSW,G,h2,h3⟩;refine QI om om<|QH U U<|Qa<|xe ?_;exact⟨(k+1,(u1,u2,u3,u4),cos',rqs',pls'),og,La,gn,hsW,hDW,hBW,hSW,G,h2,h3⟩
 refine Yf<|Zk<|QI om om<|Qa<|xig (g:=YS) Us g2.ts.arr U U gn λa40 pf=>?_;refine Zf (q.ts[k]'gn) λt ht=>?_;rw[ht]at pf pd hq gp gb;have htl:t.2.length=q.c.co.length+q.c.rq.length:=by rw[gb.1,zv]
 refine x (Qy pf U)<|QM [sS 0] λb7 w9 hs9 hb7 hB9=>Qn<|Qu (j:=0) (u:=sS k) hB9 U U ol U λw10 hs10 hB10 =>
  Qb ?_
 have kq:sX w7 w10:=hs9.O hs10 hb7;refine Zk<|QI om om<|Qa<|Qa<|Qz<|(Qcj (g2.I kq) ((g2.ts.each t pd).I kq) oa).Y ?_;rintro r11 pg ⟨ph,v9,pj,rfl,hH,h6⟩;refine Qa<|QW U U<|QW U U<|x Qi<|Qb ?_;have kr:=kq.D ph;have kt:=g2.I kr;refine Zf (t.2.take q.c.co.length) λtc hO=>?_;refine Zf (t.2.drop q.c.co.length) λtr gq=>?_;rw[hY]at hq;rw[hO]at hH hq;rw[gq]at h6;have htcl:tc.length=q.c.co.length:=by rw[<-hO,LB];omega
 have htrl:tr.length=q.c.rq.length:=by rw[<-gq,LY];omega
 have hbdt:=gb.bd (m:=4096) (λa ha=>by
  rcases Lc.1 ha with ha|ha
  ·exact(Y8 hU.co a ha).st1
  exact(Y8 hU.rq a ha).st1)
 have pm:∀x∈tc,0<=x/\x<4096:=λx hx=>hbdt x (LX (by rw[hO];exact hx));refine Zk<|jB (sX pg) [oE 0,oE 1,oE 2,oE 3,oE 4,oF 5,oE 6,oE 7] mixed om om oe (O5.C _ _) ?_;refine p Qv<|p (Yt U)<|p (QG U)<|pq (λ_ hc=>Qk (kt.B.I hc) U U)<|p Qv<|pk<|xg<|(QbW (hH.I (O5.C _ _)) ((mt.I (m8.D kr)).I (O5.C _ _)) pm oa).Y ?_;rintro r12 hf ⟨rfl,hs12⟩;have gc:=(O5.C [] pg).D hs12;refine⟨gc,?_⟩;have pn:(match O9 q.mm (Vl tc)with|some u=>u|none=>sS 0)=sS (plx (q.qs.map (·.2)) tc):=by
  rw[hQ.m tc htcl (λx hx=>(pm x hx).1)];unfold plx;by_cases I:tc∈q.qs.map (·.2)
  ·rw[OU I,OU I]
  rw[OT I,OT I]
 refine Zf (plx (q.qs.map (·.2)) tc) λpi ku=>?_;rw[ku]at pn hq;refine pq (λ_ hc=>(JM (k:=Vl tc) (kt.m.I hc) U U).D (OV (λv=>Result.ok (Next.value v) _) pn))<|p ZG<|pe ?_;have gg:=kr.D gc;have hH:=hH.I gc;have h6:=h6.I gc;have h4:=kn.I gg;have gr:=S.I gg;have hS12d:=gr.I (O5.C [] hf);have hz712:=gg.size;have hzd:({ hf with drawn:=hf.drawn+1 }:O1).heap.size=hf.heap.size:=rfl
 have hC0:O5 av hf { hf with drawn:=hf.drawn+1 }:=O5.C _ _
 have fin:∀{hg hh hl hi hj:O2} {wx wy:O1},O5 av hf wx->KT ↑J wx hg hh hl O (cos++[(hi,tc)]) (rqs++[(hj,tr)]) (pls++[pi]) fbs->O5 [H] wx wy->QZ ↑wy H 163 [q.s.va,sS q.s.a.st,q.s.vm,q.s.ve,hg,hh,hl,O] ->
   O5 (H::av) hf wy/\QZ ↑wy H 163 [q.s.va,sS q.s.a.st,q.s.vm,q.s.ve,hg,hh,hl,O]/\KT ↑J wy hg hh hl O (cos++[(hi,tc)]) (rqs++[(hj,tr)]) (pls++[pi]) fbs:=λhC hP hs hB =>
  ⟨(hC.Y ko).Q (hs.Y (λx hx=>by simp only[oJ]at hx;subst hx;exact Lq)),hB,hP.low hs (λx hx=>by simp only[oJ]at hx;subst hx;exact ki)⟩
 have hkl:k<=4096:=oa
 have htr16:tr.length<=16:=oa
 have htc40:tc.length<=1099511627776:=oa
 have htr40:tr.length<=1099511627776:=oa
 have mv:cos.length+1<=1099511627776:=oa
 have kf:rqs.length+1<=1099511627776:=oa
 have hl3:pls.length+1<=1099511627776:=oa
 have gs:J.heap.size<=hf.heap.size:=oa
 refine Qgr (α:=O2×O2×O2×O2×O2) [(55,74)] (λ_=>[]) (λz hN w'=>hN=ds/\O5 (H::av) hf w'/\QZ ↑w' H 163 [q.s.va,sS q.s.a.st,q.s.vm,q.s.ve,z.1,z.2.1,z.2.2.1,O]/\KT ↑J w' z.1 z.2.1 z.2.2.1 O (cos++[(z.2.2.2.1,tc)]) (rqs++[(z.2.2.2.2,tr)]) (pls++[pi]) fbs) om ?_ ?_
 ·refine Qlk (α:=O2×O2×O2×O2) (O5 av hf) [oE 0,oE 1,oE 2,oE 6,oE 7,oE 8,oE 12,oE 13,oE 14] [oF 3,oF 4,oF 5,oE 17,oF 9,oF 10,oF 11] 15 70
   [oF 16,oF 18,oE 19,oF 20,oE 21,oF 22] av [(55,74)] [(58,60),(64,66),(72,72)] (λz=>[(60,z.1),(66,z.2.1),(68,v3),(72,.pointer (some ⟨H,4,none⟩))]) (λz w'=>O5 av hf w'/\KT ↑J w' z.1 z.2.1 v3 O (cos++[(z.2.2.1,tc)]) (rqs++[(z.2.2.2,tr)]) pls fbs)
   (λv w'=>∃b,v=sL b 1 1/\QZ ↑w' b 3 [sS pi]) mixed om om oe om U hC0 (λx hx=>LQ (hZ x hx).2 hz712) ?_ ?_ ?_ ?_
  ·rintro v own w w' ⟨b,rfl,hB⟩ hs hn;exact⟨b,U,hB.J hs (hn b ou)⟩
  ·rintro z w w' ⟨G,h2⟩ hs;exact⟨G.D hs,h2.I hs⟩
  ·rintro⟨hg,hh,hi,hj⟩ g wz v ⟨po,hP⟩ _ ⟨b15,rfl,g5⟩;have hcz:=po.size;refine pk<|Q2 (news:=[sS pi]) (L:=[]) hP.o3 U U U (g5.at od) oq hl3 (LH gs hcz) λhl y1 g6 hG hn1=>?_;have Q1:=KT.a3 (q:=pi) hP (O5.Z [] _) g6 hG hn1;have kv:O5 av hf y1:=po.Q (hG.Y (λb hb=>by rw[<-gl];exact y7 (.inr (.inr (.inl hb)))));refine⟨kv,?_⟩;refine pkk<|Qu (j:=4) (u:=hg) (h4.J kv g0) U U od (Qp Q1.o1) λy2 h8 kw=>p (QG rfl) <|
    pkk<|Qu (j:=5) (u:=hh) kw U U od (Qp Q1.o2) λy3 hw hB3'=>p (QG rfl) <|
    pkk<|Qu (j:=6) (u:=hl) hB3' U U od (Qp Q1.o3) λy4 hK hB4'=>pe ?_
   exact⟨(hg,hh,hl,hi,hj),Z,U,fin kv Q1 ((h8.Q hw).Q hK) hB4'⟩
  refine p (QG U)<|pq (λ_ hc=>Qk (h4.J hc g0) U U)<|p Qv<|p (QG U)<|pq (λ_ hc=>Qk (h4.J hc g0) U U)<|p Qv <|
   p (QG rfl)<|pq (λ_ hc=>Qk (h4.J hc g0) U U)<|p Qv<|pe ⟨λg wf hCf=>Za [[sS pi]] λb wf' pp hbf pu=>⟨pp,hCf.D pp,⟨b,U,pu⟩,λx hx=>?_⟩,?_⟩
  ·have hxe:x=b:=by
    have hx':x∈[b]:=hx;simpa using hx'
   subst hxe;exact⟨hbf,pu.lt⟩
  have pw:∀{X:LN},(∀x∈X,x∈ob v1\/x∈ob v2)->∀x∈X,x∈av:=λhX x hx=>by rw[<-gl];exact y7 ((hX x hx).imp id .inl)
  refine fk λx1 p1 c1=>xg<|(Z3 (hH.J c1 ko)).Y ?_;rintro hi y1 ⟨hG,g6⟩;have P1:=hS12d.I p1;refine⟨c1.D hG,av,hG.any,λb hb=>.inl hb,?_⟩;refine fk λx2 p2 c2=>Xy (us:=[[hi]]) U U ol od ⟨xL g6,rfl,Z⟩ λb2' y2 h8 hb2' kw=>⟨c2.D h8,av,h8.any,λb hb=>.inl hb,?_⟩;refine fk λx3 p3 c3=>?_;have pz:=((hG.D p2).D h8).D p3;have p0:=Ql g6 ((p2.D h8).D p3);refine Q2 (news:=[hi]) (L:=[]) (Ql P1.o1 pz) U U U ((kw.I p3).at od) (λu hu=>by rw[oJ]at hu;subst hu;exact Qp p0) mv (LH gs c3.size) λhg y3 ho4 hw hn3=>?_;have p7:O5 av x3 y3:=hw.Y (pw λx hx=>.inl hx);refine⟨c3.Q p7,av,p7,λb hb=>.inl hb,?_⟩;refine fp (QG U) ?_;refine fk λx4 p4 c4=>xg<|(Z3 (h6.J c4 ko)).Y ?_;rintro hj y4 ⟨hK,p8⟩;have P3:=(KT.a1 (q:=(hi,tc)) P1 pz p0 htc40 (Lx _) (LH gs c1.size) ho4 hw hn3).I p4;refine⟨c4.D hK,av,hK.any,λb hb=>.inl hb,?_⟩;refine fk λx5 p5 c5=>Xy (us:=[[hj]]) U U ol od ⟨xL p8,rfl,Z⟩ λb5' y5 hR hb5' hB5'=>⟨c5.D hR,av,hR.any,λb hb=>.inl hb,?_⟩;refine fk λx6 p6 c6=>?_;have p9:=((hK.D p5).D hR).D p6;have qc:=Ql p8 ((p5.D hR).D p6);refine Q2 (news:=[hj]) (L:=[]) (Ql P3.o2 p9) U U U ((hB5'.I p6).at od) (λu hu=>by rw[oJ]at hu;subst hu;exact Qp qc) kf (LH gs c6.size) λhh y6 ho7 gx hn6=>?_;have kx:O5 av x6 y6:=gx.Y (pw λx hx=>.inr hx);refine⟨c6.Q kx,av,kx,λb hb=>.inl hb,?_⟩;exact fe ⟨(hg,hh,hi,hj),oD,c6.Q kx,(KT.a2 (q:=(hj,tr)) P3 p9 qc htr40 (Lx _) (LH gs c4.size) ho7 gx hn6)⟩
 rintro⟨hg,hh,hl,hi,hj⟩ g hN kz ⟨rfl,hI,hB13,hS13⟩;have hz13:=hI.size;have qf:=(kt.I gc).st hI;have hH:=hH.st hI;have h6:=h6.st hI;have g7:Kc [] b ↑kz q:=qf.up od;have hcell:∀x∈H::av,∃o:Obj,hf.heap[x]?=some o/\o.isCells=true:=λx hx=>by
  rcases Lj.1 hx with rfl|hx
  ·exact h4.cells
  rw[<-gl]at hx;rcases QcK hx with G|G|G|G
  ·exact Go.Lg.QV gr.o1 x G
  ·exact Go.Lg.QV gr.o2 x G
  ·exact Go.Lg.QV gr.o3 x G
  exact Go.Lg.QV gr.o4 x G
 have hD13:qw ↑J ↑w7 hN kz:=((m7.up (Lx _)).I gg).J hI hcell;have hb7n:b7∉H::av:=λI=>by
  rcases Lj.1 I with G|G
  ·omega
  have:=(hZ _ G).2;omega
 have hb1n:b1∉H::av:=λI=>by
  rcases Lj.1 I with G|G
  ·omega
  have:=(hZ _ G).1;omega
 have ql:=((hB10.I ph).I gc).J hI hb7n;have hB1c:=((mw.I (hw.D gk)).I gg).J hI hb1n;have hs613:O5 [H] J kz:=(kk.D gg).S hI (λx hx=>by
  rcases Lj.1 hx with G|G
  ·subst G;exact .inl Lq
  exact .inr (hZ x G).1)
 have k0:(cos++[(hi,tc)]).map (·.2)=(T.take (k+1)).map (·.take q.c.co.length):=by rw[gp,Lr,Lr,gh,Nc,Nc,hO]
 have k4:(rqs++[(hj,tr)]).map (·.2)=(T.take (k+1)).map (·.drop q.c.co.length):=by rw[gp,Lr,Lr,gi,Nc,Nc,gq]
 have k5:pls++[pi]=(T.take (k+1)).map (λt=>plx (q.qs.map (·.2)) (t.take q.c.co.length)):=by rw[gp,Lr,gj,Nc,hO,ku]
 have hVc:Vt (O7 q.c.V.co) tc:=by
  have G:=gb.take;rw[show(O7 q.c.V.co).length=q.c.co.length by unfold O7;rw[Lh];exact hY,hO]at G;exact G
 have hVr:Vt (O7 q.c.V.rq) tr:=by
  have G:=gb.drop;rw[show(O7 q.c.V.co).length=q.c.co.length by unfold O7;rw[Lh];exact hY,gq]at G;exact G
 have gt:=QcB hQ.ok hQ.p;have hpr:=QiR gt.2.2.1 tc;rw[ku,<-gt.2.1]at hpr;have hckp:cks q.p.a pi=0:=by
  unfold cks;rw[OT (by rw[(Z4 q.p.a).2 gt.1];decide),OT oa]
 have hvo:=zp g7.k1 g7.k2 g7.k3 (hH.up (L':=[]) od) (by rw[hQ.ex,hQ.cs];exact hU.cd) hVc.tpOk;have h9:rsn q.c.V q.p.a pi k t.2=(match vio q.c.V tc with|some (kd,j)=>some ⟨k,kd,j,-1⟩|none=>match rfd q.c.V tr (Qhl q.p.a pi)with|some (j,v)=>some ⟨k,3,j,v⟩|none=>none):=by unfold rsn;rw[hY,hO,gq];rfl
 rw[Qh8]at h9;rw[hQ.ex,hQ.cs]at hvo;refine Zf (UO q.c.V.ex q.c.V.cs tc) λV hV=>?_;rw[hV]at hvo h9;refine Zk<|Zk<|QI om om<|Qa<|Yd U<|QQ U<|x (Zh (us:=[q.vs,q.vx,q.vk]) g7.B U U U)<|Qa<|Qz<|hvo.Y ?_;rintro r14 k6 ⟨h7,rfl⟩;refine Qa<|QW U U<|QW U U<|QW U U<|QW U U<|x Qi<|x Qi<|x Qi<|Qb ?_;have g8:=hB13.I h7;have hJ:=hS13.I h7;have qm:=hD13.I h7;have qo:=hs613.D h7;have hz14:=h7.size;have qr:fbs.length+1<=1099511627776:=oa
 have hb014:J.heap.size<=k6.heap.size:=oa
 have hz714:w7.heap.size<=k6.heap.size:=oa
 refine Zk<|QI om om<|Qa<|xe<|UK rfl (λk7=>?_) (λk7=>?_)
 ·rw[OU k7]at h9;rw[h9]at hq;refine Zk<|QI om om<|Qo U g8 U U<|Xn (ql.I h7) U U<|Qa<|Qa<|x (Qx ⟨U,U,U,U,Z⟩) <|
   Qn<|Za [Z2 ⟨k,V.1,V.2.1,-1⟩] λb93 y1 hA hb93 k8=>?_
  have q0:=hA.size;refine Qn<|Q2 (m:=1) (news:=Z2 ⟨k,V.1,V.2.1,-1⟩) (L:=[]) (Ql hJ.o4 hA) U U U (k8.at od) oq qr (LH hb014 q0) λu4 y2 gu gv k9=>?_;have ma:H∉ob O:=λI=>ov (Qg hJ.o4 _ I).1
  refine QQ U<|Qn<|Qu (j:=7) (u:=u4) ((g8.I hA).J gv ma) U U od (Qp gu) λy3 mf mg=>xe ?_;have hr:=KT.add (q:=⟨k,V.1,V.2.1,-1⟩) g8 hJ ki hA gu gv k9 mf;refine VS<|⟨((hg,hh,hl,u4),cos++[(hi,tc)],rqs++[(hj,tr)],pls++[pi]),La,qo.S hr.1 (λx hx=>?_),((qm.J hr.1 hr.2.2).up (LH hz714 hr.1.size)),mg,?_,k0,k4,k5⟩
  ·rcases Lj.1 hx with G|G
   ·subst G;exact .inl Lq
   exact .inr (Qg hJ.o4 x G).1
  simp only[];rw[hq];exact hr.2.1
 rw[OT (by rw[k7];decide)]at h9;refine YV ?_;have h6:=h6.I h7;refine Zk<|QI om om<|Qa<|Qa<|Qa<|Qz<|(zh (b:=b) (st:=pi) (vr:=pj) h6.cells).Y ?_;rintro r15 g9 ⟨hF,c1,c2,c3,rfl,hc1,hc2,hc3,hR1,hR2,hR3⟩;refine xe ?_;have hz15:=hF.size;have g5:=g8.I hF;have q1:=hJ.I hF;have q2:=qm.I hF;have q3:=qo.D hF;refine Zf (wrf q.c.V.rq tr (enb q.p.a pi)) λfl ka=>?_;have q4:∀x∈H::ob O,x∈H::av:=λx hx=>by
  rcases Lj.1 hx with rfl|hx
  ·exact Lq
  exact Lk _ (by rw[<-gl];exact y7 (.inr (.inr (.inr hx))))
 have mh:∀x∈H::ob O,x<k6.heap.size:=λx hx=>by
  rcases Lj.1 hx with rfl|hx
  ·omega
  exact(Qg hJ.o4 x hx).2
 have q5:Kc (H::ob O) b ↑g9 q:=((qf.I h7).I hF).up (λx hx=>.inl (q4 x hx));have hIr15:QL (H::ob O) ↑g9 pj tr:=(h6.I hF).up (λx hx=>.inl (q4 x hx));have hEv:∀p∈fl,0<=p.1/\p.1<(q.c.ev.length:Int):=λp hp=>by
  rw[<-ka]at hp;have G:=(zR.1 hp).1;unfold enb at G;obtain⟨e,he,h2⟩:=LD.1 G;have h3:=gt.2.2.2 _ (gt.1.ed e (ZV he).1).2.2.1;rw[h2]at h3;exact h3
 refine Yf<|QdF (α:={ x:Int×Int // x∈fl }) (H::ob O) oa (capt:=[sP c1,sP c2,sP c3]) U (encs:=λx=>[sS x.1.1,sS x.1.2]) ol (λ_=>U)
  (UU hR1 hR2 hR3 (λI=>ov (mh _ I)) (λI=>ov (mh _ I)) (λx hx=>ov (mh _ hx)) q5 hIr15 (λx hx=>hU.rq x.it (LP hx)) hVr hckp U ka)
  (λpre W=>(∀y∈pre,(q.c.V.ev.getD y.1.1.toNat ⟨.empty,false,false,false,0⟩).co=true)/\sX g9 W) (λpre=>(YI.pure _).and (YI.J (Lx _)))
  (λe pre W=>e=.exit 2/\(∃p y,pre=p++[y]/\(∀y∈p,(q.c.V.ev.getD y.1.1.toNat ⟨.empty,false,false,false,0⟩).co=true)/\(q.c.V.ev.getD y.1.1.toNat ⟨.empty,false,false,false,0⟩).co=false /\
   ∃u4,O5 (H::ob O) g9 W/\QZ ↑W H 163 [q.s.va,sS q.s.a.st,q.s.vm,q.s.ve,hg,hh,hl,u4]/\KT ↑J W hg hh hl u4 (cos++[(hi,tc)]) (rqs++[(hj,tr)]) (pls++[pi]) (fbs++[⟨k,3,y.1.2,y.1.1⟩])/\qw ↑J ↑w7 hN W))
  (λe pre=>(YI.pure _).and (YI.ex λp=>YI.ex λy=>(YI.pure _).and ((YI.pure _).and ((YI.pure _).and (YI.ex λu4=>(YI.J (Lx _)).and (YI.blk.and ((YI.cst λW W' h hc hz=>h.cst hc hz).and (qw.stb oa))))))))
  ⟨λy hy=>(by cases hy),O5.Z _ _⟩
  (λf x f' W=>f'=upd (upd (upd (upd f 100 (sS x.1.1)) 101 (sS x.1.2)) 16 (sS x.1.1)) 17 (sS x.1.2)) (λx f'=>YI.pure _) ?_ ?_ ?_ ?_
 ·rintro l pre ⟨⟨e,i⟩,he⟩ W Y;refine Zk<|QI om om<|Qb<|QI om om<|Qb<|⟨U,Vg.refl _ _ _,Lg.X5.refl _ _,Y,U⟩
 ·rintro l pre ⟨⟨e,i⟩,he⟩ f' W ⟨kb,Y⟩ rfl _;have hee:=hEv _ he;have hen:e=(e.toNat:Int):=oa
  have kc:e.toNat<q.c.ev.length:=oa
  refine Yf<|Zk<|QI om om<|QQ U<|x (Qk ((hB1c.I (h7.D hF)).I Y) U U)<|Qa<|xig (g:=Zs) (i:=e.toNat) U9 (q5.I Y).c.ev.arr U (OV sS hen) kc λa105 q6=>?_;have hge:q.c.V.ev.getD e.toNat ⟨.empty,false,false,false,0⟩=q.c.ev[e.toNat]'kc:=by
   show q.c.ev.getD e.toNat _=_;simp[oR,kc]
  refine Zf (q.c.ev[e.toNat]'kc) λv hv=>?_;rw[hv]at q6 hge;refine x (Zd U)<|x (Qy (q6.fld 1 (.bool v.co) U) U)<|x (Zy U)<|xe<|UK U (λmj=>?_) (λmj=>?_)
  ·have mo:v.co=false:=by simpa using mj
   have hS:=q1.I Y;have hB:=g5.I Y;have ga:=Y.size;refine Zk<|QI om om<|Qo U hB U U<|x (Qk ((ql.I (h7.D hF)).I Y) U U)<|Qa<|Qa<|x (Qx ⟨U,U,U,U,Z⟩) <|
    Qn<|Za [Z2 ⟨k,3,i,e⟩] λb93 y1 hA hb93 k8=>?_
   have q0:=hA.size;refine Qn<|Q2 (m:=1) (news:=Z2 ⟨k,3,i,e⟩) (L:=[]) (Ql hS.o4 hA) U U U (k8.at od) oq qr oa λu4 y2 gu gv k9=>?_;have ma:H∉ob O:=λI=>ov (Qg hJ.o4 _ I).1
   refine QQ U<|Qn<|Qu (j:=7) (u:=u4) ((hB.I hA).J gv ma) U U od (Qp gu) λy3 mf mg=>xe ?_;have hr:=KT.add (q:=⟨k,3,i,e⟩) hB hS ki hA gu gv k9 mf;refine VS ?_;exact⟨Vg.J hr.1 ga (λx hx=>⟨.inl hx,hr.2.2 x hx⟩),U,pre,_,U,kb,by simp only[];rw[hge];exact mo,u4,Y.any.Q hr.1,mg,hr.2.1,(q2.I Y).J hr.1 hr.2.2⟩
  have mo:v.co=true:=by simpa using mj
  refine YV<|⟨Vg.refl _ _ _,Lg.X5.refl _ _,λy hy=>?_,Y⟩;rcases Lc.1 hy with G|G
  ·exact kb y G
  simp only[oJ]at G;subst G;simp only[];rw[hge];exact mo
 ·rintro D xs W hD hxs ⟨kb,Y⟩ mq;have ms:rfd q.c.V tr (Qhl q.p.a pi)=none:=yC λx hx=>by
   rw[show wrf q.c.V.rq tr (Qhl q.p.a pi)=fl from ka,<-hxs]at hx;obtain⟨y,hy,rfl⟩:=LD.1 hx;exact kb y hy
  rw[ms]at h9;rw[h9]at hq;refine⟨((hg,hh,hl,O),cos++[(hi,tc)],rqs++[(hj,tr)],pls++[pi]),La,q3.D Y,(q2.I Y).cons oa oa mq,g5.I Y,?_,k0,k4,k5⟩;simp only[];rw[hq];simpa using(q1.I Y)
 rintro D e pre W hD hSp ⟨rfl,p,y,rfl,hp,hy,u4,hst,hBu,hSu,hDu⟩ mq _;have ms:rfd q.c.V tr (Qhl q.p.a pi)=some (y.1.2,y.1.1):=by
  obtain⟨rs,j1⟩:=hSp;rw[Lr]at j1;refine yB (x:=y.1) (t:=rs) (p:=p.map (·.1)) ?_ (λz hz=>?_) hy
  ·exact(show wrf q.c.V.rq tr (Qhl q.p.a pi)=fl from ka).D (j1.symm.D od)
  obtain⟨z',hz',rfl⟩:=LD.1 hz;exact hp z' hz'
 rw[ms]at h9;rw[h9]at hq;refine⟨((hg,hh,hl,u4),cos++[(hi,tc)],rqs++[(hj,tr)],pls++[pi]),La,q3.S hst (λx hx=>?_),hDu.cons oa oa mq,hBu,?_,k0,k4,k5⟩
 ·rcases Lj.1 hx with G|G
  ·subst G;exact .inl Lq
  exact .inr (Qg hJ.o4 x G).1
 simp only[];rw[hq];exact hSu
theorem At.from {a:Addr}(h:At L H a us)(j:Nat):At L H (a.add j) (us.drop j):=
 ⟨λu E=>by rw[YB];exact h.out u (Ma E),λu E=>by rw[YB];exact h.lt u (Ma E),λi v G=>by
  rw[Addr.add_add];exact h.cell (j+i) v (by rw[<-My];exact G)⟩
def lwB (l:LI)(n:Int):Nat:=(l.filter λx=>decide (x<n)).length
theorem QoV {n:Int}(_:Xa l)(hi:i<=l.length)(H:∀m (E:m<l.length),m<i->l[m]<n)(I:∀m (E:m<l.length),i<=m->n<=l[m]):lwB l n=i:=by
 unfold lwB;have e1:(l.take i).filter (λx=>decide (x<n))=l.take i:=NL.2 λx hx=>by
  obtain⟨m,E,rfl⟩:=LO hx;rw[Nh];have G:m<i/\m<l.length:=by rw[LB]at E;omega
  exact OX (H m G.2 G.1)
 have e2:(l.drop i).filter (λx=>decide (x<n))=[]:=Nq.2 λx hx=>by
  obtain⟨m,E,rfl⟩:=LO hx;rw[List.getElem_drop];have G:i+m<l.length:=by rw[LY]at E;omega
  have:=I (i+m) G oa;simp;omega
 have J:l.filter (λx=>decide (x<n))=l.take i:=by
  conv=>lhs;rw[<-MG i l]
  rw[L4,e1,e2,LS]
 rw[J,LB];omega
theorem Qft:∀{l:LI}{n:Int},Xa l->n∈l->lwB l n=l.idxOf n
 | [],_,_,h=>by cases h
 | a::l,n,hi,h=>by
  have E:=L8.1 hi;unfold lwB;by_cases e:a=n
  ·subst e;have e2:l.filter (λx=>decide (x<a))=[]:=Nq.2 λx hx=>by have:=E.1 x hx;simp;omega
   rw[Md,OT od,e2];simp
  have H:n∈l:=by
   rcases Lj.1 h with G|G
   ·exact OW G.symm e
   exact G
  have ih:=Qft E.2 H;unfold lwB at ih;rw[Md,OU (OX (E.1 n H)),LU,ih,List.idxOf_cons];have:(a == n)=false:=by simpa using e
  rw[this];rfl
theorem Qdx {v:O2}(h:QL L ↑w v l)(hi:Xa l)(n:Int):
  QY sV 168 [v,sS n] w λr w'=>w'=w/\r=.tuple #[sS (lwB l n),.bool (decide (n∈l))]:=by
 have hs:=h.le;refine Zq func168 ?_;refine Qc<|x Qi<|Qb<|Qj<|QF h U<|Qb<|Qj<|x Qi<|Qb<|Qd<|Q7 (α:=Nat×Nat) [(7,9),(13,30)] (λz=>[(7,sS z.1),(8,sS z.2)])
  (λz w'=>w'=w/\z.1<=z.2/\z.2<=l.length/\(∀m (E:m<l.length),m<z.1->l[m]<n)/\(∀m (E:m<l.length),z.2<=m->n<=l[m])) (λz=>z.2 - z.1) (0,l.length) oB
  ⟨U,Lo _,Lx _,λm _ J=>OW J (Nk m),λm h1 J=>OW h1 (by simp only[]at J;omega)⟩ ?_
 rintro⟨i,j⟩ g w1 ⟨rfl,ht,hj,G,O⟩;refine Qd<|Qj<|Qa<|Z5 U U<|xe<|ZH rfl (λhb=>?_) (λhb=>?_)
 ·have e:i=j:=oa
  subst e;refine Qw<|QX (α:=Bool) [(4,5),(31,53)] (λz=>[(4,sS i),(5,.bool z)]) (λz w'=>w'=w1/\z=decide (n∈l)) om ?_ ?_
  ·refine Qs<|Qa<|Qa<|Qa<|xb (YX U U) (λhc=>?_) (λhc=>?_)
   ·have H:i<l.length:=oa
    refine Qa<|Qa<|Qa<|xii h U U H λhu he=>x (Qy he U)<|Qa<|xb (QR U U) (λS=>?_) (λS=>?_)
    ·refine Qa<|Zt<|Zt<|Zt<|QC U<|QC U<|x Qi<|Qb ?_;have:n∈l:=by rw[<-S];exact Lm H
     exact⟨true,oB,U,by simp[this]⟩
    refine Qa<|Qa<|Qa<|xii h U U H λhv hf=>x (Qy hf U)<|Qz<|(QcR _).Y ?_;rintro r3 w3 ⟨rfl,rfl⟩;refine Qa<|Ys<|QC U<|QC U<|QC U<|x Qi<|Qb<|⟨false,oB,U,?_⟩;have:n∉l:=by
     intro E;obtain⟨m,I,V⟩:=LO E;by_cases hg:m<i
     ·have:=G m I hg;omega
     by_cases hk:m=i
     ·subst hk;exact S V
     have:=Xa.get hi I (show i<m by omega);have:=O i H (Lx _);omega
    simp[this]
   refine Qa<|Zt<|Zt<|Zt<|Zt<|Zt<|KB<|xs U <|
    QC rfl<|x Qi<|Qb<|⟨false,oB,U,?_⟩
   have:n∉l:=by
    intro E;obtain⟨m,I,V⟩:=LO E;have:=G m I oa;omega
   simp[this]
  rintro z g w7 ⟨rfl,rfl⟩;exact Qh ⟨[sS i,.bool (decide (n∈l))],oB,U,by rw[QoV hi (show i<=l.length by omega) G O];rfl⟩
 refine Qf<|Qm<|Qj<|Qa<|QH U U<|x (Z6 U (by exact⟨oa,oa⟩))<|x (Qaf (n:=1) U U ol)<|x (Z6 U (by exact⟨oa,oa⟩))<|Qb ?_;have hh:(((i:Int)+(j:Int)) / 2 ^ 1)=(((i+j) / 2:Nat):Int):=oa
 rw[hh];generalize hq:(i+j) / 2=q;have hl:i<=q:=oa
 have hn:q<j:=oa
 have Y:q<l.length:=oa
 refine Qj<|Qa<|xii h U U Y λhw ho=>x (Qy ho U)<|Qa<|Qz<|(Qfx _ _).Y ?_;rintro r8 w8 ⟨rfl,rfl⟩;refine xe<|ZH rfl (λha=>?_) (λha=>?_)
 ·refine Qs<|Qa<|Qb<|⟨(i,q),og,oB,U,hl,oa,G,λm E hp=>?_⟩;by_cases e:q=m
  ·subst e;omega
  have:=Xa.get hi E (show q<m by simp only[]at hp;omega);omega
 refine Qs<|Qa<|QH U U<|Qb<|⟨(q+1,j),og,oB,U,hn,hj,λm E hr=>?_,O⟩;by_cases e:m=q
 ·subst e;exact ha
 have:=Xa.get hi Y (show m<q by simp only[]at hr;omega);omega
theorem Vd {v:O2}{l:List Ed}(h:Zn L ↑w v l.length 3 (l.flatMap QA)):
  QY sV 104 [v] w λr w'=>sX w w'/\w'.ownsRow ↑w 159 3 r l.length (l.flatMap QA):=by
 have hc:=h.le;refine Zq func104 ?_;refine Qc<|Qb ?_;obtain⟨ao,cap,G⟩:=h.shape;refine Qd<|Qj<|x (XS (show ev _ _=_ from G) U)<|xe<|QU rfl (λH=>?_) (λH=>?_)
 ·refine Qc<|Qb<|Qh ⟨[nS],La,O5.Z _ _,?_⟩;rcases h.2.2 with⟨E,I⟩|⟨a,c,E,_⟩
  ·have:l=[]:=Ls I;subst this;exact QE _ _ _ _
  rw[E]at G;cases G;cases H
 rcases h.2.2 with⟨E,I⟩|⟨a,c,E,I,Y⟩
 ·rw[E]at G;injection G with e1;subst e1;cases H
 refine Qf<|Qc ?_;have ho:∀u∈l.flatMap QA,u.oneCell'=true:=by
  intro u hu;obtain⟨p,_,J⟩:=Me.1 hu;simp only[QA,oL,oK,or_false]at J;rcases J with rfl|rfl|rfl <;> rfl
 refine Qn<|XZ λb5 w1 O S V=>Qa<|Qn<|Q2 (base:=↑w) (V.own (n:=0) (sz:=3) U oa S) U (show ev _ _=_ from E) h.1 (Y.I O) ho oa (ov V.lt) λv2 w2 ha hb he=>Qb<|Qh ⟨[v2],La,O.O hb S,?_⟩;simpa[tup]using ha
theorem UB {v:O2}{l:List Kq}(h:Zn L ↑w v l.length 5 (l.flatMap Zs)):
  QY sV 78 [v] w λr w'=>sX w w'/\w'.ownsRow ↑w 169 5 r l.length (l.flatMap Zs):=by
 have hc:=h.le;refine Zq func78 ?_;refine Qc<|Qb ?_;obtain⟨ao,cap,G⟩:=h.shape;refine Qd<|Qj<|x (XS (show ev _ _=_ from G) U)<|xe<|QU rfl (λH=>?_) (λH=>?_)
 ·refine Qc<|Qb<|Qh ⟨[nS],La,O5.Z _ _,?_⟩;rcases h.2.2 with⟨E,I⟩|⟨a,c,E,_⟩
  ·have:l=[]:=Ls I;subst this;exact QE _ _ _ _
  rw[E]at G;cases G;cases H
 rcases h.2.2 with⟨E,I⟩|⟨a,c,E,I,Y⟩
 ·rw[E]at G;injection G with e1;subst e1;cases H
 refine Qf<|Qc ?_;have ho:∀u∈l.flatMap Zs,u.oneCell'=true:=by
  intro u hu;obtain⟨p,_,J⟩:=Me.1 hu;simp only[Zs,oL,oK,or_false]at J;rcases J with rfl|rfl|rfl|rfl|rfl <;> rfl
 refine Qn<|XZ λb5 w1 O S V=>Qa<|Qn<|Q2 (base:=↑w) (V.own (n:=0) (sz:=5) U oa S) U (show ev _ _=_ from E) h.1 (Y.I O) ho oa (ov V.lt) λv2 w2 ha hb he=>Qb<|Qh ⟨[v2],La,O.O hb S,?_⟩;simpa[tup]using ha
structure Ue {α:Type}(g:α->LV)(sz T:Nat)(ps:α->List (O2×Nat×Nat×LV))(base:Nat)(w:O1)(v:O2)(l:List α):Prop where
 own:w.ownsRow base T sz v l.length (l.flatMap g)
 each:∀q∈l,∀t∈ps q,YO base (ob v) ↑w t.1 t.2.1 t.2.2.1 t.2.2.2
section
variable {g:α->LV}{ps:α->List (O2×Nat×Nat×LV)}{base:Nat}{v:O2}{l:List α}
theorem Ue.nil:Ue g sz T ps base w (nS) []:=⟨QE _ _ _ _,λq E=>by cases E⟩
theorem Ue.I (h:Ue g sz T ps base w v l)(E:sX w w'):Ue g sz T ps base w' v l:=⟨Ql h.own E,λq G t H=>(h.each q G t H).I E⟩
theorem Ue.low {X:LN}(h:Ue g sz T ps base w v l)(E:O5 X w w')(G:∀b∈X,b<base):Ue g sz T ps base w' v l :=
 ⟨Qe h.own E (λb H I=>oy (Qg h.own b H).1 (G b I)),λq J t O=>(h.each q J t O).low E G⟩
theorem Ue.app {E G:O1}{H:O2}{q:α}(h:Ue g sz T ps base w v l)(V:sX w E)
  (Y:∀t∈ps q,∃N e,E.ownsRow N e t.2.2.1 t.1 t.2.1 t.2.2.2/\t.2.1<=1099511627776/\↑w<=N) (I:base<=↑w)
  (ho:G.ownsRow base T sz H (l.length+1) (l.flatMap g++g q)) (J:O5 (ob v) E G) (O:∀b∈ob H,b∈ob v\/↑E<=b):Ue g sz T ps base G H (l++[q]):=by
 refine⟨?_,λd hd t S=>?_⟩
 ·rw[Ll,LA];simpa using ho
 rcases Lc.1 hd with hd|hd
 ·exact((h.each d hd t S).I V).app J O
 simp only[oJ]at hd;subst hd;obtain⟨N,e,h1,h2,h3⟩:=Y t S;exact(YO.of_own h1 h2 oa (λb I=>ov ((Q8 h.own) b I))).app J O
end
abbrev Qg9 (q:IV):List (O2×Nat×Nat×LV):=[(q.p.va,q.p.a.al.length,1,q.p.a.al.map (.int .i64)),(q.p.vm,q.p.a.mr.length,1,q.p.a.mr.map (.int .i64)),(q.p.ve,q.p.a.ed.length,3,q.p.a.ed.flatMap QA)]
abbrev IvP (base:Nat)(w:O1)(v:O2)(l:List IV):Prop:=Ue QJ 5 98 Qg9 base w v l
def Qsa (N:Nat)(H:xA)(v:O2)(l:List XD):Prop:=∃qs:List IV,qs.map IV.it=l/\∀L:LN,(∀b∈L,b<N)->X4 L H v qs
theorem IvP.itms {base:Nat}{v:O2}{l:List IV}(h:IvP base w v l)(I:l.length<=1099511627776)(J:∀q∈l,JF q.nm)(G:∀b∈L,b<base):X4 L ↑w v l :=
 ⟨QB h.own I (λb E hbL=>oy (Qg h.own b E).1 (G b hbL)),λq H=>⟨h.each q H (q.p.va,q.p.a.al.length,1,q.p.a.al.map (.int .i64)) od L (λb E=>.inl (G b E)),h.each q H (q.p.vm,q.p.a.mr.length,1,q.p.a.mr.map (.int .i64)) od L (λb E=>.inl (G b E)),h.each q H (q.p.ve,q.p.a.ed.length,3,q.p.a.ed.flatMap QA) od L (λb E=>.inl (G b E))⟩,J⟩
instance:Bw sV 98 [.string .empty,nS,sS 0,nS,nS] [(0,1),(1,4)]:={}
theorem js {v vi:O2}{ix:LI}(h0:X4 L ↑w v qs)(hC:QL L ↑w vi ix)(hb:∀i∈ix,0<=i/\i<(qs.length:Int)):
  QY sV 223 [v,vi] w λr w'=>sX w w'/\Qsa ↑w ↑w' r (chs (qs.map IV.it) ix)/\r.oneCell'=true:=by
 have h:X4 [] ↑w v qs:=h0.up od;have hi:QL [] ↑w vi ix:=hC.up od;have hP:=hi.le;refine Zq func223 ?_;refine Qc<|Qb<|Qc<|Qb<|Qd<|Qj<|QF hi U<|Qa<|xe<|Q7 (α:=Nat×O2×List IV) [(5,5),(7,8),(11,41)] (λz=>[(5,z.2.1),(11,sS z.1)]) (λz w'=>z.1<=ix.length/\sX w w'/\IvP ↑w w' z.2.1 z.2.2/\z.2.2.map IV.it=chs (qs.map IV.it) (ix.take z.1)/\∀q∈z.2.2,JF q.nm) (λz=>ix.length - z.1) (0,nS,[]) oB
  ⟨Lo _,O5.Z _ _,Ue.nil,U,λq hq=>by cases hq⟩ ?_
 rintro⟨k,vo,qo⟩ g w1 ⟨hk,I,hR1,he,ho⟩;simp only[]at hk hR1 he ho;have hQ:qo.length=k:=by have:=OV oQ he;unfold chs at this;rw[Lh,Lh,LB]at this;omega
 refine Zo rfl U (λhp=>?_) (λhp=>?_)
 ·refine Qw ?_;have hD:ix.length<=k:=by have hg:¬(k:Int)<(ix.length:Int):=hp;omega
  rw[Lu hD]at he;refine Qj<|Qb<|Qh ⟨[_],La,I,⟨qo,he,λL hL=>hR1.itms oa ho hL⟩,Qp hR1.own⟩
 refine Qf ?_;have J:k<ix.length:=by have hg:(k:Int)<(ix.length:Int):=hp;omega
 have hE:=hb _ (Lm J);have h5:ix.take (k+1)=ix.take k++[ix[k]'J]:=Ln J;refine Zf (ix[k]'J) λi h6=>?_;rw[h6]at hE h5;have h7:i=(i.toNat:Int):=oa
 have O:i.toNat<qs.length:=oa
 have h8:chs (qs.map IV.it) (ix.take (k+1))=chs (qs.map IV.it) (ix.take k)++[(qs[i.toNat]'O).it]:=by
  rw[h5];unfold chs;rw[Lr];simp[oR,O]
 have h1:=h.I I;have hr:=Lm O;refine Zf (qs[i.toNat]'O) λq hq=>?_;rw[hq]at h8 hr;have H:=h1.each q hr;have hF:=h1.nm q hr;refine Qd<|Qm<|Qc<|xii (i:=k) (hi.I I) U U J λhR hg=>?_;rw[h6]at hg;refine x (Qy hg U)<|Qb<|Qj<|Qa<|xig (g:=QJ) (i:=i.toNat) Yv h1.arr U (OV sS h7) O λhS hA=>?_;rw[hq]at hA;refine x (Zd U)<|x (Qr (us:=[q.p.va,sS q.p.a.st,q.p.vm,q.p.ve]) (hA.from 1) U U)<|QM [nS,sS 0,nS,nS] λb8 w2 hG hH S =>
  QK [q.p.va,sS q.p.a.st,q.p.vm,q.p.ve] S ⟨H.al.one,U,H.mr.one,H.ed.one,Z⟩ λG hI S=>xe ?_
 have hh:sX w1 G:=hG.O hI hH;have V:sX G { G with drawn:=G.drawn+1 }:=O5.C _ _
 have hT:=hh.size;have hU:=I.size;have hs:=Qg hR1.own;have h3:X4 (ob vo) ↑G v qs:=(h.up (L':=ob vo) (λb hb=>.inr (hs b hb).1)).I (I.D hh);have hj:b8∉ob vo:=λhm=>ov (hs b8 hm).2
 have hv:=H.I hh;refine Zz (ob vo) [oE 0,oE 1,oE 2,oE 3,oE 4,oE 5,oE 6,oE 7,oE 9,oE 10,oE 11,oE 12,oE 14,oE 15,oF 8,oF 13,oF 16,oE 17,oE 18,oF 19,oF 20,oE 21]<|p Qv<|p Qv<|p Qv<|Go.Lg.pig (g:=QJ) (i:=i.toNat) U Yv h3.arr U (OV sS h7) O λhV hB=>?_;rw[hq]at hB;refine p (λ_=>Zd U)<|pq (λ_ E=>Qy ((hB.fld 0 (.string q.nm) U).st E) U)<|p (QG U)<|pq (λ_ E=>Qk (S.J E hj) U U)<|p (QG U) <|
  pq (λ_ E=>Qk (S.J E hj) U U)<|p (QG U)<|pq (λ_ E=>Qk (S.J E hj) U U) <|
  p (QG rfl)<|pq (λ_ E=>Qk (S.J E hj) U U)<|pk<|xg<|(Z3 (hv.al.I V)).Y ?_
 rintro r4 w4 ⟨Y,hw⟩;refine⟨(V.D Y).any,?_⟩;refine pk<|xg<|(Z3 ((hv.mr.I V).I Y)).Y ?_;rintro r5 w5 ⟨hf,hy⟩;refine⟨((V.D Y).D hf).any,?_⟩;refine pk<|xg<|(Vd (((hv.ed.I V).I Y).I hf)).Y ?_;rintro r6 w6 ⟨hz,h2⟩;have hl:=((V.D Y).D hf).D hz;refine⟨hl.any,?_⟩;refine p (λ_=>Qx ⟨xL hw,U,xL hy,xL h2,Z⟩)<|p (λ_=>Q5 [(0,[.string q.nm]),(1,[r4,sS q.p.a.st,r5,r6])] ⟨U,U,U,U,Z⟩)<|pk<|Za [QJ ⟨q.nm,⟨r4,r5,r6,q.p.a⟩⟩] λhW w7 ha hX hJ=>⟨(hl.D ha).any,?_⟩;have hn:=(hh.D hl).D ha;have hY:=hn.size;have hZ:({ G with drawn:=G.drawn+1 }:O1).heap.size=G.heap.size:=rfl
 have ga:=Y.size;have gb:=hf.size;refine pk<|Q2 (m:=1) (news:=QJ ⟨q.nm,⟨r4,r5,r6,q.p.a⟩⟩) (L:=[]) (Ql hR1.own hn) U U U (hJ.at od) (λu hu=>by
   simp only[oL,oK,or_false]at hu;rcases hu with rfl|rfl|rfl|rfl|rfl
   ·rfl
   ·exact Qp hw
   ·rfl
   ·exact Qp hy
   exact Qp h2) oa oa λv8 w8 hK h4 hM=>⟨(hl.D ha).any.Q h4,?_⟩
 refine p ZG<|pe ?_;have hN:IvP ↑w w8 v8 (qo++[⟨q.nm,⟨r4,r5,r6,q.p.a⟩⟩]):=hR1.app hn (λt ht=>by
  simp only[oL,oK,or_false]at ht;rcases ht with rfl|rfl|rfl
  ·exact⟨_,_,Ql (Ql (Ql hw hf) hz) ha,H.al.le,oa⟩
  ·exact⟨_,_,Ql (Ql hy hz) ha,H.mr.le,oa⟩
  exact⟨_,_,Ql h2 ha,H.ed.le,oa⟩) oa hK h4 hM
 refine Qs<|QH U U<|Qa<|xe<|⟨(k+1,v8,_),og,oB,J,(I.D hn).S h4 (λb hb=>.inr (hs b hb).1),hN,?_,λq' hO=>?_⟩
 ·simp only[];rw[h8,Lr,he];rfl
 rcases Lc.1 hO with h9|h9
 ·exact ho q' h9
 simp only[oJ]at h9;subst h9;exact hF
theorem Qad {bm:Nat}{H v1 v2 v3:O2}{co:LI}{mi:Bool}(I:QZ ↑w bp 293 [H,v1,v2,v3])(E:QZ ↑w bm 4 [.bool mi])(J:QL L ↑w H co)(hi:Xa co)(n:Int):
  QY sV 224 [sS n,sP bp,sP bm] w λr w'=>O5 [bm] w w'/\r=sS (lwB co n)/\QZ ↑w' bm 4 [.bool (mi || !decide (n∈co))]:=by
 refine Zq func224 ?_;refine Qc<|Qb<|Qc<|Qo U I U U<|Qa<|Qz<|(Qdx J hi n).Y ?_;rintro r1 O ⟨rfl,rfl⟩;refine Qa<|QW U U<|QW U U<|x Qi<|Qb<|QX (α:=Bool) [(14,18)] (λz=>[]) (λz w'=>O5 [bm] O w'/\QZ ↑w' bm 4 [.bool (mi || !decide (n∈co))]) om ?_ ?_
 ·refine Qs<|xB (Qk E U U) (λG=>?_) (λG=>?_)
  ·refine Qa<|Ys<|QC U<|Qn<|Qu (j:=0) (u:=.bool true) E U U od rfl λw2 S V=>xe ?_;exact⟨true,Z,S,by rw[G];exact V⟩
  refine Qa<|Qa<|x (Zy U)<|QC U<|Qn<|Qu (j:=0) (u:=.bool (!decide (n∈co))) E U U od rfl λw3 Y ha=>xe ?_;exact⟨true,Z,Y,by rw[G];exact ha⟩
 rintro z g w4 ⟨hb,hc⟩;refine Qj<|Qb<|Qh ⟨[_],La,hb,U,hc⟩
theorem YO.of_lt {base:Nat}{v:O2}(h:∀L:LN,(∀b∈L,b<N)->Zn L H v n sz cs)(I:base<=N)(E:∀b∈av,b<N):YO base av H v n sz cs:=λL G =>
 h L (λb hbL=>(G b hbL).elim (λh=>oa) (E b))
theorem K4 (L:LN)(H:xA):QL L H (nS) []:=Zn.nil L H 1
def Uk (co:LI)(ls:xw):xw:=ls.map λl=>((lwB co l.1:Int),l.2)
theorem QfC {co:LI}(hi:Xa co){ls:xw}(h:mis co ls=false):Uk co ls=ixP co ls:=by
 unfold Uk ixP;refine Nn λl E=>?_;unfold mis at h;have G:l.1∈co:=by simpa using(NE.1 h l E)
 rw[Qft hi G]
abbrev exG (c:ZF)(i:Int):qv:=c.ex.getD i.toNat ⟨.empty,[]⟩
abbrev csG (c:ZF)(i:Int):xK:=c.cs.getD i.toNat ⟨.empty,[],0⟩
def exB (c:ZF)(co ix:LI):List qv:=ix.map λi=>⟨(exG c i).nm,Uk co (exG c i).ls⟩
def csB (c:ZF)(co ix:LI):List xK:=ix.map λi=>⟨(csG c i).nm,Uk co (csG c i).ts,(csG c i).bd⟩
def exM (c:ZF)(co ix:LI):Bool:=ix.any λi=>mis co (exG c i).ls
def csM (c:ZF)(co ix:LI):Bool:=ix.any λi=>mis co (csG c i).ts
theorem QlX (c:ZF)(p:Prt):Qqm c p=(exM c p.co p.ex || csM c p.co p.cs):=rfl
theorem Qm0 {p:Prt}(hi:Xa p.co)(h:exM c p.co p.ex=false):exB c p.co p.ex=QlW c p:=by
 unfold exB QlW;refine Nn λi E=>?_;rw[QfC hi (by have:=NE.1 h i E;simpa using this)]
theorem Qnl {p:Prt}(hi:Xa p.co)(h:csM c p.co p.cs=false):csB c p.co p.cs=QlY c p:=by
 unfold csB QlY;refine Nn λi E=>?_;rw[QfC hi (by have:=NE.1 h i E;simpa using this)]
def ck4:List (O2×LI×Int)->Int
 | []=>0
 | (_,s,n)::l=>if KM n none s≠0 then KM n none s else ck4 l
abbrev skC (x:O2×LI×Int):LV:=[x.1,sS x.2.2]
theorem Qot (x:O2×LI×Int):(skC x).length=2:=rfl
theorem Qdq:∀{l:List (O2×LI×Int)},ck4 l=0->∀x∈l,KM x.2.2 none x.2.1=0
 | [],_,x,hx=>by cases hx
 | (v,s,n)::l,h,x,hx=>by
  rw[ck4]at h;by_cases E:KM n none s≠0
  ·rw[OU E]at h;exact OW h E
  rw[OT E]at h;rcases Lj.1 hx with rfl|hx
  ·exact Lp.1 E
  exact Qdq h x hx
theorem YJ.app2 {g:α->LV}{p:α->O2×Nat×Nat×LV}{base e:Nat}{E G:O1}{v H:O2}{l:List α}{q:α}(h:YJ g sz T p base E v l)
  (O:E.ownsRow N e (p q).2.2.1 (p q).1 (p q).2.1 (p q).2.2.2) (S:(p q).2.1<=1099511627776) (V:base<=N) (Y:∀b∈ob v,b<N)
  (ho:G.ownsRow base T sz H (l.length+1) (l.flatMap g++g q)) (I:O5 (ob v) E G) (J:∀b∈ob H,b∈ob v\/↑E<=b):YJ g sz T p base G H (l++[q]):=by
 refine⟨?_,λd hd=>?_⟩
 ·rw[Ll,LA];simpa using ho
 rcases Lc.1 hd with hd|hd
 ·exact(h.each d hd).app I J
 simp only[oJ]at hd;subst hd;exact(YO.of_own O S V Y).app I J
instance:Bw sV 45 [nS,nS,nS,nS,nS] [(0,1),(1,1),(2,1),(3,1),(4,1)]:={}
theorem Qak {v:O2}(h:v.oneCell'=true):v.cells=#[v]:=by
 cases v <;> first|rfl|cases h
theorem QjI {v:O2}(h:∀L:LN,(∀b∈L,b<N)->X4 L ↑w' v qs)(hM:↑w'=M)(G:∀b∈L,b∉Ut N M):X4 L ↑w' v qs:=by
 refine(h (L.filter λb=>decide (b<N)) (λb E=>by have:=(L6.1 E).2;exact OY this)).up (λb E=>?_);by_cases H:b<N
 ·exact .inl (L6.2 ⟨E,OX H⟩)
 refine .inr ?_;have:=G b E;rw[Zw]at this;omega
structure EiA (L:LN)(H:xA)(z:O2×O2×O2)(ev:List Kq)(qc qr:List IV):Prop where
 ev:Uf L H z.1 ev
 co:X4 L H z.2.1 qc
 rq:X4 L H z.2.2 qr
theorem EiA.I {L:LN}{w w':O1}{z:O2×O2×O2}{ev:List Kq}{qc qr:List IV}(h:EiA L ↑w z ev qc qr)(E:sX w w'):EiA L ↑w' z ev qc qr:=⟨h.ev.I E,h.co.I E,h.rq.I E⟩
theorem EiA.st {L:LN}{w w':O1}{z:O2×O2×O2}{ev:List Kq}{qc qr:List IV}(h:EiA L ↑w z ev qc qr)(E:O5 L w w'):EiA L ↑w' z ev qc qr:=⟨h.ev.st E,h.co.st E,h.rq.st E⟩
theorem EiA.up {L L':LN}{H:xA}{z:O2×O2×O2}{ev:List Kq}{qc qr:List IV}(h:EiA L H z ev qc qr)(E:∀b∈L',b∈L\/H.size<=b):EiA L' H z ev qc qr:=⟨h.ev.up E,h.co.up E,h.rq.up E⟩
theorem QeE {c:CL}{v0 v1 v2 v3:O2}{p:Prt}(V:ZI L ↑w c)(hc0:QL L ↑w v0 p.co)(hr0:QL L ↑w v1 p.rq)(hx0:QL L ↑w v2 p.ex)(hk0:QL L ↑w v3 p.cs):
  QY sV 145 [c.val,.agg #[v0,v1,v2,v3]] w λr w'=>sX w w'/\∃us,r=.tuple #[sT us,sS (Qbh c.V p)]/\us.length=5/\Zb us/\(Qbh c.V p≠0->us=Z8)/\(Qbh c.V p=0->QeV ↑w ↑w' (sT us) (QgD c.V p)):=by
 have h:=V.up (L':=[]) od;have I:=hc0.up (L':=[]) od;have hr:=hr0.up (L':=[]) od;have hx:=hx0.up (L':=[]) od;have hk:=hk0.up (L':=[]) od;have Y:Qbh c.V p=if Zj c.V≠0 then Zj c.V else if ck4 [(v0,p.co,(c.co.length:Int)),(v1,p.rq,(c.rq.length:Int)),(v2,p.ex,(c.ex.length:Int)),(v3,p.cs,(c.cs.length:Int))]≠0 then ck4 [(v0,p.co,(c.co.length:Int)),(v1,p.rq,(c.rq.length:Int)),(v2,p.ex,(c.ex.length:Int)),(v3,p.cs,(c.cs.length:Int))]
   else if(exM c.V p.co p.ex || csM c.V p.co p.cs)=true then 13 else Zj (QgD c.V p):=by
  have e1:c.V.co.length=c.co.length:=Lh ..;have e2:c.V.rq.length=c.rq.length:=Lh ..;have e3:c.V.ex.length=c.ex.length:=Lh ..;have e4:c.V.cs.length=c.cs.length:=Lh ..;unfold Qbh;rw[e1,e2,e3,e4,QlX];simp only[ck4];by_cases q0:Zj c.V≠0
  ·rw[OU q0,OU q0]
  rw[OT q0,OT q0];by_cases q1:KM (c.co.length:Int) none p.co≠0
  ·simp only[OU q1]
  simp only[OT q1];by_cases q2:KM (c.rq.length:Int) none p.rq≠0
  ·simp only[OU q2]
  simp only[OT q2];by_cases q3:KM (c.ex.length:Int) none p.ex≠0
  ·simp only[OU q3]
  simp only[OT q3];by_cases q4:KM (c.cs.length:Int) none p.cs≠0
  ·simp only[OU q4]
  simp only[OT q4];simp
 refine Zf (Qbh c.V p) λE hE=>?_;rw[hE]at Y ⊢;refine Zf [(v0,p.co,(c.co.length:Int)),(v1,p.rq,(c.rq.length:Int)),(v2,p.ex,(c.ex.length:Int)),(v3,p.cs,(c.cs.length:Int))] λS gm=>?_;rw[gm]at Y;have hl4n:S.length=4:=by rw[<-gm];rfl
 have hl4i:∀x∈S,QL [] ↑w x.1 x.2.1:=by
  rw[<-gm];intro x O;simp only[oL,oK,or_false]at O;rcases O with rfl|rfl|rfl|rfl
  ·exact I
  ·exact hr
  ·exact hx
  exact hk
 have hl4z:ck4 S=0->KM (c.co.length:Int) none p.co=0/\KM (c.rq.length:Int) none p.rq=0/\KM (c.ex.length:Int) none p.ex=0/\KM (c.cs.length:Int) none p.cs=0:=by
  intro V;have h1:=Qdq V;rw[<-gm]at h1;exact⟨h1 (v0,p.co,_) od,h1 (v1,p.rq,_) od,h1 (v2,p.ex,_) od,h1 (v3,p.cs,_) od⟩
 have hxl:=hx.le;have hkl:=hk.le;refine Zq func145 ?_;refine Qc<|Zl c.cells λb2 w1 hs1 hb2 mu=>Zl [v0,v1,v2,v3] λb3 w2 mv hb3 z4=>QM Z8 λb4 w3 kh hb4 z5=>Qb ?_;have hl2:=mu.lt;have hl3:=z4.lt;have hl4':=z5.lt;have hs03:=(hs1.D mv).D kh;refine Qd<|Qc<|QT ((mu.I mv).I kh) U U<|Qz<|(Xl (h.I hs03)).Y ?_;rintro r4 w4 ⟨rfl,gn⟩;refine Qb ?_;have mw:=hs03.D gn;have hz4:=gn.size;have go:=((mu.I mv).I kh).I gn;have gp:=(z4.I kh).I gn;have my:=z5.I gn;refine Qj<|Zx U U<|xe<|QO rfl (λki=>?_) (λki=>?_)
 ·rw[OU ki]at Y;subst Y;refine Qc<|x (Qx Z)<|Qa<|QK Z8 my ⟨U,U,U,U,U,Z⟩ λw5 hs5 hB45=>Qb<|Qh ⟨[sT Z8,sS (Zj c.V)],⟨Yl hB45,U,Z⟩,mw.O hs5 oa,Z8,U,U,⟨U,U,U,U,U,Z⟩,λ_=>U,λV=>OW V ki⟩
 rw[OT ki]at Y;refine Qf ?_;have h4:=h.I mw;refine Qd<|Qc<|Qo U gp U U<|Qo U go U U<|QF h4.co.arr U<|x (Qx ⟨I.cells,U,Z⟩) <|
  Qo rfl gp U U<|Qo U go U U<|QF h4.rq.arr U<|x (Qx ⟨hr.cells,U,Z⟩) <|
  Qo rfl gp U U<|Qo U go U U<|QF h4.ex.arr U<|x (Qx ⟨hx.cells,U,Z⟩) <|
  Qo rfl gp U U<|Qo U go U U<|QF h4.cs.arr U<|x (Qx ⟨hk.cells,U,Z⟩) <|
  Qn<|Xy (us:=[skC (v0,p.co,(c.co.length:Int)),skC (v1,p.rq,(c.rq.length:Int)),skC (v2,p.ex,(c.ex.length:Int)),skC (v3,p.cs,(c.cs.length:Int))]) U U ol od ⟨rfl,rfl,rfl,rfl,rfl,rfl,rfl,rfl,Z⟩ λb54 w6 hX hb54 hB54=>?_
 have hA54:Zn [] ↑w6 (sL b54 4 4) S.length 2 (S.flatMap skC):=by
  have:=hB54.arr (L:=[]) od (n:=4) (cap:=4) (sz:=2) om oa (Lx _);rw[hl4n,<-gm];exact this
 refine QF hA54 U<|Qa<|xe ?_;have hz6:=hX.size;refine Q7 (α:=Nat) [(5,5),(8,9),(56,69)] (λz=>[(56,sS z)]) (λz w'=>z<=S.length/\sX w6 w'/\ck4 (S.drop z)=ck4 S) (λz=>S.length - z) 0 La ⟨Lo _,O5.Z _ _,U⟩ ?_;rintro k g w7 ⟨hkl4,hC,hD⟩;have gq:=(mw.D hX).D hC;have hz7:=hC.size;refine Zo rfl U (λmz=>?_) (λmz=>?_)
 ·refine Qw ?_;have hke:S.length<=k:=by have hv:¬(k:Int)<(S.length:Int):=mz;omega
  rw[Lt hke]at hD;have hck0:ck4 S=0:=hD.symm;rw[OT (λV=>V hck0)]at Y;obtain⟨zco,zrq,zex,zcs⟩:=hl4z hck0;have gr:=(X1 _ _ _).1 zco;have h7:=h.I gq;have kj:QZ ↑w7 b2 45 c.cells:=(go.I hX).I hC;have m2:QZ ↑w7 b3 293 [v0,v1,v2,v3]:=(gp.I hX).I hC;have hB47:QZ ↑w7 b4 45 Z8:=(my.I hX).I hC;have hsd:sX w7 { w7 with drawn:=w7.drawn+1 }:=O5.C _ _
  refine QX (α:=Nat×(O2×O2×O2)×List IV×List IV) [(70,83),(10,10)] (λz=>[(10,.pointer (some ⟨z.1,0,none⟩))]) (λz w'=>sX w7 w'/\↑w7<=z.1/\QZ ↑w' z.1 45 [z.2.1.1,z.2.1.2.1,z.2.1.2.2,nS,nS] /\
   z.2.2.1.map IV.it=chs c.V.co p.co/\z.2.2.2.map IV.it=chs c.V.rq p.rq/\Zb [z.2.1.1,z.2.1.2.1,z.2.1.2.2]/\∀L:LN,(∀b∈L,b<↑w7\/b=z.1)->EiA L ↑w' z.2.1 c.ev z.2.2.1 z.2.2.2) om ?_ ?_
  ·refine Jh (α:=(O2×O2×O2)×List IV×List IV) (sX w7) [oE 0,oE 1,oE 3,oE 4,oE 5,oE 6,oE 8,oE 9,oE 10,oE 11] [oF 2,oF 7,oF 12,oE 13] 14 10 [oF 15] []
    [(70,83)] [(72,72),(77,77),(82,83)] (λz=>[(83,.agg #[z.1.1,z.1.2.1,z.1.2.2,nS,nS])])
    (λz own w'=>(∀b∈own,↑w7<=b)/\z.2.1.map IV.it=chs c.V.co p.co/\z.2.2.map IV.it=chs c.V.rq p.rq/\Zb [z.1.1,z.1.2.1,z.1.2.2]/\∀L:LN,(∀b∈L,b∉own)->EiA L ↑w' z.1 c.ev z.2.1 z.2.2)
    (λv w'=>∃b,v=sP b/\↑w7<=b/\QZ ↑w' b 45 Z8) mixed om oe om U hsd od ?_ ?_ ?_ ?_
   ·rintro v own wa wb ⟨b,rfl,G,hB⟩ hs hn;exact⟨b,U,G,hB.J hs (hn b ou)⟩
   ·rintro z own wa wb ⟨h1,h2,h3,h4,h5⟩ hs;exact⟨h1,h2,h3,h4,λL hL=>(h5 L hL).I hs⟩
   ·rintro⟨zv,qc,qr⟩ g own wz v ⟨i1,i2,i3,i4,i5⟩ hCz ⟨J,rfl,m3,hB10⟩ hbo;have hb10o:=(hbo J ou).1;refine pkk<|JY [zv.1,zv.2.1,zv.2.2,nS,nS] hB10 ⟨i4.1,i4.2.1,i4.2.2.1,U,U,Z⟩ λw8 hY hB108=>pe ?_;refine⟨(J,zv,qc,qr),La,hCz.O hY m3,m3,hB108,i2,i3,i4,λL hL=>?_⟩;have h1:=i5 (J::L) (λb G=>by
     rcases Lj.1 G with rfl|G
     ·exact hb10o
     rcases hL b G with h2|h2
     ·exact λh3=>ov (i1 b h3)
     subst h2;exact hb10o)
    exact(h1.st (hY.Y od)).up (λb G=>.inl (by simp[G]))
   refine Go.Lg.p (QG U)<|pq (λ_ I=>Qk (kj.I I) U U)<|Go.Lg.p (QG U)<|pq (λ_ I=>Qk (kj.I I) U U) <|
    Go.Lg.p (QG U)<|pq (λ_ I=>Qk (m2.I I) U U)<|Go.Lg.p (QG U)<|pq (λ_ I=>Qk (kj.I I) U U) <|
    Go.Lg.p (QG U)<|pq (λ_ I=>Qk (m2.I I) U U)<|pe ⟨λg wf hCf=>flA Z8 hCf,?_⟩
   refine f2k λx1 p1 c1=>xg<|(UB (h7.ev.I c1).arr).Y ?_;rintro m4 y1 ⟨hs1',kk⟩;refine⟨c1.D hs1',Ut ↑x1 ↑y1,hs1'.any,λb G=>.inr (Zw.1 G),?_⟩;refine f2k λx2 p2 c2=>xg<|(js (h7.co.I c2) (I.I (gq.D c2)) (λi hi=>gr.1 i hi)).Y ?_;rintro r77 y2 ⟨m5,⟨qc,m6,hqcI⟩,ho2⟩;refine⟨c2.D m5,Ut ↑x1 ↑y1++Ut ↑x2 ↑y2,m5.any,λb G=>(Lc.1 G).imp id λG=>Zw.1 G,?_⟩;refine f2k λx3 p3 c3=>xg<|(js (h7.rq.I c3) (hr.I (gq.D c3)) (λi hi=>((X1 _ _ _).1 zrq).1 i hi)).Y ?_;rintro r82 y3 ⟨kn,⟨qr,m7,hqrI⟩,ho3⟩;refine⟨c3.D kn,(Ut ↑x1 ↑y1++Ut ↑x2 ↑y2)++Ut ↑x3 ↑y3,kn.any,λb G=>(Lc.1 G).imp id λG=>Zw.1 G,?_⟩;refine Ul (λ_=>Q5 [(0,[m4]),(1,[r77]),(2,[r82])] ⟨xL kk,U,Qak ho2,U,Qak ho3,U,Z⟩)<|f2e ?_;refine⟨((m4,r77,r82),qc,qr),La,λb G=>?_,m6,m7,⟨Qp kk,ho2,ho3,Z⟩,λL hL=>?_⟩
   ·have e1:=c1.size;have e2:=c2.size;have e3:=c3.size;rcases Lc.1 G with G|G
    ·rcases Lc.1 G with G|G
     ·have:=Zw.1 G;omega
     have:=Zw.1 G;omega
    have:=Zw.1 G;omega
   have hL1:∀b∈L,b∉Ut ↑x1 y1.heap.size:=λb G O=>hL b G (by simp[O]);have hL2:∀b∈L,b∉Ut ↑x2 y2.heap.size:=λb G O=>hL b G (by simp[O]);have hL3:∀b∈L,b∉Ut ↑x3 y3.heap.size:=λb G O=>hL b G (by simp[O]);have hev1:Uf L ↑y1 m4 c.ev:=⟨QB kk h.ev.arr.le (λb G O=>hL1 b O (Zw.2 (Qg kk b G))),h.ev.nm⟩;exact⟨(((hev1.I p2).I m5).I p3).I kn,((QjI hqcI U hL2).I p3).I kn,QjI hqrI U hL3⟩
  rintro⟨J,zv,qc,qr⟩ g wc ⟨hsc,m3,hB10c,m6,m7,m8,hEi⟩;have hl10:=hB10c.lt;refine Qc<|QM [.bool false] λH w8 hY hb11 hB11=>Qn<|Qu (j:=0) (u:=.bool false) hB11 U U od rfl λw9 m9 ko=>xe ?_;have kq:sX wc w9:=hY.O m9 hb11;have hF:=hsc.D kq;have gs:=gq.D hF;have hz9:=kq.size;have hl11:=ko.lt;have hB39:=m2.I hF;have hn10:J≠H:=oa
  have hup:∀b∈[J,H],↑w<=b:=λb G=>by simp only[oL,oK,or_false]at G;omega
  have kr:∀b∈[J,H],b<w9.heap.size:=λb G=>by simp only[oL,oK,or_false]at G;omega
  have hn2:b2∉[J,H]:=λG=>by simp only[oL,oK,or_false]at G;omega
  have hn3:b3∉[J,H]:=λG=>by simp only[oL,oK,or_false]at G;omega
  have hn4:b4∉[J,H]:=λG=>by simp only[oL,oK,or_false]at G;omega
  have kt:∀b∈[J],b∈[J,H]:=λb G=>by simp only[oJ]at G;simp[G]
  have ku:∀b∈[H],b∈[J,H]:=λb G=>by simp only[oJ]at G;simp[G]
  refine Qc<|x (ZD (l:=[]) (l':=[_,_]))<|Qb<|Qd<|Qc<|Qo U hB39 U U<|QF (hx.I gs) U<|Qa<|xe<|Q7 (α:=Nat×Bool×O2×List XV) [(14,15),(17,17),(88,129)] (λz=>[(88,sS z.1)]) (λz w'=>z.1<=p.ex.length/\O5 [J,H] w9 w'/\QZ ↑w' J 45 [zv.1,zv.2.1,zv.2.2,z.2.2.1,nS]/\QZ ↑w' H 4 [.bool z.2.1] /\
   XvN ↑w9 w' z.2.2.1 z.2.2.2/\z.2.2.2.map (·.x)=exB c.V p.co (p.ex.take z.1)/\z.2.1=exM c.V p.co (p.ex.take z.1)/\∀q∈z.2.2.2,JF q.nm) (λz=>p.ex.length - z.1) (0,false,nS,[]) La
   ⟨Lo _,O5.Z _ _,(hB10c.I kq),ko,YJ.nil,U,U,λq T=>by cases T⟩ ?_
  rintro⟨k,mi,vx,qx⟩ g he ⟨hk10,hK,pa,gt,kv,gu,kw,pc⟩;simp only[]at hk10 pa gt kv gu kw pc;have gv:sX w he:=gs.S hK (λb G=>.inr (hup b G));have pd:=h.I gv;have pf:=(kj.I hF).J hK hn2;have pg:=hB39.J hK hn3;have ph:=(hB47.I hF).J hK hn4;have hz10:=hK.size;have hqxl:qx.length=k:=by have:=OV oQ gu;unfold exB at this;rw[Lh,Lh,LB]at this;omega
  refine Zo U U (λhM=>?_) (λhM=>?_)
  ·refine Qw ?_;have pj:p.ex.length<=k:=by have hv:¬(k:Int)<(p.ex.length:Int):=hM;omega
   rw[Lu pj]at gu kw;have hlt10:∀b∈[J,H],b<he.heap.size:=λb G=>ov (kr b G)
   refine Qd<|Qc<|Qo U pg U U<|QF (hk.I gv) U<|Qa<|xe<|Q7 (α:=Nat×Bool×O2×List KV) [(19,20),(22,22),(133,180)] (λz=>[(133,sS z.1)]) (λz w'=>z.1<=p.cs.length/\O5 [J,H] he w'/\QZ ↑w' J 45 [zv.1,zv.2.1,zv.2.2,vx,z.2.2.1]/\QZ ↑w' H 4 [.bool z.2.1] /\
    KvN ↑he w' z.2.2.1 z.2.2.2/\z.2.2.2.map (·.k)=csB c.V p.co (p.cs.take z.1)/\z.2.1=(mi || csM c.V p.co (p.cs.take z.1))/\∀q∈z.2.2.2,JF q.nm) (λz=>p.cs.length - z.1) (0,mi,nS,[]) La
    ⟨Lo _,O5.Z _ _,pa,gt,YJ.nil,U,by simp[csM],λq T=>by cases T⟩ ?_
   rintro⟨k,mk,vk,kx⟩ g ht ⟨hkk10,hG,kB1010,kB1110,kX10,gw,kz,pm⟩;simp only[]at hkk10 kB1010 kB1110 kX10 gw kz pm;have gx:sX w ht:=gv.S hG (λb G=>.inr (hup b G));have k0:=h.I gx;have kB210:=pf.J hG hn2;have kB310:=pg.J hG hn3;have kB410:=ph.J hG hn4;have kz10:=hG.size;have hkxl:kx.length=k:=by have:=OV oQ gw;unfold csB at this;rw[Lh,Lh,LB]at this;omega
   refine Zo U U (λhM=>?_) (λhM=>?_)
   ·refine Qw ?_;have pj:p.cs.length<=k:=by have hv:¬(k:Int)<(p.cs.length:Int):=hM;omega
    rw[Lu pj]at gw kz;have hmm:mk=(exM c.V p.co p.ex || csM c.V p.co p.cs):=by rw[kz,kw]
    rw[<-hmm]at Y;have kXu:XvN ↑w9 ht vx qx:=YJ.low kv hG kr;refine Qd<|Qc<|Xn kB1110 U U<|xe<|QU U (λk4=>?_) (λk4=>?_)
    ·rw[OU k4]at Y;subst Y;refine Qc<|x (Qx Z)<|QK Z8 kB410 ⟨U,U,U,U,U,Z⟩ λu11 k5 kB411=>Qb<|Qh ⟨[sT Z8,sS 13],⟨Yl kB411,U,Z⟩,gx.O k5 oa,Z8,U,U,⟨U,U,U,U,U,Z⟩,λ_=>U,λV=>OW V ol⟩
    rw[OT (by rw[k4];simp)]at Y;refine Qf ?_;have hmf:(exM c.V p.co p.ex || csM c.V p.co p.cs)=false:=by rw[<-hmm];exact k4
    have hmf2:=MS.1 hmf;have hE1:qx.map (·.x)=QlW c.V p:=gu.D (Qm0 gr.2.1 hmf2.1);have hE2:kx.map (·.k)=QlY c.V p:=gw.D (Qnl gr.2.1 hmf2.2);have hcel:(CL.mk zv.1 zv.2.1 zv.2.2 vx vk c.ev qc qr qx kx).V=QgD c.V p:=by
     show ZF.mk c.ev (qc.map IV.it) (qr.map IV.it) (qx.map (·.x)) (kx.map (·.k))=ZF.mk c.V.ev _ _ _ _;rw[m6,m7,hE1,hE2];rfl
    have hCu:∀L:LN,(∀b∈L,b<↑w)->ZI (b4::L) ↑ht (CL.mk zv.1 zv.2.1 zv.2.2 vx vk c.ev qc qr qx kx):=by
     intro L hL;have e1:=hEi (b4::J::L) (λb G=>by
      rcases Lj.1 G with rfl|G
      ·exact .inl oa
      rcases Lj.1 G with rfl|G
      ·exact .inr U
      have:=hL b G;exact .inl oa)
     have e2:EiA (H::b4::J::L) ↑wc zv c.ev qc qr:=e1.up (λb G=>by
      rcases Lj.1 G with rfl|G
      ·exact .inr hb11
      exact .inl G)
     have hm2:∀b∈[J,H],b∈H::b4::J::L:=λb G=>by
      simp only[oL,oK,or_false]at G;rcases G with rfl|rfl <;> simp
     have e4:EiA (b4::L) ↑ht zv c.ev qc qr:=(((e2.I kq).st (hK.Y hm2)).st (hG.Y hm2)).up (λb G=>by
      rcases Lj.1 G with rfl|G
      ·exact .inl od
      exact .inl (by simp[G]))
     have hqx40:qx.length<=1099511627776:=oa
     have hkx40:kx.length<=1099511627776:=oa
     have pn:∀b∈b4::L,b<w9.heap.size:=λb G=>by
      rcases Lj.1 G with rfl|G
      ·omega
      have:=hL b G;omega
     have hLt10:∀b∈b4::L,b<he.heap.size:=λb G=>ov (pn b G)
     exact⟨e4.ev,e4.co,e4.rq,⟨YJ.arr kXu hqx40 pn,λq T=>kXu.each q T _ (λb G=>.inl (pn b G)),pc⟩,⟨YJ.arr kX10 hkx40 hLt10,λq T=>kX10.each q T _ (λb G=>.inl (hLt10 b G)),pm⟩⟩
    rw[<-hcel]at Y;subst Y;refine Qd<|Qc<|QT kB1010 U U<|Qz<|(Xl (hCu [] od)).Y ?_;rintro r12 hN ⟨rfl,hZ⟩;refine Qb ?_;have gy:=gx.D hZ;have kB412:=kB410.I hZ;refine Qj<|Zx U U<|xe<|QO U (λk6=>?_) (λk6=>?_)
    ·refine Qc<|x (Qx Z)<|Qa<|QK Z8 kB412 ⟨U,U,U,U,U,Z⟩ λhH k7 kB413=>Qb<|Qh ⟨[sT Z8,sS (Zj (CL.mk zv.1 zv.2.1 zv.2.2 vx vk c.ev qc qr qx kx).V)],⟨Yl kB413,U,Z⟩,gy.O k7 oa,Z8,U,U,⟨U,U,U,U,U,Z⟩,λ_=>U,λV=>OW V k6⟩
    refine Qf ?_;have hone5:Zb [zv.1,zv.2.1,zv.2.2,vx,vk]:=⟨m8.1,m8.2.1,m8.2.2.1,Qp kXu.own,Qp kX10.own,Z⟩;refine Qc<|QT (kB1010.I hZ) U U<|QK [zv.1,zv.2.1,zv.2.2,vx,vk] kB412 hone5 λhH k7 kB413=>Qb<|Qh ⟨[.agg #[zv.1,zv.2.1,zv.2.2,vx,vk],sS 0],⟨Yl kB413,U,Z⟩,gy.O k7 oa,[zv.1,zv.2.1,zv.2.2,vx,vk],?_,U,hone5,λV=>OW V k6,λ_=>⟨(CL.mk zv.1 zv.2.1 zv.2.2 vx vk c.ev qc qr qx kx),U,hcel,λL hL=>?_⟩⟩
    ·have V:Zj (CL.mk zv.1 zv.2.1 zv.2.2 vx vk c.ev qc qr qx kx).V=0:=Lp.1 k6;rw[V];rfl
    exact((((hCu L hL).I hZ).st (k7.Y od))).up (λb G=>.inl (by simp[G]))
   refine Qf ?_;have hf:k<p.cs.length:=by have hv:(k:Int)<(p.cs.length:Int):=hM;omega
   have hO:p.cs.take (k+1)=p.cs.take k++[p.cs[k]'hf]:=Ln hf;have po:=((X1 _ _ _).1 zcs).1 _ (Lm hf);refine Zf (p.cs[k]'hf) λi gz=>?_;rw[gz]at hO po;have ga:i=(i.toNat:Int):=oa
   have ha:i.toNat<c.cs.length:=oa
   have hw:=Lm ha;have hP:csG c.V i=(c.cs[i.toNat]'ha).k:=by
    show(c.cs.map (·.k)).getD i.toNat ⟨.empty,[],0⟩=_;simp[oR,ha]
   refine Zf (c.cs[i.toNat]'ha) λq T=>?_;rw[T]at hw hP;have g0:=k0.cs.each q hw;have pp:=k0.cs.nm q hw;have hql:=g0.le;have hcsB:csB c.V p.co (p.cs.take (k+1))=csB c.V p.co (p.cs.take k)++[⟨q.nm,Uk p.co q.ts,q.bd⟩]:=by
    rw[hO];unfold csB;rw[Lr,Nc,hP];rfl
   have hcsM:csM c.V p.co (p.cs.take (k+1))=(csM c.V p.co (p.cs.take k) || mis p.co q.ts):=by
    rw[hO];unfold csM;rw[List.any_append,List.any_cons,List.any_nil,Bool.or_false,hP];rfl
   refine Qd<|Qm<|Qc<|xii (i:=k) (hk.I gx) U U hf λa90 g2=>?_;rw[gz]at g2;refine x (Qy g2 U)<|Qb<|Qd<|Zz [] (YW 0 15 [13,14])<|Go.Lg.p (QG U)<|pq (λ_ I=>Qk (kB210.I I) U U)<|Go.Lg.p Qv<|Go.Lg.pig (g:=Q9) (i:=i.toNat) U Xq k0.cs.arr U (OV sS ga) ha λa140 h140=>?_;rw[T]at h140;refine Go.Lg.p (λ_=>Zd U)<|pq (λ_ I=>Qy ((h140.fld 0 (.string q.nm) U).st I) U)<|Go.Lg.p (QG U)<|pq (λ_ I=>Qk (kB210.I I) U U)<|Go.Lg.p Qv<|Go.Lg.pig (g:=Q9) (i:=i.toNat) U Xq k0.cs.arr U (OV sS ga) ha λa146 h146=>?_;rw[T]at h146;refine Go.Lg.p (λ_=>Zd U)<|pq (λ_ I=>Qy ((h146.fld 2 (sS q.bd) U).st I) U)<|Go.Lg.p (λ_=>Qx ⟨U,U,Z⟩)<|pk<|K3 (us:=[.string .empty,nS,sS 0]) U λhg u11 k5 hy kB15=>⟨(O5.C [] ht).D k5,?_⟩;refine pkk<|JY [.string q.nm,nS,sS q.bd] kB15 oC λhN hZ kB15=>pe ?_;have hy:↑ht<=hg:=hy;have hI:sX ht hN:=((O5.C [] ht).D k5).O hZ hy;have gy:=gx.D hI;have kz12:=hI.size;have hl15:=kB15.lt;have hqA12:=g0.I hI;refine Qd<|Qc<|Qo U (kB210.I hI) U U<|Qa<|xig (g:=Q9) (i:=i.toNat) Xq (h.I gy).cs.arr U (OV sS ga) ha λa102 g3=>?_;rw[T]at g3;refine x (Zd U)<|x (Qy (g3.fld 1 q.v U) U)<|QF hqA12 U<|Qa<|xe ?_;have pu:∀b∈[hg,H],↑w<=b:=λb G=>by simp only[oL,oK,or_false]at G;omega
   have pw:b3∉[hg,H]:=λG=>by simp only[oL,oK,or_false]at G;omega
   have hn1510:J∉[hg,H]:=λG=>by simp only[oL,oK,or_false]at G;omega
   refine Q7 (α:=Nat×Bool×O2) [(22,22),(157,173)] (λz=>[(157,sS z.1)]) (λz w'=>z.1<=q.ts.length/\O5 [hg,H] hN w'/\QZ ↑w' hg 110 [.string q.nm,z.2.2,sS q.bd]/\QZ ↑w' H 4 [.bool z.2.1] /\
    w'.ownsRow ↑hN 112 2 z.2.2 z.1 ((Uk p.co (q.ts.take z.1)).flatMap QD)/\z.2.1=(mk || mis p.co (q.ts.take z.1))) (λz=>q.ts.length - z.1) (0,mk,nS) La
    ⟨Lo _,O5.Z _ _,kB15,kB1110.I hI,QE _ _ _ _,by simp[mis]⟩ ?_
   rintro⟨j,mj,vl⟩ g hH ⟨hj,gb,kB1513,kB1113,kO13,hz⟩;simp only[]at hj kB1513 kB1113 kO13 hz;have ks013:sX w hH:=gy.S gb (λb G=>.inr (pu b G));have kz13:=gb.size;have h6:=Qg kO13;refine Zo U U (λhQ=>?_) (λhQ=>?_)
   ·refine Qw ?_;have g4:j=q.ts.length:=by have hv:¬(j:Int)<(q.ts.length:Int):=hQ;omega
    rw[g4,M4]at kO13;rw[g4,M4]at hz;have k8:O5 [H] ht hH:=(hI.any (L:=[H])).S gb (λb G=>by
     simp only[oL,oK,or_false]at G;rcases G with rfl|rfl
     ·exact .inr hy
     exact .inl od)
    have kB1013:=kB1010.J k8 (oA hn10);have kX13:KvN ↑he hH vk kx:=YJ.low kX10 k8 (λb G=>hlt10 b (ku b G));have kXge:=Qg kX10.own;have pz:(Uk p.co q.ts).length=q.ts.length:=Lh ..;refine Qs<|Qo U kB1013 U U<|QT kB1513 U U<|Qn<|Za [Q9 ⟨q.nm,vl,Uk p.co q.ts,q.bd⟩] λb126 u14 h8 hb126 kB126 =>
     Qn<|Q2 (news:=Q9 ⟨q.nm,vl,Uk p.co q.ts,q.bd⟩) (L:=[]) (Ql kX13.own h8) U U U (kB126.at od) (Qfz (q:=⟨q.nm,vl,Uk p.co q.ts,q.bd⟩) (Qp kO13)) oa (ov h8.size) λhR hl g5 gc p0=>?_
    have kX15:KvN ↑he hl hR (kx++[⟨q.nm,vl,Uk p.co q.ts,q.bd⟩]):=YJ.app2 (N:=↑hN) (kX13.I h8) (by show u14.ownsRow _ _ 2 vl (Uk p.co q.ts).length _;rw[pz];exact Ql kO13 h8) (by show(Uk p.co q.ts).length<=_;omega) oa (λb G=>ov (kXge b G)) g5 gc p0;have p4:J∉ob vk:=λO=>ov (kXge J O).1
    have p5:H∉ob vk:=λO=>ov (kXge H O).1
    have ks915:O5 [J,H] he hl:=((hG.Q (k8.Y ku)).D h8).S gc (λb G=>.inr (kXge b G).1);have kB1015:=(kB1013.I h8).J gc p4;have kB1115:=(kB1113.I h8).J gc p5;refine QQ U<|Qn<|Qu (j:=4) (u:=hR) kB1015 U U od (Qp g5) λu16 g6 kB1016=>xe ?_;refine Qs<|QH U U<|Qa<|xe<|⟨(k+1,mj,hR,kx++[⟨q.nm,vl,Uk p.co q.ts,q.bd⟩]),og,La,hf,ks915.Q (g6.Y kt),kB1016,kB1115.J g6 oh,YJ.low kX15 g6 (λb G=>hlt10 b (kt b G)),?_,?_,?_⟩
    ·simp only[];rw[hcsB,Lr,gw];rfl
    ·simp only[];rw[hcsM,hz,kz,Bool.or_assoc]
    intro q' p6;rcases Lc.1 p6 with h9|h9
    ·exact pm q' h9
    simp only[oJ]at h9;subst h9;exact pp
   refine Qf ?_;have ho:j<q.ts.length:=by have hv:(j:Int)<(q.ts.length:Int):=hQ;omega
   have hS:q.ts.take (j+1)=q.ts.take j++[q.ts[j]'ho]:=Ln ho;have k8:O5 [H] ht hH:=(hI.any (L:=[H])).S gb (λb G=>by
    simp only[oL,oK,or_false]at G;rcases G with rfl|rfl
    ·exact .inr hy
    exact .inl od)
   have p7:jT [] ↑hH q.v q.ts:=(h.I ks013).cs.each q hw;refine Qd<|Qm<|Qc<|xig (g:=QD) YK p7 U U ho λa108 g7=>?_;refine Zf (q.ts[j]'ho) λlc p8=>?_;rw[p8]at g7 hS;have p9:Uk p.co (q.ts.take (j+1))=Uk p.co (q.ts.take j)++[((lwB p.co lc.1:Int),lc.2)]:=by
    rw[hS];unfold Uk;rw[Lr];rfl
   have qf:mis p.co (q.ts.take (j+1))=(mis p.co (q.ts.take j) || !decide (lc.1∈p.co)):=by
    rw[hS];unfold mis;rw[List.any_append];simp
   refine x (Qr g7 U U)<|QM [sS 0,sS 0] λb22 u14 h8 ql kB17=>QK (QD lc) kB17 oB λhl gc kB17=>xe ?_;have hT:sX hH hl:=h8.O gc ql;have kz15:=hT.size;have kB1515:=kB1513.I hT;have kB315:QZ ↑hl b3 293 [v0,v1,v2,v3]:=(((kB310.I hI).J gb pw)).I hT;have g8:hg∉H::ob vl:=λG=>by
    rcases Lj.1 G with rfl|G
    ·omega
    have:=(h6 hg G).1;omega
   have g9:b22∉H::ob vl:=λG=>by
    rcases Lj.1 G with rfl|G
    ·omega
    have:=(h6 b22 G).2;omega
   have ka:H∉ob vl:=λG=>ov (h6 H G).1
   have qm:hg∉ob vl:=λG=>g8 (Lk _ G);refine Zz (H::ob vl) [oE 0,oE 1,oE 2,oE 3,oE 4,oE 6,oE 7,oF 5,oE 8,oF 9,oF 10,oE 11,oF 12] ?_;have k9:sX hl { hl with drawn:=hl.drawn+1 }:=O5.C _ _
   have hzd:({ hl with drawn:=hl.drawn+1 }:O1).heap.size=hl.heap.size:=rfl
   refine Go.Lg.p (QG U)<|pq (λ_ I=>Qk (kB1515.J I g8) U U)<|Go.Lg.p Qv<|Go.Lg.p (QG U)<|pq (λ_ I=>Qk (kB17.J I g9) U U) <|
    Go.Lg.p (QG U)<|pq (λ_ I=>Qk (kB17.J I g9) U U)<|pk<|xc (first:=[]) (capt:=[sP b3,sP H]) U<|(Qad (kB315.I k9) ((kB1113.I hT).I k9) (I.I ((ks013.D hT).D k9)) gr.2.1 lc.1).Y ?_
   rintro r16 u16 ⟨g6,rfl,kB1116⟩;have qo:=k9.any.Q g6;have hU:∀b∈[H],b∈H::ob vl:=λb G=>by simp only[oJ]at G;simp[G]
   refine⟨qo.Y hU,?_⟩;refine Go.Lg.p (λ_=>Qx ⟨U,U,Z⟩)<|pk<|Za [QD ((lwB p.co lc.1:Int),lc.2)] λb119 u17 q5 hb119 gt=>⟨(qo.D q5).Y hU,?_⟩;have kb:=qo.D q5;have kO17:u17.ownsRow ↑hN 112 2 vl j ((Uk p.co (q.ts.take j)).flatMap QD):=Qe (Ql kO13 hT) kb (λb G O=>by simp only[oJ]at O;subst O;exact ka G);have kz17:=kb.size;refine pk<|Q2 (news:=QD ((lwB p.co lc.1:Int),lc.2)) (L:=[]) kO17 U U U (gt.at od) (λu hu=>by
    simp only[oL,oK,or_false]at hu;rcases hu with rfl|rfl <;> rfl) oa oa λkc u18 hV ma hn18=>⟨(kb.Y hU).Q (ma.Y (λb G=>Lk _ G)),?_⟩
   have kB1518:=((kB1515.J kb oh)).J ma qm;have kB1118:=(kB1116.I q5).J ma ka;refine Go.Lg.p (QG U)<|pkk<|Qu (j:=1) (u:=kc) kB1518 U U od (Qp hV) λu19 q6 kB1519=>pe ?_;refine Qs<|QH U U<|Qa<|xe ?_;have j1:∀b∈[H],b∈[hg,H]:=λb G=>by simp only[oJ]at G;simp[G]
   have j2:∀b∈[hg],b∈[hg,H]:=λb G=>by simp only[oJ]at G;simp[G]
   have ks1218:O5 [hg,H] hN u18:=((gb.D hT).Q (kb.Y j1)).S ma (λb G=>.inr (h6 b G).1);refine⟨(j+1,mj || !decide (lc.1∈p.co),kc),og,La,ho,ks1218.Q (q6.Y j2),kB1519,kB1118.J q6 oh,?_,?_⟩
   ·simp only[];rw[p9,LA];have:=Qe hV q6 (λb G=>by
     simp only[oJ];have:=(Qg hV b G).1;omega)
    simpa using this
   simp only[];rw[qf,hz,Bool.or_assoc]
  refine Qf ?_;have hf:k<p.ex.length:=by have hv:(k:Int)<(p.ex.length:Int):=hM;omega
  have hO:p.ex.take (k+1)=p.ex.take k++[p.ex[k]'hf]:=Ln hf;have po:=((X1 _ _ _).1 zex).1 _ (Lm hf);refine Zf (p.ex[k]'hf) λi gz=>?_;rw[gz]at hO po;have ga:i=(i.toNat:Int):=oa
  have ha:i.toNat<c.ex.length:=oa
  have hw:=Lm ha;have hP:exG c.V i=(c.ex[i.toNat]'ha).x:=by
   show(c.ex.map (·.x)).getD i.toNat ⟨.empty,[]⟩=_;simp[oR,ha]
  refine Zf (c.ex[i.toNat]'ha) λq T=>?_;rw[T]at hw hP;have g0:=pd.ex.each q hw;have pp:=pd.ex.nm q hw;have hql:=g0.le;have hexB:exB c.V p.co (p.ex.take (k+1))=exB c.V p.co (p.ex.take k)++[⟨q.nm,Uk p.co q.ls⟩]:=by
   rw[hO];unfold exB;rw[Lr,Nc,hP];rfl
  have hexM:exM c.V p.co (p.ex.take (k+1))=(exM c.V p.co (p.ex.take k) || mis p.co q.ls):=by
   rw[hO];unfold exM;rw[List.any_append,List.any_cons,List.any_nil,Bool.or_false,hP];rfl
  refine Qd<|Qm<|Qc<|xii (i:=k) (hx.I gv) U U hf λa90 g2=>?_;rw[gz]at g2;refine x (Qy g2 U)<|Qb<|Qc<|Qo U pf U U<|Qa<|xig (g:=Q3) (i:=i.toNat) Xx pd.ex.arr U (OV sS ga) ha λa95 h95=>?_;rw[T]at h95;refine x (Zd U)<|x (Qy (h95.fld 0 (.string q.nm) U) U)<|x (Qx ⟨U,Z⟩)<|QM [.string .empty,nS] λhh w11 j3 hy mf =>
   QK [.string q.nm,nS] mf oB λgg hs12 mf=>xe ?_
  have hJ:sX he gg:=j3.O hs12 hy;have hs012:=gv.D hJ;have hz12:=hJ.size;have hl15:=mf.lt;refine Qd<|Qc<|Qo U (pf.I hJ) U U<|Qa<|xig (g:=Q3) (i:=i.toNat) Xx (h.I hs012).ex.arr U (OV sS ga) ha λa102 g3=>?_;rw[T]at g3;refine x (Zd U)<|x (Qy (g3.fld 1 q.v U) U)<|QF (g0.I hJ) U<|Qa<|xe ?_;have pu:∀b∈[hh,H],↑w<=b:=λb G=>by simp only[oL,oK,or_false]at G;omega
  have pw:b3∉[hh,H]:=λG=>by simp only[oL,oK,or_false]at G;omega
  have hn1510:J∉[hh,H]:=λG=>by simp only[oL,oK,or_false]at G;omega
  refine Q7 (α:=Nat×Bool×O2) [(17,17),(106,122)] (λz=>[(106,sS z.1)]) (λz w'=>z.1<=q.ls.length/\O5 [hh,H] gg w'/\QZ ↑w' hh 105 [.string q.nm,z.2.2]/\QZ ↑w' H 4 [.bool z.2.1] /\
   w'.ownsRow ↑gg 107 2 z.2.2 z.1 ((Uk p.co (q.ls.take z.1)).flatMap QD)/\z.2.1=(mi || mis p.co (q.ls.take z.1))) (λz=>q.ls.length - z.1) (0,mi,nS) La
   ⟨Lo _,O5.Z _ _,mf,gt.I hJ,QE _ _ _ _,by simp[mis]⟩ ?_
  rintro⟨j,mj,vl⟩ g gh ⟨hj,gi,za,zb,gj,hz⟩;simp only[]at hj za zb gj hz;have hs013:sX w gh:=hs012.S gi (λb G=>.inr (pu b G));have hz13:=gi.size;have h6:=Qg gj;refine Zo U U (λhQ=>?_) (λhQ=>?_)
  ·refine Qw ?_;have g4:j=q.ls.length:=by have hv:¬(j:Int)<(q.ls.length:Int):=hQ;omega
   rw[g4,M4]at gj;rw[g4,M4]at hz;have mg:O5 [H] he gh:=(hJ.any (L:=[H])).S gi (λb G=>by
    simp only[oL,oK,or_false]at G;rcases G with rfl|rfl
    ·exact .inr hy
    exact .inl od)
   have hB1013:=pa.J mg (oA hn10);have hX13:XvN ↑w9 gh vx qx:=YJ.low kv mg (λb G=>kr b (ku b G));have mh:=Qg kv.own;have pz:(Uk p.co q.ls).length=q.ls.length:=Lh ..;refine Qs<|Qo U hB1013 U U<|QT za U U<|Qn<|Za [Q3 ⟨q.nm,vl,Uk p.co q.ls⟩] λb126 w14 hA hb126 hB126 =>
    Qn<|Q2 (news:=Q3 ⟨q.nm,vl,Uk p.co q.ls⟩) (L:=[]) (Ql hX13.own hA) U U U (hB126.at od) (Qa8 (q:=⟨q.nm,vl,Uk p.co q.ls⟩) (Qp gj)) oa (ov hA.size) λhR hp g5 gk p0=>?_
   have hX15:XvN ↑w9 hp hR (qx++[⟨q.nm,vl,Uk p.co q.ls⟩]):=YJ.app2 (N:=↑gg) (hX13.I hA) (by show w14.ownsRow _ _ 2 vl (Uk p.co q.ls).length _;rw[pz];exact Ql gj hA) (by show(Uk p.co q.ls).length<=_;omega) oa (λb G=>ov (mh b G)) g5 gk p0;have p4:J∉ob vx:=λO=>ov (mh J O).1
   have p5:H∉ob vx:=λO=>ov (mh H O).1
   have hs915:O5 [J,H] w9 hp:=((hK.Q (mg.Y ku)).D hA).S gk (λb G=>.inr (mh b G).1);have hB1015:=(hB1013.I hA).J gk p4;have hB1115:=(zb.I hA).J gk p5;refine QQ U<|Qn<|Qu (j:=3) (u:=hR) hB1015 U U od (Qp g5) λw16 ke hB1016=>xe ?_;refine Qs<|QH U U<|Qa<|xe<|⟨(k+1,mj,hR,qx++[⟨q.nm,vl,Uk p.co q.ls⟩]),og,La,hf,hs915.Q (ke.Y kt),hB1016,hB1115.J ke oh,YJ.low hX15 ke (λb G=>kr b (kt b G)),?_,?_,?_⟩
   ·simp only[];rw[hexB,Lr,gu];rfl
   ·simp only[];rw[hexM,hz,kw]
   intro q' p6;rcases Lc.1 p6 with h9|h9
   ·exact pc q' h9
   simp only[oJ]at h9;subst h9;exact pp
  refine Qf ?_;have ho:j<q.ls.length:=by have hv:(j:Int)<(q.ls.length:Int):=hQ;omega
  have hS:q.ls.take (j+1)=q.ls.take j++[q.ls[j]'ho]:=Ln ho;have mg:O5 [H] he gh:=(hJ.any (L:=[H])).S gi (λb G=>by
   simp only[oL,oK,or_false]at G;rcases G with rfl|rfl
   ·exact .inr hy
   exact .inl od)
  have p7:jT [] ↑gh q.v q.ls:=(h.I hs013).ex.each q hw;refine Qd<|Qm<|Qc<|xig (g:=QD) YK p7 U U ho λa108 g7=>?_;refine Zf (q.ls[j]'ho) λlc p8=>?_;rw[p8]at g7 hS;have p9:Uk p.co (q.ls.take (j+1))=Uk p.co (q.ls.take j)++[((lwB p.co lc.1:Int),lc.2)]:=by
   rw[hS];unfold Uk;rw[Lr];rfl
  have qf:mis p.co (q.ls.take (j+1))=(mis p.co (q.ls.take j) || !decide (lc.1∈p.co)):=by
   rw[hS];unfold mis;rw[List.any_append];simp
  refine x (Qr g7 U U)<|QM [sS 0,sS 0] λb17 w14 hA ql mo=>QK (QD lc) mo oB λhp gk mo=>xe ?_;have hW:sX gh hp:=hA.O gk ql;have hz15:=hW.size;have hB1515:=za.I hW;have hB315:QZ ↑hp b3 293 [v0,v1,v2,v3]:=(((pg.I hJ).J gi pw)).I hW;have g8:hh∉H::ob vl:=λG=>by
   rcases Lj.1 G with rfl|G
   ·omega
   have:=(h6 hh G).1;omega
  have g9:b17∉H::ob vl:=λG=>by
   rcases Lj.1 G with rfl|G
   ·omega
   have:=(h6 b17 G).2;omega
  have ka:H∉ob vl:=λG=>ov (h6 H G).1
  have qm:hh∉ob vl:=λG=>g8 (Lk _ G);refine Zz (H::ob vl) [oE 0,oE 1,oE 2,oE 3,oE 4,oE 6,oE 7,oF 5,oE 8,oF 9,oF 10,oE 11,oF 12] ?_;have mq:sX hp { hp with drawn:=hp.drawn+1 }:=O5.C _ _
  have hzd:({ hp with drawn:=hp.drawn+1 }:O1).heap.size=hp.heap.size:=rfl
  refine Go.Lg.p (QG U)<|pq (λ_ I=>Qk (hB1515.J I g8) U U)<|Go.Lg.p Qv<|Go.Lg.p (QG U)<|pq (λ_ I=>Qk (mo.J I g9) U U) <|
   Go.Lg.p (QG U)<|pq (λ_ I=>Qk (mo.J I g9) U U)<|pk<|xc (first:=[]) (capt:=[sP b3,sP H]) U<|(Qad (hB315.I mq) ((zb.I hW).I mq) (I.I ((hs013.D hW).D mq)) gr.2.1 lc.1).Y ?_
  rintro r16 w16 ⟨ke,rfl,hB1116⟩;have z1:=mq.any.Q ke;have hU:∀b∈[H],b∈H::ob vl:=λb G=>by simp only[oJ]at G;simp[G]
  refine⟨z1.Y hU,?_⟩;refine Go.Lg.p (λ_=>Qx ⟨U,U,Z⟩)<|pk<|Za [QD ((lwB p.co lc.1:Int),lc.2)] λb119 w17 z2 hb119 ko=>⟨(z1.D z2).Y hU,?_⟩;have kf:=z1.D z2;have hO17:w17.ownsRow ↑gg 107 2 vl j ((Uk p.co (q.ls.take j)).flatMap QD):=Qe (Ql gj hW) kf (λb G O=>by simp only[oJ]at O;subst O;exact ka G);have hz17:=kf.size;refine pk<|Q2 (news:=QD ((lwB p.co lc.1:Int),lc.2)) (L:=[]) hO17 U U U (ko.at od) (λu hu=>by
   simp only[oL,oK,or_false]at hu;rcases hu with rfl|rfl <;> rfl) oa oa λkc w18 hV ms hn18=>⟨(kf.Y hU).Q (ms.Y (λb G=>Lk _ G)),?_⟩
  have hB1518:=((hB1515.J kf oh)).J ms qm;have hB1118:=(hB1116.I z2).J ms ka;refine Go.Lg.p (QG U)<|pkk<|Qu (j:=1) (u:=kc) hB1518 U U od (Qp hV) λw19 z3 hB1519=>pe ?_;refine Qs<|QH U U<|Qa<|xe ?_;have j1:∀b∈[H],b∈[hh,H]:=λb G=>by simp only[oJ]at G;simp[G]
  have j2:∀b∈[hh],b∈[hh,H]:=λb G=>by simp only[oJ]at G;simp[G]
  have hs1218:O5 [hh,H] gg w18:=((gi.D hW).Q (kf.Y j1)).S ms (λb G=>.inr (h6 b G).1);refine⟨(j+1,mj || !decide (lc.1∈p.co),kc),og,La,ho,hs1218.Q (z3.Y j2),hB1519,hB1118.J z3 oh,?_,?_⟩
  ·simp only[];rw[p9,LA];have:=Qe hV z3 (λb G=>by
    simp only[oJ];have:=(Qg hV b G).1;omega)
   simpa using this
  simp only[];rw[qf,hz,Bool.or_assoc]
 refine Qf ?_;have gl:k<S.length:=by have hv:(k:Int)<(S.length:Int):=mz;omega
 have hmem:=Lm gl;have hdr:S.drop k=S[k]'gl::S.drop (k+1):=LF gl;refine Qd<|Qm<|Qc<|xig (g:=skC) Qot (hA54.I hC) U U gl λa58 h58=>?_;refine Zf (S[k]'gl) λq T=>?_;rw[T]at h58 hmem hdr;have hqi:=hl4i q hmem;rw[hdr,show q=(q.1,q.2.1,q.2.2) from rfl,ck4]at hD;refine x (Qr h58 U U)<|QM [nS,sS 0] λb8 w8 hY hb8 mt=>QK (skC q) mt ⟨hqi.one,U,Z⟩ λw9 m9 mt=>xe ?_;have hF:sX w7 w9:=hY.O m9 hb8;have gs:=gq.D hF;refine Qc<|Qo U mt U U<|Qo U mt U U<|Qz<|(QdJ (hqi.I gs) q.2.2).Y ?_;rintro r10 he ⟨rfl,rfl⟩;refine Qb<|Qj<|Zx U U<|xe<|QO rfl (λkg=>?_) (λkg=>?_)
 ·rw[OU kg]at hD;have hne:ck4 S≠0:=by rw[<-hD];exact kg
  rw[OU hne,<-hD]at Y;subst Y;have ph:QZ ↑he b4 45 Z8:=((my.I hX).I hC).I hF;refine Qc<|x (Qx Z)<|Qa<|QK Z8 ph ⟨U,U,U,U,U,Z⟩ λw11 j3 hB411=>Qb<|Qh ⟨[sT Z8,sS (KM q.2.2 none q.2.1)],⟨Yl hB411,U,Z⟩,gs.O j3 oa,Z8,U,U,⟨U,U,U,U,U,Z⟩,λ_=>U,λV=>OW V kg⟩
 rw[OT kg]at hD;refine Qf<|Qs<|QH U U<|Qa<|xe ?_;exact⟨k+1,oa,La,gl,hC.D hF,hD⟩
theorem Qe7 (n:Nat):(1:Int)*(2:Int) ^ n=((1 <<< n:Nat):Int):=by
 rw[Nat.shiftLeft_eq,NY,Int.one_mul,Int.natCast_pow];rfl
theorem Vv (h:n<16):1 <<< n<65536:=by
 rw[Nat.shiftLeft_eq,NY];exact Nat.pow_lt_pow_right ol h
theorem Qd9 {k:Nat}(E:b<65536)(G:k<16):orB b k<65536:=Qfg E (Vv G)
theorem Qpd (h:n<16):inK .u16 ((1:Int)*(2:Int) ^ n):=by
 rw[Qe7];have E:=Vv h;generalize 1 <<< n=m at E;exact⟨oa,oa⟩
theorem QiB {x:XD}:∀(l:List XD) (k b:Nat),b<65536->k+l.length<=16->rqB x k b l<65536
 | [],_,_,E,_=>E
 | y::l,k,b,E,G=>by
  rw[rqB];refine QiB l _ _ ?_ (by simp at G;omega);by_cases h:(y.a.al.any λe=>decide (e∈x.a.al))=true
  ·rw[OU h];exact Qd9 E (by simp at G;omega)
  rw[OT h];exact E
theorem QcA (ls:xw)(l:Int×Int):prB (ls++[l])=orB (prB ls) l.1.toNat:=by
 unfold prB;rw[MF];rfl
theorem Qbr:∀(ls:xw),(∀l∈ls,0<=l.1/\l.1<16)->prB ls<65536:=by
 intro ls;unfold prB;have key:∀(ls:xw) (b:Nat),b<65536->(∀l∈ls,0<=l.1/\l.1<16)->ls.foldl (λb l=>orB b l.1.toNat) b<65536:=by
  intro ls;induction ls with
  | nil=>intro b E _;exact E
  | cons l ls ih =>
   intro b E h;exact ih _ (Qd9 E (ov (h l Lq))) (λl' G=>h l' (Lk _ G))
 exact key ls 0 ol
theorem Qfw (m:Nat)(S:m<65536)(w:O1):QY sV 101 [.int .u16 m] w λr w'=>sX w w'/\Qq 3 ↑w w' r (setK m 8):=by
 refine Zq func101 ?_;refine Qc<|Qb<|Qc<|Qb<|Qd<|Qj<|xe<|Q7 (α:=Nat×O2) [(3,17)] (λz=>[(3,z.2),(5,sS z.1)]) (λz w'=>z.1<=8/\sX w w'/\Qq 3 ↑w w' z.2 (setK m z.1)) (λz=>8 - z.1) (0,nS) oB
  ⟨Lo _,O5.Z _ _,QE _ _ _ _⟩ ?_
 rintro⟨k,v⟩ g w1 ⟨T,G,E⟩;simp only[]at T E;have hh:=JV m k;have hi:=G.size;refine Zo rfl U (λV=>?_) (λV=>?_)
 ·refine Qw<|Qj<|Qb ?_;have Y:k=8:=oa
  rw[Y]at E;exact Qh ⟨[v],La,G,E⟩
 have J:k<8:=oa
 have ha:m / 2 ^ k<65536:=Nat.lt_of_le_of_lt (Nat.div_le_self _ _) S;have H:=qA m k;refine Qf<|Qd<|Qm<|Qj<|Qb<|Qj<|Qa<|x (Qaf (n:=k) U U (by show k<=16;omega))<|x (Ql9 (a:=m / 2 ^ k) (b:=1) (OV (Value.int .u16) (Qbg m k)) U ha ol)<|x (QR U U)<|xe<|ZH rfl (λO=>?_) (λO=>?_)
 ·rw[OT (λe=>O (by rw[e];rfl))]at H;refine Qf<|Qs<|QH U U<|Qa<|xe ?_;exact⟨(k+1,v),og,oB,J,G,by simp only[];rw[H];exact E⟩
 rw[OU oa]at H;refine Qs<|Qa<|Qa<|Qn<|Za [[sS k]] λhj w2 I hl hc=>?_;have he:=Ql E I;have hn:=I.size;refine Qn<|Q2 (news:=[sS k]) (L:=[]) he U U U (hc.at od) oq oa oa λv3 w3 hf hg ho =>
  Qb<|Qs<|QH U U<|Qa<|xe ?_
 refine⟨(k+1,v3),og,oB,J,(G.D I).S hg (λb hb=>.inr ((Qg E) b hb).1),?_⟩;simp only[];rw[H];exact Qq.snoc hf
theorem Qir {c:CL}(J:QZ ↑w b1 45 c.cells)(O:QZ ↑w b2 3 [sS i])(E:ZI [] ↑w c){q:IV}(hi:c.rq[i]?=some q)(e:Int):
  QY sV 218 [sS e,sP b1,sP b2] w λr w'=>r=.bool (decide (e∈q.p.a.al))/\sX w w':=by
 obtain⟨G,H⟩:=L7.1 hi;refine Zq func218 ?_;refine Qc<|Qb<|Qc<|Qo U J U U<|Xn O U U<|xig (g:=QJ) (i:=i) Yv E.rq.arr U U G λS I=>?_;rw[H]at I;refine x (Zd U)<|x (Zd U)<|x (Qy ((I.fld 1 q.p.va U)) U)<|Qa<|Qz<|(Yr (E.rq.each q (H ▸ Lm G)).al e).Y ?_;rintro T V ⟨rfl,rfl⟩;refine Qb<|Qh ⟨[_],La,U,O5.Z _ _⟩
theorem QlO {c:CL}(hg:QZ ↑w b1 45 c.cells)(S:ZI [] ↑w c)(h8:c.co.length<=8){q:IV}(hi:c.rq[i]?=some q):
  QY sV 217 [sS i,sP b1] w λr w'=>r=.int .u16 (rqB q.it 0 0 c.V.co)/\sX w w':=by
 refine Zq func217 ?_;refine Qc<|Zl [sS i] λb2 w1 T hw hn=>Qb<|Qc<|Qb<|Qd<|Qc<|Qo U (hg.I T) U U<|QF (S.I T).co.arr U<|Qa<|xe<|Q7 (α:=Nat×Nat) [(4,6),(10,24)] (λz=>[(4,.int .u16 z.2),(10,sS z.1)]) (λz w'=>z.1<=c.co.length/\sX w1 w'/\z.2<65536/\rqB q.it z.1 z.2 ((c.co.drop z.1).map (·.it))=rqB q.it 0 0 c.V.co) (λz=>c.co.length - z.1) (0,0) oB
  ⟨Lo _,O5.Z _ _,ol,U⟩ ?_
 rintro⟨k,b⟩ g w2 ⟨hk,J,V,E⟩;have Y:=T.D J;have h2:=S.I Y;refine Zo rfl U (λha=>?_) (λha=>?_)
 ·refine Qw ?_;have ho:c.co.length<=k:=by have hp:¬(k:Int)<(c.co.length:Int):=ha;omega
  rw[Lt ho]at E;have hq:b=rqB q.it 0 0 c.V.co:=E;refine Qj<|Qb<|Qh ⟨[.int .u16 b],La,by rw[hq];rfl,Y⟩
 have G:k<c.co.length:=by have hp:(k:Int)<(c.co.length:Int):=ha;omega
 have hh:=Lm G;rw[Kk G,rqB]at E;refine Qf<|Qd<|Qm<|Qj<|xig (g:=QJ) (i:=k) Yv h2.co.arr U U G λhz hj=>?_;refine Zf (c.co[k]'G) λy hy=>?_;rw[hy]at hj hh E;have O:=h2.co.each y hh;refine x (Qr hj U U)<|QM [.string .empty,nS,sS 0,nS,nS] λb6 w3 hs ht he=>x Qi <|
  QK (QJ y) he ⟨U,O.al.one,U,O.mr.one,O.ed.one,Z⟩ λw4 hu he=>xe ?_
 have I:sX w2 w4:=hs.O hu ht;have hl:=Y.D I;refine Qc<|QQ U<|Qo U he U U<|x (ZD (l:=[]) (l':=[_,_]))<|Qz<|(Qf2 (q:=λe=>decide (e∈q.p.a.al)) (cap:=[sP b1,sP b2]) (O.al.I I)
  (λe w5 H=>Qir ((hg.I hl).I H) ((hn.I (J.D I)).I H) ((S.I hl).I H) hi e)).Y ?_
 rintro r5 w5 ⟨rfl,H⟩;refine xe<|QU rfl (λhf=>?_) (λhf=>?_)
 ·rw[OU (by exact hf)]at E;refine Qs<|Qa<|Qa<|x (QiI (n:=k) U U (by show k<=16;omega) (Qpd oa))<|x (Qd6 (a:=b) (b:=1 <<< k) U (OV (Value.int .u16) (Qe7 k)) V (Vv oa))<|Qb<|Qs<|QH U U<|Qa<|xe ?_;exact⟨(k+1,orB b k),og,oB,G,(J.D I).D H,Qd9 V oa,E⟩
 rw[OT (by intro h0;have hv:(y.p.a.al.any λe=>decide (e∈q.p.a.al))=false:=hf;have hm:(y.p.a.al.any λe=>decide (e∈q.p.a.al))=true:=h0;rw[hv]at hm;cases hm)]at E;refine Qf<|Qs<|QH U U<|Qa<|xe ?_;exact⟨(k+1,b),og,oB,G,(J.D I).D H,V,E⟩
theorem QlN {c:CL}(hh:QZ ↑w b1 45 c.cells)(V:ZI [] ↑w c){q:XV}(hi:c.ex[i]?=some q)(Y:∀l∈q.ls,0<=l.1/\l.1<16):
  QY sV 219 [sS i,sP b1] w λr w'=>r=.int .u16 (prB q.ls)/\sX w w':=by
 obtain⟨ha,hq⟩:=L7.1 hi;have I:=V.ex.each q (hq ▸ Lm ha);have hv:=I.le;refine Zq func219 ?_;refine Qc<|Qb<|Qc<|Qb<|Qd<|Qc<|Qo U hh U U<|Qa<|xig (g:=Q3) (i:=i) Xx V.ex.arr U U ha λhw he=>?_;rw[hq]at he;refine x (Zd U)<|x (Qy (he.fld 1 q.v U) U)<|QF I U<|Qa<|xe<|Q7 (α:=Nat×Nat) [(4,4),(6,6),(14,23)] (λz=>[(4,.int .u16 z.2),(14,sS z.1)]) (λz w'=>z.1<=q.ls.length/\sX w w'/\z.2=prB (q.ls.take z.1)) (λz=>q.ls.length - z.1) (0,0) oB
  ⟨Lo _,O5.Z _ _,U⟩ ?_
 rintro⟨k,b⟩ g w1 ⟨hk,J,G⟩;simp only[]at hk G;have hj:b<65536:=by rw[G];exact Qbr _ (λl O=>Y l (LX O))
 refine Zo rfl U (λS=>?_) (λS=>?_)
 ·refine Qw ?_;have hn:q.ls.length<=k:=by have H:¬(k:Int)<(q.ls.length:Int):=S;omega
  rw[Lu hn]at G;refine Qj<|Qb<|Qh ⟨[.int .u16 b],La,by rw[G];rfl,J⟩
 have E:k<q.ls.length:=by have H:(k:Int)<(q.ls.length:Int):=S;omega
 have hf:q.ls.take (k+1)=q.ls.take k++[q.ls[k]'E]:=Ln E;have ho:=Y _ (Lm E);refine Qf<|Qd<|Qm<|Qc<|xig (g:=QD) YK (I.I J) U U E λhy H=>?_;refine Zf (q.ls[k]'E) λl O=>?_;rw[O]at H hf ho;have hp:l.1=(l.1.toNat:Int):=oa
 have hg:l.1.toNat<16:=oa
 refine x (Qr H U U)<|QM [sS 0,sS 0] λb6 w2 hr hs T=>QK (QD l) T oB λw3 ht T =>
  xe ?_
 have hu:sX w1 w3:=hr.O ht hs;refine Qs<|Qa<|Qo U T U U<|x (QiI (n:=l.1.toNat) U (OV sS hp) (by show l.1.toNat<=16;omega) (Qpd hg))<|x (Qd6 (a:=b) (b:=1 <<< l.1.toNat) U (OV (Value.int .u16) (Qe7 _)) hj (Vv hg))<|Qb<|Qs<|QH U U<|Qa<|xe ?_;exact⟨(k+1,orB b l.1.toNat),og,oB,E,J.D hu,by simp only[];rw[hf,QcA,G]⟩
theorem QlM {c:CL}(hh:QZ ↑w b1 45 c.cells)(V:ZI [] ↑w c){q:KV}(hi:c.cs[i]?=some q)(Y:∀l∈q.ts,0<=l.1/\l.1<16):
  QY sV 220 [sS i,sP b1] w λr w'=>r=.int .u16 (prB q.ts)/\sX w w':=by
 obtain⟨ha,hq⟩:=L7.1 hi;have I:=V.cs.each q (hq ▸ Lm ha);have hv:=I.le;refine Zq func220 ?_;refine Qc<|Qb<|Qc<|Qb<|Qd<|Qc<|Qo U hh U U<|Qa<|xig (g:=Q9) (i:=i) Xq V.cs.arr U U ha λhw he=>?_;rw[hq]at he;refine x (Zd U)<|x (Qy (he.fld 1 q.v U) U)<|QF I U<|Qa<|xe<|Q7 (α:=Nat×Nat) [(4,4),(6,6),(14,23)] (λz=>[(4,.int .u16 z.2),(14,sS z.1)]) (λz w'=>z.1<=q.ts.length/\sX w w'/\z.2=prB (q.ts.take z.1)) (λz=>q.ts.length - z.1) (0,0) oB
  ⟨Lo _,O5.Z _ _,U⟩ ?_
 rintro⟨k,b⟩ g w1 ⟨hk,J,G⟩;simp only[]at hk G;have hj:b<65536:=by rw[G];exact Qbr _ (λl O=>Y l (LX O))
 refine Zo rfl U (λS=>?_) (λS=>?_)
 ·refine Qw ?_;have hn:q.ts.length<=k:=by have H:¬(k:Int)<(q.ts.length:Int):=S;omega
  rw[Lu hn]at G;refine Qj<|Qb<|Qh ⟨[.int .u16 b],La,by rw[G];rfl,J⟩
 have E:k<q.ts.length:=by have H:(k:Int)<(q.ts.length:Int):=S;omega
 have hf:q.ts.take (k+1)=q.ts.take k++[q.ts[k]'E]:=Ln E;have ho:=Y _ (Lm E);refine Qf<|Qd<|Qm<|Qc<|xig (g:=QD) YK (I.I J) U U E λhy H=>?_;refine Zf (q.ts[k]'E) λl O=>?_;rw[O]at H hf ho;have hp:l.1=(l.1.toNat:Int):=oa
 have hg:l.1.toNat<16:=oa
 refine x (Qr H U U)<|QM [sS 0,sS 0] λb6 w2 hr hs T=>QK (QD l) T oB λw3 ht T =>
  xe ?_
 have hu:sX w1 w3:=hr.O ht hs;refine Qs<|Qa<|Qo U T U U<|x (QiI (n:=l.1.toNat) U (OV sS hp) (by show l.1.toNat<=16;omega) (Qpd hg))<|x (Qd6 (a:=b) (b:=1 <<< l.1.toNat) U (OV (Value.int .u16) (Qe7 _)) hj (Vv hg))<|Qb<|Qs<|QH U U<|Qa<|xe ?_;exact⟨(k+1,orB b l.1.toNat),og,oB,E,J.D hu,by simp only[];rw[hf,QcA,G]⟩
theorem xcG {pS:String}{x:O3}{l:List O3}
   {first:LV} (E:∃fn,Fu P g fn) (hx:ev f x=.func (.func g) first.toArray capt.toArray) (h:QY P g (first++l.map (ev f)++capt) w λv w'=>K (QN f d v) w'):
  XO P ⟨d,.call ⟨.value x,l.toArray,at_⟩,ty,pS,af,gd⟩ f w K:=by
 obtain⟨fn,G⟩:=E;exact xc (fn:=fn) hx h
def gK (m:Nat):Nat:=if m=0 then 217 else if m=1 then 219 else 220
theorem Qn3 (m:Nat):∃fn,Fu sV (gK m) fn:=by
 unfold gK;split
 ·exact⟨_,inferInstance⟩
 split
 ·exact⟨_,inferInstance⟩
 exact⟨_,inferInstance⟩
abbrev Vp (c:ZF)(m:Nat):LN:=srK c ((m:Int)+1)
theorem QlR (c:ZF):Vp c 0=srR c:=rfl
theorem QlQ (c:ZF):Vp c 1=srX c:=rfl
theorem QlP (c:ZF):Vp c 2=srC c:=rfl
structure jQ (c:ZF):Prop where
 c8:c.co.length<=8
 r:c.rq.length<=32
 x:c.ex.length<=32
 k:c.cs.length<=32
 xl:∀e∈c.ex,∀l∈e.ls,0<=l.1/\l.1<16
 kl:∀e∈c.cs,∀l∈e.ts,0<=l.1/\l.1<16
theorem Qln.sr (h:Qln c):jQ c:=by
 have E:=VM h.cd;have I:(szs c.co).length=c.co.length:=Lh ..;have J:=h.cr;refine⟨h.c8,oa,E.xl,E.kl,λe G l H=>?_,λe G l H=>?_⟩
 ·have:=E.x e G l H;omega
 have:=(E.k e G).1 l H;omega
theorem Qbe (h:jQ c){m:Nat}(E:m<3):(Vp c m).length<=32:=by
 rcases m with _|_|_|m
 ·rw[QlR];unfold srR;rw[Lh];exact h.r
 ·rw[QlQ];unfold srX;rw[Lh];exact h.x
 ·rw[QlP];unfold srC;rw[Lh];exact h.k
 omega
theorem Qis (h:jQ c){m:Nat}(G:m<3):∀b∈Vp c m,b<65536:=by
 have H:=h.c8;rcases m with _|_|_|m
 ·rw[QlR];unfold srR;intro b E;obtain⟨x,_,rfl⟩:=LD.1 E;exact QiB _ _ _ ol oa
 ·rw[QlQ];unfold srX;intro b E;obtain⟨x,hx,rfl⟩:=LD.1 E;exact Qbr _ (h.xl x hx)
 ·rw[QlP];unfold srC;intro b E;obtain⟨x,hx,rfl⟩:=LD.1 E;exact Qbr _ (h.kl x hx)
 omega
abbrev srV (b1:Nat)(c:ZF)(m:Nat):LV:=[sS ((m:Int)+1),sS (Vp c m).length,.func (.func (gK m)) #[] #[sP b1]]
theorem Qbd (b1:Nat)(c:ZF)(m:Nat):(srV b1 c m).length=3:=rfl
theorem Qiq {c:CL}{m:Nat}(H:QZ ↑w b1 45 c.cells)(I:ZI [] ↑w c)(J:jQ c.V)(S:m<3)(hi:i<(Vp c.V m).length):
  QY sV (gK m) [sS i,sP b1] w λr w'=>r=.int .u16 ((Vp c.V m)[i]'hi:Nat)/\sX w w':=by
 rcases m with _|_|_|m
 ·have G:(Vp c.V 0).length=c.rq.length:=by rw[QlR];unfold srR;rw[Lh];exact Lh ..
  have E:i<c.rq.length:=Nat.lt_of_lt_of_eq hi G;have e:(Vp c.V 0)[i]'hi=rqB (c.rq[i]'E).it 0 0 c.V.co:=by
   show(srR c.V)[i]'_=_;simp[srR,CL.V]
  rw[e];have O:c.co.length<=8:=by have:=J.c8;rw[show c.V.co.length=c.co.length from Lh ..]at this;exact this
  exact QlO H I O (LG E)
 ·have G:(Vp c.V 1).length=c.ex.length:=by rw[QlQ];unfold srX;rw[Lh];exact Lh ..
  have E:i<c.ex.length:=Nat.lt_of_lt_of_eq hi G;have e:(Vp c.V 1)[i]'hi=prB (c.ex[i]'E).ls:=by
   show(srX c.V)[i]'_=_;simp[srX,CL.V,XV.x]
  rw[e];exact QlN H I (LG E) (λl G=>J.xl (c.ex[i]'E).x (LP (Lm E)) l G)
 ·have G:(Vp c.V 2).length=c.cs.length:=by rw[QlP];unfold srC;rw[Lh];exact Lh ..
  have E:i<c.cs.length:=Nat.lt_of_lt_of_eq hi G;have e:(Vp c.V 2)[i]'hi=prB (c.cs[i]'E).ts:=by
   show(srC c.V)[i]'_=_;simp[srC,CL.V,KV.k]
  rw[e];exact QlM H I (LG E) (λl G=>J.kl (c.cs[i]'E).k (LP (Lm E)) l G)
 omega
structure Qr7 (N:Nat)(w:O1)(c:CL)(r:O2)(b1 b:Nat):Prop where
 r:r=sL b 3 3
 n1:N<=b1
 n:N<=b
 B1:QZ ↑w b1 45 c.cells
 B:QZ ↑w b 290 ([0,1,2].flatMap (srV b1 c.V))
theorem yu {c:CL}(J:ZI L ↑w c):
  QY sV 143 [c.val] w λr w'=>sX w w'/\∃b1 b,Qr7 ↑w w' c r b1 b:=by
 have e0:(Vp c.V 0).length=c.rq.length:=by rw[QlR];unfold srR;rw[Lh];exact Lh ..
 have e1:(Vp c.V 1).length=c.ex.length:=by rw[QlQ];unfold srX;rw[Lh];exact Lh ..
 have e2:(Vp c.V 2).length=c.cs.length:=by rw[QlP];unfold srC;rw[Lh];exact Lh ..
 refine Zq func143 ?_;refine Qc<|Zl c.cells λb1 V G O E=>Qb ?_;have H:=(J.up (L':=[]) od).I G;refine Qc<|Qo U E U U<|QF H.rq.arr U<|x (ZD (l:=[]) (l':=[_]))<|x (Qx ⟨U,U,U,Z⟩)<|x (KC U) <|
  Xn E rfl U<|QF H.ex.arr U<|x (ZD (l:=[]) (l':=[_]))<|x (Qx ⟨U,U,U,Z⟩)<|QQ U<|x (Qk E U U) <|
  QF H.cs.arr U<|x (ZD (l:=[]) (l':=[_]))<|x (Qx ⟨U,U,U,Z⟩) <|
  Qn<|Xy (us:=[[sS 1,sS c.rq.length,.func (.func 217) #[] #[sP b1]],[sS 2,sS c.ex.length,.func (.func 219) #[] #[sP b1]],[sS 3,sS c.cs.length,.func (.func 220) #[] #[sP b1]]]) U U ol od ⟨rfl,rfl,rfl,rfl,rfl,rfl,Z⟩ λS Y I ha T =>
  Qb ?_
 have hb:=G.size;refine Qh ⟨[_],La,G.D I,b1,S,U,O,oa,E.I I,?_⟩;have e:[0,1,2].flatMap (srV b1 c.V)=[sS 1,sS c.rq.length,.func (.func 217) #[] #[sP b1],sS 2,sS c.ex.length,.func (.func 219) #[] #[sP b1],sS 3,sS c.cs.length,.func (.func 220) #[] #[sP b1]]:=by
  simp only[Of,OM,srV,e0,e1,e2];rfl
 rw[e];exact T
structure MV where
 kd:Int
 ix:Int
 v:O2
 co:LI
def MV.m (q:MV):qu:=⟨q.kd,q.ix,q.co⟩
abbrev Yx (q:MV):LV:=[sS q.kd,sS q.ix,q.v]
theorem Qeb (q:MV):(Yx q).length=3:=rfl
abbrev mvP (q:MV):O2×Nat×Nat×LV:=(q.v,q.co.length,1,q.co.map (.int .i64))
abbrev MvN (base:Nat)(w:O1)(v:O2)(l:List MV):Prop:=YJ Yx 3 210 mvP base w v l
theorem Qmo {q:MV}(h:q.v.oneCell'=true):∀u∈Yx q,u.oneCell'=true:=by
 intro u E;simp only[Yx,oL,oK,or_false]at E;rcases E with rfl|rfl|rfl
 ·rfl
 ·rfl
 exact h
theorem U1 (k:Int):∀(l:LN) (i:Nat),(Ub k i l).length=l.length
 | [],_=>rfl
 | _::l,i=>by rw[Ub,LU,U1 k l,LU]
theorem Qat (k:Int):∀(l:LN) (i j:Nat) (h:j<l.length),(Ub k i l).take (j+1)=(Ub k i l).take j++[⟨k,((i+j:Nat):Int),setK (l[j]'h) 8⟩]
 | [],_,j,h=>OW h (Nk _)
 | b::l,i,0,h=>by rw[Ub];rfl
 | b::l,i,j+1,h=>by
  rw[Ub,MK,MK,Qat k l (i+1) j (oA h),Mw];have e:((i+1+j:Nat):Int)=((i+(j+1):Nat):Int):=oa
  rw[e];rfl
abbrev mdG (c:ZF)(m:Nat):List qu:=Ub ((m:Int)+1) 0 (Vp c m)
def mdP (c:ZF):Nat->List qu
 | 0=>[]
 | m+1=>mdP c m++mdG c m
theorem QcL (c:ZF):mdP c 3=O8 c:=by
 simp only[mdP,O8,Om,o6];rfl
theorem QbA {c:ZF}(h:jQ c):∀m,m<=3->(mdP c m).length<=32*m
 | 0,_=>Lo _
 | m+1,E=>by
  have G:=QbA h m oa;have H:=Qbe h (show m<3 by omega);rw[mdP,Ll,U1];omega
theorem jx {c:CL}(T:ZI L ↑w c):
  QY sV 84 [c.val] w λr w'=>sX w w'/\∃v l,r=.tuple #[v,sS (Zj c.V)]/\MvN ↑w w' v l/\(Zj c.V≠0->v=nS/\l=[])/\(Zj c.V=0->l.map MV.m=O8 c.V):=by
 have h:=T.up (L':=[]) od;refine Zf (Zj c.V) λE hE=>?_;rw[hE];refine Zq func84 ?_;refine Qc<|Zl c.cells λb1 w1 h7 gh h8=>x Qi<|Qb<|Qd<|Qc<|QT h8 U U<|Qz<|(Xl (h.I h7)).Y ?_;rintro rc wc ⟨hB,hC⟩;rw[hE]at hB;subst hB;have hJ:=h8.I hC;have ho:=h7.D hC;refine Qb<|Qj<|Zx U U<|xe<|QO rfl (λI=>?_) (λI=>?_)
 ·refine Qj<|x Qi<|Qb<|Qh ⟨[nS,sS E],oB,ho,nS,[],U,YJ.nil,λ_=>⟨U,U⟩,λT=>OW T I⟩
 have hp:E=0:=Lp.1 I;have hh:jQ c.V:=(ZW (hE.D hp)).sr;refine Qf<|Qc<|Qb<|Qd<|Qc<|QT hJ U U<|Qz<|(yu (h.I ho)).Y ?_;rintro r2 J ⟨hK,c1,bs,hS⟩;have hM:=hS.r;subst hM;have hr:=ho.D hK;have hA:∀{w':O1},sX J w'->Zn [] ↑w' (sL bs 3 3) [0,1,2].length 3 ([0,1,2].flatMap (srV c1 c.V)):=λhs =>
  (hS.B.I hs).arr od (n:=3) (cap:=3) (sz:=3) om oa (Lx _)
 refine QF (hA (O5.Z _ _)) U<|Qa<|xe<|Q7 (α:=Nat×O2×List MV) [(5,5),(7,8),(17,39)] (λz=>[(5,z.2.1),(17,sS z.1)]) (λz w'=>z.1<=3/\sX J w'/\MvN ↑J w' z.2.1 z.2.2/\z.2.2.map MV.m=mdP c.V z.1) (λz=>3 - z.1) (0,nS,[]) oB
  ⟨Lo _,O5.Z _ _,YJ.nil,U⟩ ?_
 rintro⟨m,v,l⟩ g w3 ⟨hm,hj,V,Y⟩;simp only[]at hm V Y;have gi:=QbA hh m hm;have gj:l.length=(mdP c.V m).length:=by rw[<-Y,Lh]
 refine Zo rfl U (λht=>?_) (λht=>?_)
 ·refine Qw ?_;have hN:m=3:=by have hu:¬(m:Int)<(3:Nat):=ht;omega
  rw[hN,QcL]at Y;refine Qj<|x Qi<|Qb ?_;have hO:=hr.size;exact Qh ⟨[v,sS 0],oB,hr.D hj,v,l,by rw[hp];rfl,⟨ZB V.own hO,λq hq L hL=>V.each q hq L (λb G=>(hL b G).imp (λh=>oa) id)⟩,λT=>OW hp T,λ_=>Y⟩
 have O:m<3:=by have hu:(m:Int)<(3:Nat):=ht;omega
 have gk:=Qbe hh O;refine Qf ?_;have gl:=hj.size;have hge:=Qg V.own;have hP:([0,1,2]:LN)[m]'O=m:=by rcases m with _|_|_|m <;> first|rfl|omega
 refine Qd<|Qm<|Qc<|xig (g:=srV c1 c.V) (i:=m) (Qbd c1 c.V) (hA hj) U U O λgm I=>?_;rw[hP]at I;refine x (Qr I U U)<|QM [sS 0,sS 0,.nilFunc] λb7 w4 hQ hR ha=>QK (srV c1 c.V m) ha oC λw5 hT ha =>
  xe ?_
 have hv:sX w3 w5:=hQ.O hT hR;have gn:=hv.size;refine Qc<|Qo U ha U U<|Qa<|xe<|Q7 (α:=Nat×O2×List MV) [(5,5),(8,8),(23,38)] (λz=>[(5,z.2.1),(23,sS z.1)]) (λz w'=>z.1<=(Vp c.V m).length/\O5 (ob v) w5 w'/\MvN ↑J w' z.2.1 z.2.2/\z.2.2.map MV.m=mdP c.V m++(mdG c.V m).take z.1/\∀b∈ob z.2.1,b∈ob v\/↑w5<=b) (λz=>(Vp c.V m).length - z.1) (0,v,l) oB
  ⟨Lo _,O5.Z _ _,V.I hv,by simp only[List.take_zero,Oy];exact Y,λb G=>.inl G⟩ ?_
 rintro⟨i,vi,li⟩ g H ⟨hi,hk,he,hf,hl⟩;simp only[]at hi he hf hl;have go:=hk.size;have hU:=Qg he.own;have hn:sX J H:=(hj.D hv).S hk (λb G=>.inr (hge b G).1);have hD:b7∉ob v:=λG=>ov (hge b7 G).2
 have hF:=ha.J hk hD;have h6:=h.I (hr.D hn);have hV:QZ ↑H c1 45 c.cells:=hS.B1.I hn;have gp:li.length<=200:=by
  have e1:=OV oQ hf;rw[Lh,Ll,LB]at e1;have e2:(mdG c.V m).length=(Vp c.V m).length:=U1 _ _ _;omega
 refine Zo rfl U (λhw=>?_) (λhw=>?_)
 ·refine Qw ?_;have hW:(Vp c.V m).length<=i:=by have hu:¬(i:Int)<((Vp c.V m).length:Int):=hw;omega
  rw[Lu (by rw[U1];exact hW)]at hf;refine Qs<|QH U U<|Qa<|xe ?_;exact⟨(m+1,vi,li),og,oB,O,hn,he,hf⟩
 have S:i<(Vp c.V m).length:=by have hu:(i:Int)<((Vp c.V m).length:Int):=hw;omega
 have hy:(mdG c.V m).take (i+1)=(mdG c.V m).take i++[⟨(m:Int)+1,((0+i:Nat):Int),setK ((Vp c.V m)[i]'S) 8⟩]:=Qat _ _ _ _ S;rw[LT]at hy;have hbl:=Qis hh O _ (Lm S);refine Qf<|Qd<|Qm<|Qj<|Qb ?_;have hG:b7∉ob vi:=λG=>by
  rcases hl b7 G with h9|h9
  ·exact hD h9
  have:=ha.lt;omega
 have hz:sX H { H with drawn:=H.drawn+1 }:=O5.C _ _
 have gq:({ H with drawn:=H.drawn+1 }:O1).heap.size=H.heap.size:=rfl
 refine Zz (ob vi) (YW 0 13 [7,8,10,11])<|p Qv<|p (QG U)<|pq (λ_ hc=>Qk (hF.J hc hG) U U)<|p Qv<|p (QG U) <|
  pq (λ_ hc=>Qk (hF.J hc hG) U U)<|p Qv<|pk<|xcG (first:=[]) (capt:=[sP c1]) (Qn3 m) U<|(Qiq (hV.I hz) (h6.I hz) hh O S).Y ?_
 rintro r8 w8 ⟨rfl,hX⟩;refine Zf ((Vp c.V m)[i]'S) λbv hY=>?_;rw[hY]at hy hbl ⊢;have h1:=hz.D hX;refine⟨h1.any,?_⟩;refine pk<|xg<|(Qfw bv hbl w8).Y ?_;rintro r9 w9 ⟨hZ,h2⟩;have h3:=h1.D hZ;have gr:=h1.size;refine⟨h3.any,?_⟩;refine p (λ_=>Qx ⟨U,U,xL h2,Z⟩)<|pk<|Za [Yx ⟨(m:Int)+1,i,r9,setK bv 8⟩] λgs gt h4 gu ga=>⟨(h3.D h4).any,?_⟩;have hg:=h3.D h4;have gv:=hg.size;refine pk<|Q2 (news:=Yx ⟨(m:Int)+1,i,r9,setK bv 8⟩) (L:=[]) (Ql he.own hg) U U U (ga.at od) (Qmo (q:=⟨(m:Int)+1,i,r9,setK bv 8⟩) (Qp h2)) oa oa λhH gb gc h5 hI=>⟨hg.any.Q h5,?_⟩;refine p ZG<|pe ?_;have gw:=JV bv 8;have gg:MvN ↑J gb hH (li++[⟨(m:Int)+1,i,r9,setK bv 8⟩]):=YJ.app2 (N:=↑w8) (he.I hg) (Ql h2 h4) (by show(setK bv 8).length<=_;omega) (ov hn.size) (λb G=>ov (hU b G)) gc h5 hI;refine Qs<|QH U U<|Qa<|xe<|⟨(i+1,hH,li++[⟨(m:Int)+1,i,r9,setK bv 8⟩]),og,oB,S,(hk.D hg).S h5 hl,gg,?_,λb G=>?_⟩
 ·simp only[];rw[hy,Lr,hf,LC];rfl
 rcases hI b G with h9|h9
 ·exact hl b h9
 exact .inr oa
theorem QmJ {v:O2}{es:LN}[Fu sV g fn]{cap:LV}{q:Nat->Bool}(h:Zn L ↑w v es.length 3 (es.flatMap (srV b1 c)))
  (hk:∀(m:Nat) (G:O1),sX w G->QY sV g ([sT (srV b1 c m)]++cap) G λr w'=>r=.bool (q m)/\sX G w'):
  QY sV 221 [v,.func (.func g) #[] cap.toArray] w λr w'=>sX w w'/\∃i:Int,r=sS i/\((i=-1/\∀m∈es,q m=false)\/∃k:Nat,∃m,es[k]?=some m/\i=(k:Int)/\q m=true):=by
 have hf:=h.le;refine Zq func221 ?_;refine Qc<|Qb<|Qd<|Qj<|QF h U<|Qa<|xe<|Q7 (α:=Nat) [(4,5),(8,18)] (λz=>[(8,sS z)]) (λz w'=>z<=es.length/\sX w w'/\∀m∈es.take z,q m=false) (λz=>es.length - z) 0 La ⟨Lo _,O5.Z _ _,λm O=>by simp at O⟩ ?_;rintro k g' G ⟨hg,H,S⟩;refine Zo rfl U (λT=>?_) (λT=>?_)
 ·refine Qw ?_;have he:es.length<=k:=by have I:¬(k:Int)<(es.length:Int):=T;omega
  rw[Lu he]at S;refine Qc<|Qb<|Qh ⟨[sS (-1)],La,H,-1,U,.inl ⟨U,S⟩⟩
 have E:k<es.length:=by have I:(k:Int)<(es.length:Int):=T;omega
 have V:es.take (k+1)=es.take k++[es[k]'E]:=Ln E;have Y:es[k]?=some (es[k]'E):=LG E;refine Qf<|Qd<|Qm<|Qj<|Qb<|Qj<|Qa<|Qa<|xig (g:=srV b1 c) (i:=k) (Qbd b1 c) (h.I H) U U E λhh ha=>?_;refine Zf (es[k]'E) λm O=>?_;rw[O]at ha V Y;refine x (Qr ha U U)<|Qn<|xc (first:=[]) (capt:=cap) U<|(hk m G H).Y ?_;rintro r2 w2 ⟨rfl,hb⟩;refine xe<|QU rfl (λI=>?_) (λI=>?_)
 ·refine Qj<|Qb<|Qh ⟨[sS k],La,H.D hb,k,U,.inr ⟨k,m,Y,U,I⟩⟩
 refine Qf<|Qs<|QH U U<|Qa<|xe<|⟨k+1,oa,La,E,H.D hb,λm' hc=>?_⟩;rw[V]at hc;rcases Lc.1 hc with J|J
 ·exact S m' J
 simp only[oJ]at J;subst J;exact I
theorem Qnv {m:Nat}{q:MV}(H:QZ ↑w E 210 (Yx q)):
  QY sV 222 [sT (srV b1 c m),sP E] w λr w'=>r=.bool (decide ((m:Int)+1=q.kd))/\sX w w':=by
 refine Zq func222 ?_;refine Qc<|Zl (srV b1 c m) λb2 J G O I=>Qb<|Qc<|Qo U I U U<|Qo U (H.I G) U U<|x (QR U U)<|Qb<|Qh ⟨[_],La,U,G⟩
theorem Qg5 {c:CL}{q:MV}(h0:ZI L ↑w c)(hC:QL L ↑w q.v q.co):
  QY sV 144 [c.val,.agg #[sS q.kd,sS q.ix,q.v]] w λr w'=>r=sS (mdE c.V q.m)/\sX w w':=by
 have h:=h0.up (L':=[]) od;have G:mdE c.V q.m=if Zj c.V≠0 then Zj c.V else if q.kd<1\/3<q.kd then 11 else if q.ix<0\/((srK c.V q.kd).length:Int)<=q.ix then 10 else if q.co=setK ((srK c.V q.kd).getD q.ix.toNat 0) 8 then 0 else 13:=rfl
 refine Zf (mdE c.V q.m) λE hE=>?_;rw[hE]at G ⊢;refine Zq func144 ?_;refine Qc<|Zl c.cells λb2 w1 hD hX hu=>Zl (Yx q) λb3 w2 he hY hF=>Qb ?_;have hv:=hD.D he;refine Qd<|Qc<|QT (hu.I he) U U<|Qz<|(Xl (h.I hv)).Y ?_;rintro r3 w3 ⟨rfl,hf⟩;refine Qb ?_;have hg:=hv.D hf;refine Qj<|Zx U U<|xe<|QO rfl (λT=>?_) (λT=>?_)
 ·rw[OU T]at G;subst G;refine Qj<|Qb<|Qh ⟨[_],La,U,hg⟩
 rw[OT T]at G;have hh:jQ c.V:=(ZW (Lp.1 T)).sr;refine Qf<|Qc<|QT ((hu.I he).I hf) U U<|Qz<|(yu (h.I hg)).Y ?_;rintro r4 w4 ⟨hw,c1,bs,hS⟩;have hG:=hS.r;subst hG;refine Qb ?_;have hy:=(hF.I hf).I hw;have hA:Zn [] ↑w4 (sL bs 3 3) [0,1,2].length 3 ([0,1,2].flatMap (srV c1 c.V)):=hS.B.arr od (n:=3) (cap:=3) (sz:=3) om oa (Lx _);refine Qj<|x (ZD (l:=[]) (l':=[_]))<|Qz<|(QmJ (q:=λm=>decide ((m:Int)+1=q.kd)) (cap:=[sP b3]) hA (λm w5 I=>Qnv (hy.I I))).Y ?_;rintro r5 w5 ⟨I,i,rfl,hi⟩;refine Qb ?_;have h1:=(hg.D hw).D I;have hj:=hy.I I;have h2:=hA.I I;have hH:QZ ↑w5 c1 45 c.cells:=hS.B1.I I;refine Qd<|Qm<|Qj<|Z5 U U<|Qb<|QO U (λhl=>?_) (λhl=>?_)
 ·have hm:q.kd<1\/3<q.kd:=by
   rcases hi with⟨_,hi⟩|⟨k,m,_,hi,_⟩
   ·have e0:=O0 (hi 0 od);have e1:=O0 (hi 1 od);have e2:=O0 (hi 2 od);omega
   have hZ:i<0:=hl;omega
  rw[OU hm]at G;subst G;refine Qc<|Qb<|Qh ⟨[_],La,U,h1⟩
 obtain⟨m,J,hI,hm⟩:∃m:Nat,m<3/\i=(m:Int)/\q.kd=(m:Int)+1:=by
  rcases hi with⟨hi,_⟩|⟨k,m,hk,hi,hq⟩
  ·exact OW (by rw[hi];decide:i<0) hl
  have ga:=OY hq;obtain⟨hJ,hk⟩:=L7.1 hk;have hK:k<3:=hJ;have gb:m=k:=by rcases k with _|_|_|k <;> first|exact hk.symm|omega
  exact⟨k,hK,hi,oa⟩
 subst hI;rw[OT oa,show srK c.V q.kd=Vp c.V m by rw[hm]]at G;have gc:=Qbe hh J;have h3:([0,1,2]:LN)[m]'J=m:=by rcases m with _|_|_|m <;> first|rfl|omega
 refine QX (α:=Bool) [(21,34)] (λz=>[(21,.bool z)]) (λz w'=>sX w5 w'/\z=decide (q.ix<0\/((Vp c.V m).length:Int)<=q.ix)) om ?_ ?_
 ·refine Zz [] (YW 0 14 [])<|p (QG U)<|pq (λ_ H=>Qk (hj.I H) U U)<|pb (λ_=>YX U U) (λhn=>?_) (λhn=>?_)
  ·refine p Qv<|ps<|ps<|ps<|ps<|ps<|ps<|ps<|ps<|p (Y9 U)<|p ZG<|pe ?_;have ho:q.ix<0:=hn;exact⟨true,La,O5.C _ _,by rw[OX (.inl ho)]⟩
  refine p Qv<|p (QG U)<|pq (λ_ H=>Qk (hj.I H) U U)<|p Qv<|p Qv <|
   Go.Lg.pig (g:=srV c1 c.V) (i:=m) U (Qbd c1 c.V) h2 U U J λgg h4=>?_
  rw[h3]at h4;refine p (λ_=>Zd U)<|pq (λ_ H=>Qy ((h4.fld 1 (sS (Vp c.V m).length) U).st H) U)<|p (λ_=>YC U U) <|
   p (Y9 rfl)<|p ZG<|pe ?_
  have ho:¬q.ix<0:=hn;refine⟨decide (((Vp c.V m).length:Int)<=q.ix),La,O5.C _ _,?_⟩;rw[decide_eq_decide];exact⟨.inr,λh=>h.resolve_left ho⟩
 rintro z g V ⟨Y,hz⟩;have ha:=h1.D Y;refine QU rfl (λhp=>?_) (λhp=>?_)
 ·rw[OU (OY (hz.symm.D hp))]at G;subst G;refine Qc<|Qb<|Qh ⟨[_],La,U,ha⟩
 have hL:=O0 (hz.symm.D hp);rw[OT hL]at G;have hM:q.ix=(q.ix.toNat:Int):=oa
 have O:q.ix.toNat<(Vp c.V m).length:=oa
 have hN:(Vp c.V m).getD q.ix.toNat 0=(Vp c.V m)[q.ix.toNat]'O:=by simp[oR,O]
 have hbl:=Qis hh J _ (Lm O);rw[hN]at G;have h5:=hj.I Y;have h6:sX V { V with drawn:=V.drawn+1 }:=O5.C _ _
 have hO:∀{w':O1},sX V w'->QY sV (gK m) [sS q.ix,sP c1] w' λr hP=>r=.int .u16 ((Vp c.V m)[q.ix.toNat]'O:Nat)/\sX w' hP:=by
  intro w' hs;have:=Qiq ((hH.I Y).I hs) ((h.I ha).I hs) hh J O;rw[<-hM]at this;exact this
 refine Qd<|Zz [] (YW 0 14 [9,10,11])<|p (QG U)<|pq (λ_ H=>Qk (h5.I H) U U)<|p Qv<|p Qv<|Go.Lg.pig (g:=srV c1 c.V) (i:=m) U (Qbd c1 c.V) (h2.I Y) U U J λgh h7=>?_;rw[h3]at h7;refine p (λ_=>Zd U)<|pq (λ_ H=>Qy ((h7.fld 2 (.func (.func (gK m)) #[] #[sP c1]) U).st H) U)<|p (QG U)<|pq (λ_ H=>Qk (h5.I H) U U) <|
  pk<|xcG (first:=[]) (capt:=[sP c1]) (Qn3 m) U<|(hO h6).Y ?_
 rintro r7 w7 ⟨rfl,hQ⟩;refine Zf ((Vp c.V m)[q.ix.toNat]'O) λbv hR=>?_;rw[hR]at G hbl ⊢;have h8:=h6.D hQ;refine⟨h8,?_⟩;refine pk<|xg<|(Qfw bv hbl w7).Y ?_;rintro r8 w8 ⟨hT,hU⟩;have hb:=h8.D hT;refine⟨hb,?_⟩;have gi:=JV bv 8;refine pk<|xg<|(JQ ((hC.up (L':=[]) od).I (ha.D hb)) (Qq.ints (L:=[]) hU oa od)).Y ?_;rintro r9 w9 ⟨rfl,h9⟩;refine⟨hb.D h9,?_⟩;refine p (λ_=>Zy U)<|p ZG<|pe ?_;have hB:=(ha.D hb).D h9;refine QU rfl (λht=>?_) (λht=>?_)
 ·have hV:¬q.co=setK bv 8:=by
   intro e;have S:(!decide (q.co=setK bv 8))=true:=ht;rw[OX e]at S;cases S
  rw[OT hV]at G;subst G;refine Qc<|Qb<|Qh ⟨[_],La,U,hB⟩
 have hW:q.co=setK bv 8:=by
  refine Decidable.byContradiction λe=>?_;have S:(!decide (q.co=setK bv 8))=false:=ht;rw[OZ e]at S;cases S
 rw[OU hW]at G;subst G;refine Qf<|Qc<|Qb<|Qh ⟨[_],La,U,hB⟩
section
variable {pS:String}
abbrev i2 (p:Int×Int):LV:=[sS p.1,sS p.2]
abbrev i5 (a:ByteArray)(b c e:Bool)(i:Int):LV:=[.string a,.bool b,.bool c,.bool e,sS i]
end
end Go.Lg
namespace Go.Proofs
open Go.Proofs.Tryz
open Go.Shelf
def Tryz.sortEd_ren:Go.Shelf.Ren:=⟨λ|6=>190|15=>123|14=>258|28=>208|29=>209|20=>299|21=>300|22=>301|23=>302|24=>303|25=>304|26=>305|27=>306|46=>333|47=>265|48=>266|49=>334|50=>335|57=>346|n=>n,λ|22=>64|24=>159|25=>347|3=>3|39=>269|0=>0|53=>362|55=>364|4=>4|46=>356|45=>355|50=>275|5=>5|9=>9|66=>418|70=>422|76=>449|77=>408|n=>n,λ|n=>n⟩
theorem Tryz.sortEd:Go.Proofs.SlLaysF0.n6 sV Tryz.sortEd_ren:=lyS
end Go.Proofs
namespace Go.Lg
open Go.Lg Go.Sort
abbrev Ez:={ x:Ed // (0<=x.1/\x.1<1099511627776)/\0<=x.2.1/\x.2.1<1099511627776 }
instance:Inhabited Ez:=⟨⟨(0,0,0),ol⟩⟩
abbrev zy (x:Ez):LV:=[sS x.1.1,sS x.1.2.1,sS x.1.2.2]
abbrev EzO (base:Nat)(w:O1)(v:O2)(l:List Ez):Prop:=w.ownsRow base 159 3 v l.length (l.flatMap zy)
def ecf (x y:Ez):Int:=if x.1.1=y.1.1 then x.1.2.1 - y.1.2.1 else x.1.1 - y.1.1
theorem Qq1 (x y:Ez)(W:O1):Calls sV 309 #[sT (zy x),sT (zy y)] W λe w'=>e=.returned (sS (ecf x y))/\∃q os',w'=grow (W.drewN q) os':=by
 have E:IntKind.i64.wrap (x.1.1 - y.1.1)=x.1.1 - y.1.1:=YR ⟨oy x.2 y.2,oy x.2 y.2⟩;have G:IntKind.i64.wrap (x.1.2.1 - y.1.2.1)=x.1.2.1 - y.1.2.1:=YR ⟨oy x.2 y.2,oy x.2 y.2⟩
 go_enter func309,ntmps309
 go_wp2
 ·go_ret;rename_i h;exact⟨by rw[ecf,OT (oA h)];rfl,0,_,by rw[alloc_eq_grow,alloc_eq_grow,grow_grow];rfl⟩
 go_ret;rename_i h;exact⟨by rw[ecf,OU (oA h)];rfl,0,_,by rw[alloc_eq_grow,alloc_eq_grow,grow_grow];rfl⟩
theorem Qq2 (x y:Ez)(W:O1):Calls sV 191 #[sT (zy x),sT (zy y)] W λe w'=>e=.returned (sS (ecf x y))/\∃q os',w'=grow (W.drewN q) os':=by
 have E:IntKind.i64.wrap (x.1.1 - y.1.1)=x.1.1 - y.1.1:=YR ⟨oy x.2 y.2,oy x.2 y.2⟩;have G:IntKind.i64.wrap (x.1.2.1 - y.1.2.1)=x.1.2.1 - y.1.2.1:=YR ⟨oy x.2 y.2,oy x.2 y.2⟩
 go_enter func191,ntmps191
 go_wp2
 ·go_ret;rename_i h;exact⟨by rw[ecf,OT (oA h)];rfl,0,_,by rw[alloc_eq_grow,alloc_eq_grow,grow_grow];rfl⟩
 go_ret;rename_i h;exact⟨by rw[ecf,OU (oA h)];rfl,0,_,by rw[alloc_eq_grow,alloc_eq_grow,grow_grow];rfl⟩
theorem QbP (x:Ez):(zy x).length=3:=rfl
theorem Qer:∀l:List Ez,(l.flatMap zy).length=l.length*3
 | []=>rfl
 | x::l=>by rw[LM,Ll,Qer l,QbP,LU];omega
theorem QfN {l:List Ez}(I:j<l.length*3):(l.flatMap zy)[j]?=some ((flatK zy 3 l.toArray)[j]!):=by
 have E:j / 3<l.length:=Nat.div_lt_of_lt_mul oa;have G:j % 3<3:=NH _ ol;rw[get_flatK _ _ _ _ (oA I)];have J:(l.flatMap zy)[j]?=(zy (l[j / 3]'E))[j % 3]?:=by
  rw[<-(Xw zy 3 QbP l (j / 3) E),LW,OU G,My];congr 1;omega
 rw[J];have O:(l.toArray)[j / 3]! = l[j / 3]'E:=by simp[E]
 rw[O];have H:j % 3<(zy (l[j / 3]'E)).length:=G;exact(LG H).D (OV some (getElem!_pos (zy (l[j / 3]'E)) (j % 3) H).symm)
theorem Qkj (x y:Ez):ltOf ecf x y=true↔x.1.1<y.1.1\/x.1.1=y.1.1/\x.1.2.1<y.1.2.1:=by
 unfold ltOf ecf;rw[decide_eq_true_iff];split <;> omega
theorem QbR (x y:Ez):ltOf ecf x y=false↔y.1.1<x.1.1\/y.1.1=x.1.1/\y.1.2.1<=x.1.2.1:=by
 rw[<-Bool.not_eq_true,Qkj];omega
theorem Qpl:SWO (ltOf ecf) where
 irrefl x:=by rw[QbR];omega
 trans x y z h1 h2:=by rw[Qkj]at *;omega
 ntrans x y z h1 h2:=by rw[QbR]at *;omega
theorem Qfc [Inhabited α]{lt:α->α->Bool}{d E:Array α}(H:PermIn 0 d.size d E)(I:SortedIn lt 0 d.size E):E.toList.Perm d.toList/\E.toList.Pairwise (λx y=>lt y x=false):=by
 obtain⟨J,_,G⟩:=H;have e1:E.extract 0 d.size=E:=by rw[<-J];exact Array.extract_size
 rw[e1,Array.extract_size]at G;refine⟨G,?_⟩;rw[MT];intro i j hi O S;have T:i<E.size:=by simpa using hi
 have V:j<E.size:=by simpa using O
 have:=I i j (Lo _) S oa;rw[getElem!_pos E j V,getElem!_pos E i T]at this;simpa using this
theorem QdZ (eg:∀args w,(callFunc g args).run sV w=.ok (.enter g args) w)(hb:∀(x y:Ez) (W:O1),Calls sV g #[sT (zy x),sT (zy y)] W λe w'=>e=.returned (sS (ecf x y))/\∃q os',w'=grow (W.drewN q) os')
   {base:Nat} {v:O2} {l:List Ez} (h:EzO base w v l) (hl:l.length<=1099511627776):
  QY sV 190 [v,.func (.func g) #[] #[]] w λ_ w'=>O5 (ob v) w w'/\∃l':List Ez,l'.Perm l/\l'.Pairwise (λx y=>ltOf ecf y x=false)/\EzO base w' v l':=by
 unfold QY;rcases h.2 with⟨rfl,h0⟩|⟨gb,cap,cur,rfl,hf,I,hh,hm,ho,hq⟩
 ·have hr:l=[]:=Ls h0;subst hr;have H:=AnyF.slices_SortFunc_none Tryz.sortEd none 0 (.func (.func g) #[] #[]) w;change Calls sV 190 _ _ _ at H;refine Calls.mono H λe w' J=>?_;obtain⟨rfl,rfl⟩:=J;exact⟨O5.Z _ _,[],List.Perm.refl _,List.Pairwise.nil,h⟩
 have T:gb<w.heap.size:=(LK.1 I).1;have hH:HoldsK zy 3 w gb 0 l.toArray:=by
  intro j E;rw[size_flatK,LR]at E;have V:=QfN E;rw[<-hq,LW,OU E]at V;constructor
  ·show(match w.heap[gb]? with|some (.cells c _ _)=>if(none:Option _).isSome then none else c[0+j]?|_=>none)=_
   rw[I];simp only[oZ,OE,OF,if_false];rw[<-Mq,V];rfl
  show(match w.heap[gb]? with|some (.cells _ _ (lo,hi))=>decide (lo<=0+j) && decide (0+j<hi)|_=>false)=false
  rw[I];simp
 have H:=AnyQ.slices_SortFunc Tryz.sortEd 3 isAgg159 sizeOf159 zy QbP (λx v Y=>by simp at Y;rcases Y with rfl|rfl|rfl <;> rfl) ecf Qpl g #[] gb 0 cap l.toArray w eg (λm os dk _ x y=>hb x y _) hH T (by simp;omega)
 change Calls sV 190 _ _ _ at H;rw[LR]at H;refine Calls.mono H λe w' J=>?_;obtain⟨rfl,G,n,os,hp,hs,rfl⟩:=J;have O:G.size=l.length:=by have:=hp.1;simpa using this
 have ha:=Qfc (d:=l.toArray) (by rw[LR];exact hp) (by rw[LR];exact hs);have S:(sortWorldK zy 3 w gb 0 n G os).heap=w.heap.modify gb (onCells (putCells id 0 (flatK zy 3 G)))++os:=rfl;refine⟨⟨rfl,U,U,?_,λk hk hn=>?_⟩,G.toList,ha.1,ha.2,?_⟩
 ·rw[S,MY,Mi];omega
 ·rw[S,Mj,Mi,OU hk,Mx,OT (λe=>hn (by simp[ob,e]))]
 refine⟨Qer _,.inr ⟨gb,cap,putCells id 0 (flatK zy 3 G) cur,by simp[O],hf,?_,by simp[O];exact hh,hm,by simp[putCells,ho],?_⟩⟩
 ·rw[S,Mj,Mi,OU T,Mx,OU rfl,I];rfl
 apply M5;intro j;rw[LW];by_cases E:j<G.toList.length*3
 ·rw[OU E,QfN E,Mq];have ht:j<cur.size:=by simp[O]at E;omega
  have hu:j<(flatK zy 3 G).size:=by simpa using E
  simp only[putCells,Ox,Ol ht,Oz,OR,oZ,true_and,OU hu,OJ,id]
 rw[OT E,MX];rw[Qer];omega
theorem Qj2:∀l:List Ez,(l.map (·.1)).flatMap QA=l.flatMap zy
 | []=>rfl
 | x::l=>by rw[LJ,LM,LM,Qj2 l];rfl
theorem QfM:∀l:List Ed,(∀e∈l,(0<=e.1/\e.1<1099511627776)/\0<=e.2.1/\e.2.1<1099511627776)->∃zs:List Ez,zs.map (·.1)=l
 | [],_=>⟨[],U⟩
 | e::l,h=>by
  obtain⟨zs,E⟩:=QfM l (λd hd=>h d (Lk _ hd));exact⟨⟨e,h e Lq⟩::zs,by rw[LJ,E]⟩
abbrev Qc6 (x y:Ed):Prop:=x.1<y.1\/x.1=y.1/\x.2.1<=y.2.1
theorem Qaa (eg:∀args w,(callFunc g args).run sV w=.ok (.enter g args) w)(G:∀(x y:Ez) (W:O1),Calls sV g #[sT (zy x),sT (zy y)] W λe w'=>e=.returned (sS (ecf x y))/\∃q os',w'=grow (W.drewN q) os')
   {base:Nat} {v:O2} {l:List Ed} (h:w.ownsRow base 159 3 v l.length (l.flatMap QA)) (E:l.length<=1099511627776) (H:∀e∈l,(0<=e.1/\e.1<1099511627776)/\0<=e.2.1/\e.2.1<1099511627776):
  QY sV 190 [v,.func (.func g) #[] #[]] w λ_ w'=>O5 (ob v) w w'/\∃l':List Ed,l'.Perm l/\l'.Pairwise Qc6/\w'.ownsRow base 159 3 v l'.length (l'.flatMap QA):=by
 obtain⟨zs,rfl⟩:=QfM l H;rw[Lh]at E;rw[Lh,Qj2]at h;refine(QdZ eg G h E).Y λ_ _ ⟨I,l',J,O,S⟩=>⟨I,l'.map (·.1),J.map _,?_,by rw[Lh,Qj2];exact S⟩;rw[MQ];refine O.imp λ{x y} T=>?_;have:=(QbR y x).1 T;exact this
theorem Qbf {base:Nat}{v:O2}{l:List Ed}(h:w.ownsRow base 159 3 v l.length (l.flatMap QA))(E:l.length<=1099511627776)(G:∀e∈l,(0<=e.1/\e.1<1099511627776)/\0<=e.2.1/\e.2.1<1099511627776):
  QY sV 263 [v] w λ_ w'=>O5 (ob v) w w'/\∃l':List Ed,l'.Perm l/\l'.Pairwise Qc6/\w'.ownsRow base 159 3 v l'.length (l'.flatMap QA):=by
 refine Zq func263 ?_;refine Qs<|Qa<|Qz<|(Qaa (enters_of func309 oe U) Qq1 h E G).Y ?_;rintro I J H;refine xe ?_;exact⟨[],Z,H⟩
theorem QgC {base:Nat}{v:O2}{l:List Ed}(h:w.ownsRow base 159 3 v l.length (l.flatMap QA))(E:l.length<=1099511627776)(G:∀e∈l,(0<=e.1/\e.1<1099511627776)/\0<=e.2.1/\e.2.1<1099511627776):
  QY sV 190 [v,.func (.func 191) #[] #[]] w λ_ w'=>O5 (ob v) w w'/\∃l':List Ed,l'.Perm l/\l'.Pairwise Qc6/\w'.ownsRow base 159 3 v l'.length (l'.flatMap QA):=
 Qaa (enters_of func191 oe U) Qq2 h E G
def cmF (c:ZF)(l:List (LI)):LI:=l.zipIdx.filterMap λp=>if(UO c.ex c.cs p.1).2.2=true then some (p.2:Int)else none
theorem Qkx {l:List (LI)}{k:Nat}(h:k<l.length):cmF c (l.take (k+1))=cmF c (l.take k)++(if(UO c.ex c.cs (l[k]'h)).2.2=true then[(k:Int)]else[]):=by
 unfold cmF;rw[Ln h,List.zipIdx_append,List.filterMap_append];have e:0+(l.take k).length=k:=by rw[LB];omega
 rw[e];simp only[List.zipIdx_cons,List.zipIdx_nil,List.filterMap_cons,List.filterMap_nil];by_cases E:(UO c.ex c.cs (l[k]'h)).2.2=true
 ·rw[OU E,OU E]
 rw[OT E,OT E]
theorem Qnu (c:ZF)(l:List (LI)):(cmF c l).length<=l.length:=by
 unfold cmF;refine LH (List.length_filterMap_le _ _) ?_;rw[List.length_zipIdx];exact Lx _
def Qf4 (c:ZF):Bool:=match xo (O7 c.co),xo (O7 c.co++O7 c.rq)with
 | some (pa,ps),some (_,ts)=>ts.all λt=>decide ((wrf c.rq (t.drop c.co.length) (enb pa (plx ps (t.take c.co.length)))).length<=1)
 | _,_=>false
def cmB (c:ZF):LI:=match xo (O7 c.co++O7 c.rq)with
 | some (sa,ts)=>cmF c (ts.map (·.take c.co.length))++[sa.st]
 | none=>[]
structure CmI (b2 base:Nat)(W:O1)(xa:O2)(st:Int)(xm vb ve:O2)(bad:LI)(es:List Ed):Prop where
 B:QZ ↑W b2 66 [xa,sS st,xm,ve]
 b:Qq 3 base W vb bad
 e:W.ownsRow base 159 3 ve es.length (es.flatMap QA)
 dj:Dj vb ve
 bd:∀e∈es,(0<=e.1/\e.1<1099511627776)/\0<=e.2.1/\e.2.1<1099511627776
theorem CmI.I {b2 base:Nat}{W W':O1}{xa:O2}{st:Int}{xm vb ve:O2}{bad:LI}{es:List Ed}(h:CmI b2 base W xa st xm vb ve bad es)(E:sX W W'):CmI b2 base W' xa st xm vb ve bad es :=
 ⟨h.B.I E,Ql h.b E,Ql h.e E,h.dj,h.bd⟩
theorem CmI.addB {base:Nat}{W:O1}{xa:O2}{st:Int}{xm E:O2}{bad bad':LI}(h:CmI b2 base W xa st xm vb ve bad es)(G:b2<base)(H:O5 (ob vb) W W')(O:Qq 3 base W' E bad')(S:∀b∈ob E,b∈ob vb\/↑W<=b):CmI b2 base W' xa st xm E ve bad' es :=
 ⟨h.B.J H (QP h.b G),O,Qe h.e H (λb G T=>h.dj b T G),λb V I=>(S b V).elim (λJ=>h.dj b J I) (λJ=>ov (Q8 h.e b I)),h.bd⟩
theorem CmI.addE {base:Nat}{W W1:O1}{xa:O2}{st:Int}{xm G:O2}{bad:LI}{e:Ed}(h:CmI b2 base W xa st xm vb ve bad es)(I:b2<base)(V:O5 (ob ve) W W1)(J:W1.ownsRow base 159 3 G (es.length+1) (es.flatMap QA++QA e))(Y:∀b∈ob G,b∈ob ve\/↑W<=b)
  (O:O5 [b2] W1 W') (hB:QZ ↑W' b2 66 [xa,sS st,xm,G]) (he:(0<=e.1/\e.1<1099511627776)/\0<=e.2.1/\e.2.1<1099511627776):CmI b2 base W' xa st xm vb G bad (es++[e]):=by
 refine⟨hB,Qe (Qe h.b V (λb I E=>h.dj b I E)) O (λb H E=>by have:=(Qg h.b b H).1;rw[Lb.1 E]at this;omega),?_,λb S ha=>(Y b ha).elim (λT=>h.dj b S T) (λT=>ov (Q8 h.b b S)),λd hd=>?_⟩
 ·have h9:=Qe J O (λb H E=>by have:=((Qg J) b H).1;rw[Lb.1 E]at this;omega);rw[Ll,LA];simpa using h9
 rcases Lc.1 hd with hd|hd
 ·exact h.bd d hd
 rw[Lb.1 hd];exact he
theorem CmI.stb {base:Nat}{xa:O2}{st:Int}{xm:O2}{bad:LI}:YI B (λW=>CmI b2 base W xa st xm vb ve bad es):=
 λW W' X h E G=>⟨YI.blk W W' X h.B E G,YI.row W W' X h.b E G,YI.row W W' X h.e E G,h.dj,h.bd⟩
theorem QdI {c:CL}(h0:ZI [] ↑w c)(kj:Kb w 4096)(kk:Y3 c.V=0)(Y:(spc c.V).a.st<4096)(h1:Qf4 c.V=true):
  QY sV 119 [c.val] w λr w'=>sX w w'/\∃xa xm xe vb,r=.tuple #[.agg #[xa,sS ((spc c.V).a.st+1),xm,xe],vb,sS 0]/\Zb [xa,xm,xe]/\Qq 3 ↑w w' vb (cmB c.V):=by
 refine QY.of_G 20 func119 U ntmps119 results119 od ?_;refine Zk<|QI om om<|Zl c.cells λb1 w1 pa hb1 kn=>QM K5 λb2 w2 ko hb2 kq=>x Qi<|Qb ?_;have hL:=pa.D ko;have hl1:=kn.lt;have pc:=kq.lt;have pd:=kn.I ko;have kr:ZI [b2] ↑w2 c:=(h0.up (L':=[b2]) (λb G=>.inr (by rw[Lb.1 G];omega))).I hL;refine Zk<|QI om om<|QT pd U U<|Qz<|(Qdu (h0.I hL) (kj.I hL)).Y ?_;rintro r3 w3 ⟨gm,vp,rfl,_,pf⟩;obtain⟨b,q,rfl,rfl,J,_,pg⟩:=pf kk;rw[kk];have hv:=hL.D gm;have kt:Kc [b2] b ↑w3 q:=(pg [b2] (λx hx=>by rw[Lb.1 hx];exact pc)).2 kr;have hsp:=QdX J.p J.s;have hst':q.s.a.st<4096:=by rw[hsp]at Y;exact Y
 have ph:cmB q.c.V=cmF q.c.V ((q.ts.map (·.2)).map (·.take q.c.V.co.length))++[q.s.a.st]:=by unfold cmB;rw[J.s]
 have pj:∀t∈q.ts.map (·.2),(wrf q.c.V.rq (t.drop q.c.V.co.length) (enb q.p.a (plx (q.qs.map (·.2)) (t.take q.c.V.co.length)))).length<=1:=λt ht=>by
  unfold Qf4 at h1;rw[J.p,J.s]at h1;exact OY (Mh.1 h1 t ht)
 have pm:(spc q.c.V).a.st=q.s.a.st:=by rw[hsp]
 rw[pm,ph];refine Qa<|QW U U<|QW U U<|x Qi<|Qb<|Zk<|Zk<|QI om om<|Qa<|Zx U U<|xe<|Ua rfl<|YV ?_;refine Zk<|QI om om<|Qa<|Yd U<|QQ U<|Qo U kt.B U U<|QM [sS 0] λb6 w4 pn po pp=>Qn<|Qu (j:=0) (u:=sS q.s.a.st) pp U U od rfl λE pu ku=>xe ?_;have hM:sX w3 E:=pn.O pu po;have hl:=kt.I hM;have hz3:=gm.size;have kv:=ku.lt;have pw:QZ ↑E b2 66 K5:=(kq.I gm).I hM;have hO:QZ ↑E b6 3 [sS q.s.a.st]:=ku;have hst0:0<=q.s.a.st:=by
  have:=(JL (λa T=>by
   rcases Lc.1 T with T|T
   ·exact Y8 (ZW J.ok).co a T
   exact Y8 (ZW J.ok).rq a T) J.s).1.st
  omega
 refine Zk<|Zk<|QI om om<|Xn hO U U<|x (YC U U)<|xe<|QnK U (λkw=>OW (show q.s.a.st≥4096 from kw) oa) (λkw=>?_);refine YV ?_;have gn:sX E { E with drawn:=E.drawn+1 }:=O5.C _ _
 refine Zk<|jB (sX E) [oE 0,oE 1,oE 2,oE 3,oE 4,oE 6,oE 7,oE 8,oE 9,oE 10,oE 11,oE 12,oE 14,oE 15,oE 16,oE 17,oE 18,oF 5,oF 13,oF 19,oE 20,oF 21] mixed om om oe gn ?_;refine p Qv<|p (Yt U)<|p (QG U)<|p (QG U)<|pq (λ_ S=>Qk (hl.B.I S) U U)<|pq (λ_ S=>Qk (hO.I S) U U)<|p (λ_=>XX U U ⟨oa,oa⟩)<|p Qv<|p (Yt U)<|p (QG U)<|p (QG U) <|
  pq (λ_ S=>Qk (hl.B.I S) U U)<|p Qv<|p (Yt U)<|p (QG U)<|p (QG U)<|pq (λ_ S=>Qk (hl.B.I S) U U)<|pk<|xg<|(Z3 (hl.s.al.I gn)).Y ?_
 rintro xa w6 ⟨pz,go⟩;have gp:=gn.D pz;refine⟨gp,?_⟩;refine pk<|xg<|(Z3 (hl.s.mr.I gp)).Y ?_;rintro xm w7 ⟨p0,gq⟩;have hP:=gp.D p0;refine⟨hP,?_⟩;refine pk<|xg<|(Vd (hl.s.ed.I hP)).Y ?_;rintro hR w8 ⟨p1,hS⟩;have gr:=hP.D p1;refine⟨gr,?_⟩;refine p (λ_=>Qx ⟨xL go,U,xL gq,xL hS,Z⟩)<|pkk<|JY [xa,sS (q.s.a.st+1),xm,hR] (pw.I gr) ⟨Qp go,U,Qp gq,Qp hS,Z⟩ λw9 kx p2=>pe ?_;have kz:O5 [b2] E w9:=gr.any.Q kx;have hz7:=hP.size;have h7:b2<E.heap.size:=oa
 have k0:=hl.st kz;have hT:Zb [xa,xm]:=⟨Qp go,Qp gq,Z⟩;have p3:w9.ownsRow ↑E 159 3 hR q.s.a.ed.length (q.s.a.ed.flatMap QA):=Qe (ZB hS oa) kx (λb G H=>by have:=(Qg hS b G).1;rw[Lb.1 H]at this;omega);have hw:=ZW J.ok;have h8:∀a∈O7 q.c.V.co++O7 q.c.V.rq,ZK a:=λa T=>by
  rcases Lc.1 T with T|T
  ·exact Y8 hw.co a T
  exact Y8 hw.rq a T
 have gs:=(JL h8 J.s).1.okay h8;have p4:∀e∈q.s.a.ed,(0<=e.1/\e.1<1099511627776)/\0<=e.2.1/\e.2.1<1099511627776:=λe he=>by
  have h1:=gs.ed e he;have h2:=gs.al _ h1.2.2.1;omega
 have p5:CmI b2 ↑E w9 xa (q.s.a.st+1) xm ZE hR [] q.s.a.ed:=⟨p2,QE _ _ _ _,p3,λb G=>(by cases G),p4⟩;have k4:=zS h8 J.s;have k5:=k4.1;have p6:=k4.2;simp only[]at k5 p6;have hckc:=hw.c8;have hU:q.c.V.co.length=q.c.co.length:=Lh ..;have p7:q.c.V.rq.length=q.c.rq.length:=Lh ..;have hcr:=hw.cr;have p8:(O7 q.c.V.co++O7 q.c.V.rq).length=q.c.co.length+q.c.rq.length:=by rw[Ll];unfold O7;rw[Lh,Lh,hU,p7]
 refine Zk<|Zk<|QI om om<|Qa<|Yd U<|Qo U k0.B U U<|QF k0.ts.arr U<|Qa<|xe<|Zf ((q.ts.map (·.2)).map (·.take q.c.V.co.length)) λtcs gt=>?_;rw[gt];have htcl:tcs.length=q.ts.length:=by rw[<-gt,Lh,Lh]
 have hTn:q.ts.length<=4096:=by have h2:=(JL h8 J.s).1.st;have h3:(q.ts.map (·.2)).length=q.ts.length:=Lh ..;omega
 refine Yf<|ze (α:=Nat×O2×O2×List Ed) [(3,3),(7,16),(60,109)] (λz=>[(3,z.2.1),(60,sS z.1)])
  (λz ds W'=>z.1<=q.ts.length/\O5 [b2] E W'/\qw ↑E ↑W' ds W'/\CmI b2 ↑E W' xa (q.s.a.st+1) xm z.2.1 z.2.2.1 (cmF q.c.V (tcs.take z.1)) z.2.2.2/\z.2.2.2.length<=131072+z.1)
  (λz=>q.ts.length - z.1) om (0,ZE,hR,q.s.a.ed) oB ⟨Lo _,kz,⟨MN,λD hD=>by cases hD⟩,p5,gs.ed_le⟩ ?_
 rintro⟨k,vb,ve,es⟩ g ds hy ⟨hk,hA,k6,I,p9⟩;simp only[]at hk I p9;have hz10:=hA.size;have hX:=Qnu q.c.V (tcs.take k);rw[LB]at hX;refine Zk<|QI om om<|Z5 U U<|xe<|Zk<|Qa5 U (λk7=>?_) (λk7=>?_)
 ·refine VS ?_;rw[Lu oa]at I hX;refine Zf (cmF q.c.V tcs) λbad hY=>?_;rw[hY]at I hX;have gu:b2∉ob ve:=QP I.e h7;have qc:b2∉ob vb:=QP I.b h7;have hZ:b6∉[b2]:=oh
  have qf:b6∉ob ve:=QP I.e kv;have ql:b6∉ob vb:=QP I.b kv;refine Zk<|QI om om<|Qo U I.B U U<|Qz<|(QgC I.e oa I.bd).Y ?_;rintro r11 hz ⟨hn,hh,hp,_,ho11⟩;refine xe ?_;have ga:=I.B.J hn gu;have gv:=(hO.J hA hZ).J hn qf;have gw:=Qe I.b hn (λb G H=>I.dj b G H);have hz11:=hn.size;have hr:=Qg I.e;have hB:=Qg gw;have qm:qw ↑E ↑hy ds hz:=k6.J hn (Go.Lg.QV I.e);refine Zk<|jB (λw'=>O5 (b2::ob vb) hz w'/\QZ ↑w' b2 66 [xa,sS (q.s.a.st+1),xm,ve]/\QZ ↑w' b6 3 [sS q.s.a.st]) [oE 0,oE 1,oE 2,oF 3,oF 4,oF 5,oE 6,oE 7] mixed om om oe ⟨O5.C _ _,ga.I (O5.C _ _),gv.I (O5.C _ _)⟩ ?_;refine pq (λ_ S=>Zu S.2.1 U U)<|p Qv<|pq (λ_ S=>Qk S.2.2 U U)<|pk<|Za [[sS q.s.a.st]] λb116 gx gy hb116 qo=>?_;have h4:=(O5.C [] hz).D gy;have hz12:=h4.size;refine⟨⟨h4.any,ga.I h4,gv.I h4⟩,?_⟩;refine pk<|Q2 (m:=1) (news:=[sS q.s.a.st]) (L:=[]) (Ql gw h4) U U U (qo.at od) oq oa oa λk8 hC k9 gb hn13=>?_;have gc:O5 (ob vb) hz hC:=h4.any.Q gb;have ma:=ga.J gc qc;have mf:=gv.J gc ql;refine⟨⟨gc.Y (λb G=>Lk _ G),ma,mf⟩,?_⟩;refine pk<|JY [xa,sS (q.s.a.st+1),xm,ve] ma ⟨hT.1,U,hT.2.1,Qp I.e,Z⟩ λhf O mg=>?_;have gz:O5 (b2::ob vb) hz hf:=(gc.Y (λb G=>Lk _ G)).Q (O.Y od);refine⟨⟨gz,mg,mf.J O hZ⟩,?_⟩;refine p ZG<|p ZG<|pe ?_;have hs:qw ↑E ↑hy ds hf:=qm.J gz (λb G=>by
   rcases Lj.1 G with rfl|G
   ·exact ga.cells
   exact Go.Lg.QV gw b G)
  have qr:b2∉ds:=λH=>ov (hs.2 b2 H).1
  have hE:sX w hf:=(((hv.D hM).O hA oa).S hn (λb G=>.inr (oy (hr b G).1 hv.size))).S gz (λb G=>.inr (by
   rcases Lj.1 G with rfl|G
   ·omega
   have:=(hB b G).1;have:=hv.size;omega))
  refine VR ⟨λD hD=>(hs.2 D hD).2.2,hs.1,[.agg #[xa,sS (q.s.a.st+1),xm,ve],k8,sS 0],λW' g0=>?_⟩;refine⟨⟨Yl (mg.J g0 qr),U,U,Z⟩,hE.S g0 (λD hD=>.inr (oy (hs.2 D hD).1 hv.size)),xa,xm,ve,k8,U,⟨hT.1,hT.2.1,Qp I.e,Z⟩,?_⟩;have h9:=Qq.snoc (Qe k9 O (λb G H=>by have:=(Qg k9 b G).1;rw[Lb.1 H]at this;omega));have mh:=Qe h9 g0 (λb G H=>by
   obtain⟨o,g1,g2⟩:=Go.Lg.QV h9 b G;rw[(hs.2 b H).2.2]at g1;cases g1
   cases g2)
  rw[<-hY]at mh;exact ZB mh (ov hv.size)
 have hG:k<q.ts.length:=by have h62:(k:Int)<(q.ts.length:Int):=k7;omega
 have mj:k<tcs.length:=oa
 have hg:=Qkx (c:=q.c.V) mj;have q0:tcs[k]'mj=(q.ts[k]'hG).2.take q.c.V.co.length:=by subst gt;simp
 have gg:=Lm hG;have hH:=k5 _ (LP (f:=(·.2)) gg);have hu:=pj _ (LP (f:=(·.2)) gg);rw[q0]at hg;refine Zf (cmF q.c.V (tcs.take k)) λbad hY=>?_;rw[hY]at I hX hg;refine Zf (ob vb++ob ve) λav g4=>?_;have hB:=Qg I.b;have hr:=Qg I.e;have q1:∀x∈av,↑E<=x/\x<hy.heap.size:=λx hx=>by
  rw[<-g4]at hx;exact(Lc.1 hx).elim (hB x) (hr x)
 have q2:Kc (b2::av) b ↑E q:=hl.up (λx hx=>by
  rcases Lj.1 hx with rfl|hx
  ·exact .inl Lq
  exact .inr (q1 x hx).1)
 have gh:Kc (b2::av) b ↑hy q:=q2.st (hA.Y od);refine Zf (cmF q.c.V (tcs.take (k+1))) λg5 mo=>?_;rw[mo]at hg;refine YV<|Qgr (α:=O2×O2×List Ed) [(3,3),(7,16),(61,109)] (λz=>[(3,z.1),(60,sS k)]) (λz h5 W'=>O5 [b2] E W'/\qw ↑E ↑W' h5 W'/\CmI b2 ↑E W' xa (q.s.a.st+1) xm z.1 z.2.1 g5 z.2.2/\z.2.2.length<=131072+(k+1)) om ?_ ?_
 rotate_left
 ·rintro⟨gi,ho,hh⟩ g h5 W ⟨q3,q4,q5,q6⟩;refine QI om om<|QH U U<|Qa<|xe ?_;exact⟨(k+1,gi,ho,hh),og,oB,hG,q3,q4,by simp only[];rw[mo];exact q5,q6⟩
 refine Yf<|Zk<|QI om om<|Qa<|xig (g:=YS) Us gh.ts.arr U U hG λa63 mq=>?_;refine Zf (q.ts[k]'hG) λt ht=>?_;rw[ht]at mq gg hH hu hg;have htl:t.2.length=q.c.co.length+q.c.rq.length:=by rw[hH.1,p8]
 refine x (Qy mq U)<|QM [sS 0] λb7 hz hn j1 j2=>Qn<|Qu (j:=0) (u:=sS k) j2 U U od rfl λgx gy j3=>Qb ?_;have g6:sX hy gx:=hn.O gy j1;have za:QZ ↑gx b7 3 [sS k]:=j3;refine Zk<|QI om om<|Qa<|Qa<|Qz<|(Qcj (gh.I g6) ((gh.ts.each t gg).I g6) oa).Y ?_;rintro r13 hC ⟨gb,v9,ms,rfl,g7,mt⟩;refine Qa<|QW U U<|QW U U<|x Qi<|Qb ?_;have hI:=g6.D gb;have mu:=gh.I hI;rw[hU]at hu hg;refine Zf (t.2.take q.c.co.length) λtc gj=>?_;refine Zf (t.2.drop q.c.co.length) λtr mv=>?_;rw[gj]at g7 hu hg;rw[mv]at mt hu;have zb:tc.length=q.c.co.length:=by rw[<-gj,LB];omega
 have mw:∀x∈tc,0<=x/\x<4096:=λx hx=>(hH.bd (m:=4096) (λa T=>(h8 a T).st1)) x (LX (by rw[gj];exact hx));have zv:Vt (O7 q.c.V.co) tc:=by
  have h1:=hH.take;rw[show(O7 q.c.V.co).length=q.c.co.length by unfold O7;rw[Lh];exact hU,gj]at h1;exact h1
 have z1:Vt (O7 q.c.V.rq) tr:=by
  have h1:=hH.drop;rw[show(O7 q.c.V.co).length=q.c.co.length by unfold O7;rw[Lh];exact hU,mv]at h1;exact h1
 have gk:Kc [] b ↑hC q:=mu.up od;have hvo:=zp gk.k1 gk.k2 gk.k3 (g7.up (L':=[]) od) (by rw[J.ex,J.cs];exact hw.cd) zv.tpOk;rw[J.ex,J.cs]at hvo;refine Zf (UO q.c.V.ex q.c.V.cs tc) λV hV=>?_;rw[hV]at hvo hg;have g8:=I.I hI;have hz13:=hI.size;have my:=za.I gb;refine Qgr (α:=O2) [(3,3),(11,14),(71,86)] (λz=>[(3,z)]) (λz h5 W=>h5=ds/\O5 (ob vb) hC W/\Qq 3 ↑E W z g5/\∀x∈ob z,x∈ob vb\/↑hC<=x) om ?_ ?_
 ·refine Zk<|QI om om<|Qa<|Yd U<|QQ U<|x (Zh (us:=[q.vs,q.vx,q.vk]) gk.B U U U)<|Qa<|Qz<|hvo.Y ?_;rintro r14 hf ⟨O,rfl⟩;refine Qa<|QW U U<|QW U U<|QW U U<|QW U U<|x Qi<|x Qi<|x Qi<|Qb<|Zk<|QI om om<|Qa<|xe ?_;have mz:=Ql g8.b O;refine UK U (λg9=>?_) (λg9=>?_)
  ·rw[OU g9]at hg;refine QI om om<|Qa<|Xn (my.I O) U U<|Qn<|Za [[sS k]] λb85 y1 hi hb85 z2=>?_;have z3:=hi.size;have z4:=O.size;refine Qn<|Q2 (m:=1) (news:=[sS k]) (L:=[]) (Ql mz hi) U U U (z2.at od) oq oa oa λz y2 gl hJ ka=>Qb<|⟨z,⟨rfl,Z⟩,rfl,(O.D hi).any.Q hJ,by rw[hg];exact Qq.snoc gl,λx hx=>(ka x hx).imp id (λh=>oa)⟩
  rw[OT (by rw[g9];decide),LS]at hg;refine YV ?_;exact⟨vb,La,U,O.any,by rw[hg];exact mz,λx hx=>.inl hx⟩
 rintro gi g h5 hf ⟨rfl,O,z5,hbn⟩;have hI14:=g8.addB h7 O z5 hbn;have z4:=O.size;have kb:∀x∈ob vb,x∈b2::av:=λx hx=>Lk _ (by rw[<-g4];exact Lc.2 (.inl hx));have m2:∀x∈b2::ob ve,x∈b2::av:=λx hx=>by
  rcases Lj.1 hx with rfl|hx
  ·exact Lq
  exact Lk _ (by rw[<-g4];exact Lc.2 (.inr hx))
 have kc:=mu.st (O.Y kb);have hI9a:=g7.st (O.Y kb);have m3:=mt.st (O.Y kb);have hE:O5 [b2] E hf:=(hA.D hI.any).S O (λx hx=>.inr (hB x hx).1);have hs014:sX w hf:=(hv.D hM).O hE oa;have hn7b:b7∉ob vb:=λH=>ov (hB b7 H).2
 have hZ:b6∉[b2]:=oh
 have hs:qw ↑E ↑hy h5 hf:=(k6.I hI).J O (Go.Lg.QV g8.b);refine Zk<|jB (sX hf) [oE 0,oE 1,oE 2,oE 3,oE 4,oF 5,oE 6,oE 7] mixed om om oe (O5.C _ _) ?_;refine p Qv<|p (Yt U)<|p (QG U)<|pq (λ_ S=>Qk (kc.B.I S) U U)<|p Qv<|pk<|xg<|(QbW (hI9a.I (O5.C _ _)) ((kj.I hs014).I (O5.C _ _)) mw oa).Y ?_;rintro r15 w15 ⟨rfl,hs15⟩;have ke:=(O5.C [] hf).D hs15;refine⟨ke,?_⟩;have m4:(match O9 q.mm (Vl tc)with|some u=>u|none=>sS 0)=sS (plx (q.qs.map (·.2)) tc):=by
  rw[J.m tc zb (λx hx=>(mw x hx).1)];unfold plx;by_cases H:tc∈q.qs.map (·.2)
  ·rw[OU H,OU H]
  rw[OT H,OT H]
 have hK:=QcB J.ok J.p;have m5:=QiR hK.2.2.1 tc;refine Zf (plx (q.qs.map (·.2)) tc) λpi hpi=>?_;rw[hpi]at m4 hu m5;rw[<-hK.2.1]at m5;have hckp:cks q.p.a pi=0:=by
  unfold cks;rw[OT (by rw[(Z4 q.p.a).2 hK.1];decide),OT oa]
 refine pq (λ_ S=>(JM (k:=Vl tc) (kc.m.I S) U U).D (OV (λv=>Result.ok (Next.value v) _) m4))<|p ZG<|pe ?_;refine Zk<|QI om om<|Qa<|Qa<|Qa<|Qz<|(zh (b:=b) (st:=pi) (vr:=ms) m3.cells).Y ?_;rintro r16 h6 ⟨hs16,c1,c2,c3,rfl,hc1,kr,hc3,hR1,hR2,hR3⟩;refine xe ?_;have hq:=ke.D hs16;have hz1415:=ke.size;have hz16:=hq.size;have kf:=hI14.I hq;have hD16:=hs.I hq;have hB716:=(my.J O hn7b).I hq;have hB616:=(hO.J hE hZ).I hq;have hs516:O5 [b2] E h6:=hE.D hq.any;refine Zf (wrf q.c.V.rq tr (enb q.p.a pi)) λfl kg=>?_;rw[kg]at hu;have kh:∀x∈b2::ob ve,x<hf.heap.size:=λx hx=>by
  rcases Lj.1 hx with rfl|hx
  ·omega
  have:=(hr x hx).2;omega
 have hSt16:Kc (b2::ob ve) b ↑h6 q:=(kc.I hq).up (λx hx=>.inl (m2 x hx));have hIr16:QL (b2::ob ve) ↑h6 ms tr:=(m3.I hq).up (λx hx=>.inl (m2 x hx));have hEv:∀p∈fl,0<=p.1/\p.1<32:=λp hp=>by
  rw[<-kg]at hp;have g1:=(zR.1 hp).1;unfold enb at g1;obtain⟨e,he,g2⟩:=LD.1 g1;have g3:=hK.1.al _ (hK.1.ed e (ZV he).1).2.2.1;rw[g2]at g3;exact g3
 have hn7L:b7∉b2::ob ve:=λH=>by
  rcases Lj.1 H with g1|g1
  ·omega
  have:=(hr b7 g1).2;omega
 have hn6L:b6∉b2::ob ve:=λH=>by
  rcases Lj.1 H with g1|g1
  ·omega
  have:=(hr b6 g1).1;omega
 have gu:b2∉ob ve:=QP I.e h7;have hb016:E.heap.size<=h6.heap.size:=oa
 have hel2:es.length+1<=1099511627776:=oa
 have hkb2:(0:Int)<=(k:Int)/\(k:Int)<1099511627776:=oa
 refine Yf<|QdF (α:={ x:Int×Int // x∈fl }) (b2::ob ve) oa (capt:=[sP c1,sP c2,sP c3]) U (encs:=λx=>[sS x.1.1,sS x.1.2]) ol (λ_=>U)
  (UU hR1 hR2 hR3 (λH=>ov (kh _ H)) (λH=>ov (kh _ H)) (λx hx=>ov (kh _ hx)) hSt16 hIr16 (λx hx=>hw.rq x.it (LP hx)) z1 hckp U kg)
  (λpre W=>∃ho hh,O5 (b2::ob ve) h6 W/\CmI b2 ↑E W xa (q.s.a.st+1) xm gi ho g5 hh/\(pre=[]->ho=ve/\hh=es)/\hh.length<=es.length+pre.length)
  (λpre=>YI.ex λho=>YI.ex λhh=>(YI.J (Lx _)).and (CmI.stb.and ((YI.pure _).and (YI.pure _))))
  (λ_ _ _=>False) (λ_ _=>YI.pure _)
  ⟨ve,es,O5.Z _ _,kf,λ_=>⟨U,U⟩,Lx _⟩
  (λf x f' W=>f'=upd (upd (upd f 98 (sS x.1.1)) 99 (sS x.1.2)) 16 (sS x.1.1)) (λx f'=>YI.pure _) ?_ ?_ ?_ ?_
 ·rintro l pre ⟨⟨e,i⟩,he⟩ W hW;refine QI om om<|Qb<|⟨U,Vg.refl _ _ _,Lg.X5.refl _ _,hW,U⟩
 ·rintro l pre ⟨⟨e,i⟩,he⟩ f' W ⟨ho,hh,Y,hj,m6,hlen⟩ rfl hN;have m7:pre=[]:=Ls (Nat.lt_one_iff.1 (LQ hN hu));rw[((m6 m7).1),((m6 m7).2)]at hj;have m8:=Y.size;have hee:=hEv _ he;refine Yf<|QI om om<|Qo U hj.B U U<|Xn (hB716.J Y hn7L) U U<|Qa<|Xn (hB616.J Y hn6L) U U<|x (Qx ⟨U,U,U,Z⟩)<|Qn<|Za [QA ((k:Int),e,q.s.a.st)] λb106 y1 hi hb106 hB106=>?_;have z3:=hi.size;refine Qn<|Q2 (m:=1) (news:=QA ((k:Int),e,q.s.a.st)) (L:=[]) (Ql hj.e hi) U U U (hB106.at od) (by simp[QA,Value.oneCell']) hel2 oa λu y2 gl hJ ka=>?_;refine QQ U<|Qn<|Qu (u:=u) ((hj.B.I hi).J hJ gu) U U od (Qp gl) λy3 m9 hB3=>xe ?_;have ki:O5 (b2::ob ve) W y3:=(hi.any.Q (hJ.Y λx hx=>Lk _ hx)).Q (m9.Y od);have hnw:∀x∈ob u,x∈ob ve\/↑W<=x:=λx hx=>(ka x hx).imp id (λh=>oa);refine⟨Vg.J ki m8 (λx hx=>⟨.inl hx,?_⟩),Lg.X5.J ki,u,es++[((k:Int),e,q.s.a.st)],Y.Q ki,hj.addE h7 (hi.any.Q hJ) gl hnw m9 hB3 ⟨hkb2,og⟩,λh=>OW h od,by simp only[oN,oP];omega⟩;rcases Lj.1 hx with rfl|hx
  ·exact hj.B.cells
  exact Go.Lg.QV hj.e x hx
 ·rintro D xs W hD hxs ⟨ho,hh,Y,hj,_,hlen⟩ hdD;have hxl:xs.length=fl.length:=by have g1:=OV oQ hxs;rw[Lh]at g1;exact g1
  have m8:=Y.size;refine⟨(gi,ho,hh),oB,hs516.S Y (λx hx=>?_),((hD16.J Y (λx hx=>?_)).up oa).cons oa (show ↑h6<=D from hD) hdD,hj,og⟩
  ·rcases Lj.1 hx with rfl|hx
   ·exact .inl Lq
   exact .inr (hr x hx).1
  rcases Lj.1 hx with rfl|hx
  ·exact kf.B.cells
  exact Go.Lg.QV kf.e x hx
 rintro D e pre W hD hSp hF;exact hF.elim
theorem UR (m:Nat)(S:m<256)(w:O1):QY sV 23 [.int .u8 m] w λr w'=>sX w w'/\Qq 3 ↑w w' r (setK m 5):=by
 refine Zq func23 ?_;refine Qc<|Qb<|Qc<|Qb<|Qd<|Qc<|Qb<|Q7 (α:=Nat×O2) [(3,17)] (λz=>[(3,z.2),(4,sS z.1)]) (λz w'=>z.1<=5/\sX w w'/\Qq 3 ↑w w' z.2 (setK m z.1)) (λz=>5 - z.1) (0,nS) oB
  ⟨Lo _,O5.Z _ _,QE _ _ _ _⟩ ?_
 rintro⟨k,v⟩ g w1 ⟨T,G,E⟩;simp only[]at T E;have hh:=JV m k;have hi:=G.size;refine Qd<|Qj<|Z5 U U<|xe<|ZH rfl (λV=>?_) (λV=>?_)
 ·refine Qw<|Qj<|Qb ?_;have Y:k=5:=oa
  rw[Y]at E;exact Qh ⟨[v],La,G,E⟩
 have J:k<5:=oa
 have ha:m / 2 ^ k<256:=Nat.lt_of_le_of_lt (Nat.div_le_self _ _) S;have H:=qA m k;refine Qf<|Qd<|Qm<|Qj<|Qa<|x (Qaf (n:=k) U U (by show k<=8;omega))<|x (yG (a:=m / 2 ^ k) (b:=1) (OV (Value.int .u8) (Qbg m k)) U ha ol)<|x (QR U U)<|xe<|ZH rfl (λO=>?_) (λO=>?_)
 ·rw[OT (λe=>O (by rw[e];rfl))]at H;refine Qf<|Qs<|Qa<|QH U U<|Qb<|⟨(k+1,v),og,oB,J,G,by simp only[];rw[H];exact E⟩
 rw[OU oa]at H;refine Qs<|Qa<|Qa<|Qn<|Za [[sS k]] λhj w2 I hl hc=>?_;have he:=Ql E I;have hn:=I.size;refine Qn<|Q2 (news:=[sS k]) (L:=[]) he U U U (hc.at od) oq oa oa λv3 w3 hf hg ho =>
  Qb<|Qs<|Qa<|QH U U<|Qb<|⟨(k+1,v3),og,oB,J,(G.D I).S hg (λb hb=>.inr ((Qg E) b hb).1),?_⟩
 simp only[];rw[H];exact Qq.snoc hf
section
variable {pS:String}
theorem Qoz {e bys:Nat}[h:Sl P t e 1 bys z][he:Ik P e .u8][hd:St P E]{x:O3}(G:QZ ↑w b T [.int .u8 (n:Int)])(S:n<256)(hx:ev f x=sL b 1 cap):
  (execOp (ev f) ⟨d,.convert t E x,ty,pS,af,gd⟩).run P w=.ok (.value (.string ⟨#[UInt8.ofNat n]⟩)) w:=by
 refine zW hx ?_;refine run_convert_bytes_back (P:=P) w t E e ⟨b,0,none⟩ cap [UInt8.ofNat n] h.u he.u hd.u (λj H=>?_);have I:j=0:=by simp at H;omega
 subst I;rw[JS];have J:(⟨b,0,none⟩:Addr).add 0=⟨b,0,none⟩:=rfl;rw[J,G.cell];have O:(UInt8.ofNat n).toNat=n:=by simp[UInt8.toNat_ofNat'];omega
 simp[O]
end
theorem Qc0 (e:Kq):∀u∈Zs e,u.oneCell'=true:=by
 intro y E;simp only[Zs,oL,oK,or_false]at E;rcases E with rfl|rfl|rfl|rfl|rfl <;> rfl
theorem QbJ {q:IV}(G:q.p.va.oneCell'=true)(H:q.p.vm.oneCell'=true)(I:q.p.ve.oneCell'=true):∀u∈QJ q,u.oneCell'=true:=by
 intro y E;simp only[QJ,oL,oK,or_false]at E;rcases E with rfl|rfl|rfl|rfl|rfl
 ·rfl
 ·exact G
 ·rfl
 ·exact H
 exact I
theorem yX {base:Nat}{q:IV}(h:∀L:LN,(∀b∈L,b<N)->ZM L H q.p.va q.p.vm q.p.ve q.p.a)(G:base<=N)(I:∀b∈av,b<N):∀t∈Qg9 q,YO base av H t.1 t.2.1 t.2.2.1 t.2.2.2:=by
 intro t J;simp only[oL,oK,or_false]at J;rcases J with rfl|rfl|rfl
 ·exact YO.of_lt (λL E=>(h L E).al) G I
 ·exact YO.of_lt (λL E=>(h L E).mr) G I
 exact YO.of_lt (λL E=>(h L E).ed) G I
structure zL (base:Nat)(w:O1)(vc va:O2)(co:List IV)(al:LI):Prop where
 c:w.ownsRow base 98 5 vc co.length (co.flatMap QJ)
 a:Qq 3 base w va al
 dj:Dj vc va
 each:∀q∈co,∀t∈Qg9 q,YO base (ob vc++ob va) ↑w t.1 t.2.1 t.2.2.1 t.2.2.2
section
variable {base:Nat}{vc vc' va':O2}{co:List IV}
theorem zL.nil:zL base w (nS) (nS) [] []:=⟨QE _ _ _ _,QE _ _ _ _,Dj.nil _,λq E=>by cases E⟩
theorem zL.I (h:zL base w vc va co al)(E:sX w w'):zL base w' vc va co al:=⟨Ql h.c E,Ql h.a E,h.dj,λq G t H=>(h.each q G t H).I E⟩
theorem zL.low {X:LN}(h:zL base w vc va co al)(E:O5 X w w')(G:∀b∈X,b<base):zL base w' vc va co al :=
 ⟨Qe h.c E (λb H I=>oy (Qg h.c b H).1 (G b I)),Qe h.a E (λb H I=>oy (Qg h.a b H).1 (G b I)),h.dj,λq J t O=>(h.each q J t O).low E G⟩
theorem zL.avlt (h:zL base w vc va co al):∀b∈ob vc++ob va,b<w.heap.size:=λb E=>(Lc.1 E).elim (Q8 h.c b) (Q8 h.a b)
theorem zL.setC {q:IV}(h:zL base w vc va co al)(V:∀t∈Qg9 q,YO base (ob vc++ob va) ↑w t.1 t.2.1 t.2.2.1 t.2.2.2)(Y:w'.ownsRow base 98 5 vc' (co.length+1) (co.flatMap QJ++QJ q))
  (G:O5 (ob vc) w w') (H:∀b∈ob vc',b∈ob vc\/↑w<=b):zL base w' vc' va (co++[q]) al:=by
 have I:O5 (ob vc++ob va) w w':=G.Y (λb E=>Lc.2 (.inl E));have J:∀b∈ob vc'++ob va,b∈ob vc++ob va\/↑w<=b:=λb E=>by
  rcases Lc.1 E with E|E
  ·exact(H b E).imp (λh=>Lc.2 (.inl h)) id
  exact .inl (Lc.2 (.inr E))
 refine⟨?_,Qe h.a G (λb E ha=>h.dj b ha E),λb E O=>?_,λd hd t S=>?_⟩
 ·rw[Ll,LA];simpa using Y
 ·rcases H b E with T|T
  ·exact h.dj b T O
  have:=Q8 h.a b O;omega
 rcases Lc.1 hd with hd|hd
 ·exact(h.each d hd t S).app I J
 simp only[oJ]at hd;subst hd;exact(V t S).app I J
theorem zL.setA {H:LI}(h:zL base w vc va co al)(S:Qq 3 base w' va' H)(I:O5 (ob va) w w')(J:∀b∈ob va',b∈ob va\/↑w<=b):zL base w' vc va' co H:=by
 have T:O5 (ob vc++ob va) w w':=I.Y (λb E=>Lc.2 (.inr E));have V:∀b∈ob vc++ob va',b∈ob vc++ob va\/↑w<=b:=λb E=>by
  rcases Lc.1 E with E|E
  ·exact .inl (Lc.2 (.inl E))
  exact(J b E).imp (λh=>Lc.2 (.inr h)) id
 refine⟨Qe h.c I (λb E G=>h.dj b E G),S,λb E G=>?_,λd hd t Y=>(h.each d hd t Y).app T V⟩;rcases J b G with O|O
 ·exact h.dj b E O
 have:=Q8 h.c b E;omega
theorem zL.itms (h:zL base w vc va co al)(I:co.length<=1099511627776)(J:∀q∈co,JF q.nm)(G:∀b∈L,b<base):X4 L ↑w vc co :=
 ⟨QB h.c I (λb E hbL=>oy (Qg h.c b E).1 (G b hbL)),λq H=>⟨h.each q H (q.p.va,q.p.a.al.length,1,q.p.a.al.map (.int .i64)) od L (λb E=>.inl (G b E)),h.each q H (q.p.vm,q.p.a.mr.length,1,q.p.a.mr.map (.int .i64)) od L (λb E=>.inl (G b E)),h.each q H (q.p.ve,q.p.a.ed.length,3,q.p.a.ed.flatMap QA) od L (λb E=>.inl (G b E))⟩,J⟩
end
theorem X2 (ns:LN):(bys ns).length=ns.length:=by rw[bys,Lh]
def grN (ns:LN)(o:Nat):LN:=(ns.drop o).take 27
theorem QjN {o:Nat}(h:o+27<=ns.length):(grN ns o).length=27:=by unfold grN;simp;omega
theorem Qn2 {o:Nat}(h:∀n∈ns,n<256):∀n∈grN ns o,n<256:=Qnx h o 27
theorem QkQ (ns:LN)(n:Nat):(bys ns).set 0 (.int .u8 (n:Int))=bys (ns.set 0 n):=by
 unfold bys;rw[OQ]
theorem QlV (h:∀m∈ns,m<256)(E:n<256):∀m∈ns.set 0 n,m<256:=λm G=>by
 rcases MU G with H|rfl
 ·exact h m H
 exact E
theorem Qix (h:0<ns.length):(ns.set 0 n).getD 0 0=n:=by simp[oR,h]
structure GdA (a:Q6):Prop where
 ok:ZK a
 p:0<a.st
 s:a.st<=3
 c:∃a0:Q6,ZK a0/\0<a0.st/\a=Xr a0
theorem Qdr (G:ZK a)(h:0<a.st):0<(Xr a).st:=by
 show 0<((xp a).length:Int);have E:(0:Int)∈xp a:=by
  have key:∀(f i:Nat) (out:LI),(0:Int)∈out->(0:Int)∈fdL a f i out:=by
   intro f;induction f with
   | zero=>intro i out h;exact h
   | succ f ih =>
    intro i out h;rw[fdL];split
    ·exact ih _ _ (QbO _ _ _ h)
    exact h
  refine key _ _ _ ?_;unfold fd0;rw[OU h];simp
 have:=List.length_pos_of_mem E;omega
theorem GdA.of {E:Q6}(G:ZK E)(H:0<E.st)(O:E.st<=((1+n % 5:Nat):Int))(J:a=Xr E)(S:n<3):GdA a:=by
 have I:=QbV G;subst J;exact⟨I.1,Qdr G H,ov I.2.2,E,G,H,U⟩
def nmI (c k:Nat):ByteArray:=⟨#[UInt8.ofNat c]⟩++⟨#[UInt8.ofNat (48+k)]⟩
theorem qL (c k:Nat):JF (nmI c k):=by
 show(ByteArray.mk _++ByteArray.mk _).size<=_;rw[ByteArray.size_append];show 1+1<=_;omega
open Go.RowKit
section
variable {all:xD}{C:xz}
end
section
variable {all:xD}{C J:xz}
end
end Go.Lg
namespace Go.Proofs
open Go.Proofs.Tryz
open Go.Shelf
def Tryz.sortRm_ren:Go.Shelf.Ren:=⟨λ|6=>234|15=>123|14=>273|28=>208|29=>209|20=>311|21=>312|22=>313|23=>314|24=>315|25=>316|26=>317|27=>318|46=>337|47=>265|48=>266|49=>338|50=>339|57=>347|n=>n,λ|22=>88|24=>261|25=>385|3=>3|39=>269|0=>0|53=>362|55=>364|4=>4|46=>356|45=>355|50=>275|5=>5|9=>9|66=>418|70=>422|76=>449|77=>408|n=>n,λ|n=>n⟩
theorem Tryz.sortRm:Go.Proofs.SlLaysF0.n6 sV Tryz.sortRm_ren:=lyS
end Go.Proofs
namespace Go.Lg
def fst (a:Q6):Int:=if a.st=0 then -1 else 0
def cdA (c:ZF):Q6:=Qbb (tgA c) [] (unc c.ev)
def ccA (c:ZF):Q6:=syA [tgA c,cdA c]
def own (c:ZF)(k:Bool):Q6:=if k=true then ccA c else tgA c
section
variable {pS:String}
theorem yM [h1:X8 P t]{x:O3}{l:List Bool}{u:Bool}(E:QZ ↑w b T (l.map Value.bool))(hx:ev f x=.pointer (some ⟨b,0+i*1,none⟩))(G:ev f y=.bool u)(hi:i<l.length)
  (hK:∀w',O5 [b] w w'->QZ ↑w' b T ((l.set i u).map Value.bool)->K (QN f d undef) w'):XO P ⟨d,.store t x y,ty,pS,af,gd⟩ f w K:=by
 refine Qu E hx G (oA hi) rfl λw' H I=>hK w' H ?_;rw[OQ];simpa using I
theorem Ki [X8 P t]{x:O3}{l:List Bool}(h:QZ ↑w b T (l.map Value.bool))(hx:ev f x=.pointer (some ⟨b,0+i*1,none⟩))(hi:i<l.length):
  (execOp (ev f) ⟨d,.load t x,ty,pS,af,gd⟩).run P w=.ok (.value (.bool (l[i]'hi))) w:=Qk h hx (by simp[hi])
variable {C:xz}{pl:xt}
theorem pqB {b:Bool}(E:∀w',C w'->(execOp (ev f) (QS ops i)).run P w'=.ok (.value (.bool b)) w')(I:b=true->XP P ops C K pl (QN f (QS ops i).dst (.bool true)) w)(J:b=false->XP P ops C K pl (QN f (QS ops i).dst (.bool false)) w)
  (hd:zi (QS ops i)=true:=by rfl) (H:Z9 ops f (QS ops i)=true:=by rfl):XP P ops C K ((i,true)::pl) f w:=by
 cases G:b with
 | true=>rw[G]at E;exact pq E (I G) hd H
 | false=>rw[G]at E;exact pq E (J G) hd H
end
def bA (n:Nat)(g:Nat->Bool):List Bool:=(oV n).map g
theorem QpR (n:Nat)(g:Nat->Bool):(bA n g).length=n:=by simp[bA]
theorem QpQ {g E:Nat->Bool}{u:Bool}(G:u=E i)(h:∀j,j<n->j≠i->E j=g j):(bA n g).set i u=bA n E:=by
 apply Mv
 ·simp[bA]
 intro k O H;rw[M9];have I:k<n:=by simpa[bA]using H
 by_cases e:i=k
 ·rw[OU e,G,e];simp[bA]
 rw[OT e];have:=h k I (λJ=>e J.symm);simp[bA,this]
theorem Qgh (n:Nat):(oO n (Value.bool false).cells.toList).flatten=(bA n (λi=>decide (i<0))).map Value.bool:=by
 apply Mv
 ·simp[Value.cells,bA]
 intro i E G;simp[Value.cells,bA]
theorem qM {l:Lf}{s:Int}(h:s.toNat<l.length):l[s.toNat]'h=lft l s:=by unfold lft;simp[oR,h]
theorem Qmv (n:Nat)(fb:LI):(lf0 n fb).length=n:=by unfold lf0;rw[jm];simp
instance:Bw sV 383 [nS,sS 0,nS,nS,nS,.map none,nS] [(0,4),(4,1),(5,1),(6,1)]:={}
structure Pz where
 va:O2
 vm:O2
 ve:O2
 a:Q6
 vu:O2
 unc:LI
 mb:Nat
 mm:List (Int×O2)
 bl:Nat
 n:Nat
 rv:Nat->O2
abbrev Pz.cells (p:Pz):LV:=[p.va,sS p.a.st,p.vm,p.ve,p.vu,.map (some p.mb),.slice (some ⟨p.bl,0,none⟩) p.n p.n]
structure PzA (L:LN)(H:xA)(bp:Nat)(p:Pz):Prop where
 B:QZ H bp 383 p.cells
 bL:bp∉L
 a:ZM L H p.va p.vm p.ve p.a
 u:QL L H p.vu p.unc
 M:Yu Ux H p.mb p.mm
 mL:p.mb∉L
 g:∀s,s<p.n->(match O9 p.mm ((s:Nat):Int)with|some u=>u|none=>nS)=p.rv s
 R:∀s,s<p.n->QL L H (p.rv s) (Xf p.a.ed s)
theorem PzA.I {L:LN}{w w':O1}{bp:Nat}{p:Pz}(h:PzA L ↑w bp p)(E:sX w w'):PzA L ↑w' bp p:=⟨h.B.I E,h.bL,h.a.I E,h.u.I E,h.M.I E,h.mL,h.g,λs G=>(h.R s G).I E⟩
theorem PzA.st {L:LN}{w w':O1}{bp:Nat}{p:Pz}(h:PzA L ↑w bp p)(E:O5 L w w'):PzA L ↑w' bp p:=⟨h.B.J E h.bL,h.bL,h.a.st E,h.u.st E,h.M.J E h.mL,h.mL,h.g,λs G=>(h.R s G).st E⟩
theorem PzA.up {L L':LN}{H:xA}{bp:Nat}{p:Pz}(h:PzA L H bp p)(E:∀b∈L',b∈L\/H.size<=b):PzA L' H bp p :=
 ⟨h.B,λI=>by rcases E _ I with G|G;exact h.bL G;have:=h.B.lt;omega,h.a.up E,h.u.up E,h.M,λI=>by rcases E _ I with G|G;exact h.mL G;have:=h.M.lt;omega,h.g,λs J=>(h.R s J).up E⟩
structure PzQ (p:Pz):Prop where
 ok:ZK p.a
 n:p.a.st=(p.n:Int)
theorem Qip {vr vu:O2}{rm unc:LI}(h:ZM [] ↑w va vm ve a)(h6:ZK a)(hn:a.st=(n:Int))(hr:QL [] ↑w vr rm)(gl:∀x∈rm,0<=x/\x<a.st)(hu:QL [] ↑w vu unc):
  QY sV 232 [.agg #[va,sS a.st,vm,ve],vr,vu] w λr w'=>sX w w'/\∃bp p,r=sP bp/\p.a=a/\p.unc=unc/\p.n=n/\↑w<=p.bl/\PzA [p.bl] ↑w' bp p/\QZ ↑w' p.bl 4 ((lf0 n rm).map Value.bool):=by
 have kg:=h6.st1;have kh:=h6.ed_le;have ki:=hr.le;refine Zq func232 ?_;refine Qc<|Zl [va,sS a.st,vm,ve] λb3 H hh kj hv=>Qb ?_;have kk:=hv.lt;refine QX (α:=Nat×Nat×Nat) [(7,7),(13,20)] (λz=>[(7,.pointer (some ⟨z.1,0,none⟩))]) (λz w'=>sX H w'/\QZ ↑w' z.1 383 [va,sS a.st,vm,ve,vu,.map (some z.2.1),.slice (some ⟨z.2.2,0,none⟩) n n] /\
  Yu Ux ↑w' z.2.1 []/\QZ ↑w' z.2.2 4 ((bA n (λi=>decide (i<0))).map Value.bool)/\↑H<=z.1/\↑H<=z.2.1/\↑H<=z.2.2/\z.1≠z.2.1/\z.1≠z.2.2/\z.2.1≠z.2.2) om ?_ ?_
 ·have ha:sX H { H with drawn:=H.drawn+1 }:=O5.C _ _
  refine QnF (sX H) [oE 0,oE 1,oE 3,oE 4] 2 5 [oF 5,oE 6,oF 7,oE 8] [oF 2,oE 6,oF 7,oE 8] mixed om oe (O5.C _ _) ?_;refine pq (λ_ I=>Zu (hv.I I) U U)<|p Qv<|p (QG U)<|pq (λ_ I=>Qk (hv.I I) U U)<|pe ⟨⟨U,?_⟩,U,?_⟩
  ·refine YM Ux λbm w2 T h7 hM=>⟨ha.D T,?_⟩;refine pk<|qH (n:=n) (OV sS hn) (OV sS hn) oa λbl w3 V hbl hB=>⟨(ha.D T).D V,?_⟩;rw[Qgh]at hB;refine p (λ_=>Q5 [(0,[va,sS a.st,vm,ve]),(1,[vu]),(2,[.map (some bm)]),(3,[sL bl n n])] ⟨U,U,hu.cells,U,U,U,U,U,Z⟩)<|pk <|
    yN (us:=[va,sS a.st,vm,ve,vu,.map (some bm),sL bl n n]) U λbp w4 G h8 S=>⟨((ha.D T).D V).D G,?_⟩
   refine p ZG<|pe ?_;have gm:=hM.lt;have gn:=hB.lt;have go:({ H with drawn:=H.drawn+1 }:O1).heap.size=H.heap.size:=rfl
   exact⟨(bp,bm,bl),La,((ha.D T).D V).D G,S,(hM.I V).I G,hB.I G,og,og,og,og,og,og⟩
  refine qH (n:=n) (OV sS hn) (OV sS hn) oa λbl w2 T hbl hB=>⟨ha.D T,?_⟩;rw[Qgh]at hB;refine pk<|YM Ux λbm w3 V h7 hN=>⟨(ha.D T).D V,?_⟩;refine p (λ_=>Q5 [(0,[va,sS a.st,vm,ve]),(1,[vu]),(2,[.map (some bm)]),(3,[sL bl n n])] ⟨U,U,hu.cells,U,U,U,U,U,Z⟩)<|pk <|
   yN (us:=[va,sS a.st,vm,ve,vu,.map (some bm),sL bl n n]) U λbp w4 G h8 S=>⟨((ha.D T).D V).D G,?_⟩
  refine p ZG<|pe ?_;have gm:=hN.lt;have gn:=hB.lt;have go:({ H with drawn:=H.drawn+1 }:O1).heap.size=H.heap.size:=rfl
  exact⟨(bp,bm,bl),La,((ha.D T).D V).D G,S,hN.I G,(hB.I V).I G,og,og,og,og,og,og⟩
 rintro⟨bp,bm,bl⟩ g w4 ⟨G,S,hA,hC,h8,h7,hbl,hO,hP,hD⟩;simp only[]at S hA hC h8 h7 hbl hO hP hD;have kn:=S.lt;have ko:=hA.lt;have gp:=hh.D G;have hw:bp∉[bl]:=by simpa using hP
 have hQ:bm∉[bl]:=by simpa using hD
 refine Qd<|Qj<|Yd U<|Qo U S U U<|QF (L:=[]) (hC.arr od (n:=n) (cap:=n) (sz:=1) (by simp[bA]) oa (Lx _)) rfl<|Qa<|xe<|Q7 (α:=Nat) [(8,8),(26,35)] (λz=>[(26,sS z)]) (λz w'=>z<=n/\O5 [bl] w4 w'/\QZ ↑w' bl 4 ((bA n (λi=>decide (i<z))).map Value.bool)) (λz=>n - z) 0 La ⟨Lo _,O5.Z _ _,hC⟩ ?_;rintro k g w5 ⟨hk,hy,hE⟩;refine Zo rfl U (λhR=>?_) (λhR=>?_)
 ·refine Qw ?_;have gq:bA n (λi=>decide (i<k))=(rm.take 0).foldl cut (oO n true):=by
   apply Mv
   ·simp[bA]
   intro i h1 h2;have:i<n:=by simpa[bA]using h1
   simp[bA];omega
  rw[gq]at hE;have hS:QL [bl] ↑H vr rm:=(hr.I hh).up (λb E=>.inr (by simp only[oJ]at E;omega));have gr:ZM [bl] ↑H va vm ve a:=(h.I hh).up (λb E=>.inr (by simp only[oJ]at E;omega));refine Qd<|Qj<|QF ((hS.I G).st hy) U<|Qa<|xe<|Q7 (α:=Nat) [(10,10),(38,48)] (λz=>[(38,sS z)]) (λz w'=>z<=rm.length/\O5 [bl] w4 w'/\QZ ↑w' bl 4 (((rm.take z).foldl cut (oO n true)).map Value.bool)) (λz=>rm.length - z) 0 La ⟨Lo _,hy,hE⟩ ?_;rintro j g w6 ⟨hj,J,hf⟩;refine Zo U U (λhF=>?_) (λhF=>?_)
  ·refine Qw ?_;have gs:rm.length<=j:=by have hz:¬(j:Int)<(rm.length:Int):=hF;omega
   rw[Lu gs]at hf;have hT:=S.J J hw;have gt:=hA.J J hQ;have kq:=hf.lt;refine Qd<|Qc<|Qo U ((hv.I G).J J oh) U U<|QF ((gr.I G).st J).ed U<|Qa<|xe ?_;have kr:=J.size;refine Q7 (α:=Nat×(Nat->O2)×List (Int×O2)) [(12,12),(52,73)] (λz=>[(52,sS z.1)]) (λz w'=>z.1<=a.ed.length/\O5 [bm] w6 w'/\Yu Ux ↑w' bm z.2.2/\Un ↑w6 w' n z.2.1 (Xf (a.ed.take z.1))/\∀s,s<n->(match O9 z.2.2 ((s:Nat):Int)with|some u=>u|none=>nS)=z.2.1 s) (λz=>a.ed.length - z.1) (0,λ_=>nS,[]) ⟨rfl,Z⟩
    ⟨Lo _,O5.Z _ _,gt,⟨λi _=>QE _ _ _ _,λi j _ _ _=>Dj.nil _⟩,λs _=>U⟩ ?_
   rintro⟨i,rv,m⟩ g w7 ⟨hi,O,hG,hg,h0⟩;simp only[]at hi hG hg h0;have kt:=O.size;have hU:bp∉[bm]:=by simpa using hO
   have gu:bl∉[bm]:=by simpa using Ne.symm hD
   refine Zo U U (λhH=>?_) (λhH=>?_)
   ·refine Qw ?_;have gv:a.ed.length<=i:=by have h3:¬(i:Int)<(a.ed.length:Int):=hH;omega
    rw[Lu gv]at hg;refine Qj<|Qb<|Qh ⟨[_],La,(gp.O J oa).O O oa,bp,⟨va,vm,ve,a,vu,unc,bm,m,bl,n,rv⟩,U,U,U,U,og,⟨hT.J O hU,hw,?_,?_,hG,hQ,h0,λs hs=>QB (hg.own s hs) (LH (qO a.ed s) oa) (λb E hm=>?_)⟩,hf.J O gu⟩
    ·have h9:ZM [bl,bm] ↑w7 va vm ve a:=((((h.I hh).up (L':=[bl,bm]) (λb E=>.inr (by simp only[oL,oK,or_false]at E;omega))).I G).st (J.Y od)).st (O.Y od);exact h9.up od
    ·have h9:QL [bl,bm] ↑w7 vu unc:=((((hu.I hh).up (L':=[bl,bm]) (λb E=>.inr (by simp only[oL,oK,or_false]at E;omega))).I G).st (J.Y od)).st (O.Y od);exact h9.up od
    have:=(Qg (hg.own s hs) b E).1;simp only[oJ]at hm;omega
   refine Qf ?_;have Y:i<a.ed.length:=by have h3:(i:Int)<(a.ed.length:Int):=hH;omega
   have hp:a.ed.take (i+1)=a.ed.take i++[a.ed[i]'Y]:=Ln Y;have hV:=h6.ed _ (Lm Y);refine Zf (a.ed[i]'Y) λe he=>?_;rw[he]at hp hV;have hW:e.2.2=(e.2.2.toNat:Int):=oa
   have hq:e.2.2.toNat<n:=oa
   have gw:=qO (a.ed.take i) e.2.2.toNat;rw[LB]at gw;have hI:=Qen (a.ed.take i) e hV.2.2.2.1;have gx:zP [bl,bm] ↑w7 ve a.ed:=((((h.ed.I hh).up (L':=[bl,bm]) (λb E=>.inr (by simp only[oL,oK,or_false]at E;omega))).I G).st (J.Y od)).st (O.Y od);refine Qd<|Qm<|Qc<|xie gx U U Y λku h3=>?_;rw[he]at h3;refine x (Qr h3 U U)<|QM [sS 0,sS 0,sS 0] λb12 w8 gy gz g0=>QK (QA e) g0 oC λw9 g2 hJ=>xe ?_;have ht:sX w7 w9:=gy.O g2 gz;have kv:=ht.size;have hX:=hg.I ht;have g3:=hX.own _ hq;have h4:∀b∈ob (rv e.2.2.toNat),↑w6<=b/\b<w7.heap.size:=λb E=>⟨(Qg (hg.own _ hq) b E).1,Q8 (hg.own _ hq) b E⟩;have hY:bp∉ob (rv e.2.2.toNat):=λE=>ov (h4 _ E)
   have hZ:bm∉ob (rv e.2.2.toNat):=λE=>ov (h4 _ E)
   have hK:b12∉ob (rv e.2.2.toNat):=λE=>ov (h4 _ E)
   have ga:=((hT.J O hU).I ht);have gb:=hG.I ht;have gc:=h0 e.2.2.toNat hq;rw[<-hW]at gc;refine qZ (O5 (ob (rv e.2.2.toNat)) w9) [oE 0,oE 1,oE 2,oE 3,oE 4,oE 5,oE 6,oE 7,oE 8,oE 9,oE 10,oE 11,oE 12,oE 13,oE 14,oF 15,oF 16,oF 17] mixed om oe (O5.C _ _) ?_;refine p Qv<|p (Yt U)<|p (QG U)<|pq (λ_ I=>Qk (ga.J I hY) U U) <|
    p (QG rfl)<|pq (λ_ I=>Qk (hJ.J I hK) U U)<|p Qv<|p (Yt U)<|p (QG U) <|
    pq (λ_ I=>Qk (ga.J I hY) U U)<|p (QG U)<|pq (λ_ I=>Qk (hJ.J I hK) U U) <|
    pq (λ_ I=>(JM (k:=e.2.2) (gb.J I hZ) U U).D (OV (λv=>Result.ok (Next.value v) _) gc))<|p (QG U)<|pq (λ_ I=>Qk (hJ.J I hK) U U) <|
    pk<|Za [[sS e.1]] λkw g4 gg kx g5=>⟨(O5.C _ _).D gg,?_⟩
   have hl:sX w9 g4:=(O5.C _ _).D gg;have kz:=hl.size;refine pk<|Q2 (m:=1) (news:=[sS e.1]) (Ql g3 hl) U U U (g5.at (L:=[]) od) oq oa oa λhL k0 g6 h5 g7=>⟨hl.any.Q h5,?_⟩;have g8:=(gb.I hl).J h5 hZ;refine pkk<|XY (k:=e.2.2) g8 U U λk4 gh g9=>pe ?_;have ka:∀b∈ob hL,b∈ob (rv e.2.2.toNat)\/↑w9<=b:=λb E=>(g7 b E).imp id (λh=>oa);have gi:=hX.app hq (Qq.snoc g6) (hl.any.Q h5) ka;have gj:=gi.J gh (λi hi b E=>by have:=(Qg (gi.own i hi) b E).1;simp only[oJ];omega);have kb:Ur (Xf (a.ed.take i)) e.2.2.toNat (Xf (a.ed.take i) e.2.2.toNat++[e.1])=Xf (a.ed.take (i+1)):=by rw[hp];exact funext hI
   rw[kb]at gj;refine Qs<|QH U U<|Qa<|xe<|⟨(i+1,Ur rv e.2.2.toNat hL,xd m e.2.2 hL),og,La,Y,?_,g9,gj,λs hs=>?_⟩
   ·exact(((O.D ht).D hl).S h5 (λb E=>.inr (h4 b E).1)).Q gh
   simp only[];rw[XJ];by_cases gk:s=e.2.2.toNat
   ·subst gk;rw[OU hW,YA]
   rw[OT oa,Y5 _ _ gk];exact h0 s hs
  refine Qf ?_;have ho:j<rm.length:=by have hz:(j:Int)<(rm.length:Int):=hF;omega
  have kc:=gl _ (Lm ho);have hp:rm.take (j+1)=rm.take j++[rm[j]'ho]:=Ln ho;refine Zf (rm[j]'ho) λs hs=>?_;rw[hs]at kc hp;have hI:s=(s.toNat:Int):=oa
  have k5:((rm.take j).foldl cut (oO n true)).length=n:=by rw[jm];simp
  refine Qd<|Qm<|Qc<|xii (i:=j) ((hS.I G).st J) U U ho λk6 hz=>?_;rw[hs]at hz;refine x (Qy hz U)<|Qb<|Qs<|Qa<|Yd U<|Qo U (S.J J hw) U U<|Qa<|x (ZA (i:=s.toNat) U (OV sS hI) oa) <|
   Qn<|yM (i:=s.toNat) hf U U oa λw7 O ke=>xe ?_
  refine Qs<|QH U U<|Qa<|xe<|⟨j+1,oa,La,ho,J.Q O,?_⟩;rw[hp,MF];exact ke
 refine Qf ?_;have Y:k<n:=by have k7:(k:Int)<(n:Int):=hR;omega
 refine Qd<|Qm<|Qj<|Qb<|Qs<|Qa<|Yd U<|Qo U (S.J hy hw) U U<|Qa<|x (ZA (i:=k) U U oa) <|
  Qn<|yM (i:=k) hE U U (by rw[QpR];exact Y) λw6 J hf=>xe ?_
 have kf:(bA n (λi=>decide (i<k))).set k true=bA n (λi=>decide (i<k+1)):=QpQ od (λi _ hi=>by
  by_cases e:i<k
  ·simp[e];omega
  simp[e];omega)
 rw[kf]at hf;refine Qs<|QH U U<|Qa<|xe ?_;exact⟨k+1,oa,La,Y,hy.Q J,hf⟩
theorem jr {r:LI}(h:i<l.length):O6 (l++r) i=O6 l i:=by
 unfold O6;simp[oR,List.getElem?_append_left h]
theorem qd {q:Pz}(hA:PzA [] ↑w bp q)(hq:PzQ q)(hB:QZ ↑w q.bl 4 (lf.map Value.bool))(hl:lf.length=q.n):
  QY sV 236 [sP bp] w λr w'=>sX w w'/\∃b,r=sL b q.n q.n/\↑w<=b/\QZ ↑w' b 3 ((dsts q.a lf).map (Value.int .i64))/\(dsts q.a lf).length=q.n:=by
 have hn:=hq.n;have kr:=hq.ok.st1;have ga:=hq.ok.mr;have kt:=hq.ok.mr_le;have ku:=hq.ok.ed_le;have hM:q.a.st.toNat=q.n:=oa
 have gs:=Qps (lf:=lf) hq.ok hn;have gb:(dsL q.a.ed lf q.n 0 (ds0 q.a lf)).1=dsts q.a lf:=by unfold dsts;rw[hM]
 refine Zf (dsts q.a lf) λDD gt=>?_;rw[gt]at gb ⊢;refine Zq func236 ?_;refine Qc<|Qb<|Qj<|Yd U<|QQ U<|Qo U hA.B U U<|Qn<|qH (n:=q.n) (OV sS hn) (OV sS hn) oa λbO w1 gc hC hN=>Qb ?_;rw[Qhb]at hN;refine Qd<|Qj<|QF (L:=[]) (hN.arr od (n:=q.n) (cap:=q.n) (sz:=1) (by simp[gA]) oa (Lx _)) rfl<|Qa<|xe<|Q7 (α:=Nat) [(4,4),(19,25)] (λz=>[(19,sS z)]) (λz w'=>z<=q.n/\sX w w'/\QZ ↑w' bO 3 ((gA q.n (λj=>if j<z then -1 else 0)).map (Value.int .i64))) (λz=>q.n - z) 0 La ⟨Lo _,gc,hN⟩ ?_
 rintro j g H ⟨hj,hh,h0⟩;refine Zo rfl U (λhO=>?_) (λhO=>?_)
 ·refine Qw ?_;have hP:j=q.n:=by have gu:¬(j:Int)<(q.n:Int):=hO;omega
  have gv:gA q.n (λi=>if i<j then -1 else 0)=((q.a.mr.take 0).foldl (ds1 lf) (oO q.n (-1),[])).1:=by
   apply Mv
   ·simp[gA]
   intro i h1 h2;have:i<q.n:=by simpa[gA]using h1
   simp[gA];omega
  rw[gv]at h0;refine Qc<|Qb<|Qd<|Qj<|Yd U<|QQ U<|Qo U (hA.I hh).B U U<|QF (hA.I hh).a.mr U<|Qa<|xe<|Q7 (α:=Nat×O2) [(5,5),(7,7),(32,50)] (λz=>[(5,z.2),(32,sS z.1)]) (λz w'=>z.1<=q.a.mr.length/\sX w w'/\H.heap.size<=↑w'/\QZ ↑w' bO 3 (((q.a.mr.take z.1).foldl (ds1 lf) (oO q.n (-1),[])).1.map (Value.int .i64)) /\
   Qq 3 ↑H w' z.2 ((q.a.mr.take z.1).foldl (ds1 lf) (oO q.n (-1),[])).2) (λz=>q.a.mr.length - z.1) (0,nS) oB ⟨Lo _,hh,Lx _,h0,QE _ _ _ _⟩ ?_
  rintro⟨k,vl⟩ g w3 ⟨hk,h3,gg,ho,ha⟩;simp only[]at hk ho ha;have gh:=Qc9 (lf:=lf) (λx hx=>(ga x hx).1) k;rw[hM]at gh;refine Zo U U (λhQ=>?_) (λhQ=>?_)
  ·refine Qw ?_;have gw:q.a.mr.length<=k:=by have hD:¬(k:Int)<(q.a.mr.length:Int):=hQ;omega
   have e0:(q.a.mr.take k).foldl (ds1 lf) (oO q.n (-1),[])=ds0 q.a lf:=by rw[Lu gw];unfold ds0;rw[hM]
   rw[e0]at ho ha;have gx:bO<H.heap.size:=h0.lt;refine Qd<|Qc<|Qb<|Q7 (α:=Nat×Nat×O2×LI×LI) [(5,5),(8,8),(10,10),(51,100)] (λz=>[(5,z.2.2.1),(8,sS z.2.1)])
    (λz w'=>sX w w'/\H.heap.size<=↑w'/\QZ ↑w' bO 3 (z.2.2.2.1.map (Value.int .i64))/\Qq 3 ↑H w' z.2.2.1 z.2.2.2.2/\DsI q.n z.2.2.2/\z.1+z.2.1=q.n/\(dsL q.a.ed lf z.1 z.2.1 z.2.2.2).1=DD) (λz=>q.n - z.2.1) (q.n,0,vl,(ds0 q.a lf).1,(ds0 q.a lf).2) oB
    ⟨h3,gg,ho,ha,gs,U,gb⟩ ?_
   rintro⟨f,i,vl,o,l⟩ g w4 ⟨hf,hR,h4,O,hp,gy,S⟩;simp only[]at hR h4 O hp gy S;have gz:=hp.le;have gi:=hp.ok.len;simp only[]at gz gi;have hF:=hA.I hf;refine Qd<|Qj<|Qa<|QF (L:=[]) (QB O oa od) rfl<|Z5 rfl rfl<|xe<|ZH U (λhS=>?_) (λhS=>?_)
   ·refine Qw ?_;have g0:¬i<l.length:=by have g2:¬(i:Int)<(l.length:Int):=hS;omega
    rw[Qkk g0]at S;simp only[]at S;subst S;refine Qj<|Qb<|Qh ⟨[sL bO q.n q.n],La,hf,bO,U,hC,h4,gi⟩
   refine Qf ?_;have hr:i<l.length:=by have g2:(i:Int)<(l.length:Int):=hS;omega
   refine Exists.elim (Nat.exists_eq_succ_of_ne_zero (show f≠0 by omega)) λf' g3=>?_;subst g3;rw[dsL,OU hr]at S;have gj:=ZL hr;have hsr:=hp.ok.q _ (KN hr);have hT:=hp.s0 _ (KN hr);refine Zf (O6 l i) λs hs=>?_;rw[hs]at S hsr gj;simp only[]at hsr hT;rw[hs]at hT;have gk:s=(s.toNat:Int):=oa
   have gl:=hF.g s.toNat oa;rw[<-gk]at gl;have g4:=hF.R s.toNat oa;have kv:=qO q.a.ed s.toNat;refine Qd<|Qm<|Qd<|Zz [] (YW 0 11 [])<|p Qv<|p (Yt U)<|p (QG U)<|pq (λ_ T=>Qk (hF.B.I T) U U)<|p Qv<|p Qv <|
    pii (i:=i) U (QB (L:=[]) O oa od) rfl rfl hr λkw gm=>?_
   rw[gj]at gm;refine pq (λ_ T=>Qy (gm.I T) U)<|pq (λ_ T=>(JM (k:=s) (hF.M.I T) U U).D (OV (λv=>Result.ok (Next.value v) _) gl))<|p (λ_=>Yo g4 U)<|p Qv<|pe ?_;have hG:sX w4 { w4 with drawn:=w4.drawn+1 }:=O5.C _ _
   refine Q7 (α:=Nat×O2×LI×LI) [(5,5),(10,10),(67,100)] (λz=>[(5,z.2.1),(67,sS z.1)])
    (λz w'=>z.1<=(Xf q.a.ed s.toNat).length/\sX w w'/\H.heap.size<=↑w'/\QZ ↑w' bO 3 (z.2.2.1.map (Value.int .i64))/\Qq 3 ↑H w' z.2.1 z.2.2.2/\DsI q.n z.2.2/\0<=O6 z.2.2.1 s.toNat/\i<z.2.2.2.length/\O6 z.2.2.2 i=s /\
     ((Xf q.a.ed s.toNat).drop z.1).foldl (dsE lf s) z.2.2=(Xf q.a.ed s.toNat).foldl (dsE lf s) (o,l)) (λz=>(Xf q.a.ed s.toNat).length - z.1) (0,vl,o,l) oB
    ⟨Lo _,hf.D hG,LH hR hG.size,h4.I hG,Ql O hG,hp,hT,hr,hs,U⟩ ?_
   rintro⟨m,hH,o2,l2⟩ g w5 ⟨hm,E,hI,ht,hu,hg,hU,h5,hJ,I⟩;simp only[]at hm hI ht hu hg hU h5 hJ I;have gn:=hA.I E;have g5:=hg.le;have g6:=hg.ok.len;simp only[]at g5 g6;refine Zo U U (λhV=>?_) (λhV=>?_)
   ·refine Qw ?_;have g7:(Xf q.a.ed s.toNat).length<=m:=by have hK:¬(m:Int)<((Xf q.a.ed s.toNat).length:Int):=hV;omega
    rw[Lt g7]at I;simp only[List.foldl_nil]at I;rw[<-I]at S;refine Qs<|Qa<|QH U U<|Qb<|⟨(f',i+1,hH,o2,l2),og,oB,E,hI,ht,hu,hg,og,S⟩
   refine Qf ?_;have hv:m<(Xf q.a.ed s.toNat).length:=by have hK:(m:Int)<((Xf q.a.ed s.toNat).length:Int):=hV;omega
   have go:=Qhc (Lm hv);have g8:=Zc hv;rw[g8,L5]at I;refine Zf ((Xf q.a.ed s.toNat)[m]'hv) λy hy=>?_;rw[hy]at go I;have g9:0<=y/\y<(q.n:Int):=by
    obtain⟨e,he,h1,_⟩:=go;have:=hq.ok.ed e he;omega
   have hw:y=(y.toNat:Int):=oa
   have h6:y.toNat<o2.length:=oa
   have hW:s.toNat<o2.length:=oa
   have ka:=hg.ok.le _ (KN hW);simp only[]at ka;have hE:=Qkl (lf:=lf) hg hsr hU g9;have kb:=qM (l:=lf) (s:=y) oa;refine Qd<|Qm<|Qc<|xii (i:=m) ((gn.R s.toNat oa)) U U hv λkx hK=>?_;rw[hy]at hK;refine x (Qy hK U)<|Qb<|QX (α:=Bool) [(71,84)] (λz=>[(84,.bool z)]) (λz w'=>w'=w5/\z=(lft lf y && decide (O6 o2 y.toNat<0))) om ?_ ?_
   ·refine Qs<|Qa<|Yd U<|Qo U gn.B U U<|Qa<|x (ZA (i:=y.toNat) U (OV sS hw) oa)<|x (Ki (i:=y.toNat) (hB.I E) U oa)<|?_;rw[kb];cases lft lf y with
    | true =>
     refine Qa<|Qa<|Qa<|x (ZA (i:=y.toNat) U (OV sS hw) oa)<|x (zV (i:=y.toNat) ht U h6)<|Z5 U U<|QC U<|xe ?_;exact⟨_,La,U,by rw[ZL h6];rfl⟩
    | false =>
     refine Qa<|Zt<|Ys<|QC U<|xe ?_;exact⟨_,La,U,U⟩
   rintro z g kz ⟨rfl,rfl⟩;refine QU U (λh7=>?_) (λh7=>?_)
   ·rw[Ly,decide_eq_true_eq]at h7;have hEq:dsE lf s (o2,l2) y=(o2.set y.toNat (O6 o2 s.toNat+1),l2++[y]):=by unfold dsE;rw[OU h7]
    rw[hEq]at I hE;have kc:=ZL hW;have gp:=ZL h5;rw[hJ]at gp;refine Qj<|Qa<|Qa<|Qa<|Qa<|xii (i:=i) (QB (L:=[]) hu oa od) rfl rfl h5 λk0 gq=>?_;rw[gp]at gq;refine x (Qy gq U)<|x (ZA (i:=s.toNat) U (OV sS gk) oa)<|x (zV (i:=s.toNat) ht U hW)<|x (XX U U ⟨oa,oa⟩) <|
     x (ZA (i:=y.toNat) U (OV sS hw) oa)<|Qn<|KD (i:=y.toNat) ht U U h6 λw6 J hL=>xe ?_
    rw[kc]at hL;have ke:=J.size;have kf:∀b∈ob hH,b∉[bO]:=λb G=>by have:=Qg hu b G;simp only[oJ];omega
    have h8:Qq 3 ↑H w6 hH l2:=Qe hu J kf;have kg:sX w w6:=E.O J hC;refine Qs<|Qa<|Qa<|Qn<|Za [[sS y]] λk4 w7 h9 k5 kh=>Qn<|Q2 (m:=1) (news:=[sS y]) (Ql h8 h9) U U U (kh.at (L:=[]) od) oq oa (ov h9.size) λhX w8 ki hY k6 =>
     Qb ?_
    have k7:=h9.size;have k8:=hY.size;refine Qs<|QH U U<|Qa<|xe<|⟨(m+1,hX,_,l2++[y]),og,oB,hv,(kg.D h9).S hY (λb G=>.inr (oz (Qg h8 b G) gc.size hh.size)),oa,(hL.I h9).J hY (λG=>ov (Qg h8 _ G)),Qq.snoc ki,hE.1,hE.2,by simp only[oN];omega,by rw[jr h5];exact hJ,I⟩
   have hEq:dsE lf s (o2,l2) y=(o2,l2):=by
    unfold dsE;rw[OT];intro T;rw[T.1,OX T.2]at h7;cases h7
   rw[hEq]at I;refine Qf<|Qs<|QH U U<|Qa<|xe ?_;exact⟨(m+1,hH,o2,l2),og,oB,hv,E,hI,ht,hu,hg,hU,h5,hJ,I⟩
  refine Qf ?_;have V:k<q.a.mr.length:=by have hD:(k:Int)<(q.a.mr.length:Int):=hQ;omega
  have kj:=ga _ (Lm V);have kk:q.a.mr.take (k+1)=q.a.mr.take k++[q.a.mr[k]'V]:=Ln V;have Y:(q.a.mr.take (k+1)).foldl (ds1 lf) (oO q.n (-1),[])=ds1 lf ((q.a.mr.take k).foldl (ds1 lf) (oO q.n (-1),[])) (q.a.mr[k]'V):=by rw[kk,MF];rfl
  have kn:((q.a.mr.take k).foldl (ds1 lf) (oO q.n (-1),[])).1.length=q.n/\((q.a.mr.take k).foldl (ds1 lf) (oO q.n (-1),[])).2.length<=q.a.mr.length:=by
   rw[gh];exact⟨qk _ _,LH (Mg _ _) (by rw[LB];omega)⟩
  refine Zf ((q.a.mr.take k).foldl (ds1 lf) (oO q.n (-1),[])) λz hz=>?_;rw[hz]at ho ha Y kn;refine Zf (q.a.mr[k]'V) λy hy=>?_;rw[hy]at kj Y;have hw:y=(y.toNat:Int):=oa
  have h6:y.toNat<z.1.length:=oa
  have gr:=hA.I h3;refine Qd<|Qm<|Qc<|xii (i:=k) gr.a.mr U U V λk9 hD=>?_;rw[hy]at hD;refine x (Qy hD U)<|Qb<|Qj<|Yd U<|Qo U gr.B U U<|Qa<|x (ZA (i:=y.toNat) U (OV sS hw) oa)<|x (Ki (i:=y.toNat) (hB.I h3) U oa)<|xe ?_;rw[(qM (l:=lf) (s:=y) oa)];refine QU U (λhZ=>?_) (λhZ=>?_)
  ·have e1:ds1 lf z y=(z.1.set y.toNat 0,z.2++[y]):=by unfold ds1;rw[OU hZ]
   rw[e1]at Y;refine Qj<|Qa<|x (ZA (i:=y.toNat) U (OV sS hw) oa)<|Qn<|KD (i:=y.toNat) ho U U h6 λw4 hf h4=>xe ?_;have hR:=hf.size;have gx:bO<H.heap.size:=h0.lt;have O:Qq 3 ↑H w4 vl z.2:=Qe ha hf (λb G=>by have:=Qg ha b G;simp only[oJ];omega);refine Qs<|Qa<|Qa<|Qn<|Za [[sS y]] λma w5 E mf ko=>Qn<|Q2 (m:=1) (news:=[sS y]) (Ql O E) U U U (ko.at (L:=[]) od) oq oa (ov E.size) λhX w6 h8 J mg =>
    Qb ?_
   have hI:=E.size;have ke:=J.size;refine Qs<|QH U U<|Qa<|xe<|⟨(k+1,hX),og,oB,V,((h3.O hf hC).D E).S J (λb G=>.inr (oy (Qg O b G) hh.size)),oa,?_,?_⟩
   ·simp only[];rw[Y];exact(h4.I E).J J (λG=>ov (Qg O _ G))
   simp only[];rw[Y];exact Qq.snoc h8
  have e1:ds1 lf z y=z:=by unfold ds1;rw[OT (by rw[hZ];decide)]
  rw[e1]at Y;refine Qf<|Qs<|QH U U<|Qa<|xe ?_;exact⟨(k+1,vl),og,oB,V,h3,gg,by simp only[];rw[Y];exact ho,by simp only[];rw[Y];exact ha⟩
 refine Qf ?_;have hP:j<q.n:=by have gu:(j:Int)<(q.n:Int):=hO;omega
 refine Qd<|Qm<|Qj<|Qb<|Qs ?_;have kq:(gA q.n (λi=>if i<j then -1 else 0)).set j (-1)=gA q.n (λi=>if i<j+1 then -1 else 0):=Qpg (by rw[OU oa]) (λi _ hi=>by
  by_cases e:i<j
  ·rw[OU e,OU oa]
  rw[OT e,OT oa])
 refine Qa<|Qa<|x (ZA (i:=j) U U oa)<|Qn<|Qi0 (i:=j) h0 U U hP kq λw6 J hL=>xe ?_;refine Qs<|QH U U<|Qa<|xe ?_;exact⟨j+1,oa,La,hP,hh.O J hC,hL⟩
abbrev rmC (rk rs:Int)(x:Int×Int):LV:=[sS x.1,sS rk,sS rs,sS x.2]
theorem Qfa (rk rs:Int)(x:Int×Int):(rmC rk rs x).length=4:=rfl
abbrev RmO (base:Nat)(w:O1)(v:O2)(rk rs:Int)(l:xw):Prop:=w.ownsRow base 261 4 v l.length (l.flatMap (rmC rk rs))
theorem RmO.snoc {base:Nat}{v:O2}{rk rs:Int}{l:xw}{x:Int×Int}(h:w.ownsRow base 261 4 v (l.length+1) (l.flatMap (rmC rk rs)++rmC rk rs x)):RmO base w v rk rs (l++[x]):=by
 unfold RmO;rw[Ll,LA];simpa using h
theorem Qjn {k:Nat}(h:k<a.ed.length):(a.ed.take (k+1)).foldl (VF ul lf) []=VF ul lf ((a.ed.take k).foldl (VF ul lf) []) (a.ed[k]'h):=by
 rw[Ln h,MF];rfl
theorem QiV {q:Pz}(O:PzA [] ↑w bp q)(hq:PzQ q)(hB:QZ ↑w q.bl 4 (lf.map Value.bool))(hl:lf.length=q.n)(rk:Int):
  QY sV 271 [sP bp,sS rk] w λr w'=>sX w w'/\RmO ↑w w' r rk 2 (lost q.a q.unc lf):=by
 have hn:=hq.n;have hP:=hq.ok.ed_le;refine Zq func271 ?_;refine Qc<|Qb<|Qc<|Qb<|Qd<|Qj<|Yd U<|QQ U<|Qo U O.B U U<|QF O.a.ed U<|Qa<|xe<|Q7 (α:=Nat×O2) [(5,5),(7,8),(15,72)] (λz=>[(5,z.2),(15,sS z.1)]) (λz w'=>z.1<=q.a.ed.length/\sX w w'/\RmO ↑w w' z.2 rk 2 ((q.a.ed.take z.1).foldl (VF q.unc lf) [])) (λz=>q.a.ed.length - z.1) (0,nS) oB ⟨Lo _,O5.Z _ _,QE _ _ _ _⟩ ?_;rintro⟨k,vo⟩ g w1 ⟨hk,hh,S⟩;have hi:=(yT (a:=q.a) (ul:=q.unc) (lf:=lf) (q.a.ed.take k) [] (λe T=>LX T) (λp hp=>by cases hp)).2;rw[LB]at hi;refine Zo rfl U (λhj=>?_) (λhj=>?_)
 ·refine Qw ?_;have hC:q.a.ed.length<=k:=by have V:¬(k:Int)<(q.a.ed.length:Int):=hj;omega
  rw[Lu hC]at S;refine Qj<|Qb<|Qh ⟨[_],La,hh,S⟩
 refine Qf ?_;have H:k<q.a.ed.length:=by have V:(k:Int)<(q.a.ed.length:Int):=hj;omega
 have hD:=hq.ok.ed _ (Lm H);have G:=Qjn (ul:=q.unc) (lf:=lf) H;refine Zf ((q.a.ed.take k).foldl (VF q.unc lf) []) λout hout=>?_;rw[hout]at S G hi;refine Zf (q.a.ed[k]'H) λe T=>?_;rw[T]at hD G;simp only[OI]at hi;have hE:e.1=(e.1.toNat:Int):=oa
 have hF:e.2.2=(e.2.2.toNat:Int):=oa
 refine Qd<|Qm<|Qc<|xie (O.I hh).a.ed U U H λhQ V=>?_;rw[T]at V;refine x (Qr V U U)<|QM [sS 0,sS 0,sS 0] λb7 w2 hG hH I=>QK (QA e) I oC λw3 hI Y=>xe ?_;have h2:sX w1 w3:=hG.O hI hH;have hm:=hh.D h2;have ha:=O.I hm;have h3:=hB.I hm;refine Qd<|QX (α:=Bool) [(19,47)] (λz=>[(47,.bool z)]) (λz w'=>sX w3 w'/\(z=true↔(lft lf e.1=false\/lft lf e.2.2=true\/e.2.1∉q.unc))) om ?_ ?_
 ·refine Zz [] (YW 0 29 [26])<|p Qv<|p (Yt U)<|p (QG U)<|pq (λ_ E=>Qk (ha.B.I E) U U)<|p (QG U)<|pq (λ_ E=>Qk (Y.I E) U U) <|
   p (λ_=>ZA (i:=e.1.toNat) U (OV sS hE) oa)<|pq (v:=.bool (lft lf e.1)) (λ_ E=>(Ki (i:=e.1.toNat) (h3.I E) U oa).D (by rw[(qM (l:=lf) (s:=e.1) oa)]))<|pB (λ_=>Zy rfl) (λJ=>?_) (λJ=>?_)
  ·refine p Qv<|ps<|ps<|ps<|ps<|ps<|ps<|ps<|ps<|p (Y9 U)<|p Qv<|ps<|ps<|ps<|ps<|ps<|ps<|ps<|ps<|p (Y9 U)<|pe ?_;exact⟨_,La,O5.C _ _,by simp at J;simp[J]⟩
  refine p Qv<|p Qv<|p (Yt U)<|p (QG U)<|pq (λ_ E=>Qk (ha.B.I E) U U)<|p (QG U)<|pq (λ_ E=>Qk (Y.I E) U U) <|
   p (λ_=>ZA (i:=e.2.2.toNat) U (OV sS hF) oa)<|?_
  refine pqB (b:=lft lf e.2.2) (λ_ E=>(Ki (i:=e.2.2.toNat) (h3.I E) U oa).D (by rw[(qM (l:=lf) (s:=e.2.2) oa)])) (λho=>?_) (λho=>?_)
  ·refine p (Y9 U)<|p Qv<|ps<|ps<|ps<|ps<|ps<|ps<|ps<|ps<|p (Y9 U)<|pe ?_;exact⟨_,La,O5.C _ _,by simp[ho]⟩
  refine p (Y9 U)<|p Qv<|p Qv<|p (Yt U)<|p (QG U)<|pq (λ_ E=>Qk (ha.B.I E) U U) <|
   p (QG rfl)<|pq (λ_ E=>Qk (Y.I E) U U)<|pk<|xg<|(Yr (ha.u.I (O5.C _ _)) e.2.1).Y ?_
  rintro r4 w4 ⟨rfl,rfl⟩;refine⟨O5.C _ _,?_⟩;refine p (λ_=>yF U)<|p (Y9 U)<|pe ?_;exact⟨_,La,O5.C _ _,by simp at J;simp[J,ho]⟩
 rintro z g w4 ⟨hr,hz⟩;have h4:=hm.D hr;have hs:=Ql (Ql S h2) hr;have I:=Y.I hr;refine QU rfl (λhf=>?_) (λhf=>?_)
 ·refine Qw ?_;have e1:VF q.unc lf out e=out:=by unfold VF;rw[OU (hz.1 hf)]
  rw[e1]at G;refine Qs<|QH U U<|Qa<|xe ?_;exact⟨(k+1,vo),og,oB,H,h4,by simp only[];rw[G];exact hs⟩
 refine Qf ?_;have h5:¬(lft lf e.1=false\/lft lf e.2.2=true\/e.2.1∉q.unc):=λh=>by rw[hz.2 h]at hf;cases hf
 have h6:Zn [] ↑w4 vo out.length 4 (out.flatMap (rmC rk 2)):=QB hs oa od;refine Qd<|Qj<|QF h6 U<|Qb<|QX (α:=Bool) [(50,62)] (λz=>[(62,.bool z)]) (λz w'=>sX w4 w'/\(z=true↔out.getLast?.map (·.1)=some e.1)) om ?_ ?_
 ·refine Zz [] (YW 0 13 [])<|p Qv<|pb (λ_=>Yc U U) (λht=>?_) (λht=>?_)
  ·have hR:0<out.length:=by have hJ:(0:Int)<(out.length:Int):=ht;omega
   have h7:out.getLast?=some (out[out.length - 1]'oa):=by rw[List.getLast?_eq_getElem?,LG]
   refine Zf (out[out.length - 1]'oa) λy hy=>?_;rw[hy]at h7;refine p Qv<|p Qv<|p Qv<|p (λ_=>XR U U ⟨oa,oa⟩)<|Go.Lg.pig (g:=rmC rk 2) (i:=out.length - 1) U (Qfa rk 2) h6 U (OV sS (show(out.length:Int) - 1=((out.length - 1:Nat):Int) by omega)) oa λhS h8=>?_;rw[hy]at h8;refine p (λ_=>Zd U)<|pq (λ_ E=>Qy ((h8.fld 0 (sS y.1) U).I E) U)<|p (QG U)<|pq (λ_ E=>Qk (I.I E) U U) <|
    p (λ_=>QR U U)<|p (Y9 U)<|pe ?_
   exact⟨_,La,O5.C _ _,by rw[h7];simp⟩
  have h0:out=[]:=Ls (by have hJ:¬(0:Int)<(out.length:Int):=ht;omega);refine p Qv<|ps<|ps<|ps<|ps<|ps<|ps<|ps<|ps<|ps<|p (Y9 U)<|pe ?_;exact⟨_,La,O5.C _ _,by simp[h0]⟩
 rintro z2 g w5 ⟨hu,h9⟩;have hv:=h4.D hu;have hw:=Ql hs hu;have I:=I.I hu;refine QU rfl (λhg=>?_) (λhg=>?_)
 ·refine Qw ?_;have e1:VF q.unc lf out e=out:=by unfold VF;rw[OT h5,OU (h9.1 hg)]
  rw[e1]at G;refine Qs<|QH U U<|Qa<|xe ?_;exact⟨(k+1,vo),og,oB,H,hv,by simp only[];rw[G];exact hw⟩
 refine Qf ?_;have hK:¬out.getLast?.map (·.1)=some e.1:=λh=>by rw[h9.2 h]at hg;cases hg
 have e1:VF q.unc lf out e=out++[(e.1,e.2.1)]:=by unfold VF;rw[OT h5,OT hK]
 rw[e1]at G;refine Qs<|Qa<|Qo U I U U<|Qa<|Qo U I U U<|x (Qx ⟨U,U,U,U,Z⟩) <|
  Qn<|Za [rmC rk 2 (e.1,e.2.1)] λhT w6 h1 hU hL =>
  Qn<|Q2 (m:=1) (news:=rmC rk 2 (e.1,e.2.1)) (Ql hw h1) U U U (hL.at (L:=[]) od) oq oa (oy hv.size h1.size) λhM w7 hN hO hV=>Qb<|Qs<|QH U U<|Qa<|xe ?_
 exact⟨(k+1,hM),og,oB,H,(hv.D h1).S hO (λb hb=>.inr (Qg hw b hb).1),by simp only[];rw[G];exact RmO.snoc hN⟩
theorem QaW (lf:Lf)(d:Int):∀(l:LI) (i:Nat),Ud lf i (l++[d])=Ud lf i l++if lf.getD (i+l.length) false=true/\d<0 then[((i+l.length:Nat):Int)]else[]
 | [],i=>by
  simp only[Om,Ud,OI,OD]
 | a::l,i=>by
  have ih:=QaW lf d l (i+1);rw[show i+1+l.length=i+(a::l).length by simp;omega]at ih;simp only[Oh,Ud,ih];by_cases h:lf.getD i false=true/\a<0
  ·rw[OU h,OU h,Mw]
  rw[OT h,OT h]
abbrev blP (l:LI):xw:=l.map λs=>(s,-1)
theorem QcD {q:Pz}(hA:PzA [] ↑w bp q)(O:PzQ q)(hB:QZ ↑w q.bl 4 (lf.map Value.bool))(hl:lf.length=q.n)(rk:Int):
  QY sV 272 [sP bp,sS rk] w λr w'=>sX w w'/\RmO ↑w w' r rk 3 (blP (Ud lf 0 (dsts q.a lf)))/\(Ud lf 0 (dsts q.a lf)).length<=q.n:=by
 have hn:=O.n;have hv:=O.ok.st1;refine Zq func272 ?_;refine Qc<|Qb<|Qc<|Qb<|Qd<|Qj<|Qz<|(qd hA O hB hl).Y ?_;rintro r1 S ⟨hf,b,rfl,hb,hg,T⟩;refine Zf (dsts q.a lf) λD hD=>?_;rw[hD]at hg T ⊢;have hh:QL [] ↑S (sL b q.n q.n) D:=by
  have h:=hg.arr (L:=[]) od (n:=q.n) (cap:=q.n) (sz:=1) (by simp[T]) oa (Lx _);unfold QL;rw[T];exact h
 refine QF hh U<|Qa<|xe<|Q7 (α:=Nat×O2) [(5,7),(11,33)] (λz=>[(5,z.2),(11,sS z.1)]) (λz w'=>z.1<=D.length/\sX S w'/\RmO ↑S w' z.2 rk 3 (blP (Ud lf 0 (D.take z.1)))) (λz=>D.length - z.1) (0,nS) oB ⟨Lo _,O5.Z _ _,QE _ _ _ _⟩ ?_;rintro⟨k,vo⟩ g w2 ⟨hk,I,H⟩;have hbl:=(qn lf (D.take k) 0).2;rw[LB]at hbl;have V:=hf.D I;refine Zo rfl U (λY=>?_) (λY=>?_)
 ·refine Qw ?_;have hj:D.length<=k:=by have hm:¬(k:Int)<(D.length:Int):=Y;omega
  rw[Lu hj]at H;refine Qj<|Qb<|Qh ⟨[_],La,V,ZB H hf.size,ov (qn lf D 0).2⟩
 refine Qf ?_;have E:k<D.length:=by have hm:(k:Int)<(D.length:Int):=Y;omega
 have ho:D.take (k+1)=D.take k++[D[k]'E]:=Ln E;have G:=QaW lf (D[k]'E) (D.take k) 0;rw[<-ho,LB,LT,Mk oa]at G;refine Zf (D[k]'E) λd hd=>?_;rw[hd]at G;refine Zf (Ud lf 0 (D.take k)) λout hout=>?_;rw[hout]at G H hbl;have ha:k<lf.length:=oa
 have hp:lf[k]'ha=lf.getD k false:=by simp[oR,ha]
 refine Qd<|Qm<|Qj<|xii (i:=k) (hh.I I) U U E λhw hi=>?_;rw[hd]at hi;refine x (Qy hi U)<|x Qi<|Qb<|QX (α:=Bool) [(16,26)] (λz=>[(26,.bool z)]) (λz w'=>w'=w2/\(z=true↔lf.getD k false=true/\d<0)) om ?_ ?_
 ·refine Qs<|Qa<|Yd U<|Qo U (hA.I V).B U U<|Qa<|x (ZA (i:=k) U U oa)<|xB (b:=lf.getD k false) ((Ki (i:=k) (hB.I V) U ha).D (by rw[hp])) (λhc=>?_) (λhc=>?_)
  ·refine Qa<|Qa<|Z5 U U<|QC U<|xe ?_;exact⟨_,La,U,by rw[hc];simp⟩
  refine Qa<|Ys<|QC U<|xe ?_;exact⟨_,La,U,by rw[hc];simp⟩
 rintro z g w3 ⟨rfl,hz⟩;refine QU rfl (λJ=>?_) (λJ=>?_)
 ·rw[OU (hz.1 J)]at G;refine Qs<|Qa<|Qa<|Qa<|x (Qx ⟨U,U,U,U,Z⟩)<|Qn<|Za [rmC rk 3 ((k:Int),-1)] λhy w4 he h0 hr =>
   Qn<|Q2 (m:=1) (news:=rmC rk 3 ((k:Int),-1)) (Ql H he) U U U (hr.at (L:=[]) od) oq (by rw[Lh];omega) (oy I.size he.size) λhs w5 ht hu h1=>Qb<|Qs<|QH U U<|Qa<|xe ?_
  refine⟨(k+1,hs),og,oB,E,(I.D he).S hu (λb hb=>.inr (Qg H b hb).1),?_⟩;simp only[];rw[G,show blP (out++[(k:Int)])=blP out++[((k:Int),-1)] by simp];exact RmO.snoc ht
 rw[OT (λh=>by rw[hz.2 h]at J;cases J),LS]at G;refine Qf<|Qs<|QH U U<|Qa<|xe ?_;exact⟨(k+1,vo),og,oB,E,I,by simp only[];rw[G];exact H⟩
def nxR (a:Q6)(ul:LI)(lf:Lf):Int×xw:=if(lost a ul lf).length≠0 then(2,lost a ul lf)else(3,blP (Ud lf 0 (dsts a lf)))
theorem Qmj (a:Q6)(ul:LI)(lf:Lf):(nxR a ul lf).2.map (·.1)=nxs a ul lf:=by
 unfold nxR nxs;split
 ·rfl
 rw[Mn];exact List.map_id _
theorem QiU {q:Pz}(S:PzA [] ↑w bp q)(G:PzQ q)(T:QZ ↑w q.bl 4 (lf.map Value.bool))(V:lf.length=q.n)(rk:Int):
  QY sV 233 [sP bp,sS rk,.bool true] w λr w'=>sX w w'/\RmO ↑w w' r rk (nxR q.a q.unc lf).1 (nxR q.a q.unc lf).2/\(nxR q.a q.unc lf).2.length<=1000000:=by
 have ha:=(QbB q.a q.unc lf).2;have hg:=G.ok.ed_le;have hn:=G.n;have hh:=G.ok.st1;have E:nxR q.a q.unc lf=if(lost q.a q.unc lf).length≠0 then(2,lost q.a q.unc lf)else(3,blP (Ud lf 0 (dsts q.a lf))):=rfl
 refine Zf (nxR q.a q.unc lf) λNR hb=>?_;rw[hb]at E ⊢;refine Zq func233 ?_;refine Qc<|Qb<|Qd<|Qj<|Qa<|Qz<|(QiV S G T V rk).Y ?_;rintro r1 w1 ⟨H,J⟩;refine Zf (lost q.a q.unc lf) λL hL=>?_;rw[hL]at J E ha;refine Qb<|QX (α:=Bool) [(11,17)] (λz=>[(17,.bool z)]) (λz w'=>w'=w1/\(z=true↔L.length≠0)) om ?_ ?_
 ·refine Qs<|Qa<|QF (L:=[]) (QB J oa od) rfl<|xb (Yc rfl rfl) (λO=>?_) (λO=>?_)
  ·refine Qa<|Ys<|QC U<|xe ?_;exact⟨_,La,U,by have Y:(0:Int)<(L.length:Int):=O;simp;intro e;subst e;simp at Y⟩
  refine Qa<|Qa<|x (Zy U)<|QC U<|xe ?_;have Y:¬(0:Int)<(L.length:Int):=O;have hc:L.length=0:=oa
  exact⟨_,La,U,by rw[hc];simp⟩
 rintro z g w2 ⟨rfl,hz⟩;refine QU rfl (λI=>?_) (λI=>?_)
 ·rw[OU (hz.1 I)]at E;refine Qj<|Qb ?_;subst E;exact Qh ⟨[_],La,H,J,by show L.length<=_;omega⟩
 rw[OT (λh=>by rw[hz.2 h]at I;cases I)]at E;refine Qf<|Qj<|Qa<|Qz<|(QcD (S.I H) G (T.I H) V rk).Y ?_;rintro r3 w3 ⟨he,hf,hbl⟩;refine Qb ?_;subst E;exact Qh ⟨[_],La,H.D he,ZB hf H.size,by show(blP _).length<=_;rw[Lh];omega⟩
end Go.Lg
