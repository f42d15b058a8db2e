/- Merged out of 29 texts. -/
import Derived.Test.YtpfnhheoeaiomaaGreatDoorPab
import Derived.Shelf.SortM.Plain
import Derived.Shelf.SortM.SortNone
import Derived.Shelf.SlicesE.Compact
import Derived.Shelf.SlicesE.DeleteFunc
import Derived.Ground.SlgmProg
import Derived.Ground.SlgnProg
import Derived.Ground.SlgfProg
import Derived.Laws.IdiomStrings
set_option maxHeartbeats 40000000
set_option maxRecDepth 100000
set_option linter.all false
open Go Go.Lg
open Go.Value renaming int->oB
open Go.IntKind renaming i64->oC
open _root_.List renaming mem_singleton->oF,replicate->oG,not_mem_nil->oH,mem_cons->oJ,range->oK,length_singleton->oL,length_append->oM,getD->oO,map_cons->oT,length->oY,cons_append->o0,all_cons->Oa,getElem?_append_left->Of,all_eq_true->Og,nil_append->Ol,length_map->Om,append_nil->On,append_assoc->Oq,map_nil->OG,take_length->OH
open _root_.Bool renaming and_eq_true->oI,not_eq_true'->Od,false_eq_true->Oh
open _root_.Array renaming replicate->oP
open _root_.Nat renaming zero_add->oX,add_zero->Oo,mul_le_mul->Oz,sub_zero->OK,mul_one->OM
open _root_.Option renaming map_some->Ov
open _root_.Int renaming toNat_natCast->Ox
open Go renaming World->OX,Value->OY,Operand->OZ,Program->O0
open Go.Proofs Go.Proofs.Tryz
open Go.Proofs.Tryz renaming prog->sV
variable {w w' W':OX}{L L' X ds ns av:LN}{n t i sz base T N j E m g id B kt ty G lo hi gp bp M:Nat}{a:QF}{l o u un al ul rs:LI}{cs us cap capt:LV}{α:Type}{y:OZ}{ve va vm z vt vl vs vk vx v' vr vo vu vz:OY}{f:Fr}{P:O0}{aa:List QF}{fn:Func}{c:CL}{s:Int}{lf:Lf}{es ed:List Ed}{K:xt}{d:xA}{pS:String}{af:xx}{gd:xj}{k':IntKind}{at_:Array Nat}{ops:xz}{q:Prop}{qx:List XV}{ks:List KV}
namespace Go.Lg
inductive Cd where
 | ex (b:Nat) (q:XV)
 | co (b:Nat) (q:KV)
def Cd.val:Cd->OY
 | .ex b _=>.func (.func 268) #[] #[.pointer (some ⟨b,0,none⟩)]
 | .co b _=>.func (.func 271) #[] #[.pointer (some ⟨b,0,none⟩)]
def Cd.src:Cd->Sum XV KV
 | .ex _ q=>.inl q
 | .co _ q=>.inr q
def QeO (t:LI):Sum XV KV->Bool
 | .inl q=>Vb t q.x
 | .inr q=>Ue t q.k
def Cd.vio (t:LI)(c:Cd):Bool:=QeO t c.src
abbrev V4 (c:Cd):LV:=[c.val]
theorem Qnv (c:Cd):(V4 c).length=1:=rfl
def CdA (H:xw):Cd->Prop
 | .ex b q=>QK H b 186 (ZY q)/\P2s [] H q.v q.ls
 | .co b q=>QK H b 191 (Yb q)/\P2s [] H q.v q.ts
theorem CdA.I {w w':OX}{c:Cd}(h:CdA ↑w c)(E:sW w w'):CdA ↑w' c:=by
 cases c with
 | ex b q=>exact⟨h.1.I E,h.2.I E⟩
 | co b q=>exact⟨h.1.I E,h.2.I E⟩
def Cd.rg (n:Nat):Cd->Prop
 | .ex _ q=>∀p∈q.ls,0<=p.1/\p.1<(n:Int)
 | .co _ q=>(∀p∈q.ts,0<=p.1/\p.1<(n:Int)/\-65536<=p.2/\p.2<=65536)/\q.ts.length<=8
theorem Qbq {q:XV}(w:OX):QT sV 233 [sT (ZY q)] w λr w'=>sW w w'/\∃b,r=(Cd.ex b q).val/\↑w<=b/\QK ↑w' b 186 (ZY q):=by
 refine Zn func233 ?_;refine Qc<|Zd (ZY q) λE S G I J=>Qb<|Qc<|x Zl<|Qb<|Qj ⟨[_],La,G,E,O,I,J⟩
theorem QcW {q:KV}(w:OX):QT sV 234 [sT (Yb q)] w λr w'=>sW w w'/\∃b,r=(Cd.co b q).val/\↑w<=b/\QK ↑w' b 191 (Yb q):=by
 refine Zn func234 ?_;refine Qc<|Zd (Yb q) λE S G I J=>Qb<|Qc<|x Zl<|Qb<|Qj ⟨[_],La,G,E,O,I,J⟩
def CdB (H:xw):Cd->Prop
 | .ex b q=>QK H b 186 (ZY q)
 | .co b q=>QK H b 191 (Yb q)
def Cd.blk:Cd->Nat
 | .ex b _=>b
 | .co b _=>b
theorem CdB.lt {H:xw}{c:Cd}(h:CdB H c):c.blk<H.size:=by cases c <;> exact QK.lt h
theorem CdB.J {X:LN}{w w':OX}{c:Cd}(h:CdB ↑w c)(E:O1 X w w')(hX:c.blk∉X):CdB ↑w' c:=by
 cases c <;> exact QK.J h E hX
structure CdL (base:Nat)(w:OX)(v:OY)(cds:List Cd):Prop where
 own:w.ownsRow base 334 1 v cds.length (cds.flatMap V4)
 bx:∀c∈cds,CdB ↑w c/\c.blk∉ob v
theorem CdL.add {E G:OX}{v I:OY}{cds:List Cd}{c:Cd}(h:CdL base w v cds)(T:sW w E)(U:CdB ↑E c)(hb:↑w<=c.blk)
  (V:G.ownsRow base 334 1 I (cds.length+1) (cds.flatMap V4++[c.val])) (Y:O1 (ob v) E G) (hn:∀b∈ob I,b∈ob v\/↑E<=b):CdL base G I (cds++[c]):=by
 have ha:c.blk∉ob v:=λJ=>oo ((QU h.own) _ J)
 refine⟨?_,λd hd=>?_⟩
 ·rw[Lc,LC];simpa using V
 have key:CdB ↑E d/\d.blk∉ob v:=by
  rcases Le.1 hd with hd|hd
  ·exact⟨(h.bx d hd).1.J T od,(h.bx d hd).2⟩
  simp only[oF]at hd;subst hd;exact⟨U,ha⟩
 refine⟨key.1.J Y key.2,λJ=>?_⟩;rcases hn _ J with S|S
 ·exact key.2 S
 have:=key.1.lt;omega
theorem Qiy (hX:yi [] ↑w vx qx)(hK:zY [] ↑w vk ks)(hH:qx.length<=32)(hI:ks.length<=32):
  QT sV 153 [.agg #[vs,vx,vk]] w λr w'=>sW w w'/\∃cds,CdL ↑w w' r cds/\cds.map Cd.src=qx.map Sum.inl++ks.map Sum.inr:=by
 refine Zn func153 ?_;refine Qc<|Zd [vs,vx,vk] λb1 S I hJ h3=>Qb<|Qc<|Qb<|Qe<|Qc<|Qr O h3 O O<|QG (hX.I I).arr O<|Qa<|xe<|QW (α:=Nat×OY×List Cd) [(3,3),(5,5),(11,20)] (λz=>[(3,z.2.1),(11,sS z.1)]) (λz w'=>z.1<=qx.length/\sW S w'/\CdL ↑S w' z.2.1 z.2.2/\z.2.2.map Cd.src=(qx.take z.1).map Sum.inl) (λz=>qx.length - z.1) (0,nS,[]) ov
  ⟨Ln _,O1.Z _ _,⟨QM _ _ _ _,λc hc=>(by cases hc)⟩,rfl⟩ ?_
 rintro⟨k,vo,cds⟩ g wA ⟨hk,J,Y,ha⟩;simp only[]at hk Y ha;have hM:cds.length=k:=by have:=OR oY ha;simp at this;omega
 refine Zi rfl O (λhm=>?_) (λhm=>?_)
 ·refine Qu ?_;have h8:qx.length<=k:=by have hn:¬(k:Int)<(qx.length:Int):=hm;omega
  rw[Lq h8]at ha;refine Qe<|Qc<|Qr O (h3.I J) O O<|QG ((hK.I I).I J).arr O<|Qa<|xe<|QW (α:=Nat×OY×List Cd) [(3,3),(7,7),(24,33)] (λz=>[(3,z.2.1),(24,sS z.1)]) (λz w'=>z.1<=ks.length/\sW S w'/\CdL ↑S w' z.2.1 z.2.2/\z.2.2.map Cd.src=qx.map Sum.inl++(ks.take z.1).map Sum.inr) (λz=>ks.length - z.1) (0,vo,cds) ov
   ⟨Ln _,J,Y,by simp only[];rw[ha];simp⟩ ?_
  rintro⟨j,vp,cdt⟩ g wB ⟨hj,he,T,hf⟩;simp only[]at hj T hf;have hN:cdt.length=qx.length+j:=by have:=OR oY hf;simp at this;omega
  refine Zi O O (λho=>?_) (λho=>?_)
  ·refine Qu ?_;have h9:ks.length<=j:=by have hn:¬(j:Int)<(ks.length:Int):=ho;omega
   rw[Lq h9]at hf;refine Ql<|Qb<|Qj ⟨[_],La,I.D he,cdt,⟨Q8 T.own I.size,T.bx⟩,hf⟩
  have U:j<ks.length:=by have hn:(j:Int)<(ks.length:Int):=ho;omega
  have h4:=Lk U;have h5:ks.take (j+1)=ks.take j++[ks[j]'U]:=Lh U;refine Qf<|Qe<|Qn<|Qc<|O4 zg ((hK.I I).I he).arr O O U λaA hA=>?_;refine Zf (ks[j]'U) λq hq=>?_;rw[hq]at hA h4 h5;have hp:=((hK.I I).I he).each q h4;refine x (QE hA O O)<|QP [.string .empty,nS,sS 0] λb7 w4 hr hs ht=>Q0 (Yb q) ht ⟨O,hp.one,O,Z⟩ λw5 hu hv=>xe ?_;have hg:sW wB w5:=hr.O hu hs;refine Qs<|Qa<|QY hv O O<|Qw<|(QcW w5).Y ?_;rintro r6 w6 ⟨hw,E,rfl,hB,hy⟩;refine Qo<|Q5 [[(Cd.co E q).val]] λhC w7 hh hD hz=>?_;have G:=(hg.D hw).D hh;have hE:=(he.D G).size;have hF:=hg.size;refine Qo<|Q2 (news:=[(Cd.co E q).val]) (L:=[]) (Qm T.own G) O O O (hz.at od) (by simp[Cd.val,Value.oneCell']) oa oa λv8 w8 h0 hl h1 =>
   Qb ?_
  have hge:=Qi T.own;have hG:=T.add (c:=Cd.co E q) G (QK.I hy hh) (by show _<=E;omega) h0 hl h1;have h2:sW S w8:=(he.D G).S hl (λb hb=>.inr (hge b hb).1);refine Qs<|QC O O<|Qa<|xe ?_;exact⟨(j+1,v8,cdt++[Cd.co E q]),oe,ov,U,h2,hG,by simp only[];rw[Lv,hf,h5];simp[Cd.src]⟩
 have V:k<qx.length:=by have hn:(k:Int)<(qx.length:Int):=hm;omega
 have h6:=Lk V;have h7:qx.take (k+1)=qx.take k++[qx[k]'V]:=Lh V;refine Qf<|Qe<|Qn<|Qc<|O4 qA ((hX.I I).I J).arr O O V λaA hA=>?_;refine Zf (qx[k]'V) λq hq=>?_;rw[hq]at hA h6 h7;have hp:=((hX.I I).I J).each q h6;refine x (QE hA O O)<|QP [.string .empty,nS] λb7 w4 hr hs ht=>Q0 (ZY q) ht ⟨O,hp.one,Z⟩ λw5 hu hv=>xe ?_;have hg:sW wA w5:=hr.O hu hs;refine Qs<|Qa<|QY hv O O<|Qw<|(Qbq w5).Y ?_;rintro r6 w6 ⟨hw,E,rfl,hB,hy⟩;refine Qo<|Q5 [[(Cd.ex E q).val]] λhC w7 hh hD hz=>?_;have G:=(hg.D hw).D hh;have hE:=(J.D G).size;have hF:=hg.size;refine Qo<|Q2 (news:=[(Cd.ex E q).val]) (L:=[]) (Qm Y.own G) O O O (hz.at od) (by simp[Cd.val,Value.oneCell']) oa oa λv8 w8 h0 hl h1 =>
  Qb ?_
 have h2:sW S w8:=(J.D G).S hl (λb hb=>.inr ((Qi Y.own) b hb).1);refine Qs<|QC O O<|Qa<|xe ?_;exact⟨(k+1,v8,cds++[Cd.ex E q]),oe,ov,V,h2,(Y.add (c:=Cd.ex E q) G (QK.I hy hh) (by show _<=E;omega) h0 hl h1),by simp only[];rw[Lv,ha,h7];simp[Cd.src]⟩
theorem Qm1 [Fu sV gp fn]{q:Cd->Bool}{v:OY}{l:List Cd}(h:Zs L ↑w v l.length 1 (l.flatMap V4))
  (G:∀e∈l,∀(E:OX),sW w E->QT sV gp ([e.val]++cap) E λr w'=>r=.bool (q e)/\sW E w'):
  QT sV 231 [v,.func (.func gp) #[] cap.toArray] w λr w'=>r=sS (fix q 0 l)/\sW w w' :=
 ixG ⟨_,O,func231⟩ Qnv (ld1 λ_=>O) h G
theorem Qk7 {c:Cd}{t:LI}(E:CdA ↑w c)(I:Qt [] ↑w vt t)(G:c.rg t.length)(J:∀i,i<t.length->0<=O2 t i/\O2 t i<=4096):
  ∃g fn cap,c.val=.func (.func g) #[] #[cap]/\Fu sV g fn/\QT sV g ([vt]++[cap]) w λr w'=>r=.bool (c.vio t)/\sW w w':=by
 cases c with
 | ex b q=>exact⟨_,_,_,O,inferInstance,QkZ E.1 E.2 I G⟩
 | co b q=>exact⟨_,_,_,O,inferInstance,QkY E.1 E.2 I G.1 G.2 J⟩
theorem Qf6 {bt:Nat}{c:Cd}{t:LI}(E:QK ↑w bt 47 [vt])(G:CdA ↑w c)(I:Qt [] ↑w vt t)(J:c.rg t.length)(S:∀i,i<t.length->0<=O2 t i/\O2 t i<=4096):
  QT sV 232 ([c.val]++[sP bt]) w λr w'=>r=.bool (c.vio t)/\sW w w':=by
 obtain⟨gq,fn,cap,T,V,hcall⟩:=Qk7 G I J S;rw[T];refine Zn func232 ?_;refine Qc<|Qb<|Ql<|ZA E O O<|Qo<|xc (g:=gq) (fn:=fn) (first:=[]) (capt:=[cap]) O<|hcall.Y ?_;rintro Y w1 ⟨rfl,U⟩;refine Qb<|Qj ⟨[_],La,O,U⟩
theorem QaA {v:OY}{cds:List Cd}{t:LI}(h:Zs L ↑w v cds.length 1 (cds.flatMap V4))(S:∀c∈cds,CdA ↑w c)(I:Qt [] ↑w vt t)(T:∀c∈cds,c.rg t.length)(U:∀i,i<t.length->0<=O2 t i/\O2 t i<=4096):
  QT sV 152 [v,vt] w λr w'=>r=sS (fix (Cd.vio t) 0 cds)/\sW w w':=by
 refine Zn func152 ?_;refine Qc<|Qo<|UR (us:=[vt]) I.cells λV w1 G ha Y=>Qb<|Ql<|x Zl<|Qw<|(Qm1 (q:=Cd.vio t) (cap:=[sP V]) (h.I G) (λc J w2 E=>Qf6 (Y.I E) (((S c J).I G).I E) ((I.I G).I E) (T c J) U)).Y ?_;rintro r2 w2 ⟨rfl,E⟩;refine Qb<|Qj ⟨[_],La,O,G.D E⟩
theorem QiH {sz t:LI}(hS:Qt [] ↑w vs sz)(G:Qt [] ↑w vt t)(h:Qlw sz t):
  QT sV 230 [.agg #[vs,vx,vk],vt] w λr w'=>r=sS 0/\sW w w':=by
 have he:=G.le;have h0:=h.1;refine Zn func230 ?_;refine Qc<|Zd [vs,vx,vk] λb2 U E hf J=>Qb<|Qe<|Ql<|QG (G.I E) O<|Qr O J O O<|QG (hS.I E) O<|x (Kw O O) <|
  xe ?_
 refine Zp rfl (λS=>?_) (λS=>?_)
 ·refine Qf<|Qe<|Ql<|QG (G.I E) O<|Qa<|xe<|QW (α:=Nat) [(4,6),(15,31)] (λz=>[(15,sS z)]) (λz w'=>z<=t.length/\w'=U) (λz=>t.length - z) 0 La ⟨Ln _,O⟩ ?_;rintro k g V ⟨hk,rfl⟩;refine Zi O O (λT=>?_) (λT=>?_)
  ·refine Qu<|Qc<|Qb<|Qj ⟨[_],La,O,E⟩
  have I:k<t.length:=by have hg:(k:Int)<(t.length:Int):=T;omega
  have hb:=h.2 k I;refine Qf<|Qe<|Qn<|Ql<|xic (i:=k) (G.I E) O O I λhh Y=>x (Qq Y O)<|x Qd<|Qb<|QV (α:=Unit) [(20,30)] (λz=>[(30,.bool false)]) (λz w'=>w'=V) oh ?_ ?_
  ·refine Qs<|Qa<|xb (Yw O O) (λha=>oa) (λha=>?_);refine Qa<|Qa<|Qr O J O O<|Qa<|xic (i:=k) (hS.I E) O O oa λhj hc=>x (Qq hc O) <|
    x (Yd rfl O)<|QA O<|xe ?_
   exact⟨(),⟨OR Value.bool (OV oa),Z⟩,O⟩
  rintro _ g w3 rfl;refine Zz O<|Qf<|Qs<|QC O O<|Qa<|xe ?_;exact⟨k+1,oa,La,I,O⟩
 exact OS (show(t.length:Int)=(sz.length:Int) by omega) S
theorem yl {sz t:LI}(hS:Qt [] ↑w vs sz)(hX:yi [] ↑w vx qx)(hK:zY [] ↑w vk ks)(T:Qt [] ↑w vt t)(U:Y8 sz (qx.map (·.x)) (ks.map (·.k))=0)(h:Qlw sz t):
  QT sV 151 [.agg #[vs,vx,vk],vt] w λr w'=>r=sS 0/\sW w w':=by
 refine Zn func151 ?_;refine Qc<|Zd [vs,vx,vk] λY w1 E ha I=>Qb<|Qe<|Qc<|QY I O O<|Qw<|(zv (hS.I E) (hX.I E) (hK.I E)).Y ?_;rintro r2 w2 ⟨J,S⟩;rw[U]at J;subst J;refine Qb<|Ql<|ZI O O<|xe<|Zz rfl<|Qf ?_;have G:=E.D S;refine Qc<|QY (I.I S) O O<|Qa<|Qw<|(QiH (hS.I G) (T.I G) h).Y ?_;rintro r3 w3 ⟨rfl,V⟩;refine Qb<|Qj ⟨[_],La,O,G.D V⟩
def Vx (qx:List Exc)(ks:List xG)(t:LI):Int×Int×Bool :=
 if 0<=fix (Vb t) 0 qx then(1,fix (Vb t) 0 qx,true)else if 0<=fix (Ue t) 0 ks then(2,fix (Ue t) 0 ks,true)else(0,0,false)
theorem QkT {cds:List Cd}(t:LI)(h:cds.map Cd.src=qx.map Sum.inl++ks.map Sum.inr):
  fix (Cd.vio t) 0 cds=if 0<=fix (Vb t) 0 (qx.map (·.x))then fix (Vb t) 0 (qx.map (·.x))else if 0<=fix (Ue t) 0 (ks.map (·.k))then fix (Ue t) 0 (ks.map (·.k))+qx.length else -1:=by
 have E:fix (Cd.vio t) 0 cds=fix (QeO t) 0 (cds.map Cd.src):=(KS (QeO t) Cd.src cds 0).symm;rw[E,h,zr,KS,Lj,yX,KS (QeO t) Sum.inr ks 0];have e1:fix (λa=>QeO t (Sum.inl a)) 0 qx=fix (Vb t) 0 (qx.map (·.x)):=(KS (Vb t) XV.x qx 0).symm;have e2:fix (λa=>QeO t (Sum.inr a)) 0 ks=fix (Ue t) 0 (ks.map (·.k)):=(KS (Ue t) KV.k ks 0).symm;rw[e1,e2]
theorem Ql7 {P:Int×Int×Bool}{a b:Int}{c:Bool}(h:P=(a,b,c)):(Value.tuple #[sS a,sS b,.bool c,sS 0])=.tuple #[sS P.1,sS P.2.1,.bool P.2.2,sS 0]:=by rw[h]
theorem UY {sz t:LI}(hS:Qt [] ↑w vs sz)(hX:yi [] ↑w vx qx)(hK:zY [] ↑w vk ks)(ht:Qt [] ↑w vt t)(hc:Y8 sz (qx.map (·.x)) (ks.map (·.k))=0)(h:Qlw sz t):
  QT sV 77 [.agg #[vs,vx,vk],vt] w λr w'=>sW w w'/\r=.tuple #[sS (Vx (qx.map (·.x)) (ks.map (·.k)) t).1,sS (Vx (qx.map (·.x)) (ks.map (·.k)) t).2.1,.bool (Vx (qx.map (·.x)) (ks.map (·.k)) t).2.2,sS 0]:=by
 have Y:=QbM hc;have hw:qx.length<=32:=by have:=Y.xl;simpa using this
 have hy:ks.length<=32:=by have:=Y.kl;simpa using this
 refine Zn func77 ?_;refine Qc<|Zd [vs,vx,vk] λb2 w1 ha h7 hl=>x Qd<|x Qd<|x Qd<|Qb<|Qe<|Qc<|QY hl O O<|Qa<|Qw<|(yl (hS.I ha) (hX.I ha) (hK.I ha) (ht.I ha) hc h).Y ?_;rintro r2 w2 ⟨rfl,hn⟩;refine Qb<|Ql<|ZI O O<|xe<|Zz rfl<|Qf ?_;have hg:=ha.D hn;have ho:=hl.I hn;refine Qc<|QY ho O O<|Qw<|(Qiy (hX.I hg) (hK.I hg) hw hy).Y ?_;rintro r3 w3 ⟨hp,cds,hL,hh⟩;have hf:=hg.D hp;have h8:cds.length=qx.length+ks.length:=by have:=OR oY hh;simpa using this
 have hz:∀i,i<t.length->0<=O2 t i/\O2 t i<=4096:=λi hi=>by
  have J:=h.2 i hi;have h2:i<sz.length:=by rw[<-h.1];exact hi
  have h3:=Y.s _ (Lk h2);rw[Zu h2]at h3;omega
 have hs:∀c∈cds,c.src∈qx.map Sum.inl++ks.map Sum.inr:=λc S=>by rw[<-hh];exact LG S
 have h0:∀c∈cds,CdA ↑w3 c:=λc S=>by
  have J:=hs c S;have h2:=(hL.bx c S).1;cases c with
  | ex b q =>
   have I:q∈qx:=by simpa[Cd.src]using J
   exact⟨h2,(hX.each q I).I hf⟩
  | co b q =>
   have I:q∈ks:=by simpa[Cd.src]using J
   exact⟨h2,(hK.each q I).I hf⟩
 have h4:∀c∈cds,c.rg t.length:=λc S=>by
  have J:=hs c S;rw[h.1];cases c with
  | ex b q =>
   have I:q∈qx:=by simpa[Cd.src]using J
   exact Y.x q.x (LG I)
  | co b q =>
   have I:q∈ks:=by simpa[Cd.src]using J
   exact Y.k q.k (LG I)
 have g1:=QcT (Vb t) (qx.map (·.x)) 0;have g2:=QcT (Ue t) (ks.map (·.k)) 0;simp only[Om]at g1 g2;refine Qa<|Qw<|(QaA (QN (L:=[]) hL.own oa od) h0 (ht.I hf) h4 hz).Y ?_;rintro r4 w4 ⟨rfl,hu⟩;rw[(QkT t hh)];have he:=hf.D hu;refine Zf (Vx (qx.map (·.x)) (ks.map (·.k)) t) λP T=>?_;rw[T];unfold Vx at T;refine Zf (fix (Vb t) 0 (qx.map (·.x))) λU hj=>?_;refine Zf (fix (Ue t) 0 (ks.map (·.k))) λV hk=>?_;rw[hj,hk]at T;rw[hj]at g1;rw[hk]at g2;refine Zf (if 0<=U then U else if 0<=V then V+(qx.length:Int)else -1) λr E=>?_
 rw[hj,hk,E];refine Qb<|Qn<|Ql<|ZX O O<|Qb<|Za O (λh5=>?_) (λh5=>?_)
 ·have G:¬0<=U:=λh=>by rw[OQ h]at E;omega
  have n2:¬0<=V:=λh=>by rw[OP G,OQ h]at E;omega
  refine Qc<|x Qd<|x Qd<|x Qd<|Qb<|Qj ⟨[_,_,_,_],oy,he,Ql7 (by rw[<-T,OP G,OP n2])⟩
 have hv:=(ho.I hp).I hu;refine Ql<|Qr O hv O O<|QG (hX.I he).arr O<|ZX O O<|Qb<|Za O (λh6=>?_) (λh6=>?_)
 ·have p1:0<=U:=by
   refine Lr.1 λG=>?_;by_cases h:0<=V
   ·rw[OP G,OQ h]at E;omega
   rw[OP G,OP h]at E;omega
  have e:r=U:=by rw[OQ p1]at E;exact E.symm
  refine Ql<|x Qd<|x Qd<|x Qd<|Qb<|Qj ⟨[_,_,_,_],oy,he,Ql7 (by rw[<-T,OQ p1,e])⟩
 have G:¬0<=U:=λh=>by rw[OQ h]at E;omega
 have p2:0<=V:=by
  refine Lr.1 λn2=>?_;rw[OP G,OP n2]at E;omega
 have e:r - (qx.length:Int)=V:=by rw[OP G,OQ p2]at E;omega
 refine Qe<|ZJ [] (Y4 0 9 [])<|p Qy<|p (QH O)<|pq (λ_ hc=>Qk (hv.I hc) O O)<|p (λ_=>YH (hX.I he).arr O) <|
  p (λ_=>X9 O O ⟨oa,oa⟩)<|p ZK<|p ZK<|p ZK<|p ZK <|
  pe ?_
 exact Qj ⟨[_,_,_,_],oy,he.D (O1.C _ _),Ql7 (by rw[<-T,OP G,OQ p2,<-e])⟩
def Yv (base:Nat)(av:LN)(H:xw)(v:OY)(n sz:Nat)(cs:LV):Prop:=∀L:LN,(∀b∈L,b<base\/b∈av)->Zs L H v n sz cs
theorem Yv.I {base:Nat}{av:LN}{w w':OX}{v:OY}{n sz:Nat}{cs:LV}(h:Yv base av ↑w v n sz cs)(E:sW w w'):Yv base av ↑w' v n sz cs:=λL G=>(h L G).I E
theorem Yv.app {I:LN}{v:OY}(h:Yv base av ↑w v n sz cs)(J:O1 av w w')(S:∀b∈I,b∈av\/↑w<=b):Yv base I ↑w' v n sz cs:=by
 intro L T;have U:Zs (av++L.filter λb=>decide (b<base)) ↑w v n sz cs:=h _ (λb hb=>by
  rcases Le.1 hb with hb|hb
  ·exact .inr hb
  exact .inl (by simpa using(LS.1 hb).2))
 refine U.grow J (λb hb=>Le.2 (.inl hb)) λb hb=>?_;rcases T b hb with E|E
 ·exact .inl (Le.2 (.inr (LS.2 ⟨hb,ou E⟩)))
 rcases S b E with G|G
 ·exact .inl (Le.2 (.inl G))
 exact .inr G
theorem Yv.of_own {v:OY}{e:Nat}(h:w.ownsRow N e sz v n cs)(G:n<=1099511627776)(hb:base<=N)(I:∀b∈av,b<N):Yv base av ↑w v n sz cs:=λL J =>
 QN h G λb hb S=>by
  have T:=(Qi h b hb).1;rcases J b S with E|E
  ·omega
  have:=I b E;omega
structure JY {α:Type}(g:α->LV)(sz T:Nat)(p:α->OY×Nat×Nat×LV)(base:Nat)(w:OX)(v:OY)(l:List α):Prop where
 own:w.ownsRow base T sz v l.length (l.flatMap g)
 each:∀q∈l,Yv base (ob v) ↑w (p q).1 (p q).2.1 (p q).2.2.1 (p q).2.2.2
theorem JY.nil {g:α->LV}{p:α->OY×Nat×Nat×LV}:JY g sz T p base w (nS) []:=⟨QM _ _ _ _,λq E=>by cases E⟩
theorem JY.app {α:Type}{g:α->LV}{sz T:Nat}{p:α->OY×Nat×Nat×LV}{base N e:Nat}{w E G:OX}{v I:OY}{l:List α}{q:α}(h:JY g sz T p base w v l)(U:sW w E)
  (V:E.ownsRow N e (p q).2.2.1 (p q).1 (p q).2.1 (p q).2.2.2) (Y:(p q).2.1<=1099511627776) (hN:↑w<=N) (hb:base<=↑w)
  (ho:G.ownsRow base T sz I (l.length+1) (l.flatMap g++g q)) (J:O1 (ob v) E G) (S:∀b∈ob I,b∈ob v\/↑E<=b):JY g sz T p base G I (l++[q]):=by
 refine⟨?_,λd hd=>?_⟩
 ·rw[Lc,LC];simpa using ho
 rcases Le.1 hd with hd|hd
 ·exact((h.each d hd).I U).app J S
 simp only[oF]at hd;subst hd;exact(Yv.of_own V Y oa (λb hb=>oo ((QU h.own) b hb))).app J S
theorem Qjc {hc he hf:OY}{b:QF}(h:Zr L ↑w va vm ve a)(h':Zr L' ↑w hc he hf b):
  QT sV 41 [.agg #[va,sS a.st,vm,ve],.agg #[hc,sS b.st,he,hf]] w λr w'=>r=.bool (decide (a.st=b.st/\a.al=b.al/\a.mr=b.mr/\a.ed=b.ed))/\sW w w':=by
 refine Zn func41 ?_;refine Qc<|Zd [va,sS a.st,vm,ve] λb2 w1 hk ho hl=>Zd [hc,sS b.st,he,hf] λb3 w2 hg E I=>Qb ?_;have J:=hk.D hg;have S:=hl.I hg;refine QV (α:=Bool) [(4,30)] (λz=>[(4,.bool z)]) (λz w'=>sW w w'/\z=decide (a.st=b.st/\a.al=b.al/\a.mr=b.mr/\a.ed=b.ed)) oh ?_ ?_
 ·refine Qs<|Qr O S O O<|Qr O I O O<|xb (Q6 O O) (λh9=>?_) (λh9=>?_)
  ·refine Qa<|Qr O S O O<|Qr O I O O<|Qw<|(UA (h.al.I J) (h'.al.I J)).Y ?_;rintro r3 w3 ⟨T,U⟩;have V:=J.D U;refine Qac (decide (a.al=b.al)) (λE=>?_) (λE=>?_)
   ·rw[E]at T;subst T;refine QA O<|Qa<|Qr O (S.I U) O O<|Qr O (I.I U) O O<|Qw<|(UA (h.mr.I V) (h'.mr.I V)).Y ?_;rintro r4 w4 ⟨Y,hh⟩;have ha:=V.D hh;have hj:=U.D hh;refine Qac (decide (a.mr=b.mr)) (λG=>?_) (λG=>?_)
    ·rw[G]at Y;subst Y;refine QA O<|Qa<|Qr O (S.I hj) O O<|Qr O (I.I hj) O O<|Qw<|(Qfu (h.ed.I ha) (h'.ed.I ha)).Y ?_;rintro r5 w5 ⟨rfl,hm⟩;refine QA O<|Qb<|⟨_,La,ha.D hm,bD ⟨λe=>⟨h9,OU E,OU G,e⟩,λe=>e.2.2.2⟩⟩
    rw[G]at Y;subst Y;refine QA O<|Qa<|Zy<|YD<|QA O<|Qb<|⟨_,La,ha,bF (λe=>OW G e.2.2.1)⟩
   rw[E]at T;subst T;refine QA O<|Qa<|Zy<|YD<|QA O<|Qa<|Zy<|YD<|x (Ul O) <|
    Qb<|⟨_,La,V,bF (λe=>OW E e.2.1)⟩
  refine Qa<|Zy<|YD<|QA O<|Qa<|Zy<|YD<|x (Ul O) <|
   Qa<|Zy<|YD<|QA O<|Qb<|⟨_,La,J,bF (λe=>h9 e.1)⟩
 rintro z g w6 ⟨hn,rfl⟩;exact Qj ⟨[_],La,O,hn⟩
theorem Qi9 (h:Zr L ↑w va vm ve a):
  QT sV 173 [.agg #[va,sS a.st,vm,ve]] w λr w'=>r=.bool (US a)/\sW w w':=by
 refine Zn func173 ?_;refine Qc<|Zd [va,sS a.st,vm,ve] λb1 U hf hj G=>Qb<|QV (α:=Bool) [(2,11)] (λz=>[(2,.bool z)]) (λz w'=>sW w w'/\z=US a) oh ?_ ?_
 ·refine ZJ [] (Y4 0 10 [1,6,7]) ?_;have V:=hf.D (O1.C [] U);refine pq (λ_ E=>Zj (G.J E od) rfl rfl)<|pk<|xg<|(YV (h.I V)).Y ?_;rintro r2 w2 ⟨rfl,Y⟩;have I:=V.D Y;have J:=(O1.C [] U).D Y;refine⟨J,?_⟩;refine pb (λ_=>Q6 O O) (λS=>?_) (λS=>?_)
  ·have E:XK a=0:=S;refine p Qy<|pq (λ_ E=>Zj (G.J E od) rfl rfl)<|pq (λ_ E=>Zj (G.J E od) rfl rfl) <|
    pk<|xg<|(Kd (h.I I) ((ZF a).1 E)).Y ?_
   rintro r3 w3 ⟨T,hk,hl,hm,rfl,hg⟩;have ha:=I.D T;refine⟨J.D T,?_⟩;refine pk<|xg<|(Qjc (h.I ha) (hg [] od)).Y ?_;rintro r4 w4 ⟨rfl,he⟩;refine⟨(J.D T).D he,?_⟩;refine p (YI O)<|p ZK<|pe ?_;refine⟨_,La,ha.D he,?_⟩;unfold US;rw[OT E,Ns];exact bD ⟨λe=>⟨e.1.symm,e.2.1.symm,e.2.2.1.symm,e.2.2.2.symm⟩,λe=>⟨e.1.symm,e.2.1.symm,e.2.2.1.symm,e.2.2.2.symm⟩⟩
  have E:¬XK a=0:=S;refine p Qy<|ps<|ps<|ps<|ps<|p (YI O)<|p ZK<|pe ?_;exact⟨_,La,I,by unfold US;rw[OV E];rfl⟩
 rintro z g w5 ⟨hh,rfl⟩;exact Qj ⟨[_],La,O,hh⟩
theorem ZS [Ag P t sz]{x:OZ}{b o:Nat}(h:QK ↑w b T cs)(hx:ev f x=.pointer (some ⟨b,o,none⟩))(G:us.length=sz)(I:(cs.drop o).take sz=us):
  (execOp (ev f) ⟨d,.load t x,ty,pS,af,gd⟩).run P w=.ok (.value (sT us)) w:=qk hx G λj v E=>by
 rw[XC,X4,h.cell];rw[<-I,LW]at E;split at E
 ·simpa using E
 cases E
theorem QcN {v:OY}{qs:List IV}(h:KM L ↑w v qs):
  QT sV 50 [v] w λr w'=>sW w w'/\w'.ownsRow ↑w 53 4 r (qs.map (·.p)).length ((qs.map (·.p)).flatMap ZG):=by
 have hr:=h.arr.le;refine Zn func50 ?_;refine Qc<|Qb<|Qc<|Qb<|Qe<|Ql<|QG h.arr O<|Qa<|xe<|QW (α:=Nat×OY) [(3,3),(5,5),(8,17)] (λz=>[(3,z.2),(8,sS z.1)]) (λz w'=>z.1<=qs.length/\sW w w'/\w'.ownsRow ↑w 53 4 z.2 z.1 (((qs.take z.1).map (·.p)).flatMap ZG)) (λz=>qs.length - z.1) (0,nS) ov
  ⟨Ln _,O1.Z _ _,QM _ _ _ _⟩ ?_
 rintro⟨k,vo⟩ g w1 ⟨hk,I,S⟩;refine Zi rfl O (λT=>?_) (λT=>?_)
 ·refine Qu ?_;have he:k=qs.length:=by have J:¬(k:Int)<(qs.length:Int):=T;omega
  subst he;rw[Lq (Lp _)]at S;refine Ql<|Qb<|Qj ⟨[_],La,I,by rw[Lj];exact S⟩
 have E:k<qs.length:=by have J:(k:Int)<(qs.length:Int):=T;omega
 have Y:=Lk E;have ha:qs.take (k+1)=qs.take k++[qs[k]'E]:=Lh E;refine Qf<|Qe<|Qn<|Qc<|O4 Uw (h.arr.I I) O O E λhs J=>?_;refine Zf (qs[k]'E) λq hq=>?_;rw[hq]at J Y ha;have G:=h.each q Y;refine x (QE J O O)<|QP [.string .empty,nS,sS 0,nS,nS] λb5 w2 hf hg U=>Q0 (Zm q) U ⟨O,G.al.one,O,G.mr.one,G.ed.one,Z⟩ λw3 hh U =>
  xe ?_
 have hj:sW w1 w3:=hf.O hh hg;refine Qs<|Qa<|Q7 O<|x (ZS (us:=ZG q.p) U O O O)<|Qo<|Q5 [ZG q.p] λb15 w4 hl ht hm=>?_;have V:=hj.D hl;have hc:=Qm S V;have hv:=(I.D V).size;have hn:∀u∈ZG q.p,u.oneCell'=true:=by
  intro u hu;simp only[oJ,oH,or_false]at hu;rcases hu with rfl|rfl|rfl|rfl
  ·exact G.al.one
  ·rfl
  ·exact G.mr.one
  exact G.ed.one
 refine Qo<|Q2 (news:=ZG q.p) (L:=[]) hc O O O (hm.at od) hn oa oa λv5 w5 ho hp hw=>Qb<|Qs<|QC rfl rfl<|Qa<|xe<|⟨(k+1,v5),oe,ov,E,(I.D V).S hp (λb hb=>.inr ((Qi hc) b hb).1),?_⟩;simp only[];rw[ha,Lv,LC];simpa using ho
theorem QhL {r:OY}{e:Nat}{ps:List AV}(h:w.ownsRow base e 4 r ps.length (ps.flatMap ZG))(E:ps.length<=1099511627776)(G:∀b∈L,b<base)(I:∀p∈ps,Zr L ↑w p.va p.vm p.ve p.a):XG L ↑w r ps :=
 ⟨QN h E (λb hb J=>oq (Qi h b hb).1 (G b J)),I⟩
theorem QhK {b:Nat}{n m:Int}(E:QK ↑w b 3 [sS m]):
  QT sV 174 ([sS n]++[sP b]) w λr w'=>r=.bool (decide (m<=n))/\sW w w':=by
 refine Zn func174 ?_;refine Qc<|Qb<|Ql<|ZA E O O<|x (Yd O O)<|Qb<|Qj ⟨[_],La,O,O1.Z _ _⟩
theorem Qea {q:IV}{nev:Nat}{vg:OY}{amg:LI}{bm:Nat}{seen:List ByteArray}(hA:Zr L ↑w q.p.va q.p.vm q.p.ve q.p.a)(h2:z7 q.nm)(hg:Qt L' ↑w vg amg)(hC:amg.length<=4096)(hm:ZP Xj ↑w bm (nmM seen))(h3:bm∈L)(h4:bm∈L'):
  QT sV 111 [sT (Zm q),sS nev,vg,.map (some bm)] w λr w'=>r=sS (YG nev amg seen q.it)/\O1 [bm] w w'/\(YG nev amg seen q.it=0->ZP Xj ↑w' bm (nmM (seen++[q.nm]))):=by
 have E:YG nev amg seen q.it=(if Xn q.nm=false then 7 else if q.nm∈seen then 8 else if XK q.p.a≠0 then XK q.p.a else if US q.p.a=false then 6 else if q.p.a.st=0 then 12 else
  if(q.p.a.al.any λe=>decide ((nev:Int)<=e))=true then 2 else if(mns q.p.a.al amg).length≠0 then 9 else 0):=rfl
 refine Zf (YG nev amg seen q.it) λR hR=>?_;rw[hR]at E ⊢;refine Zn func111 ?_;refine Qc<|Zd (Zm q) λb4 w1 hu hD h5=>Zd [sS nev] λb5 w2 U hE h6=>Qb ?_;have V:=hu.D U;have Y:=h5.I U;refine Qe<|Qn<|Qc<|Qr O Y O O<|Qw<|(UM q.nm h2 w2).Y ?_;rintro r3 w3 ⟨rfl,rfl⟩;refine x (Zh O)<|Qb<|Q9 O (λhj=>?_) (λhj=>?_)
 ·have G:Xn q.nm=false:=by simpa using hj
  rw[OQ G]at E;subst E;refine Qc<|Qb<|Qj ⟨[_],La,O,V.any,λe=>OS e og⟩
 have G:¬Xn q.nm=false:=by simpa using hj
 rw[OP G]at E;have hv:=hm.I V;refine Ql<|Qr O Y O O<|x (QaW hv O O)<|Qb<|Za O (λha=>?_) (λha=>?_)
 ·rw[OQ ha]at E;subst E;refine Qc<|Qb<|Qj ⟨[_],La,O,V.any,λe=>OS e og⟩
 rw[OP ha]at E;refine Qf ?_;have hF:=hm.lt;refine Ql<|Qr O Y O O<|Qo<|YF (k:=q.nm) hv O O λw4 hk hw=>xe ?_;rw[show ev _ _=Value.bool true from rfl,Qd3 ha]at hw;have I:O1 [bm] w w4:=V.any.Q hk;have hG:=hu.size;have hc:=Y.J hk (by simp;omega);have hf:Zr L ↑w4 q.p.va q.p.vm q.p.ve q.p.a:=hA.st (I.Y (λb hb=>by simp at hb;subst hb;exact h3));have h7:Qt L' ↑w4 vg amg:=hg.st (I.Y (λb hb=>by simp at hb;subst hb;exact h4));refine Qe<|Qc<|Q7 O<|x (ZS (us:=ZG q.p) hc O O O)<|Qw<|(YV hf).Y ?_;rintro r5 w5 ⟨rfl,hh⟩;refine Qb<|Ql<|ZI O O<|xe<|Za rfl (λJ=>?_) (λJ=>?_)
 ·rw[OQ J]at E;subst E;refine Ql<|Qb<|Qj ⟨[_],La,O,I.D hh,λe=>OS e J⟩
 rw[OP J]at E;refine Qf<|Qe<|Qn<|Qc<|Q7 O<|x (ZS (us:=ZG q.p) (hc.I hh) O O O)<|Qw<|(Qi9 (hf.I hh)).Y ?_;rintro r6 w6 ⟨rfl,h8⟩;have S:=hh.D h8;have hy:=I.D S;have hz:=hc.I S;refine x (Zh O)<|Qb<|Q9 O (λhl=>?_) (λhl=>?_)
 ·have G:US q.p.a=false:=by simpa using hl
  rw[OQ G]at E;subst E;refine Qc<|Qb<|Qj ⟨[_],La,O,hy,λe=>OS e og⟩
 have G:¬US q.p.a=false:=by simpa using hl
 rw[OP G]at E;refine Qc<|Q7 O<|Qr O hz O O<|x (Q6 O O)<|Qb<|Za O (λho=>?_) (λho=>?_)
 ·have hp:q.p.a.st=0:=ho;rw[OQ hp]at E;subst E;refine Qc<|Qb<|Qj ⟨[_],La,O,hy,λe=>OS e og⟩
 have hp:¬q.p.a.st=0:=ho;rw[OP hp]at E;refine Qc<|Q7 O<|Qr O hz O O<|x Zl<|Qw<|(Qc8 (q:=λe=>decide ((nev:Int)<=e)) (cap:=[sP b5]) (Qt.fl (hf.al.I S)) (λe he w2 U=>QhK (((h6.J hk (by simp;omega)).I S).I U))).Y ?_;rintro r7 w7 ⟨rfl,h9⟩;have T:=S.D h9;refine Qb<|Q9 O (λhq=>?_) (λhq=>?_)
 ·rw[OQ hq]at E;subst E;refine Qc<|Qb<|Qj ⟨[_],La,O,(I.D T),λe=>OS e og⟩
 rw[OP (by rw[hq];decide)]at E;have hH:=((ZF q.p.a).1 (Lr.1 J)).al_le;refine Qc<|Q7 O<|Qr O (hc.I T) O O<|Qa<|Qw<|(jg (hf.al.I T) (h7.I T) oa).Y ?_;rintro r8 w8 ⟨hB,rfl⟩;have h0:=T.D hB;have h1:=I.D h0;refine x (qR O)<|Qb<|Za O (λhs=>?_) (λhs=>?_)
 ·have ht:(mns q.p.a.al amg).length≠0:=λe=>hs (Lu e);rw[OQ ht]at E;subst E;refine Qc<|Qb<|Qj ⟨[_],La,O,h1,λe=>OS e og⟩
 have ht:¬(mns q.p.a.al amg).length≠0:=λe=>hs (λh=>e (by rw[show mns q.p.a.al amg=[] from h];rfl));rw[OP ht]at E;subst E;refine Qf<|Qc<|Qb<|Qj ⟨[_],La,O,h1,λ_=>hw.I h0⟩
theorem Qfz {v:OY}{l:xq}(h:P2s L ↑w v l):
  QT sV 180 [v] w λr w'=>sW w w'/\w'.ownsRow ↑w 188 2 r l.length (l.flatMap Zg):=
 zD ⟨_,O,func180⟩ h (Qd0 (c:=Zg) (λ_=>ov) l)
theorem Qfy {v:OY}{l:xq}(h:P2s L ↑w v l):
  QT sV 181 [v] w λr w'=>sW w w'/\w'.ownsRow ↑w 193 2 r l.length (l.flatMap Zg):=
 zD ⟨_,O,func181⟩ h (Qd0 (c:=Zg) (λ_=>ov) l)
theorem Yv.low {v:OY}(h:Yv base av ↑w v n sz cs)(E:O1 X w w')(hX:∀b∈X,b<base):Yv base av ↑w' v n sz cs:=by
 intro L G;have I:Zs (X++L) ↑w v n sz cs:=h _ (λb hb=>by
  rcases Le.1 hb with hb|hb
  ·exact .inl (hX b hb)
  exact G b hb)
 exact(I.J E (λb hb=>Le.2 (.inl hb))).up (λb hb=>.inl (Le.2 (.inr hb)))
theorem JY.low {α:Type}{g:α->LV}{sz T:Nat}{p:α->OY×Nat×Nat×LV}{base:Nat}{X:LN}{w w':OX}{v:OY}{l:List α}(h:JY g sz T p base w v l)(E:O1 X w w')(hX:∀b∈X,b<base):JY g sz T p base w' v l :=
 ⟨Qg h.own E (λb hb G=>oq (Qi h.own b hb).1 (hX b G)),λq I=>(h.each q I).low E hX⟩
theorem JY.arr {g:α->LV}{p:α->OY×Nat×Nat×LV}{v:OY}{l:List α}(h:JY g sz T p base w v l)(E:l.length<=1099511627776)(G:∀b∈L,b<base):Zs L ↑w v l.length sz (l.flatMap g):=
 QN h.own E (λb hb I=>oq (Qi h.own b hb).1 (G b I))
abbrev xvP (q:XV):OY×Nat×Nat×LV:=(q.v,q.ls.length,2,q.ls.flatMap Zg)
abbrev kvP (q:KV):OY×Nat×Nat×LV:=(q.v,q.ts.length,2,q.ts.flatMap Zg)
abbrev XvN (base:Nat)(w:OX)(v:OY)(l:List XV):Prop:=JY ZY 2 186 xvP base w v l
abbrev KvN (base:Nat)(w:OX)(v:OY)(l:List KV):Prop:=JY Yb 3 191 kvP base w v l
theorem XvN.xcs {v:OY}{l:List XV}{qs:List XV}(h:XvN base w v l)(S:l.map (·.x)=qs.map (·.x))(E:∀q∈qs,z7 q.nm)(T:l.length<=1099511627776)(G:∀b∈L,b<base):yi L ↑w v l:=by
 refine⟨h.arr T G,λq E=>h.each q E L (λb hb=>.inl (G b hb)),λq U=>?_⟩;have V:q.x∈qs.map (·.x):=by rw[<-S];exact LG U
 obtain⟨I,Y,e⟩:=Lz.1 V;have J:=E I Y;have h3:I.nm=q.nm:=OR Exc.nm e;rw[h3]at J;exact J
theorem KvN.kcs {v:OY}{l:List KV}{qs:List KV}(h:KvN base w v l)(S:l.map (·.k)=qs.map (·.k))(E:∀q∈qs,z7 q.nm)(T:l.length<=1099511627776)(G:∀b∈L,b<base):zY L ↑w v l:=by
 refine⟨h.arr T G,λq E=>h.each q E L (λb hb=>.inl (G b hb)),λq U=>?_⟩;have V:q.k∈qs.map (·.k):=by rw[<-S];exact LG U
 obtain⟨I,Y,e⟩:=Lz.1 V;have J:=E I Y;have h3:I.nm=q.nm:=OR xG.nm e;rw[h3]at J;exact J
theorem Qz {e:Nat}{v:OY}(h:w.ownsRow base e sz v n cs):v.oneCell'=true:=by
 rcases h.2 with⟨E,_⟩|⟨g,cap,cur,E,_⟩ <;> subst E <;> rfl
theorem xH {e:Nat}{v:OY}(h:w.ownsRow base e sz v n cs):v.cells=#[v]:=by
 rcases h.2 with⟨E,_⟩|⟨g,cap,cur,E,_⟩ <;> subst E <;> rfl
theorem Qdv {q:XV}(h:q.v.oneCell'=true):∀u∈ZY q,u.oneCell'=true:=by
 intro u E;simp only[oJ,oH,or_false]at E;rcases E with rfl|rfl
 ·rfl
 exact h
theorem Qku {q:KV}(h:q.v.oneCell'=true):∀u∈Yb q,u.oneCell'=true:=by
 intro u E;simp only[oJ,oH,or_false]at E;rcases E with rfl|rfl|rfl
 ·rfl
 ·exact h
 rfl
def Qqi (N:Nat)(w:OX)(r:OY)(sz:LI)(ex:List Exc)(cs:List xG):Prop:=∃vs vx vk qx ks,r=.agg #[vs,vx,vk]/\qx.map (·.x)=ex/\ks.map (·.k)=cs/\∀L:LN,(∀b∈L,b<N)->Qt L ↑w vs sz/\yi L ↑w vx qx/\zY L ↑w vk ks
theorem jb (h:ZV L ↑w c):
  QT sV 113 [c.val] w λr w'=>sW w w'/\Qqi ↑w w' r (szs c.V.co) c.V.ex c.V.cs:=by
 have m8:=h.co.arr.le;have m9:=h.ex.arr.le;have pc:=h.cs.arr.le;refine Zn func113 ?_;refine Qc<|Zd c.cells λb1 w1 hZ pd ga=>QP [nS,nS,nS] λb2 w2 gb pf gc=>xe ?_;have pg:=hZ.size;have ph:=ga.lt;have pj:=gc.lt;refine Qc<|x (QB Z)<|QP [nS,nS,nS] λE w3 g9 ka h3=>Q0 [nS,nS,nS] h3 ox λw4 kb h3 =>
  xe ?_
 have pn:=h3.lt;have V:sW w2 w4:=g9.O kb ka;have ge:sW w w4:=(hZ.D gb).D V;have gg:=(ga.I gb).I V;have kc:=gc.I V;have h4:=h.I ge;have po:b1<E:=oa
 have pp:b2<E:=oa
 have ke:↑w<=E:=oa
 have hI:∀{wa wb:OX},O1 [E] wa wb->sW w wa->sW w wb:=λha hb=>hb.O ha ke;refine Qe<|Qc<|Qr O gg O O<|QG h4.co.arr O<|Qa<|xe<|QW (α:=Nat×OY) [(5,5),(14,26)] (λz=>[(14,sS z.1)]) (λz w'=>z.1<=c.co.length/\O1 [E] w4 w'/\QK ↑w' E 163 [z.2,nS,nS]/\Qh 3 ↑w4 w' z.2 ((c.co.take z.1).map (·.p.a.st))) (λz=>c.co.length - z.1) (0,nS) La
  ⟨Ln _,O1.Z _ _,h3,QM _ _ _ _⟩ ?_
 rintro⟨k,vs⟩ g w5 ⟨hk,hu,h8,S⟩;simp only[]at hk h8 S;have gh:=hI hu ge;have h5:=h.I gh;have gi:=gg.J hu (by simp;omega);have kf:=kc.J hu (by simp;omega);have pt:=hu.size;refine Zi rfl O (λhJ=>?_) (λhJ=>?_)
 ·refine Qu ?_;have kg:c.co.length<=k:=by have U:¬(k:Int)<(c.co.length:Int):=hJ;omega
  rw[Lq kg]at S;refine Qe<|Qc<|Qr O gi O O<|QG h5.ex.arr O<|Qa<|xe<|QW (α:=Nat×OY×List XV) [(7,7),(30,45)] (λz=>[(30,sS z.1)]) (λz w'=>z.1<=c.ex.length/\O1 [E] w5 w'/\QK ↑w' E 163 [vs,z.2.1,nS]/\XvN ↑w5 w' z.2.1 z.2.2/\z.2.2.map (·.x)=(c.ex.take z.1).map (·.x)) (λz=>c.ex.length - z.1) (0,nS,[]) La
   ⟨Ln _,O1.Z _ _,h8,JY.nil,O⟩ ?_
  rintro⟨j,vx,qx⟩ g w6 ⟨hj,Y,hK,hf,hg⟩;simp only[]at hj hK hf hg;have gj:=hI Y gh;have h6:=h.I gj;have kh:=gi.J Y (by simp;omega);have ki:=kf.J Y (by simp;omega);have pu:=Y.size;have pw:qx.length=j:=by have:=OR oY hg;simp at this;omega
  refine Zi O O (λhM=>?_) (λhM=>?_)
  ·refine Qu ?_;have kj:c.ex.length<=j:=by have U:¬(j:Int)<(c.ex.length:Int):=hM;omega
   rw[Lq kj]at hg;refine Qe<|Qc<|Qr O kh O O<|QG h6.cs.arr O<|Qa<|xe<|QW (α:=Nat×OY×List KV) [(9,9),(49,66)] (λz=>[(49,sS z.1)]) (λz w'=>z.1<=c.cs.length/\O1 [E] w6 w'/\QK ↑w' E 163 [vs,vx,z.2.1]/\KvN ↑w6 w' z.2.1 z.2.2/\z.2.2.map (·.k)=(c.cs.take z.1).map (·.k)) (λz=>c.cs.length - z.1) (0,nS,[]) La
    ⟨Ln _,O1.Z _ _,hK,JY.nil,O⟩ ?_
   rintro⟨i,vk,ks⟩ g w7 ⟨hi,hh,hN,hl,hn⟩;simp only[]at hi hN hl hn;have gk:=hI hh gj;have h7:=h.I gk;have kk:=ki.J hh (by simp;omega);have pz:=hh.size;have p0:ks.length=i:=by have:=OR oY hn;simp at this;omega
   refine Zi O O (λhO=>?_) (λhO=>?_)
   ·refine Qu ?_;have kn:c.cs.length<=i:=by have U:¬(i:Int)<(c.cs.length:Int):=hO;omega
    rw[Lq kn]at hn;have ko:ZH [vs,vx,vk]:=⟨Qz S,Qz hf.own,Qz hl.own,Z⟩;refine Qc<|QY hN O O<|Q0 [vs,vx,vk] kk ko λw8 h9 kp=>xe ?_;refine Qj ⟨[.agg #[vs,vx,vk]],⟨Jm kp,Z⟩,gk.O h9 oa,?_⟩;have kq:=Qg ((Qg S Y (λb hb G=>by have:=(Qi S b hb).1;simp at G;omega))) hh (λb hb G=>by have:=(Qi S b hb).1;simp at G;omega);have kr:=Qg kq h9 (λb hb G=>by have:=(Qi S b hb).1;simp at G;omega);have kt:=(JY.low hf hh (by simp;omega)).low h9 (by simp;omega);have ku:=JY.low hl h9 (by simp;omega);refine⟨vs,vx,vk,qx,ks,O,hg,hn,λL hL=>⟨?_,XvN.xcs kt hg h.ex.nm oa (λb hb=>oo (hL b hb)),KvN.kcs ku hn h.cs.nm oa (λb hb=>oo (hL b hb))⟩⟩;have he:szs c.V.co=c.co.map (·.p.a.st):=by show((c.co.map IV.it).map _)=_;rw[Mm];rfl
    rw[he];exact Qh.ints kr (by rw[Lj];omega) (λb hb=>oo (hL b hb))
   have ho:i<c.cs.length:=by have U:(i:Int)<(c.cs.length:Int):=hO;omega
   have gl:=Lk ho;have gm:c.cs.take (i+1)=c.cs.take i++[c.cs[i]'ho]:=Lh ho;refine Qf<|Qe<|Qn<|Qc<|O4 zg h7.cs.arr O O ho λp4 gn=>?_;refine Zf (c.cs[i]'ho) λq hq=>?_;rw[hq]at gn gl gm;have J:=h7.cs.each q gl;refine x (QE gn O O)<|QP [.string .empty,nS,sS 0] λb9 w9 kv kw hv=>Q0 (Yb q) hv ⟨O,J.one,O,Z⟩ λhp kx hv =>
    xe ?_
   have hA:sW w7 hp:=kv.O kx kw;have go:=hN.I hA;have hP:=Qi hl.own;have T:E∉ob vk:=λG=>oo (hP E G).1
   have hQ:b9∉ob vk:=λG=>oo (hP b9 G).2
   refine ZJ (ob vk) [oz 0,oz 1,oz 2,oz 3,oz 4,oz 5,oz 7,oz 8,oA 6,oz 9,oA 10,oA 11,oz 12,oA 13] ?_;have kz:=hA.D (O1.C [] hp);refine p (QH O)<|pq (λ_ I=>Qk (go.J I T) O O)<|p (QH O)<|pq (λ_ I=>Qk (hv.J I hQ) O O) <|
    p (QH rfl)<|pq (λ_ I=>Qk (hv.J I hQ) O O)<|p (QH O)<|pq (λ_ I=>Qk (hv.J I hQ) O O) <|
    pk<|xg<|(Qfy (J.I kz)).Y ?_
   rintro hw p5 ⟨k0,hR⟩;have hy:=(O1.C [] hp).D k0;refine⟨hy.any,?_⟩;refine p (λ_=>QB ⟨O,xH hR,O,Z⟩)<|pk<|Q5 [Yb ⟨q.nm,hw,q.ts,q.bd⟩] λp6 p7 hz p8 k4=>⟨(hy.D hz).any,?_⟩;have hB:=(hA.D hy).D hz;have hS:↑hp=({ hp with drawn:=hp.drawn+1 }:OX).heap.size:=rfl
   have p9:=hA.size;have qf:=hB.size;refine pk<|Q2 (news:=Yb ⟨q.nm,hw,q.ts,q.bd⟩) (L:=[]) (Qm hl.own hB) O O O (k4.at od) (Qku (q:=⟨q.nm,hw,q.ts,q.bd⟩) (Qz hR)) oa oa λhT gq gr hC k5=>⟨((hy.D hz).any (L:=ob vk)).Q hC,?_⟩;have k6:KvN ↑w6 gq hT (ks++[⟨q.nm,hw,q.ts,q.bd⟩]):=JY.app hl hB (Qm hR hz) J.le (by rw[<-hS];omega) oa gr hC k5;have k9:=(go.J ((hy.D hz).any (L:=ob vk)) T).J hC T;refine p (QH O)<|pkk<|Qv (j:=2) (u:=hT) k9 O O od (Qz gr) λqj gs ma=>pe ?_;have mc:O1 [E] w6 gq:=(hh.D hB).S hC (λb hb=>.inr (hP b hb).1);refine Qs<|QC O O<|Qa<|xe<|⟨(i+1,hT,ks++[⟨q.nm,hw,q.ts,q.bd⟩]),oe,La,ho,?_,ma,JY.low k6 gs (by simp;omega),?_⟩
   ·exact mc.Q gs
   simp only[];rw[Lv,hn,gm,Lv];rfl
  have hr:j<c.ex.length:=by have U:(j:Int)<(c.ex.length:Int):=hM;omega
  have gt:=Lk hr;have gu:c.ex.take (j+1)=c.ex.take j++[c.ex[j]'hr]:=Lh hr;refine Qf<|Qe<|Qn<|Qc<|O4 qA h6.ex.arr O O hr λql gv=>?_;refine Zf (c.ex[j]'hr) λq hq=>?_;rw[hq]at gv gt gu;have J:=h6.ex.each q gt;refine x (QE gv O O)<|QP [.string .empty,nS] λb7 q0 mf mg hD=>Q0 (ZY q) hD ⟨O,J.one,Z⟩ λhs mh hD =>
   xe ?_
  have hE:sW w6 hs:=mf.O mh mg;have gx:=hK.I hE;have hU:=Qi hf.own;have T:E∉ob vx:=λG=>oo (hU E G).1
  have gy:b7∉ob vx:=λG=>oo (hU b7 G).2
  refine ZJ (ob vx) (Y4 0 12 [6,8,9,11]) ?_;have mj:=hE.D (O1.C [] hs);refine p (QH O)<|pq (λ_ I=>Qk (gx.J I T) O O)<|p (QH O)<|pq (λ_ I=>Qk (hD.J I gy) O O) <|
   p (QH rfl)<|pq (λ_ I=>Qk (hD.J I gy) O O)<|pk<|xg<|(Qfz (J.I mj)).Y ?_
  rintro h0 q4 ⟨mo,hV⟩;have h1:=(O1.C [] hs).D mo;refine⟨h1.any,?_⟩;refine p (λ_=>QB ⟨O,xH hV,Z⟩)<|pk<|Q5 [ZY ⟨q.nm,h0,q.ls⟩] λq5 j1 h2 j2 mq=>⟨(h1.D h2).any,?_⟩;have hF:=(hE.D h1).D h2;have hS:↑hs=({ hs with drawn:=hs.drawn+1 }:OX).heap.size:=rfl
  have j3:=hE.size;have j4:=hF.size;refine pk<|Q2 (news:=ZY ⟨q.nm,h0,q.ls⟩) (L:=[]) (Qm hf.own hF) O O O (mq.at od) (Qdv (q:=⟨q.nm,h0,q.ls⟩) (Qz hV)) oa oa λhW gz g0 hG ms=>⟨((h1.D h2).any (L:=ob vx)).Q hG,?_⟩;have mt:XvN ↑w5 gz hW (qx++[⟨q.nm,h0,q.ls⟩]):=JY.app hf hF (Qm hV h2) J.le (by rw[<-hS];omega) oa g0 hG ms;have mu:=(gx.J ((h1.D h2).any (L:=ob vx)) T).J hG T;have mv:O1 [E] w5 gz:=(Y.D hF).S hG (λb hb=>.inr (hU b hb).1);refine p (QH O)<|pkk<|Qv (j:=1) (u:=hW) mu O O od (Qz g0) λza g2 mw=>pe ?_;refine Qs<|QC O O<|Qa<|xe<|⟨(j+1,hW,qx++[⟨q.nm,h0,q.ls⟩]),oe,La,hr,?_,mw,JY.low mt g2 (by simp;omega),?_⟩
  ·exact mv.Q g2
  simp only[];rw[Lv,hg,gu,Lv];rfl
 have ht:k<c.co.length:=by have U:(k:Int)<(c.co.length:Int):=hJ;omega
 have g3:=Lk ht;have g4:c.co.take (k+1)=c.co.take k++[c.co[k]'ht]:=Lh ht;have z2:((c.co.take k).map (·.p.a.st)).length=k:=by simp;omega
 refine Qf<|Qe<|Qn<|Qc<|O4 Uw h5.co.arr O O ht λz3 U=>?_;refine Zf (c.co[k]'ht) λq hq=>?_;rw[hq]at U g3 g4;have J:=h5.co.each q g3;refine x (QE U O O)<|QP [.string .empty,nS,sS 0,nS,nS] λb5 z4 my mz hX=>Q0 (Zm q) hX ⟨O,J.al.one,O,J.mr.one,J.ed.one,Z⟩ λm0 m1 hX =>
  xe ?_
 have g5:sW w5 m0:=my.O m1 mz;have m2:=h8.I g5;refine Qs<|Qr O m2 O O<|Q7 O<|Qr O hX O O<|Qo<|Q5 [[sS q.p.a.st]] λz5 w23 m3 hb23 m4=>?_;have hH:=g5.D m3;have hz523:=hH.size;have g6:=Qi S;have T:E∉ob vs:=λG=>oo (g6 E G).1
 refine Qo<|Q2 (news:=[sS q.p.a.st]) (L:=[]) (Qm S hH) O O O (m4.at od) om oa oa λg7 m5 hY V hn24=>?_;have m6:O1 [E] w4 m5:=(hu.D hH).S V (λb hb=>.inr (g6 b hb).1);refine Q7 rfl<|Qo<|Qv (j:=0) (u:=g7) ((h8.I hH).J V T) O O od (Qz hY) λw25 g8 m7 =>
  xe ?_
 refine Qs<|QC O O<|Qa<|xe<|⟨(k+1,g7),oe,La,ht,m6.Q g8,m7,?_⟩;simp only[];rw[g4,Lv];exact Qh.snoc (n:=q.p.a.st) (Qg hY g8 (λb hb G=>by have:=(Qi hY b hb).1;simp at G;omega))
theorem Qgb (n:Nat):UO (n+1)=UO n++[(n:Int)]:=by unfold UO;rw[Nf,Lv];rfl
theorem Qjx (n:Nat):(UO n).length=n:=by unfold UO;simp
theorem Kz {k:Nat}{l:List IV}(h:k<l.length):(l.drop k).map (·.it)=(l[k]'h).it::(l.drop (k+1)).map (·.it):=by rw[QX h];rfl
theorem zI {s:List ByteArray}{x:Kp}(h:YG n u s x=0):Zb x.a:=by
 unfold YG at h;split at h
 ·cases h
 split at h
 ·cases h
 split at h
 ·rename_i E G;exact OS h G
 rename_i E;exact(ZF _).1 (Lr.1 E)
theorem Vk {s:List ByteArray}{x:Kp}{l:List Kp}:YU n al s u (x::l)=if YG n al s x≠0 then(YG n al s x,s,u)else YU n al (s++[x.nm]) (mrg (· || ·) u x.a.al) l:=rfl
theorem zG {s:List ByteArray}{x:Kp}{l:List Kp}:KH n u s (x::l)=if YG n u s x≠0 then YG n u s x else KH n u (s++[x.nm]) l:=rfl
theorem UI (h:ZV L ↑w c):
  QT sV 45 [c.val] w λr w'=>r=sS (ZW c.V)/\sW w w':=by
 have kg:=h.co.arr.le;have kh:=h.rq.arr.le;have E:ZW c.V=(if Xr c.ev≠0 then Xr c.ev else if c.co.length=0 then 12 else if 8<c.co.length\/12<c.co.length+c.rq.length then 3 else
  if(YU c.ev.length (UO c.ev.length) [] [] (c.co.map (·.it))).1≠0 then(YU c.ev.length (UO c.ev.length) [] [] (c.co.map (·.it))).1 else
  if KH c.ev.length (YU c.ev.length (UO c.ev.length) [] [] (c.co.map (·.it))).2.2 (YU c.ev.length (UO c.ev.length) [] [] (c.co.map (·.it))).2.1 (c.rq.map (·.it))≠0 then KH c.ev.length (YU c.ev.length (UO c.ev.length) [] [] (c.co.map (·.it))).2.2 (YU c.ev.length (UO c.ev.length) [] [] (c.co.map (·.it))).2.1 (c.rq.map (·.it))else
  Y8 (szs c.V.co) c.V.ex c.V.cs):=by
  unfold ZW;rw[show c.V.co.length=c.co.length from Lj ..,show c.V.rq.length=c.rq.length from Lj ..];rfl
 refine Zf (ZW c.V) λR hR=>?_;rw[hR]at E ⊢;refine Zf (YU c.ev.length (UO c.ev.length) [] [] (c.co.map (·.it))) λCO h8=>?_;rw[h8]at E;refine Zn func45 ?_;refine Qc<|Zd c.cells λb1 w1 h9 ki hA=>Qb<|Qe<|Qc<|Qr O hA O O<|Qw<|(zw (h.ev.I h9)).Y ?_;rintro r2 w2 ⟨rfl,hB⟩;refine Qb ?_;have ha:=h9.D hB;have ho:=hA.I hB;have h2:=h.I ha;refine Ql<|ZI O O<|xe<|Za rfl (λhp=>?_) (λhp=>?_)
 ·rw[OQ hp]at E;subst E;refine Ql<|Qb<|Qj ⟨[_],La,O,ha⟩
 rw[OP hp]at E;have kj:c.ev.length<=32:=by
  refine Lr.1 λhn=>?_;apply hp;unfold Xr;rw[OQ oa];decide
 refine Qf<|Qe<|Qc<|Qr O ho O O<|QG h2.co.arr O<|Qb<|Qn<|Ql<|x (Q6 O O)<|Qb<|Za O (λhw=>?_) (λhw=>?_)
 ·have hy:c.co.length=0:=by have hZ:(c.co.length:Int)=0:=hw;omega
  rw[OQ hy]at E;subst E;refine Qc<|Qb<|Qj ⟨[_],La,O,ha⟩
 have hy:¬c.co.length=0:=by have hZ:¬(c.co.length:Int)=0:=hw;omega
 rw[OP hy]at E;refine QV (α:=Bool) [(27,37)] (λz=>[(27,.bool z)]) (λz w'=>w'=w2/\z=decide (8<c.co.length\/12<c.co.length+c.rq.length)) oh ?_ ?_
 ·refine Qs<|Qa<|xb (Z2 O O) (λga=>?_) (λga=>?_)
  ·refine Qa<|Zy<|Zy<|QA O<|Qb<|⟨_,La,O,bT (.inl oa)⟩
  refine Qa<|Qa<|Qr O ho O O<|QG h2.rq.arr O<|x (YE O O ⟨oa,oa⟩) <|
   x (Z2 rfl O)<|QA O<|Qb<|⟨_,La,O,bD oa⟩
 rintro z g w3 ⟨rfl,rfl⟩;refine Za rfl (λhz=>?_) (λhz=>?_)
 ·rw[OQ hz]at E;subst E;refine Qc<|Qb<|Qj ⟨[_],La,O,ha⟩
 rw[OP hz]at E;refine Qf<|Qc<|Qo<|ZU Xj λbm w4 hC kk hD=>Qb ?_;have kn:=hD.lt;have ko:=ho.lt;have hE:=ha.D hC;have hG:=ho.I hC;have hH:b1≠bm:=oa
 have hge:↑w<=bm:=oa
 have hM:ZV [bm] ↑w c:=h.up (λb hb=>.inr (by simp at hb;omega));have hI:=hM.I hE;refine Qc<|x Qd<|Qb<|Qe<|Qc<|Qr O hG O O<|QG hI.ev.arr O<|Qa<|xe<|QW (α:=Nat×OY) [(6,6),(8,8),(42,49)] (λz=>[(6,z.2),(42,sS z.1)]) (λz w'=>z.1<=c.ev.length/\sW w4 w'/\Qh 3 ↑w4 w' z.2 (UO z.1)) (λz=>c.ev.length - z.1) (0,nS) ov
  ⟨Ln _,O1.Z _ _,QM _ _ _ _⟩ ?_
 rintro⟨k,vg⟩ g w5 ⟨hk,hc,hs⟩;simp only[]at hk hs;have kp:=Qjx k;refine Zi rfl O (λh0=>?_) (λh0=>?_)
 ·refine Qu ?_;have he:k=c.ev.length:=by have hf:¬(k:Int)<(c.ev.length:Int):=h0;omega
  subst he;have gb:Qt [bm] ↑w5 vg (UO c.ev.length):=Qh.ints hs oa (by simp;omega);have gc:=hD.I hc;have hJ:=hG.I hc;have hK:=hI.I hc;have ge:=hE.D hc;refine Qe<|Qc<|Qr O hJ O O<|QG hK.co.arr O<|Qa<|xe<|QW (α:=Nat×OY×List ByteArray×LI) [(2,2),(7,7),(10,11),(53,72)] (λz=>[(7,z.2.1),(53,sS z.1)]) (λz w'=>z.1<=c.co.length/\O1 [bm] w5 w'/\ZP Xj ↑w' bm (nmM z.2.2.1)/\Qt [bm] ↑w' z.2.1 z.2.2.2/\z.2.2.2.length<=32*z.1/\YU c.ev.length (UO c.ev.length) z.2.2.1 z.2.2.2 ((c.co.drop z.1).map (·.it))=CO) (λz=>c.co.length - z.1) (0,nS,[],[]) ov
   ⟨Ln _,O1.Z _ _,gc,Zs.nil _ _ _,od,h8⟩ ?_
  rintro⟨k,vu,sn,u⟩ g w6 ⟨hk,hg,ht,h1,gg,I⟩;simp only[]at hk ht h1 gg I;have hL:sW w w6:=ge.O hg hge;have h3:=hJ.J hg (ou hH);have U:=hK.st hg;refine Zi O O (λh4=>?_) (λh4=>?_)
  ·refine Qu ?_;have he:k=c.co.length:=by have hf:¬(k:Int)<(c.co.length:Int):=h4;omega
   subst he;rw[Ls (Lp _)]at I;have gh:CO=(0,sn,u):=I.symm;subst gh;rw[OP od]at E;simp only[]at E;refine Zf (KH c.ev.length u sn (c.rq.map (·.it))) λRQ hN=>?_;rw[hN]at E;refine Qe<|Qc<|Qr O h3 O O<|QG U.rq.arr O<|Qa<|xe<|QW (α:=Nat×List ByteArray) [(2,2),(13,14),(76,90)] (λz=>[(76,sS z.1)]) (λz w'=>z.1<=c.rq.length/\O1 [bm] w6 w'/\ZP Xj ↑w' bm (nmM z.2)/\KH c.ev.length u z.2 ((c.rq.drop z.1).map (·.it))=RQ) (λz=>c.rq.length - z.1) (0,sn) La
    ⟨Ln _,O1.Z _ _,ht,hN⟩ ?_
   rintro⟨k,sm⟩ g w7 ⟨hk,hh,hO,J⟩;simp only[]at hk hO J;have hP:sW w w7:=hL.O hh hge;have hQ:=h3.J hh (ou hH);have hj:=U.st hh;have gi:=h1.st hh;refine Zi O O (λh5=>?_) (λh5=>?_)
   ·refine Qu ?_;have he:c.rq.length<=k:=by have hf:¬(k:Int)<(c.rq.length:Int):=h5;omega
    rw[Ls he]at J;have gj:RQ=0:=J.symm;rw[OP (by rw[gj];decide)]at E;refine Qc<|QY hQ O O<|Qw<|(jb hj).Y ?_;rintro r8 w8 ⟨gk,vs,vx,vk,qx,ks,rfl,gl,gm,hF⟩;obtain⟨gn,go,gq⟩:=hF [] od;refine Qw<|(zv gn go gq).Y ?_;rintro r9 w9 ⟨rfl,gr⟩;rw[gl,gm,<-E];refine Qb<|Qj ⟨[_],La,O,(hP.D gk).D gr⟩
   have G:k<c.rq.length:=by have hf:(k:Int)<(c.rq.length:Int):=h5;omega
   have T:=Lk G;rw[Kz G,zG]at J;refine Qf<|Qe<|Qn<|Qc<|O4 Uw hj.rq.arr O O G λkq hS=>?_;refine Zf (c.rq[k]'G) λq hq=>?_;rw[hq]at hS T J;have S:=hj.rq.each q T;refine x (QE hS O O)<|QP [.string .empty,nS,sS 0,nS,nS] λkr kt gs gt h6=>Q0 (Zm q) h6 ⟨O,S.al.one,O,S.mr.one,S.ed.one,Z⟩ λgu gv h6 =>
    xe ?_
   have V:sW w7 gu:=gs.O gv gt;refine Qc<|QY h6 O O<|Qr O (hQ.I V) O O<|QG (hj.ev.I V).arr O<|Qa<|Qa<|Qw<|(Qea (S.I V) (hj.rq.nm q T) (gi.I V) oa (hO.I V) od od).Y ?_;rintro ku kv ⟨rfl,hT,gx⟩;refine Qb<|Ql<|ZI O O<|xe<|Za O (λhl=>?_) (λhl=>?_)
   ·rw[OQ hl]at J;rw[OQ (by rw[<-J];exact hl)]at E;refine Ql<|Qb<|Qj ⟨[_],La,by rw[E,<-J];rfl,(hP.D V).O hT hge⟩
   rw[OP hl]at J;refine Qf<|Qs<|QC O O<|Qa<|xe ?_;exact⟨(k+1,sm++[q.nm]),oe,La,G,(hh.D V).Q hT,gx (Lr.1 hl),J⟩
  have G:k<c.co.length:=by have hf:(k:Int)<(c.co.length:Int):=h4;omega
  have T:=Lk G;rw[Kz G,Vk]at I;refine Qf<|Qe<|Qn<|Qc<|O4 Uw U.co.arr O O G λkw hU=>?_;refine Zf (c.co[k]'G) λq hq=>?_;rw[hq]at hU T I;have S:=U.co.each q T;have gy:=gb.st hg;refine x (QE hU O O)<|QP [.string .empty,nS,sS 0,nS,nS] λb10 kx gz g0 hu=>Q0 (Zm q) hu ⟨O,S.al.one,O,S.mr.one,S.ed.one,Z⟩ λg2 g3 hu =>
   xe ?_
  have Y:sW w6 g2:=gz.O g3 g0;have kz:=ht.lt;refine Qe<|Qc<|QY hu O O<|Qr O (h3.I Y) O O<|QG (U.ev.I Y).arr O<|Qa<|Qa<|Qw<|(Qea (S.I Y) (U.co.nm q T) (gy.I Y) oa (ht.I Y) od od).Y ?_;rintro k0 g4 ⟨rfl,h7,g5⟩;refine Qb<|Ql<|ZI O O<|xe<|Za O (λhm=>?_) (λhm=>?_)
  ·rw[OQ hm]at I;rw[OQ (by rw[<-I];exact hm)]at E;refine Ql<|Qb<|Qj ⟨[_],La,by rw[E,<-I];rfl,(hL.D Y).O h7 hge⟩
  rw[OP hm]at I;have hV:YG c.ev.length (UO c.ev.length) sn q.it=0:=Lr.1 hm;have g6:=(zI hV).al_le;have k4:q.p.a.al.length<=32:=g6;refine Qf ?_;have hv:O1 [bm] w6 g4:=Y.any.Q h7;have g7:=h1.st hv;have k5:=hv.size;refine Qs<|Qa<|Q7 O<|Qr O (hu.J h7 (by simp;omega)) O O<|Qw<|(zS g7 (U.st hv |>.co.each q T |>.al) oa).Y ?_;rintro g8 k6 ⟨hW,g9⟩;refine Qb ?_;have k9:=qp (· || ·) u q.p.a.al;refine Qs<|QC O O<|Qa<|xe ?_;exact⟨(k+1,g8,sn++[q.nm],mrg (· || ·) u q.p.a.al),oe,ov,G,(hg.Q hv).D hW,(g5 hV).I hW,Qh.ints g9 (by show(mrg _ _ _).length<=_;omega) (by simp;omega),oe,I⟩
 have G:k<c.ev.length:=by have hf:(k:Int)<(c.ev.length:Int):=h0;omega
 refine Qf<|Qe<|Qn<|Ql<|Qb<|Qs<|Qa<|Qa<|Qo<|Q5 [[sS k]] λma mc hX mf ka=>?_;have hY:=hc.D hX;have mg:=hY.size;have kb:=Qi hs;refine Qo<|Q2 (news:=[sS k]) (L:=[]) (Qm hs hX) O O O (ka.at od) om oa oa λkc mh ke kf mj =>
  Qb<|Qs<|QC O O<|Qa<|xe ?_
 refine⟨(k+1,kc),oe,ov,G,hY.S kf (λb hb=>.inr (kb b hb).1),?_⟩;simp only[];rw[Qgb];exact Qh.snoc (n:=(k:Int)) ke
theorem QpR {C:xu}{pl:xo}
  {e bys:Nat}  {x G I:OZ}  {v:OY}   {H:xw} {k:IntKind}  [h:Sl P t e sz bys z]
  (J:QR ops E=⟨d,.slice t x none (some G) (some I),ty,pS,af,gd⟩) (hA:Zs L H v n sz cs) (hx:ev f x=v) (S:ev f G=.int k hi) (T:ev f I=.int k' hi) (U:hi<=n)
  (hK:∀v',Zs L H v' hi sz (cs.take (hi*sz))->XP P ops C K pl (QO f d v') w)
  (V:Z3 ops f (QR ops E)=true:=by rfl):XP P ops C K ((E,true)::pl) f w:=by
 obtain⟨v',Y,h4⟩:=QgH (P:=P) (d:=d) (ty:=ty) (pS:=pS) (af:=af) (gd:=gd) (t:=t) hA hx S T U;exact Lg.p (λw'=>by rw[J];exact h4 w') (by rw[J];exact hK v' Y) V
structure Qpd (c:Yl):Prop where
 ev:c.ev.length<=32
 c0:c.co.length≠0
 c8:c.co.length<=8
 cr:c.co.length+c.rq.length<=12
 co:∀x∈c.co,Zb x.a
 rq:∀x∈c.rq,Zb x.a
 ce:∀x∈c.co,∀e∈x.a.al,e<(c.ev.length:Int)
 re:∀x∈c.rq,∀e∈x.a.al,e<(c.ev.length:Int)
 cd:Y8 (szs c.co) c.ex c.cs=0
 e0:Xr c.ev=0
theorem QbI {s:List ByteArray}{x:Kp}(h:YG n u s x=0):∀e∈x.a.al,e<(n:Int):=by
 unfold YG at h;split at h
 ·cases h
 split at h
 ·cases h
 split at h
 ·rename_i E G;exact OS h G
 split at h
 ·cases h
 split at h
 ·cases h
 split at h
 ·cases h
 rename_i E;intro e I;refine Lr.1 λJ=>E ?_;rw[List.any_eq_true];exact⟨e,I,OT oa⟩
theorem QbL {n:Nat}{al:LI}:∀{l:List Kp}{s:List ByteArray}{u:LI},(YU n al s u l).1=0->∀x∈l,Zb x.a/\∀e∈x.a.al,e<(n:Int)
 | [],_,_,_,x,hx=>by cases hx
 | y::l,s,u,h,x,hx=>by
  rw[Vk]at h;by_cases E:YG n al s y≠0
  ·rw[OQ E]at h;exact OS h E
  rw[OP E]at h;have G:YG n al s y=0:=Lr.1 E;rcases Ll.1 hx with rfl|hx
  ·exact⟨zI G,QbI G⟩
  exact QbL h x hx
theorem QbG {n:Nat}{u:LI}:∀{l:List Kp}{s:List ByteArray},KH n u s l=0->∀x∈l,Zb x.a/\∀e∈x.a.al,e<(n:Int)
 | [],_,_,x,hx=>by cases hx
 | y::l,s,h,x,hx=>by
  rw[zG]at h;by_cases E:YG n u s y≠0
  ·rw[OQ E]at h;exact OS h E
  rw[OP E]at h;have G:YG n u s y=0:=Lr.1 E;rcases Ll.1 hx with rfl|hx
  ·exact⟨zI G,QbI G⟩
  exact QbG h x hx
theorem Yr {c:Yl}(h:ZW c=0):Qpd c:=by
 unfold ZW at h;by_cases E:Xr c.ev≠0
 ·rw[OQ E]at h;exact OS h E
 rw[OP E]at h;by_cases J:c.co.length=0
 ·rw[OQ J]at h;cases h
 rw[OP J]at h;by_cases S:8<c.co.length\/12<c.co.length+c.rq.length
 ·rw[OQ S]at h;cases h
 rw[OP S]at h;by_cases G:(YU c.ev.length (UO c.ev.length) [] [] c.co).1≠0
 ·rw[OQ G]at h;exact OS h G
 rw[OP G]at h;by_cases I:KH c.ev.length (YU c.ev.length (UO c.ev.length) [] [] c.co).2.2 (YU c.ev.length (UO c.ev.length) [] [] c.co).2.1 c.rq≠0
 ·rw[OQ I]at h;exact OS h I
 rw[OP I]at h;have a4:=QbL (Lr.1 G);have T:=QbG (Lr.1 I);have U:c.ev.length<=32:=by
  refine Lr.1 λV=>?_;apply E;unfold Xr;rw[OQ oa];decide
 exact⟨U,J,oa,oa,λx hx=>(a4 x hx).1,λx hx=>(T x hx).1,λx hx=>(a4 x hx).2,λx hx=>(T x hx).2,h,Lr.1 E⟩
theorem Yt.e {H:xw}{c:Int}(h:Yt N H aa va vt c):c=Vd aa:=by
 unfold Yt at h;unfold Vd;by_cases E:K5 aa≠0
 ·rw[OQ E]at h ⊢;exact h.1
 rw[OP E]at h ⊢;cases G:xd aa with
 | none=>rw[G]at h;exact h.1
 | some z=>rw[G]at h;exact h.1
theorem Yt.bad {H:xw}{c:Int}(h:Yt N H aa va vt c)(I:c≠0):va=zA/\vt=Zo:=by
 unfold Yt at h;by_cases E:K5 aa≠0
 ·rw[OQ E]at h;exact h.2
 rw[OP E]at h;cases G:xd aa with
 | none=>rw[G]at h;exact h.2
 | some z=>rw[G]at h;exact OS h.1 I
theorem Yt.good {H:xw}{c:Int}(h:Yt N H aa va vt c)(G:c=0):Y1 N H va (Kq aa)/\Qdh N H vt (syQ aa)/\xd aa=some (Kq aa,syQ aa)/\K5 aa=0:=by
 unfold Yt at h;unfold Kq syQ;by_cases E:K5 aa≠0
 ·rw[OQ E]at h;exact OS (h.1.symm.D G) E
 rw[OP E]at h;cases I:xd aa with
 | none=>rw[I]at h;rw[h.1]at G;cases G
 | some z=>rw[I]at h;exact⟨h.2.1,h.2.2,O,Lr.1 E⟩
theorem Yt.st1 {b:Nat}{c:Int}(h:Yt N ↑w aa va vt c)(hb:b<N)(G:O1 [b] w w'):Yt N ↑w' aa va vt c:=by
 unfold Yt at *;split
 ·rename_i E;rw[OQ E]at h;exact h
 rename_i E;rw[OP E]at h;cases I:xd aa with
 | none=>rw[I]at h;exact h
 | some z=>rw[I]at h;exact⟨h.1,YX h.2.1 hb G,QiY h.2.2 hb G⟩
theorem Yt.Y {N M:Nat}{H:xw}{aa:List QF}{va vt:OY}{c:Int}(h:Yt N H aa va vt c)(G:M<=N):Yt M H aa va vt c:=by
 unfold Yt at *;split
 ·rename_i E;rw[OQ E]at h;exact h
 rename_i E;rw[OP E]at h;cases I:xd aa with
 | none=>rw[I]at h;exact h
 | some z=>rw[I]at h;exact⟨h.1,h.2.1.Y G,h.2.2.Y G⟩
theorem QjH (c:Yl):Y2 c=if ZW c≠0 then ZW c else if Vd (O3 c.co)≠0 then Vd (O3 c.co)else Vd (O3 c.co++O3 c.rq):=by
 unfold Y2;split
 ·rfl
 have e:Vd (O3 c.co)=if K5 (O3 c.co)≠0 then K5 (O3 c.co)else match xd (O3 c.co)with|none=>3|some _=>0:=rfl
 by_cases E:K5 (O3 c.co)≠0
 ·rw[OQ E]at e;rw[OQ E,e,OQ E]
 rw[OP E]at e;rw[OP E];cases G:xd (O3 c.co)with
 | none=>rw[G]at e;simp only[]at e;rw[e];rfl
 | some z=>rw[G]at e;simp only[]at e;rw[e];rfl
theorem QeC (c:CL):(c.co.map (·.p)).map (·.a)=O3 c.V.co:=by unfold O3;show _=(c.co.map IV.it).map _;rw[Mm,Mm];rfl
theorem Qlq (c:CL):(c.rq.map (·.p)).map (·.a)=O3 c.V.rq:=by unfold O3;show _=(c.rq.map IV.it).map _;rw[Mm,Mm];rfl
theorem jH {ps:List AV}(h:∀p∈ps,Zb p.a):∀p∈ps,p.a.st<=4096:=λp E=>(h p E).st1
def jj (N:Nat)(H:xw)(c:Yl)(va vt:OY)(e:Int):Prop:=if ZW c≠0 then e=ZW c/\va=zA/\vt=Zo else Yt N H (O3 c.co) va vt e
theorem QbZ (h:ZV L ↑w c)(hk:Kb w 4096):
  QT sV 14 [c.val] w λr w'=>sW w w'/\∃va vt e,r=.tuple #[va,vt,sS e]/\jj ↑w ↑w' c.V va vt e:=by
 refine Zn func14 ?_;refine Qc<|Zd c.cells λb1 w1 ha hv hl=>QP [nS,sS 0,nS,nS] λb2 w2 hc hw S=>x Qd<|Qb ?_;have hf:=ha.D hc;have hy:=ha.size;have hg:=hl.I hc;refine Qe<|Qc<|QY hg O O<|Qw<|(UI (h.I hf)).Y ?_;rintro r3 w3 ⟨rfl,E⟩;refine Qb ?_;have T:=hf.D E;have hz:=S.lt;refine Ql<|ZI O O<|xe<|Za rfl (λI=>?_) (λI=>?_)
 ·refine Qc<|x (QB Z)<|Qa<|Q0 [nS,sS 0,nS,nS] (S.I E) oy λw4 hm hn=>x Qd<|Qb<|Qj ⟨[zA,Zo,sS (ZW c.V)],⟨Jm hn,O,O,Z⟩,T.O hm oa,zA,Zo,_,O,by unfold jj;rw[OQ I];exact⟨O,O,O⟩⟩
 refine Qf<|Qc<|Qr O (hg.I E) O O<|Qw<|(QcN (h.I T).co).Y ?_;rintro r5 w5 ⟨U,ho⟩;have J:=T.D U;have hr:∀p∈c.co.map (·.p),Zb p.a:=λp V=>by
  obtain⟨q,Y,rfl⟩:=Lz.1 V;exact(Yr (Lr.1 I)).co q.it (LG Y)
 have h0:=h.co.arr.le;have hs:XG [] ↑w5 r5 (c.co.map (·.p)):=QhL ho (by rw[Lj];omega) od (λp V=>by
  obtain⟨q,Y,rfl⟩:=Lz.1 V;exact(((h.co.each q Y).up (L':=[]) od).I J))
 refine Qw<|(V7 (km:=4096) hs (hk.I J) og (jH hr)).Y ?_;rintro r6 w6 ⟨hh,va,vt,e,rfl,hR⟩;rw[QeC]at hR;have ht:∃us,va=sT us/\us.length=4/\ZH us:=by
  by_cases he:e=0
  ·exact Xa (hR.good he).1
  exact⟨[nS,sS 0,nS,nS],(hR.bad he).1,O,O,O,O,O,Z⟩
 refine Exists.elim ht λus G=>?_;refine QL rfl O<|QL O O<|QL O O<|Qo<|Zk (us:=us) ((S.I E).I (U.D hh)) O G.1 G.2.1 O G.2.2 λw7 hj hu =>
  x Qd<|Qb<|Qj ⟨[sT us,vt,sS e],⟨⟨_,O,ZB G.2.1 (hu.at (L:=[]) od).cells⟩,rfl,rfl,Z⟩,(J.D hh).O hj oa,va,vt,e,by rw[G.1];rfl,?_⟩
 unfold jj;rw[OP I];exact(hR.st1 (oq U.size E.size) hj).Y J.size
theorem Qak {v:OY}{m:Int}(h:Qt L ↑w v l)(T:Kb w m)(hb:∀n∈l,0<=n/\n<m)(hl:l.length<=1000000):
  QT sV 76 [v] w λr w'=>r=.string ⟨(YJ l).toArray⟩/\sW w w':=by
 refine Zn func76 ?_;refine Qc<|Qb<|Qc<|QP [.pointer none,nS] λI w1 hc U he=>xe ?_;refine Qe<|Ql<|QG h O<|Qa<|xe<|QW (α:=Nat×OY) [(5,5),(8,16)] (λz=>[(8,sS z.1)]) (λz w'=>z.1<=l.length/\sW w w'/\(z.2=.pointer none\/z.2=me I)/\Bl z.2 I (YJ (l.take z.1)) w'/\(YJ (l.take z.1)).length<=8*z.1) (λz=>l.length - z.1) (0,.pointer none) La
  ⟨Ln _,hc,.inl O,⟨_,he,QM _ _ _ _⟩,Lp _⟩ ?_
 rintro⟨k,p⟩ g w2 ⟨hk,E,J,G,hf⟩;simp only[]at hk J G hf;refine Zi rfl O (λh9=>?_) (λh9=>?_)
 ·refine Qu<|Qc ?_;rw[Lq oa]at G;refine Kr<|(KO E U J G).Y ?_;rintro r3 w3 ⟨rfl,hg⟩;refine Qb<|Qj ⟨[.string ⟨(YJ l).toArray⟩],La,O,hg⟩
 have S:k<l.length:=oa
 have ho:=hb l[k] (Lk S);obtain⟨q,hq⟩:∃q:Nat,l[k]=q:=⟨l[k].toNat,oa⟩;have hh:l[k].toNat=q:=oa
 have hr:=JT 7 q (oo T.le);have V:YJ (l.take (k+1))=YJ (l.take k)++(Lib.decDigits q++[32]):=by
  rw[Lh S];unfold YJ;rw[LC,M0,hh]
 refine Qf<|Qe<|Qn<|Qc<|xii (h.I E) O O S λhs hj=>x (Qq hj O)<|Qb<|Qs<|Qa<|Qo<|xf ?_;refine(show QT _ _ [sS l[k]] _ _ by rw[hq];exact(jY q oa w2 (T.I E))).Y ?_;rintro r4 w4 ⟨rfl,Y⟩;have hm:(⟨(Lib.decDigits q).toArray⟩:ByteArray).size+(⟨#[32]⟩:ByteArray).size<=1000000000:=by show(Lib.decDigits q).toArray.size+1<=_;simp;omega
 refine x (YA O O hm)<|Kr<|(X7 (E.D Y) U J (G.I Y) ((⟨(Lib.decDigits q).toArray⟩:ByteArray)++(⟨#[32]⟩:ByteArray)) (by rw[ByteArray.size_append];show _+((Lib.decDigits q).toArray.size+1)<=_;simp;omega)).Y ?_;rintro r5 w5 ⟨hn,ha⟩;refine xe<|Qs<|QC O O<|Qa<|xe<|⟨(k+1,me I),oe,La,oe,hn,.inr O,?_,?_⟩
 ·simp only[];rw[V];have e:((⟨(Lib.decDigits q).toArray⟩++⟨#[32]⟩:ByteArray)).data.toList=Lib.decDigits q++[32]:=by rw[ByteArray.data_append];simp
  rw[e]at ha;exact ha
 simp only[];rw[V];simp;omega
structure Sty where
 c:CL
 p:AV
 vq:OY
 qs:List TV
 s:AV
 vt:OY
 ts:List TV
 vs:OY
 vx:OY
 vk:OY
 qx:List XV
 ks:List KV
 bm:Nat
 mm:List (ByteArray×OY)
abbrev Sty.cells (q:Sty):LV:=[q.c.ve,q.c.vc,q.c.vr,q.c.vx,q.c.vk,q.p.va,sS q.p.a.st,q.p.vm,q.p.ve,q.vq,q.s.va,sS q.s.a.st,q.s.vm,q.s.ve,q.vt,q.vs,q.vx,q.vk,.map (some q.bm)]
structure Jr (L:LN)(b:Nat)(H:xw)(q:Sty):Prop where
 B:QK H b 166 q.cells
 bL:b∉L
 c:ZV L H q.c
 p:Zr L H q.p.va q.p.vm q.p.ve q.p.a
 s:Zr L H q.s.va q.s.vm q.s.ve q.s.a
 qs:Jq L H q.vq q.qs
 ts:Jq L H q.vt q.ts
 k1:Qt L H q.vs (szs q.c.V.co)
 k2:yi L H q.vx q.qx
 k3:zY L H q.vk q.ks
 mL:q.bm∉L
 m:ZP Xj H q.bm q.mm
theorem Jr.I {L:LN}{b:Nat}{w w':OX}{q:Sty}(h:Jr L b ↑w q)(E:sW w w'):Jr L b ↑w' q:=⟨h.B.I E,h.bL,h.c.I E,h.p.I E,h.s.I E,h.qs.I E,h.ts.I E,h.k1.I E,h.k2.I E,h.k3.I E,h.mL,h.m.I E⟩
theorem Jr.st {L:LN}{b:Nat}{w w':OX}{q:Sty}(h:Jr L b ↑w q)(E:O1 L w w'):Jr L b ↑w' q:=⟨h.B.J E h.bL,h.bL,h.c.st E,h.p.st E,h.s.st E,h.qs.st E,h.ts.st E,h.k1.st E,h.k2.st E,h.k3.st E,h.mL,h.m.J E h.mL⟩
theorem Jr.up {L L':LN}{b:Nat}{H:xw}{q:Sty}(h:Jr L b H q)(E:∀b∈L',b∈L\/H.size<=b):Jr L' b H q :=
 ⟨h.B,λI=>by rcases E _ I with G|G;exact h.bL G;have:=h.B.lt;omega,h.c.up E,h.p.up E,h.s.up E,h.qs.up E,h.ts.up E,h.k1.up E,h.k2.up E,h.k3.up E,λI=>by rcases E _ I with G|G;exact h.mL G;have:=h.m.lt;omega,h.m⟩
structure Qqb (q:Sty):Prop where
 ok:ZW q.c.V=0
 p:xd (O3 q.c.V.co)=some (q.p.a,q.qs.map (·.2))
 s:xd (O3 q.c.V.co++O3 q.c.V.rq)=some (q.s.a,q.ts.map (·.2))
 ex:q.qx.map (·.x)=q.c.V.ex
 cs:q.ks.map (·.k)=q.c.V.cs
 m:UL q.c.co.length q.mm (q.qs.map (·.2))
theorem YL {l:List Kp}(h:∀x∈l,Zb x.a):∀a∈O3 l,Zb a:=λa E=>by
 obtain⟨x,hx,rfl⟩:=Lz.1 E;exact h x hx
def stp (a:QF)(s v:Int):Int×Bool×Int:=if cks a s≠0 then(0,false,cks a s)else if v∉a.al then(0,false,9)else if 0<=O8 a.ed s v then(O8 a.ed s v,true,0)else(0,false,0)
theorem QiV (h:Zr L ↑w va vm ve a)(s v:Int):
  QT sV 33 [.agg #[va,sS a.st,vm,ve],sS s,sS v] w λr w'=>r=.tuple #[sS (stp a s v).1,.bool (stp a s v).2.1,sS (stp a s v).2.2]/\sW w w':=by
 have E:stp a s v=(if cks a s≠0 then(0,false,cks a s)else if v∉a.al then(0,false,9)else if 0<=O8 a.ed s v then(O8 a.ed s v,true,0)else(0,false,0)):=rfl
 refine Zf (stp a s v) λR hR=>?_;rw[hR]at E ⊢;refine Zn func33 ?_;refine Qc<|Zd [va,sS a.st,vm,ve] λb3 w1 ha hf S=>x Qd<|x Qd<|Qb<|Qe<|Qc<|QY S O O<|Qa<|Qw<|(JI (h.I ha) s).Y ?_;rintro r2 w2 ⟨rfl,T⟩;refine Qb ?_;have I:=ha.D T;refine Ql<|ZI O O<|xe<|Za rfl (λJ=>?_) (λJ=>?_)
 ·rw[OQ J]at E;subst E;refine Ql<|x Qd<|x Qd<|Qb<|Qj ⟨[_,_,_],ox,O,I⟩
 rw[OP J]at E;refine Qf<|Qe<|Qc<|Qr O (S.I T) O O<|Qa<|Qw<|(ZE (h.al.I I) v).Y ?_;rintro r3 w3 ⟨rfl,rfl⟩;refine x (qR O)<|xe<|Za rfl (λU=>?_) (λU=>?_)
 ·rw[OQ U]at E;subst E;refine Qc<|x Qd<|x Qd<|Qb<|Qj ⟨[_,_,_],ox,O,I⟩
 rw[OP U]at E;refine Qf ?_;have G:cks a s=0:=Lr.1 J;have hck:XK a=0:=by
  unfold cks at G;refine Lr.1 λV=>?_;rw[OQ V]at G;exact V G
 have hsr:0<=s/\s<a.st:=by
  unfold cks at G;rw[OP (by rw[hck];decide)]at G;refine Lr.1 λV=>?_;rw[OQ oa]at G;cases G
 refine Qe<|Qc<|QY (S.I T) O O<|Qa<|Qa<|Qw<|(QbT (h.ed.I I) ((ZF a).1 hck) s v hsr.1 hsr.2).Y ?_;rintro r4 w4 ⟨rfl,he⟩;refine Qb<|Ql<|x (Yd O O)<|xe<|Za rfl (λY=>?_) (λY=>?_)
 ·rw[OQ Y]at E;subst E;refine Ql<|x Qd<|x Qd<|Qb<|Qj ⟨[_,_,_],ox,O,I.D he⟩
 rw[OP Y]at E;subst E;refine Qf<|Qc<|x Qd<|x Qd<|Qb<|Qj ⟨[_,_,_],ox,O,I.D he⟩
theorem Qhe (es:List Ed)(s v:Int):O8 es s v=(O9 es s v).getD (-1):=by
 induction es with
 | nil=>rfl
 | cons e es ih =>
  rw[O8,O9];by_cases h:e.1=s/\e.2.1=v
  ·rw[OQ h,OQ h];rfl
  rw[OP h,OP h];exact ih
theorem Qmd (h:Zb a){v:Int}(J:0<=s)(S:s<a.st)(E:v∈a.al):(stp a s v).2.1=(O9 a.ed s v).isSome:=by
 have G:cks a s=0:=by unfold cks;rw[OP (by rw[(ZF a).2 h];decide),OP oa]
 unfold stp;rw[OP (by rw[G];decide),OP (ou E),Qhe];cases I:O9 a.ed s v with
 | none=>rfl
 | some t =>
  have:=(h.ed _ (Qbx I)).2.2.2.1;rw[Option.getD_some,OQ (ou this)];rfl
theorem QaJ {b:Nat}{q:Sty}{t:LI}(hS:Jr L b ↑w q)(I:Qt L' ↑w vt t)(J:q.c.co.length<=t.length):
  QT sV 75 [sP b,vt] w λr w'=>sW w w'/\∃E G,r=.tuple #[E,G]/\Qt L' ↑w' E (t.take q.c.co.length)/\Qt L' ↑w' G (t.drop q.c.co.length):=by
 refine Zn func75 ?_;refine Qc<|x Qd<|Qb<|Ql<|Z0 O<|Q7 O<|Qr O hS.B O O<|QG hS.c.co.arr O<|Qb<|Qe<|ZJ [] (Y4 0 9 [])<|p Qy<|p Qy<|p Qy<|QpR (hi:=q.c.co.length) O I O O O J λE S=>p Qy<|p Qy<|Qmp (lo:=q.c.co.length) O I O O J λG T =>
  p ZK<|p ZK<|pe ?_
 refine Qj ⟨[_,_],ov,O1.C _ _,E,G,O,?_,?_⟩
 ·rw[OM,<-List.map_take]at S;have e:(t.take q.c.co.length).length=q.c.co.length:=by rw[LA];omega
  unfold Qt;rw[e];exact S
 exact Qt.drop T
theorem QgD {v:Int}{y:Kp}{l:List Kp}{ss:LI}:rfr v i (y::l) (s::ss)=if v∈y.a.al/\(O9 y.a.ed s v).isSome=false then(i:Int)else rfr v (i+1) l ss:=rfl
theorem Qcu {b:Nat}{q:Sty}{v:Int}(hS:Jr L b ↑w q)(hr:Qt L' ↑w vr rs)(hq:∀x∈q.c.rq,Zb x.p.a)(hv:Vt (O3 q.c.V.rq) rs):
  QT sV 155 [sP b,vr,sS v] w λr w'=>r=sS (rfr v 0 q.c.V.rq rs)/\sW w w':=by
 have h5:=hS.c.rq.arr.le;have h6:rs.length=q.c.rq.length:=by rw[hv.1];unfold O3;show((q.c.rq.map IV.it).map _).length=_;simp
 refine Zf (rfr v 0 q.c.V.rq rs) λR hR=>?_;rw[hR];refine Zn func155 ?_;refine Qc<|Qb<|Qe<|Ql<|Z0 O<|Q7 O<|Qr O hS.B O O<|QG hS.c.rq.arr O<|Qa<|xe<|QW (α:=Nat) [(6,11),(18,44)] (λz=>[(18,sS z)]) (λz w'=>z<=q.c.rq.length/\sW w w'/\rfr v z ((q.c.rq.drop z).map (·.it)) (rs.drop z)=R) (λz=>q.c.rq.length - z) 0 La
  ⟨Ln _,O1.Z _ _,hR⟩ ?_
 rintro k g w1 ⟨hk,J,E⟩;refine Zi rfl O (λY=>?_) (λY=>?_)
 ·refine Qu ?_;have hs:q.c.rq.length<=k:=by have ht:¬(k:Int)<(q.c.rq.length:Int):=Y;omega
  rw[Ls hs]at E;have hu:R=-1:=E.symm;refine Qc<|Qb<|Qj ⟨[_],La,by rw[hu];rfl,J⟩
 have G:k<q.c.rq.length:=by have ht:(k:Int)<(q.c.rq.length:Int):=Y;omega
 have I:k<rs.length:=oa
 have ha:=Lk G;rw[Kz G,QX I,QgD]at E;have S:∀hz:k<(O3 q.c.V.rq).length,0<=rs[k]'I/\rs[k]'I<((O3 q.c.V.rq)[k]'hz).st:=λhz=>hv.2 k I hz;have hh:k<(O3 q.c.V.rq).length:=by unfold O3;show k<((q.c.rq.map IV.it).map _).length;simpa using G
 have S:=S hh;have hw:(O3 q.c.V.rq)[k]'hh=(q.c.rq[k]'G).p.a:=by unfold O3;show((q.c.rq.map IV.it).map _)[k]'_=_;simp[IV.it]
 rw[hw,Zu I]at S;rw[Zu I]at E;refine Qf<|Qe<|Qn<|Ql<|O4 Uw (hS.c.rq.arr.I J) O O G λh7 hj=>?_;refine Zf (q.c.rq[k]'G) λy hy=>?_;rw[hy]at hj ha E S;have T:=(hS.c.rq.each y ha).I J;have hl:=hq y ha;refine x (QE hj O O)<|QP [.string .empty,nS,sS 0,nS,nS] λb8 w2 h0 h1 V=>x Qd <|
  Q0 (Zm y) V ⟨O,T.al.one,O,T.mr.one,T.ed.one,Z⟩ λw3 h2 V=>xe ?_
 have U:sW w1 w3:=h0.O h2 h1;refine Qe<|Qc<|Q7 O<|Qr O V O O<|Qa<|Qw<|(JJ (T.al.I U) hl.ali v).Y ?_;rintro r4 w4 ⟨rfl,rfl⟩;refine x (qR O)<|xe<|Za rfl (λhe=>?_) (λhe=>?_)
 ·rw[OP (λe=>he e.1)]at E;refine Qu<|Qs<|QC O O<|Qa<|xe ?_;exact⟨k+1,oa,La,G,J.D U,E⟩
 have hm:v∈y.p.a.al:=Lr.1 he;have hn:=Qmd hl S.1 S.2 hm;refine Qf<|Qe<|ZJ [] (Y4 0 15 [7])<|p (QH O)<|pq (λ_ hc=>ZS (us:=ZG y.p) (V.J hc od) rfl rfl rfl)<|p Qy<|p Qy<|pic (i:=k) rfl ((hr.I J).I U) rfl rfl I λh8 h3 =>
  pq (λ_ hc=>Qq (h3.I hc) O)<|p Qy<|pk<|xg<|(QiV ((T.I U).I (O1.C _ _)) (O2 rs k) v).Y ?_
 rintro r5 w5 ⟨rfl,h4⟩;have ho:=(O1.C [] w4).D h4;refine⟨ho,?_⟩;refine p Qy<|p (λ_=>QZ O O)<|p (λ_=>QZ O O)<|p (λ_=>QZ O O)<|p ZK <|
  p ZK<|p ZK<|pe ?_
 have hp:=(J.D U).D ho;refine Ql<|x (Zh O)<|xe<|Q9 rfl (λhf=>?_) (λhf=>?_)
 ·have hg:(O9 y.p.a.ed (O2 rs k) v).isSome=false:=by rw[<-hn];simpa using hf
  rw[OQ ⟨hm,hg⟩]at E;refine Ql<|Qb<|Qj ⟨[_],La,by rw[<-E];rfl,hp⟩
 have hg:¬(O9 y.p.a.ed (O2 rs k) v).isSome=false:=by rw[<-hn];simpa using hf
 rw[OP (λe=>hg e.2)]at E;refine Qf<|Qs<|QC O O<|Qa<|xe ?_;exact⟨k+1,oa,La,G,hp,E⟩
open Go.RowKit
def Js (L:LN)(W W':OX):Prop:=∀(k:Nat) (o:Obj),k∉L->W.heap[k]?=some o->o.isCells=true->W'.heap[k]?=some o
theorem Js.refl (L:LN)(W:OX):Js L W W:=λ_ _ _ h _=>h
theorem Js.D {A B C:OX}(h:Js L A B)(k:Js L B C):Js L A C:=λi o E I G=>k i o E (h i o E I G) G
theorem Js.J {W:OX}(h:O1 L W W'):Js L W W':=λk _ G E _=>(h.block k (LJ.1 E).1 G).D E
theorem At.cst {W:OX}{a:Addr}(h:At L ↑W a us)(J:Js L W W')(S:W.heap.size<=↑W'):At L ↑W' a us:=by
 refine⟨h.out,λu G=>LP (h.lt u G) S,λj u G=>?_⟩;have E:=h.cell j u G;unfold cel at E ⊢;rw[Ys]at E ⊢;cases I:W.heap[a.block]? with
 | none=>rw[I]at E;cases E
 | some o =>
  rw[I]at E;cases o with
  | cells c t m=>rw[J a.block _ (h.out u (Me G)) I rfl];exact E
  | _=>cases E
theorem Zs.cst {L:LN}{W W':OX}{v:OY}{n sz:Nat}{cs:LV}(h:Zs L ↑W v n sz cs)(E:Js L W W')(G:W.heap.size<=↑W'):Zs L ↑W' v n sz cs :=
 ⟨h.1,h.2.1,h.2.2.imp id λ⟨a,cap,I,J,S⟩=>⟨a,cap,I,J,S.cst E G⟩⟩
structure LwC (B:Nat)(L:LN)(W W':OX):Prop where
 lw:Lw B L W W'
 cst:Js L W W'
theorem LwC.D {B:Nat}{L:LN}{E w w':OX}(h:LwC B L E w)(k:LwC B L w w'):LwC B L E w':=⟨h.lw.D k.lw,h.cst.D k.cst⟩
def rdC {α:Type}(B:Nat)(L:LN)(I:List α->OX->Prop)(X:Exit->List α->OX->Prop)(xs:List α)(W:OX):Exit->LN->Fr->OX->Prop
 | .normal,_,_,W'=>Xy B L W W'/\Js L W W'/\I xs W'
 | .ret,_,_,W'=>Xy B L W W'/\X .ret xs W'
 | .exit i,_,_,W'=>Xy B L W W'/\X (.exit i) xs W'
 | _,_,_,_=>False
theorem Qb2 {Q:Exit->LN->Fr->OX->Prop}{g:OZ}{ps:LN}{assign body:Code}(L:LN)(h1:1<=m)
  {gf:Nat}  [hF:Fu P gf fn]  (hg:ev f g=.func (.func gf) #[] capt.toArray) {encs:α->LV} {S Sp:List α->Prop}  (hp:∀p∈ps,p<n) (hn:∀x,(encs x).length=ps.length)
  (hq:SeqStopsK (fen none) (m - 1) P gf capt.toArray (λx=>(encs x).toArray) (LwC ↑w L) S Sp N w)
  (I:List α->OX->Prop) (hI:∀s,Z7 ↑w (I s)) (X:Exit->List α->OX->Prop) (hX:∀e s,Z7 ↑w (X e s)) (h0:I [] w) (A:Fr->α->Fr->OX->Prop) (hA:∀x E,Z7 ↑w (A f x E))
  (hf:∀l pre x W,I pre W->WG (some l) (m - 1 - 1) P n assign (Qci (λhe E W'=>he=[]/\Xy ↑w L W W'/\Js L W W'/\I pre W'/\A f x E W') (λ_ _ _ _=>False)) [] (Qcg f ps (encs x)) W)
  (hh:∀l pre x E W,I pre W->A f x E W->pre.length<N->WG (some l) (m - 1 - 1) P n body (rdC ↑w L I X (pre++[x]) W) [] E W)
  (hs:∀D xs W,↑w<=D->S xs->I xs W->W.heap[D]?=some (.deferred (some []))->Q .normal (D::ds) f W)
  (hj:∀D e pre W,↑w<=D->Sp pre->X e pre W->W.heap[D]?=some (.deferred (some []))->(e=.ret\/∃i,e=.exit i)->Q e (D::ds) f W):
  WG none m P n (.rangeFunc g ps.toArray assign body) Q ds f w:=by
 unfold WG at hf hh ⊢;intro a T;have eg:∀args w,(callFunc gf args).run P w=.ok (.enter gf args) w:=by
  intro args w;have h1:¬fn.name = "runtime.NumGoroutine" := by simpa using hF.nm
  have U:¬fn.body=none:=by have:=hF.b;intro e;rw[e]at this;cases this
  simp[callFunc,hF.f,h1,U]
 have keep:∀{W W':OX},Xy ↑w L W W'->KeepsFrom ↑w W W':=λh=>⟨h.lw.size,λk o _ V ho=>h.other k o V ho⟩;refine wpIn_rangeFunc_ownH (F:=fen none) O h1 (gf:=gf) (lb:=capt.toArray) (by rw[T.eval];exact hg) Z eg hq (λh k=>h.D k)
  (λW l o o' hl ho ht _=>⟨⟨O,O,O,od,λk V _=>World.putObj_heap_other oa⟩,λk o2 _ V hc=>by
   have hu:k≠l:=λe=>by subst e;rw[ho]at V;cases V;rw[ht]at hc;cases hc
   rw[World.putObj_heap_other hu];exact V⟩) (Below.refl _ _) (λx=>by simp[hn x]) I
  (λc pre W=>match c with| .ret=>X .ret pre W| .exit i=>X (.exit i) pre W|_=>False) (Z7.own hI) (λc=>Z7.own λs=>?_) h0
  (λx Y W=>∃E,Y3 n [] Y E/\A f x E W) (λx Y=>Z7.own λ_=>Z7.ex λE=>Z7.and (Z7.pure _) (hA x E)) ?_ ?_ ?_ ?_
 ·cases c <;> first|exact hX _ s|exact Z7.pure _
 ·intro l pre x W K hi hK;have hr:Y3 n [] { tmps:=(ps.toArray.zip (encs x).toArray).foldl (λt (p,v)=>t.setIfInBounds p v) a.tmps,defers:=[] } (Qcg f ps (encs x)):=by
   have U:Y3 n [] { a with defers:=[] } f:=⟨T.size,O,T.get⟩
   have J:=Uj ps (encs x) _ _ U hp;have e:(ps.toArray.zip (encs x).toArray).foldl (λt (p,v)=>t.setIfInBounds p v) a.tmps=(ps.zip (encs x)).foldl (λt (x:Nat×OY)=>t.setIfInBounds x.1 x.2) a.tmps:=od
   rw[e];exact J
  refine wpIn_mono (hf l pre x W hi _ hr) ?_;rintro e Y W' ⟨he,E,U,_,J⟩;cases e with
  | normal=>obtain⟨rfl,h4,hv,G,h6⟩:=J;exact hK Y W' (keep h4) ⟨h4.lw,hv⟩ G ⟨E,U,h6⟩
  | exit id=>exact J.elim
  | goto l=>exact J.elim
  | ret=>exact J.elim
  | panic ch=>exact J.elim
  | outgrown=>exact J.elim
 ·rintro l pre x Y W _ _ hi ⟨E,U,J⟩ hw;refine wpIn_mono (hh l pre x E W hi J hw Y U) ?_;rintro e hy W' ⟨he,hz,h4,_,G⟩;cases e with
  | normal=>exact⟨keep G.1,⟨G.1.lw,G.2.1⟩,G.2.2⟩
  | exit id=>exact⟨keep G.1,G.2⟩
  | goto l=>exact G.elim
  | ret=>exact⟨keep G.1,G.2⟩
  | panic ch=>exact G.elim
  | outgrown=>exact G.elim
 ·intro D xs W hD hS hi hd;exact⟨D::ds,f,⟨T.size,by rw[show coll (D::ds)={ target:=.collected D,args:=#[] }::coll ds from rfl,T.defers],T.get⟩,λ_ _=>rfl,hs D xs W hD hS hi hd⟩
 intro D c pre W hD hS hx hd;have hm:Y3 n (D::ds) { a with defers:={ target:=.collected D,args:=#[] }::a.defers } f:=⟨T.size,by rw[show coll (D::ds)={ target:=.collected D,args:=#[] }::coll ds from rfl,T.defers],T.get⟩
 cases c with
 | ret=>exact wpIn_ret ⟨_,f,hm,λ_ _=>O,hj D .ret pre W hD hS hx hd (.inl O)⟩
 | exit i=>exact wpIn_exit ⟨_,f,hm,λ_ _=>O,hj D (.exit i) pre W hD hS hx hd (.inr ⟨i,O⟩)⟩
 | _=>exact hx.elim
theorem xy2 {rest:xz}{x z:OZ}{l:Nat}{R:Ending->OX->Prop}
  (hx:ev f x=.func (.yield l) #[] #[]) (E:YieldAt (fen none) (m - 1) P l #[ev f y,ev f z] w R) (hK:∀e w',R e w'->∃v,e=.returned v/\X5 P m ops K rest (QO f d v) w')
  (G:Z3 ops f ⟨d,.call ⟨.value x,#[y,z],at_⟩,ty,pS,af,gd⟩=true:=by rfl):
  X5 P m ops K (⟨d,.call ⟨.value x,#[y,z],at_⟩,ty,pS,af,gd⟩::rest) f w:=by
 obtain⟨fn,tmps,assign,body,I,J⟩:=E;have S:(execOp (ev f) ⟨d,.call ⟨.value x,#[y,z],at_⟩,ty,pS,af,gd⟩).run P w=.ok (.round l fn tmps assign body) w:=by
  simp[execOp,resolve,hx,Deferred.ofValue,invoke,I]
 unfold X5;rw[G];simp only[XOY,S,upY,cond_true];exact J.mono λe w' h=>by obtain⟨v,rfl,T⟩:=hK e w' h;exact T
def wrf (rq:List Kp)(rs:LI):LI->List (Int×Int)
 | []=>[]
 | v::l=>if 0<=rfr v 0 rq rs then(v,rfr v 0 rq rs)::wrf rq rs l else wrf rq rs l
theorem Qaw (rq:List Kp)(rs:LI)(v:Int):∀l,wrf rq rs (l++[v])=wrf rq rs l++if 0<=rfr v 0 rq rs then[(v,rfr v 0 rq rs)]else[]
 | []=>by simp only[Ol,wrf]
 | a::l=>by
  simp only[o0,wrf,Qaw rq rs v l];by_cases h:0<=rfr a 0 rq rs
  ·rw[OQ h,OQ h];rfl
  rw[OP h,OP h]
theorem K9 (rq:List Kp)(rs:LI)(b:LI):∀a,wrf rq rs (a++b)=wrf rq rs a++wrf rq rs b
 | []=>rfl
 | x::a=>by
  simp only[o0,wrf,K9 rq rs b a];by_cases h:0<=rfr x 0 rq rs
  ·rw[OQ h,OQ h];rfl
  rw[OP h,OP h]
theorem Qjv (rq:List Kp)(rs:LI)(l:LI)(k:Nat):(wrf rq rs (l.take k)).length<=(wrf rq rs l).length:=by
 have h:=K9 rq rs (l.drop k) (l.take k);rw[MF]at h;rw[h,Lc];omega
theorem QfY {rq:List Kp}{k:Nat}(h:k<l.length):wrf rq rs (l.take (k+1))=wrf rq rs (l.take k)++if 0<=rfr (O2 l k) 0 rq rs then[(O2 l k,rfr (O2 l k) 0 rq rs)]else[]:=by
 rw[Lh h,Qaw,Zu h]
theorem qg {rq:List Kp}{rs:LI}{x:Int×Int}:∀{l:LI},x∈wrf rq rs l↔x.1∈l/\0<=x.2/\x.2=rfr x.1 0 rq rs
 | []=>by simp[wrf]
 | v::l=>by
  rw[wrf];have ih:=qg (rq:=rq) (rs:=rs) (x:=x) (l:=l);by_cases h:0<=rfr v 0 rq rs
  ·rw[OQ h,Ll,ih,Ll];constructor
   ·rintro(rfl|⟨E,G⟩)
    ·exact⟨.inl O,h,O⟩
    exact⟨.inr E,G⟩
   rintro⟨E|E,G,I⟩
   ·exact .inl (by rw[<-E];exact Prod.ext_iff.2 ⟨O,I⟩)
   exact .inr ⟨E,G,I⟩
  rw[OP h,ih,Ll];constructor
  ·rintro⟨E,G⟩;exact⟨.inr E,G⟩
  rintro⟨E|E,G,I⟩
  ·exact OS (by rw[<-E,<-I];exact G) h
  exact⟨E,G,I⟩
theorem UQ {b:Nat}{st:Int}(S:vr.cells=#[vr]):
  QT sV 78 [sP b,sS st,vr] w λr w'=>sW w w'/\∃b1 b2 E,r=.func (.func 154) #[] #[sP b1,sP b2,sP E] /\
   ↑w<=b1/\↑w<=b2/\↑w<=E/\QK ↑w' b1 159 [sP b]/\QK ↑w' b2 3 [sS st]/\QK ↑w' E 47 [vr]:=by
 refine Zn func78 ?_;refine Qc<|Zd [sP b] λE w1 J T U=>Zd [sS st] λV w2 G hc Y=>Qo<|UR (us:=[vr]) S λb5 w3 I he ha=>x Qd <|
  xe ?_
 have hf:=J.size;have hg:=G.size;refine Qc<|x Zl<|Qb<|Qj ⟨[_],La,(J.D G).D I,E,V,b5,O,T,oa,oa,(U.I G).I I,Y.I I,ha⟩
theorem VD {b2 U b:Nat}{q:Sty}{es:LI}{st:Int}{fl:xq}(hy:QK ↑w T 159 [sP b])(hA:QK ↑w b2 3 [sS st])(hB:QK ↑w U 47 [vr])
  (hC:T∉L) (hD:U∉L) (hE:∀x∈L,x<↑w) (hS:Jr L b ↑w q) (hr:Qt L ↑w vr rs) (hF:∀x∈q.c.rq,Zb x.p.a) (hv:Vt (O3 q.c.V.rq) rs) (G:cks q.p.a st=0) (hz:enb q.p.a st=es) (hm:wrf q.c.V.rq rs es=fl):
  SeqStopsK (fen none) m sV 154 #[sP T,sP b2,sP U] (λx:{ x:Int×Int // x∈fl }=>[sS x.1.1,sS x.1.2].toArray) (LwC ↑w L)
   (λys=>ys.map (·.1)=fl) (λpre=>pre.map (·.1) <+: fl) fl.length w:=by
 intro l J Jx W hG hJ hH hY h0;have hf:sW w W:=O1.of_below hG;have ab:∀{ys:List { x:Int×Int // x∈fl }} {W1 W2:OX},J ys W1->sW W1 W2->J ys W2:=λ{ys W1 W2} hj hg=>hJ ys W1 W2 none hj ⟨hg.os,hg.tape,hg.output,hg.size,λk hk _=>hg.block k hk od⟩ (λr e=>by cases e);have hI:es.length<=1099511627776:=by
  have E:=hS.p.ed.le;have h2:=Z8 q.p.a.ed st;rw[<-hz];unfold enb;rw[Lj];omega
 have hK:=Qjv q.c.V.rq rs es;rw[hm]at hK;have key:QT sV 154 [.func (.yield l) #[] #[],sP T,sP b2,sP U] W (λ_ W'=>(∃ys,ys.map (·.1)=fl/\J ys W')\/(∃pre,pre.map (·.1) <+: fl/\Jx pre W')):=by
  refine QT.of_G m func154 O ntmps154 results154 od ?_;have h3:=hS.I hf;refine QQ<|Vu (sW W) [oz 0,oz 1,oz 2,oz 3,oz 4,oA 5,oz 6,oz 7,oz 8,oz 9,oz 10] mixed oh oh oc (O1.C _ _) ?_;refine pq (λ_ G=>Qk ((hy.I hf).I G) O O)<|p (YC O)<|p (QH O)<|pq (λ_ G=>ZS (us:=ZG q.p) (h3.B.I G) O O O)<|pq (λ_ G=>Qk ((hA.I hf).I G) O O)<|pk<|xg<|(Qds (h3.p.I (O1.C _ _)) st).Y ?_;rintro r1 w1 ⟨hL,ve,rfl,_,hn⟩;have hn:=hn G;have hq:=(O1.C [] W).D hL;refine⟨hq,?_⟩;refine p Qy<|p (λ_=>QZ O O)<|p (λ_=>QZ O O)<|p ZK<|p ZK<|pe ?_;have hP:=hf.size;have hQ:({ W with drawn:=W.drawn+1 }:OX).heap.size=W.heap.size:=rfl
  rw[hz]at hn;have h4:Qt L ↑w1 ve es:=Qh.ints hn hI (λx hx=>oo (hE x hx));refine QQ<|Qx oh oh<|Qa<|QG h4 O<|Qa<|xe<|ZL<|Kf (α:=Nat×List { x:Int×Int // x∈fl }) [(8,9),(21,38)] (λz=>[(21,sS z.1)]) (λz ds W'=>ds=[]/\z.1<=es.length/\O1 L w W'/\Qt L ↑W' ve es/\z.2.map (·.1)=wrf q.c.V.rq rs (es.take z.1)/\J z.2 W') (λz=>es.length - z.1) oh (0,[]) La
   ⟨O,Ln _,(hf.D hq).any,h4,O,ab h0 hq⟩ ?_
  rintro⟨k,ys⟩ g ds w2 ⟨rfl,hk,V,hs,hh,ht⟩;refine QQ<|Qx oh oh<|ZX O O<|xe<|QQ<|V9 O (λhu=>?_) (λhu=>?_)
  ·refine Jl ?_;have hM:es.length<=k:=by have ho:¬(k:Int)<(es.length:Int):=hu;omega
   rw[Lq hM,hm]at hh;exact⟨λ_ h=>(by cases h),Ml,[],λW' I=>⟨Z,.inl ⟨ys,hh,ab ht I⟩⟩⟩
  refine Z4 ?_;have Y:k<es.length:=by have ho:(k:Int)<(es.length:Int):=hu;omega
  have S:=QfY (rq:=q.c.V.rq) (rs:=rs) Y;have h5:O2 es k∈es:=by rw[<-Zu Y];exact Lk Y
  refine Zf (O2 es k) λv h6=>?_;rw[h6]at S h5;refine Zf (rfr v 0 q.c.V.rq rs) λj hj=>?_;rw[hj]at S;refine QQ<|ZL<|QQ<|Qx oh oh<|xic (i:=k) hs O O Y λhR ho=>?_;rw[h6]at ho;refine x (Qq ho O)<|Qb<|QQ<|Qx oh oh<|ZA (hy.J V hC) O O<|ZA (hB.J V hD) O O<|Qa<|Qw<|(Qcu (v:=v) (hS.st V) (hr.st V) hF hv).Y ?_;rintro r3 w3 ⟨h7,ha⟩;rw[hj]at h7;subst h7;refine Qb<|QQ<|JZ oh ?_;refine X5.pre3 ?_;refine Qa<|xb (Yd O O) (λhw=>?_) (λhw=>?_)
  ·have hp:0<=j:=hw;have hl:(v,j)∈fl:=by rw[<-hm];exact qg.2 ⟨h5,hp,hj.symm⟩
   rw[OQ hp]at S;have h8:(ys++[(⟨(v,j),hl⟩:{ x:Int×Int // x∈fl })]).map (·.1) <+: fl:=by
    rw[Lv,hh,show[(⟨(v,j),hl⟩:{ x:Int×Int // x∈fl })].map (·.1)=[(v,j)] from rfl,<-S,<-hm];have h9:=K9 q.c.V.rq rs (es.drop (k+1)) (es.take (k+1));rw[MF]at h9;exact⟨_,h9.symm⟩
   have hN:ys.length<fl.length:=by have E:=h8.length_le;rw[Lj,Lc,Lt]at E;omega
   refine Qa<|xe<|X5.pre3 ?_;refine Qa<|Qa<|Qa<|xe<|xy2 (l:=l) O (hY ys ⟨(v,j),hl⟩ w3 (ab ht ha) hN) λen W3 hO=>Or.elim hO (λE=>⟨.bool true,E.1,?_⟩) (λE=>⟨.bool false,E.1,?_⟩)
   ·refine X5.of_XL<|x (Zh O)<|QA O<|xe<|JF O<|Z4 ?_;refine Qx oh oh<|QC O O<|Qa<|xe ?_;exact⟨(k+1,ys++[⟨(v,j),hl⟩]),oe,La,O,Y,(V.D ha).lw E.2.2.lw,(hs.I ha).cst E.2.2.cst E.2.2.lw.size,by simp only[];rw[S,Lv,hh];rfl,E.2.1⟩
   refine X5.of_XL<|x (Zh O)<|QA O<|xe<|z0 O ?_;refine JE ⟨λ_ h=>(by cases h),Ml,[],λW' I=>⟨Z,.inr ⟨ys++[⟨(v,j),hl⟩],h8,?_⟩⟩⟩;exact hH _ W3 W' none E.2 ⟨I.os,I.tape,I.output,I.size,λk hk _=>I.block k hk od⟩ (λr e=>by cases e)
  have hp:¬0<=j:=hw;rw[OP hp,LH]at S;refine Qa<|xe<|X5.of_XL<|Zy<|YD<|QA O<|xe<|JF O<|Z4 ?_;refine Qx oh oh<|QC O O<|Qa<|xe ?_;exact⟨(k+1,ys),oe,La,O,Y,V.D ha,hs.I ha,by simp only[];rw[S,hh],ab ht ha⟩
 refine(callsIn_wide (n:=m)).2 ?_;have ea:(#[.func (.yield l) #[] #[]]++[sP T,sP b2,sP U].toArray:Array OY)=#[.func (.yield l) #[] #[],sP T,sP b2,sP U]:=od
 rw[ea];unfold QT at key;refine Calls.mono key λe w' he=>?_;cases e with
 | returned v=>exact⟨⟨v,O⟩,he⟩
 | panicked c=>exact he.elim
 | outgrown=>exact he.elim
theorem JO [h1:Ag P t sz]{x:OZ}{b o:Nat}{E:LV}(G:QK ↑w b T cs)(hx:ev f x=.pointer (some ⟨b,o,none⟩))(J:ev f y=sT us)(S:us.length=sz)(Y:o+sz<=cs.length)(U:ZH us)(V:cs.take o++us++cs.drop (o+sz)=E)
  (hK:∀w',O1 [b] w w'->QK ↑w' b T E->K (QO f d undef) w'):XO P ⟨d,.store t x y,ty,pS,af,gd⟩ f w K:=by
 have I:=run_storeCells_at P b o T us 0 cs.toArray w G (by simp;omega) U.all;subst S;simp only[Oo,V]at I;refine xk (w':=w.setRow b E.toArray) ?_ (hK _ (O1.setRow _ _ _) (X8 G));simp[execOp,hx,J,Instr.storeAt,Instr.sureAddr,storeVar,Uh (sz:=us.length),Value.cells,I]
instance:Bw sV 166 [nS,nS,nS,nS,nS,nS,sS 0,nS,nS,nS,nS,sS 0,nS,nS,nS,nS,nS,nS,.map none] [(0,5),(5,4),(9,1),(10,4),(14,1),(15,3),(18,1)]:={}
theorem Yt.shape {H:xw}{v:OY}{c:Int}(h:Yt N H aa v vt c):∃(a:QF) (va vm ve:OY) (qs:List TV),v=.agg #[va,sS a.st,vm,ve]/\ZH [va,sS a.st,vm,ve]/\vt.oneCell'=true /\
  (c=0->xd aa=some (a,qs.map (·.2))/\K5 aa=0/\∀L:LN,(∀b∈L,b<N)->Zr L H va vm ve a/\Jq L H vt qs):=by
 by_cases G:c=0
 ·obtain⟨⟨va,vm,ve,I,E⟩,⟨qs,T,J⟩,U,V⟩:=h.good G;have hA:=E [] od;exact⟨Kq aa,va,vm,ve,qs,I,⟨hA.al.one,O,hA.mr.one,hA.ed.one,Z⟩,(J [] od).arr.one,λ_=>⟨by rw[T];exact U,V,λL S=>⟨E L S,J L S⟩⟩⟩
 obtain⟨I,E⟩:=h.bad G;exact⟨⟨[],0,[],[]⟩,Zo,Zo,Zo,[],I,oy,by rw[E];rfl,λe=>OS e G⟩
def plE (c:Yl):Int:=if ZW c≠0 then ZW c else Vd (O3 c.co)
theorem jj.shape {N:Nat}{H:xw}{c:Yl}{v vt:OY}{e:Int}(h:jj N H c v vt e):e=plE c/\∃(a:QF) (va vm ve:OY) (qs:List TV),v=.agg #[va,sS a.st,vm,ve]/\ZH [va,sS a.st,vm,ve]/\vt.oneCell'=true /\
  (e=0->ZW c=0/\xd (O3 c.co)=some (a,qs.map (·.2))/\K5 (O3 c.co)=0/\∀L:LN,(∀b∈L,b<N)->Zr L H va vm ve a/\Jq L H vt qs):=by
 unfold jj at h;unfold plE;by_cases E:ZW c≠0
 ·rw[OQ E]at h ⊢;obtain⟨G,I,J⟩:=h;exact⟨G,⟨[],0,[],[]⟩,Zo,Zo,Zo,[],I,oy,by rw[J];rfl,λe=>OS (G.symm.D e) E⟩
 rw[OP E]at h ⊢;obtain⟨a,va,vm,ve,qs,G,I,J,S⟩:=h.shape;exact⟨h.e,a,va,vm,ve,qs,G,I,J,λe=>⟨Lr.1 E,S e⟩⟩
theorem QjG (c:Yl):Y2 c=if plE c≠0 then plE c else Vd (O3 c.co++O3 c.rq):=by
 rw[QjH];unfold plE;by_cases h:ZW c≠0
 ·rw[OQ h,OQ h,OQ h]
 rw[OP h,OP h]
theorem Qlp {H:xw}{ps:List AV}(h:∀p∈ps,Zr L H p.va p.vm p.ve p.a):∀u∈ps.flatMap ZG,u.oneCell'=true:=by
 intro u G;obtain⟨p,I,E⟩:=Mb.1 G;have hA:=h p I;simp only[oJ,oH,or_false]at E;rcases E with rfl|rfl|rfl|rfl
 ·exact hA.al.one
 ·rfl
 ·exact hA.mr.one
 exact hA.ed.one
theorem Qna {F:LN->Array Obj->Prop}(st:∀{L:LN}{w w':OX},F L ↑w->O1 L w w'->F L ↑w')(up:∀{L L':LN}{H:xw},F L H->(∀b∈L',b∈L\/H.size<=b)->F L' H){b:Nat}
  (h:∀L:LN,(∀x∈L,x<N)->F L ↑w) (hb:b<N) (E:O1 [b] w w'):∀L:LN,(∀x∈L,x<N)->F L ↑w':=λL G =>
 up (st (h (b::L) (λx hx=>by
  rcases Ll.1 hx with rfl|hx
  ·exact hb
  exact G x hx)) (E.Y (λx hx=>by simp only[oF]at hx;subst hx;exact Lo))) (λx hx=>.inl (Lm _ hx))
theorem UL.nil (n:Nat):UL n [] []:=λu _ _=>by simp[O6]
theorem QbO (h0:ZV L ↑w c)(hz:Kb w 4096):
  QT sV 74 [c.val] w λr w'=>sW w w'/\∃vp,r=.tuple #[vp,sS (Y2 c.V)]/\(Y2 c.V≠0->vp=.pointer none) /\
   (Y2 c.V=0->∃b q,vp=sP b/\q.c=c/\Qqb q/\Jr [] b ↑w' q/\∀L:LN,(∀x∈L,x<↑w)->Zr L ↑w' q.s.va q.s.vm q.s.ve q.s.a/\(ZV L ↑w c->Jr L b ↑w' q)):=by
 have h:=h0.up (L':=[]) od;have hE:=QjG c.V;refine Zf (Y2 c.V) λE gr=>?_;rw[gr]at hE ⊢;refine Zn func74 ?_;refine Qc<|Zd c.cells λb1 w1 gs ma h2=>x Qd<|Qb ?_;have mc:=h2.lt;refine Qc<|QY h2 O O<|x (Zq [(0,c.cells)] ⟨O,O,Z⟩)<|Zd [c.ve,c.vc,c.vr,c.vx,c.vk,nS,sS 0,nS,nS,nS,nS,sS 0,nS,nS,nS,nS,nS,nS,.map none] λb10 w2 hN mf G=>Qb ?_;have h3:=gs.D hN;have gt:=G.lt;have hO:=h2.I hN;have hge:↑w<=b10:=oa
 have mg:b1≠b10:=oa
 refine Qc<|Qb<|Qe<|Ql<|Qa<|QY hO O O<|Qw<|(QbZ (h.I h3) (hz.I h3)).Y ?_;rintro r3 w3 ⟨hh,v3,vq,e3,rfl,hP⟩;obtain⟨h4,pa,pva,pvm,pve,qs,rfl,gu,gv,gx⟩:=hP.shape;refine Qa<|QL O O<|QL O O<|QL O O<|Z0 O<|Q7 O<|Qo<|JO (us:=[pva,sS pa.st,pvm,pve]) (G.I hh) O O O od gu rfl λw4 gy G =>
  Z0 rfl<|Q7 O<|Qo<|Qv (j:=9) (u:=vq) G O O od gv λY gz G=>Qb ?_
 have hj:O1 [b10] w3 Y:=gy.Q gz;have hl:sW w Y:=(h3.D hh).O hj hge;refine Ql<|ZI O O<|xe<|Za rfl (λhn=>?_) (λhn=>?_)
 ·have g0:plE c.V≠0:=by rw[<-h4];exact hn
  rw[OQ g0,<-h4]at hE;subst hE;refine Ql<|x Qd<|Qb<|Qj ⟨[_,_],ov,hl,.pointer none,O,λ_=>O,λe=>OS e hn⟩
 have hQ:e3=0:=Lr.1 hn;rw[OP (by rw[<-h4,hQ];decide)]at hE;obtain⟨hck,h6,mh,g2⟩:=gx hQ;have he:=Yr hck;refine Qf ?_;have h7:=(hO.I hh).J hj (by simp;omega);have h5:=h.I hl;have mj:=h.co.arr.le;have mo:=h.rq.arr.le;have mq:c.co.length<=8:=by have:=he.c8;have e:c.V.co.length=c.co.length:=Lj ..;omega
 have ms:c.co.length+c.rq.length<=12:=by have:=he.cr;have e:c.V.co.length=c.co.length:=Lj ..;have e':c.V.rq.length=c.rq.length:=Lj ..;omega
 refine Qe<|Qe<|ZJ [] [oz 0,oz 1,oz 2,oz 3,oz 5,oz 6,oA 4,oA 7,oA 8,oA 9,oz 10,oz 11,oz 12,oz 13,oz 14,oz 15,oA 16,oz 17,oz 18,oA 19,oz 20]<|p Qy<|p Qy<|p (QH O)<|pq (λ_ hc=>Qk (h7.J hc od) rfl rfl)<|p (QH rfl) <|
  pq (λ_ hc=>Qk (h7.J hc od) rfl rfl)<|pk<|xg<|(QcN (h5.co.I (O1.C _ _))).Y ?_
 rintro r6 w6 ⟨hS,hT⟩;have h8:=(O1.C [] Y).D hS;refine⟨h8,?_⟩;refine pk<|xg<|(QcN (h5.rq.I h8)).Y ?_;rintro r7 w7 ⟨hA,g3⟩;have hU:=h8.D hA;refine⟨hU,?_⟩;have mt:=hS.size;have mu:=hA.size;have mv:({ Y with drawn:=Y.drawn+1 }:OX).heap.size=Y.heap.size:=rfl
 have g4:Zs [] ↑w7 r7 (c.rq.map (·.p)).length 4 ((c.rq.map (·.p)).flatMap ZG):=QN g3 (by rw[Lj];omega) od;refine pk<|jK (Qm hT hA) O g4 O (Qlp λp S=>by
   obtain⟨q,T,rfl⟩:=Lz.1 S;exact(h.rq.each q T)) (by rw[Lj,Lj];omega) oa λv8 w8 hV g5 mw=>?_
 have ho:sW Y w8:=hU.S g5 (λb hb=>.inr (oo ((Qi hT) b hb).1));refine⟨ho,?_⟩;have hB:=hl.D ho;have my:=ho.size;have g6:XG [] ↑w8 v8 (c.co.map (·.p)++c.rq.map (·.p)):=by
  rw[<-Lc,<-LC]at hV;exact QhL hV (by rw[Lc,Lj,Lj];omega) od (λp S=>by
   rcases Le.1 S with S|S
   ·obtain⟨q,T,rfl⟩:=Lz.1 S;exact(h.co.each q T).I hB
   obtain⟨q,T,rfl⟩:=Lz.1 S;exact(h.rq.each q T).I hB)
 have g7:∀p∈c.co.map (·.p)++c.rq.map (·.p),Zb p.a:=λp S=>by
   rcases Le.1 S with S|S
   ·obtain⟨q,T,rfl⟩:=Lz.1 S;exact he.co q.it (LG T)
   obtain⟨q,T,rfl⟩:=Lz.1 S;exact he.rq q.it (LG T)
 refine pk<|xg<|(V7 (km:=4096) g6 (hz.I hB) og (jH g7)).Y ?_;rintro r9 w9 ⟨g8,v9,vt,e9,rfl,hR⟩;rw[Lv,QeC,Qlq]at hR;have hW:=hR.e;obtain⟨sa,sva,svm,sve,ts,rfl,g9,ka,kb⟩:=hR.shape;have hC:=ho.D g8;refine⟨hC,?_⟩;refine p Qy<|p (λ_=>QZ O O)<|p (λ_=>QZ O O)<|p (λ_=>QZ O O)<|p (YC O) <|
  p (QH rfl)<|pkk<|JO (us:=[sva,sS sa.st,svm,sve]) (G.I hC) O O O od g9 rfl λmz kc G=>p (YC rfl)<|p (QH rfl) <|
  pkk<|Qv (j:=14) (u:=vt) G O O od ka λhr ke G=>p ZK<|pe ?_
 have hX:O1 [b10] w9 hr:=kc.Q ke;have ht:O1 [b10] Y hr:=hC.any.Q hX;have hu:sW w hr:=hl.O ht hge;refine Ql<|ZI O O<|xe<|Za rfl (λhD=>?_) (λhD=>?_)
 ·rw[<-hW]at hE;subst hE;refine Ql<|x Qd<|Qb<|Qj ⟨[_,_],ov,hu,.pointer none,O,λ_=>O,λe=>OS e hD⟩
 have hY:e9=0:=Lr.1 hD;have hZ:E=0:=by rw[hE,<-hW,hY]
 obtain⟨kf,m0,kg⟩:=kb hY;refine Qf ?_;have kh:=h7.J ht (by simp;omega);refine Ql<|Qa<|QY kh O O<|Qw<|(jb (h.I hu)).Y ?_;rintro m1 U ⟨hg,vs,vx,vk,qx,ks,rfl,ki,kj,ga⟩;have hF:=ga [] od;refine Qo<|ZU Xj λbm kk gb m2 kn=>Z0 O<|Q7 O<|Qo<|JO (us:=[vs,vx,vk]) ((G.I hg).I gb) O O O od ⟨hF.1.one,hF.2.1.arr.one,hF.2.2.arr.one,Z⟩ rfl λm3 gc G =>
  Z0 rfl<|Q7 O<|Qo<|Qv (j:=18) (u:=.map (some bm)) G O O od rfl λhG ge G=>xe ?_
 have m4:=hu.size;have m5:=hg.size;have m6:=ht.size;have m7:=hj.size;have m8:=hh.size;have m9:b10<U.heap.size:=oa
 have ko:bm≠b10:=oa
 have gg:O1 [b10] U hG:=(gb.any.Q gc).Q ge;have kp:O1 [b10] kk hG:=gc.Q ge;have kq:ZP Xj ↑hG bm []:=kn.J kp (ou ko);have kr:O1 [b10] w3 U:=(hj.Q ht).D hg;have kt:O1 [b10] w9 U:=hX.D hg;have fP:∀{w':OX},O1 [b10] U w'->∀L:LN,(∀x∈L,x<↑w2)->Zr L ↑w' pva pvm pve pa/\Jq L ↑w' vq qs:=λI =>
  Qna (F:=λL H=>Zr L H pva pvm pve pa/\Jq L H vq qs) (λh I=>⟨h.1.st I,h.2.st I⟩) (λh J=>⟨h.1.up J,h.2.up J⟩) g2 gt (kr.Q I)
 have fS:∀{w':OX},O1 [b10] U w'->∀L:LN,(∀x∈L,x<↑w8)->Zr L ↑w' sva svm sve sa/\Jq L ↑w' vt ts:=λI =>
  Qna (F:=λL H=>Zr L H sva svm sve sa/\Jq L H vt ts) (λh I=>⟨h.1.st I,h.2.st I⟩) (λh J=>⟨h.1.up J,h.2.up J⟩) kg oa (kt.Q I)
 have fC:∀{w':OX},O1 [b10] U w'->∀L:LN,(∀x∈L,x<↑hr)->Qt L ↑w' vs (szs c.V.co)/\yi L ↑w' vx qx/\zY L ↑w' vk ks:=λI =>
  Qna (F:=λL H=>Qt L H vs (szs c.V.co)/\yi L H vx qx/\zY L H vk ks) (λh I=>⟨h.1.st I,h.2.1.st I,h.2.2.st I⟩) (λh J=>⟨h.1.up J,h.2.1.up J,h.2.2.up J⟩) ga oa I
 have ku:=(qh (YL he.co) h6).1;have kv:(O3 c.V.co).length=c.co.length:=by unfold O3;show((c.co.map IV.it).map _).length=_;simp
 have gh:=(fP gg [] od).2;have pc:=gh.arr.le;refine Qe<|Ql<|Z0 O<|Qr O G O O<|QG gh.arr O<|Qa<|xe<|QW (α:=Nat×List (ByteArray×OY)) [(6,7),(61,73)] (λz=>[(61,sS z.1)]) (λz w'=>z.1<=qs.length/\O1 [b10] U w'/\QK ↑w' b10 166 [c.ve,c.vc,c.vr,c.vx,c.vk,pva,sS pa.st,pvm,pve,vq,sva,sS sa.st,svm,sve,vt,vs,vx,vk,.map (some bm)]/\ZP Xj ↑w' bm z.2/\UL c.co.length z.2 ((qs.take z.1).map (·.2))) (λz=>qs.length - z.1) (0,[]) La
  ⟨Ln _,gg,G,kq,UL.nil _⟩ ?_
 rintro⟨k,mm⟩ g gi ⟨hk,V,hv,hH,hI⟩;have hw:sW w gi:=(hu.D hg).O V hge;refine Zi rfl O (λhJ=>?_) (λhJ=>?_)
 ·refine Qu ?_;have kw:qs.length<=k:=by have kx:¬(k:Int)<(qs.length:Int):=hJ;omega
  rw[Lq kw]at hI;refine Ql<|x Qd<|Qb ?_;have aP:=fP V [] od;have aS:=fS V [] od;have aC:=fC V [] od;refine Qj ⟨[_,_],ov,hw,sP b10,by rw[hZ];rfl,λe=>OS hZ e,λ_=>⟨b10,⟨c,⟨pva,pvm,pve,pa⟩,vq,qs,⟨sva,svm,sve,sa⟩,vt,ts,vs,vx,vk,qx,ks,bm,mm⟩,O,O,⟨hck,h6,kf,ki,kj,hI⟩,⟨hv,od,h.I hw,aP.1,aS.1,aP.2,aS.2,aC.1,aC.2.1,aC.2.2,od,hH⟩,λL J=>?_⟩⟩;have bP:=fP V L (λb hb=>oo (J b hb));have bS:=fS V L (λb hb=>oo (J b hb));have bC:=fC V L (λb hb=>oo (J b hb));exact⟨bS.1,λkz=>⟨hv,λhm=>oo (J _ hm),kz.I hw,bP.1,bS.1,bP.2,bS.2,bC.1,bC.2.1,bC.2.2,λhm=>by have h9:bm<w.heap.size:=J bm hm;omega,hH⟩⟩
 have hf:k<qs.length:=by have kx:(k:Int)<(qs.length:Int):=hJ;omega
 have gj:=(fP V [] od).2;have hK:=Lk hf;have hM:(qs.take (k+1)).map (·.2)=(qs.take k).map (·.2)++[(qs[k]'hf).2]:=by rw[Lh hf,Lv];rfl
 have gk:(qs[k]'hf).2∉(qs.take k).map (·.2):=by
  have h1:((qs.take (k+1)).map (·.2)).Nodup:=by
   rw[List.map_take];exact((Xb (YL he.co) h6).1.nd).sublist (List.take_sublist _ _)
  rw[hM]at h1;intro hm;exact(Mr.1 h1).2.2 _ hm _ (Lb.2 O) O
 have k0:((qs.take k).map (·.2)).length=k:=by rw[Lj,LA];omega
 refine Qf<|Qe<|Qn<|Ql<|O4 (g:=Yz) J2 gj.arr O O hf λpd gl=>?_;refine Zf (qs[k]'hf) λq T=>?_;rw[T]at gl hK hM gk;have gm:=ku q.2 (LG hK);have gn:=gm.bd (m:=4096) (λa ha=>(YL he.co a ha).st1);have pf:q.2.length=c.co.length:=by rw[gm.1,kv]
 refine x (Qq gl O)<|x Qd<|Qb<|ZJ [] [oz 0,oz 1,oz 2,oz 3,oz 4,oz 6,oA 5,oA 7]<|p Qy<|p (YC O)<|p (QH O)<|pq (λ_ hc=>Qk (hv.J hc od) rfl rfl) <|
  p Qy<|p Qy<|pk<|xg<|(Qak ((gj.each q hK).I (O1.C _ _)) ((hz.I hw).I (O1.C _ _)) gn oa).Y ?_
 rintro pg ph ⟨rfl,k4⟩;have hy:=(O1.C [] gi).D k4;refine⟨hy,?_⟩;refine pkk<|YF (k:=Kn q.2) (hH.I hy) O O λk5 go k6=>pe ?_;have k9:O1 [b10] U k5:=(V.D hy).O go oa;have gq:=hI.add gk (λx hx=>(gn x hx).1);rw[k0]at gq;refine Qs<|QC O O<|Qa<|xe ?_;exact⟨(k+1,O7 mm (Kn q.2) (sS (k:Int))),oe,La,hf,k9,((hv.I hy).J go (by simp;omega)),k6,by simp only[];rw[hM];exact gq⟩
theorem qo {W:OX}{e:Nat}{v:OY}(h:W.ownsRow base e sz v n cs)(E:Js [] W W'):W'.ownsRow base e sz v n cs :=
 ⟨h.1,h.2.imp id λ⟨g,cap,cur,G,I,J,S⟩=>⟨g,cap,cur,G,I,E g _ od J rfl,S⟩⟩
theorem Js.Y {W:OX}(h:Js L W W')(E:∀b∈L,b∈L'):Js L' W W':=λk o G=>h k o (λI=>G (E k I))
theorem Js.nonc {W:OX}(J:O1 X W W')(hX:∀r∈X,∃o:Obj,W.heap[r]?=some o/\o.isCells=false):Js [] W W':=λk o _ E S =>
 (J.block k (LJ.1 E).1 (λhx=>by
  obtain⟨T,G,I⟩:=hX k hx;rw[E]at G;cases G;rw[S]at I;cases I)).D E
theorem Z7.cst {I:xu}(h:∀W W',I W->Js [] W W'->W.heap.size<=↑W'->I W'):Z7 B I:=λW W' _ hi E hX=>h W W' hi (Js.nonc E (λr G=>(hX r G).2)) E.size
theorem Yv.cst {base:Nat}{av:LN}{W W':OX}{v:OY}{n sz:Nat}{cs:LV}(h:Yv base av ↑W v n sz cs)(E:Lg.Js [] W W')(G:W.heap.size<=↑W'):Yv base av ↑W' v n sz cs:=λL I=>(h L I).cst (E.Y od) G
abbrev ZZ (r:Rsn):LV:=[sS r.st,sS r.kd,sS r.ix,sS r.ev]
theorem Qgz (r:Rsn):(ZZ r).length=4:=rfl
structure JX (base:Nat)(w:OX)(v1 v2 v3 v4:OY)(cos rqs:List TV)(pls:LI)(fbs:List Rsn):Prop where
 o1:w.ownsRow base 47 1 v1 cos.length (cos.flatMap Yz)
 o2:w.ownsRow base 47 1 v2 rqs.length (rqs.flatMap Yz)
 o3:Qh 3 base w v3 pls
 o4:w.ownsRow base 173 4 v4 fbs.length (fbs.flatMap ZZ)
 d12:Dj v1 v2
 d13:Dj v1 v3
 d14:Dj v1 v4
 d23:Dj v2 v3
 d24:Dj v2 v4
 d34:Dj v3 v4
 e1:∀p∈cos,Yv base (ob v1++(ob v2++(ob v3++ob v4))) ↑w p.1 p.2.length 1 (p.2.map (.int .i64))
 e2:∀p∈rqs,Yv base (ob v1++(ob v2++(ob v3++ob v4))) ↑w p.1 p.2.length 1 (p.2.map (.int .i64))
theorem UD {v:OY}:Dj (nS) v:=λb hb=>by simp[ob]at hb
theorem JX.nil (base:Nat)(w:OX):JX base w (nS) (nS) (nS) (nS) [] [] [] []:=
 ⟨QM _ _ _ _,QM _ _ _ _,QM _ _ _ _,QM _ _ _ _,UD,UD,UD,UD,UD,UD,λp E=>(by cases E),λp E=>(by cases E)⟩
variable {w7 w8:OX}{v1 v2 v3 v4:OY}{cos rqs:List TV}{pls:LI}{fbs:List Rsn}
theorem JX.I (h:JX base w v1 v2 v3 v4 cos rqs pls fbs)(E:sW w w7):JX base w7 v1 v2 v3 v4 cos rqs pls fbs :=
 ⟨Qm h.o1 E,Qm h.o2 E,Qm h.o3 E,Qm h.o4 E,h.d12,h.d13,h.d14,h.d23,h.d24,h.d34,λp G=>(h.e1 p G).I E,λp G=>(h.e2 p G).I E⟩
theorem JX.low {X:LN}(h:JX base w v1 v2 v3 v4 cos rqs pls fbs)(E:O1 X w w7)(hX:∀b∈X,b<base):JX base w7 v1 v2 v3 v4 cos rqs pls fbs:=by
 have k:∀{e sz n:Nat} {v:OY} {cs:LV},w.ownsRow base e sz v n cs->w7.ownsRow base e sz v n cs:=λo=>Qg o E (λb hb I=>oq (Qi o b hb).1 (hX b I));exact⟨k h.o1,k h.o2,k h.o3,k h.o4,h.d12,h.d13,h.d14,h.d23,h.d24,h.d34,λp G=>(h.e1 p G).low E hX,λp G=>(h.e2 p G).low E hX⟩
theorem JX.cst (h:JX base w v1 v2 v3 v4 cos rqs pls fbs)(E:Lg.Js [] w w7)(I:w.heap.size<=↑w7):JX base w7 v1 v2 v3 v4 cos rqs pls fbs :=
 ⟨qo h.o1 E,qo h.o2 E,qo h.o3 E,qo h.o4 E,h.d12,h.d13,h.d14,h.d23,h.d24,h.d34,λp G=>(h.e1 p G).cst E I,λp G=>(h.e2 p G).cst E I⟩
theorem UE {a b E:OY}(h:Dj a b)(J:∀x∈ob E,x∈ob a\/n<=x)(hb:∀x∈ob b,x<n):Dj E b:=λx hx G=>by
 rcases J x hx with I|I
 ·exact h x I G
 have:=hb x G;omega
theorem KU {a b E:OY}(h:Dj a b)(I:∀x∈ob E,x∈ob b\/n<=x)(J:∀x∈ob a,x<n):Dj a E:=λx hx S=>by
 rcases I x S with G|G
 ·exact h x hx G
 have:=J x hx;omega
theorem JX.lt (h:JX base w v1 v2 v3 v4 cos rqs pls fbs):(∀x∈ob v1,x<↑w)/\(∀x∈ob v2,x<↑w)/\(∀x∈ob v3,x<↑w)/\∀x∈ob v4,x<w.heap.size:=⟨QU h.o1,QU h.o2,QU h.o3,QU h.o4⟩
theorem Qbb {a b c d:LN}{x:Nat}(h:x∈a++(b++(c++d))):x∈a\/x∈b\/x∈c\/x∈d:=by simpa using h
theorem zl {a b c d:LN}{x:Nat}(h:x∈a\/x∈b\/x∈c\/x∈d):x∈a++(b++(c++d)):=by simpa using h
theorem JX.a1 {e:Nat}{q:TV}(h:JX base w v1 v2 v3 v4 cos rqs pls fbs)(V:sW w w7)(Y:w7.ownsRow N e 1 q.1 q.2.length (q.2.map (.int .i64)))(ha:q.2.length<=1099511627776)(hN:↑w<=N)(hb:base<=↑w)(ho:w8.ownsRow base 47 1 v' (cos.length+1) (cos.flatMap Yz++Yz q))
  (S:O1 (ob v1) w7 w8) (T:∀b∈ob v',b∈ob v1\/↑w7<=b):JX base w8 v' v2 v3 v4 (cos++[q]) rqs pls fbs:=by
 have l:=h.lt;have hz:=V.size;have I:=h.I V;have av:∀b∈ob v'++(ob v2++(ob v3++ob v4)),b∈ob v1++(ob v2++(ob v3++ob v4))\/↑w7<=b:=by
  intro b hb;rcases Qbb hb with E|E|E|E
  ·rcases T b E with U|U
   ·exact .inl (zl (.inl U))
   exact .inr U
  ·exact .inl (zl (.inr (.inl E)))
  ·exact .inl (zl (.inr (.inr (.inl E))))
  exact .inl (zl (.inr (.inr (.inr E))))
 have st:O1 (ob v1++(ob v2++(ob v3++ob v4))) w7 w8:=S.Y (λb hb=>zl (.inl hb));have g:∀{v:OY} {n sz:Nat} {cs:LV},Yv base (ob v1++(ob v2++(ob v3++ob v4))) ↑w7 v n sz cs->Yv base (ob v'++(ob v2++(ob v3++ob v4))) ↑w8 v n sz cs:=λa=>a.app st av;refine⟨by rw[Lc,LC];simpa using ho,Qg I.o2 S (λb hb J=>h.d12 b J hb),Qg I.o3 S (λb hb J=>h.d13 b J hb),Qg I.o4 S (λb hb J=>h.d14 b J hb),UE h.d12 T (λx hx=>oo (l.2.1 x hx)),UE h.d13 T (λx hx=>oo (l.2.2.1 x hx)),UE h.d14 T (λx hx=>oo (l.2.2.2 x hx)),h.d23,h.d24,h.d34,?_,?_⟩
 ·exact λp G=>by
   rcases Le.1 G with G|G
   ·exact g (I.e1 p G)
   simp only[oF]at G;subst G;exact g (Yv.of_own Y ha oa (λb hb=>by
   rcases Qbb hb with E|E|E|E
   ·have:=l.1 b E;omega
   ·have:=l.2.1 b E;omega
   ·have:=l.2.2.1 b E;omega
   have:=l.2.2.2 b E;omega))
 exact λp G=>g (I.e2 p G)
theorem JX.a2 {e:Nat}{q:TV}(h:JX base w v1 v2 v3 v4 cos rqs pls fbs)(V:sW w w7)(Y:w7.ownsRow N e 1 q.1 q.2.length (q.2.map (.int .i64)))(ha:q.2.length<=1099511627776)(hN:↑w<=N)(hb:base<=↑w)(ho:w8.ownsRow base 47 1 v' (rqs.length+1) (rqs.flatMap Yz++Yz q))
  (S:O1 (ob v2) w7 w8) (T:∀b∈ob v',b∈ob v2\/↑w7<=b):JX base w8 v1 v' v3 v4 cos (rqs++[q]) pls fbs:=by
 have l:=h.lt;have hz:=V.size;have I:=h.I V;have av:∀b∈ob v1++(ob v'++(ob v3++ob v4)),b∈ob v1++(ob v2++(ob v3++ob v4))\/↑w7<=b:=by
  intro b hb;rcases Qbb hb with E|E|E|E
  ·exact .inl (zl (.inl E))
  ·rcases T b E with U|U
   ·exact .inl (zl (.inr (.inl U)))
   exact .inr U
  ·exact .inl (zl (.inr (.inr (.inl E))))
  exact .inl (zl (.inr (.inr (.inr E))))
 have st:O1 (ob v1++(ob v2++(ob v3++ob v4))) w7 w8:=S.Y (λb hb=>zl (.inr (.inl hb)));have g:∀{v:OY} {n sz:Nat} {cs:LV},Yv base (ob v1++(ob v2++(ob v3++ob v4))) ↑w7 v n sz cs->Yv base (ob v1++(ob v'++(ob v3++ob v4))) ↑w8 v n sz cs:=λa=>a.app st av;refine⟨Qg I.o1 S (λb hb J=>h.d12 b hb J),by rw[Lc,LC];simpa using ho,Qg I.o3 S (λb hb J=>h.d23 b J hb),Qg I.o4 S (λb hb J=>h.d24 b J hb),KU h.d12 T (λx hx=>oo (l.1 x hx)),h.d13,h.d14,UE h.d23 T (λx hx=>oo (l.2.2.1 x hx)),UE h.d24 T (λx hx=>oo (l.2.2.2 x hx)),h.d34,?_,?_⟩
 ·exact λp G=>g (I.e1 p G)
 exact λp G=>by
  rcases Le.1 G with G|G
  ·exact g (I.e2 p G)
  simp only[oF]at G;subst G;exact g (Yv.of_own Y ha oa (λb hb=>by
  rcases Qbb hb with E|E|E|E
  ·have:=l.1 b E;omega
  ·have:=l.2.1 b E;omega
  ·have:=l.2.2.1 b E;omega
  have:=l.2.2.2 b E;omega))
theorem JX.a3 {q:Int}(h:JX base w v1 v2 v3 v4 cos rqs pls fbs)(V:sW w w7)(Y:w8.ownsRow base 3 1 v' (pls.length+1) (pls.map (.int .i64)++[sS q]))
  (J:O1 (ob v3) w7 w8) (S:∀b∈ob v',b∈ob v3\/↑w7<=b):JX base w8 v1 v2 v' v4 cos rqs (pls++[q]) fbs:=by
 have l:=h.lt;have hz:=V.size;have G:=h.I V;have av:∀b∈ob v1++(ob v2++(ob v'++ob v4)),b∈ob v1++(ob v2++(ob v3++ob v4))\/↑w7<=b:=by
  intro b hb;rcases Qbb hb with E|E|E|E
  ·exact .inl (zl (.inl E))
  ·exact .inl (zl (.inr (.inl E)))
  ·rcases S b E with T|T
   ·exact .inl (zl (.inr (.inr (.inl T))))
   exact .inr T
  exact .inl (zl (.inr (.inr (.inr E))))
 have st:O1 (ob v1++(ob v2++(ob v3++ob v4))) w7 w8:=J.Y (λb hb=>zl (.inr (.inr (.inl hb))));have g:∀{v:OY} {n sz:Nat} {cs:LV},Yv base (ob v1++(ob v2++(ob v3++ob v4))) ↑w7 v n sz cs->Yv base (ob v1++(ob v2++(ob v'++ob v4))) ↑w8 v n sz cs:=λa=>a.app st av;refine⟨Qg G.o1 J (λb hb I=>h.d13 b hb I),Qg G.o2 J (λb hb I=>h.d23 b hb I),Qh.snoc Y,Qg G.o4 J (λb hb I=>h.d34 b I hb),h.d12,KU h.d13 S (λx hx=>oo (l.1 x hx)),h.d14,KU h.d23 S (λx hx=>oo (l.2.1 x hx)),h.d24,UE h.d34 S (λx hx=>oo (l.2.2.2 x hx)),?_,?_⟩
 ·exact λp U=>g (G.e1 p U)
 exact λp U=>g (G.e2 p U)
theorem JX.a4 {q:Rsn}(h:JX base w v1 v2 v3 v4 cos rqs pls fbs)(V:sW w w7)(Y:w8.ownsRow base 173 4 v' (fbs.length+1) (fbs.flatMap ZZ++ZZ q))
  (J:O1 (ob v4) w7 w8) (S:∀b∈ob v',b∈ob v4\/↑w7<=b):JX base w8 v1 v2 v3 v' cos rqs pls (fbs++[q]):=by
 have l:=h.lt;have hz:=V.size;have G:=h.I V;have av:∀b∈ob v1++(ob v2++(ob v3++ob v')),b∈ob v1++(ob v2++(ob v3++ob v4))\/↑w7<=b:=by
  intro b hb;rcases Qbb hb with E|E|E|E
  ·exact .inl (zl (.inl E))
  ·exact .inl (zl (.inr (.inl E)))
  ·exact .inl (zl (.inr (.inr (.inl E))))
  rcases S b E with T|T
  ·exact .inl (zl (.inr (.inr (.inr T))))
  exact .inr T
 have st:O1 (ob v1++(ob v2++(ob v3++ob v4))) w7 w8:=J.Y (λb hb=>zl (.inr (.inr (.inr hb))));have g:∀{v:OY} {n sz:Nat} {cs:LV},Yv base (ob v1++(ob v2++(ob v3++ob v4))) ↑w7 v n sz cs->Yv base (ob v1++(ob v2++(ob v3++ob v'))) ↑w8 v n sz cs:=λa=>a.app st av;refine⟨Qg G.o1 J (λb hb I=>h.d14 b hb I),Qg G.o2 J (λb hb I=>h.d24 b hb I),Qg G.o3 J (λb hb I=>h.d34 b hb I),by rw[Lc,LC];simpa using Y,h.d12,h.d13,KU h.d14 S (λx hx=>oo (l.1 x hx)),h.d23,KU h.d24 S (λx hx=>oo (l.2.1 x hx)),KU h.d34 S (λx hx=>oo (l.2.2.1 x hx)),?_,?_⟩
 ·exact λp U=>g (G.e1 p U)
 exact λp U=>g (G.e2 p U)
theorem yv (c:Yl)(pl:QF)(ps:List (LI)):∀(l:List (LI)) (i:Nat) (s:Spc),(l.zipIdx i).foldl (Qme c pl ps) s =
  ⟨s.a,s.co++l.map (·.take c.co.length),s.rq++l.map (·.drop c.co.length),s.pl++l.map (λt=>plx ps (t.take c.co.length)),s.fb++(l.zipIdx i).filterMap (λp=>rsn c pl (plx ps (p.1.take c.co.length)) p.2 p.1)⟩
 | [],i,s=>od
 | t::l,i,s=>by
  rw[Nx,LO,yv c pl ps l (i+1)];unfold Qme;simp only[oT,Oq,o0,Ol,List.filterMap_cons];cases rsn c pl (plx ps (t.take c.co.length)) i t with
  | none=>rfl
  | some r=>simp
theorem qN {c:Yl}{rs:LI}:∀{l:LI},(∀x∈wrf c.rq rs l,(c.ev.getD x.1.toNat ⟨.empty,false,false,false,0⟩).co=true)->rfd c rs l=none
 | [],_=>rfl
 | v::l,h=>by
  rw[wrf]at h;rw[rfd];by_cases E:0<=rfr v 0 c.rq rs
  ·rw[OQ E]at h;have G:=h _ Lo;rw[OP (λe=>by rw[G]at e;cases e.2)];exact qN λx hx=>h x (Lm _ hx)
  rw[OP E]at h;rw[OP (λe=>E e.1)];exact qN h
theorem qM {c:Yl}{rs:LI}{x:Int×Int}{t:xq}:∀{l:LI}{p:xq},wrf c.rq rs l=p++x::t->(∀y∈p,(c.ev.getD y.1.toNat ⟨.empty,false,false,false,0⟩).co=true)->(c.ev.getD x.1.toNat ⟨.empty,false,false,false,0⟩).co=false->rfd c rs l=some (x.2,x.1)
 | [],p,h,_,_=>by simp[wrf]at h
 | v::l,p,h,G,hx=>by
  rw[wrf]at h;rw[rfd];by_cases E:0<=rfr v 0 c.rq rs
  ·rw[OQ E]at h;cases p with
   | nil =>
    simp only[Ol,List.cons.injEq]at h;obtain⟨I,_⟩:=h;subst I;rw[OQ ⟨E,hx⟩]
   | cons y p =>
    simp only[o0,List.cons.injEq]at h;obtain⟨I,S⟩:=h;have J:=G y Lo;subst I;rw[OP (λe=>by simp only[]at J;rw[J]at e;cases e.2)];exact qM S (λy T=>G y (Lm _ T)) hx
  rw[OP E]at h;rw[OP (λe=>E e.1)];exact qM h G hx
theorem Qf7 (c:Yl)(t:LI):vio c t=if(Vx c.ex c.cs t).2.2=true then some ((Vx c.ex c.cs t).1,(Vx c.ex c.cs t).2.1)else none:=by
 unfold vio Vx;by_cases E:0<=fix (Vb t) 0 c.ex
 ·rw[OQ E,OQ E];rfl
 rw[OP E,OP E];by_cases G:0<=fix (Ue t) 0 c.cs
 ·rw[OQ G,OQ G];rfl
 rw[OP G,OP G];rfl
def Qqc (N:Nat)(H:xw)(v:OY)(s:Spc):Prop:=∃va vm ve v1 v2 v3 v4 cos rqs,v=.agg #[va,sS s.a.st,vm,ve,v1,v2,v3,v4]/\cos.map (·.2)=s.co/\rqs.map (·.2)=s.rq /\
 ∀L:LN,(∀b∈L,b<N)->Zr L H va vm ve s.a/\Jq L H v1 cos/\Jq L H v2 rqs/\Qt L H v3 s.pl/\Zs L H v4 s.fb.length 4 (s.fb.flatMap ZZ)
open Go.RowKit
def QcS (all:Array Oper)(i:Nat)(rest:xo):xo->Array Bool->Bool
 | [],ls=>Region.ready .any all ls == [i] && Y7 all rest (ls.setIfInBounds i true)
 | (j,true)::l,ls=>(Region.ready .any all ls).contains j && Region.free .any all ls j && QcS all i rest l (ls.setIfInBounds j true)
 | (j,false)::l,ls=>!(Region.ready .any all ls).isEmpty && (Region.ready .any all ls).all (λk=>k == j || k == i) && Y7 all ((j,false)::(l++rest)) (ls.setIfInBounds i true) && QcS all i rest l (ls.setIfInBounds j true)
def Xp (all:xz)(d:Nat)(l:xo):Bool:=l.all λp=>!((QR all p.1).looksAt all.toArray).contains d && !((QR all p.1).dst == some d)
def QkS (all:xz)(pre l:xo)(i:Nat)(rest:xo):Bool :=
 Region.noSelect all.toArray && (pre.length+(l.length+1+rest.length) == all.length) && XQ all.toArray pre (oP all.length false) && QcS all.toArray i rest l (ZO pre (oP all.length false))
  && (QR all i).guard.isNone && (match (QR all i).dst with|some d=>Xp all d l|none=>false)
def XF (P:O0)(all:xz)(C:xu)(K:xt):xo->LN->Fr->OX->Prop
 | [],_,f,w=>K f w
 | (j,true)::l,own,f,w=>Z3 all f (QR all j)=true/\∃v,(∀w',(yc (QR all j)=true->C w')->(execOp (ev f) (QR all j)).run P w'=.ok (.value v) w')/\XF P all C K l own (QO f (QR all j).dst v) w
 | (j,false)::l,own,f,w=>Z3 all f (QR all j)=true/\∀w1,sW w w1->C w1->XO P (QR all j) f w1 λE w'=>C w'/\∃own',O1 own w1 w'/\(∀b∈own',b∈own\/(↑w1<=b/\b<↑w'))/\XF P all C K l own' E w'
section
variable {all:xz}{C:xu}{KF:xt}
attribute [local semireducible] XO in
theorem Qlu {o:Oper}(I:∀cs b,o.op≠.select cs b){d:Nat}{v:OY}{K':xt}(J:d∉o.looksAt all.toArray)(S:o.dst≠some d)(hK:∀u w',K (QO f o.dst u) w'->K' (QO (QO f o.dst u) (some d) v) w')
  (h:XO P o f w K):XO P o (QO f (some d) v) w K':=by
 have G:∀u,QO (QO f (some d) v) o.dst u=QO (QO f o.dst u) (some d) v:=λu=>Uq f v u (λe E=>by cases E;exact S);unfold XO at *;rw[Jy (all:=all) I f (some d) v (λe E=>by cases E;exact J)];generalize (execOp (ev f) o).run P w=r at *;cases r with
 | ok nx w' =>
  cases nx <;> simp only[upF]at h ⊢
  case value u=>rw[G];exact hK u w' h
  case skip=>rw[G];exact hK _ w' h
  case enter g args =>
   refine Calls.mono h λe T E=>?_;cases e with
   | returned u=>simp only at E ⊢;rw[G];exact hK u T E
   | panicked c=>exact E.elim
   | outgrown=>exact E.elim
 | halt x w'=>exact h.elim
theorem zh {D:xp}{f0:Fr}{dst:xA}{v:OY}(hd:inD D dst=true)(h:∀t,JH D t=false->f t=f0 t):∀t,JH D t=false->QO f dst v t=f0 t:=λt E =>
 (YY (λe=>by rw[e]at hd;simp only[inD]at hd;rw[hd]at E;cases E) v).D (h t E)
def Xc (all:xz)(D:xp)(l:xo):Bool:=l.all λp=>inD D (QR all p.1).dst
theorem XP.keeps {D:xp}{f0:Fr}:∀(l:xo) (f:Fr) (w:OX),Xc all D l=true->(∀t,JH D t=false->f t=f0 t)->XP P all C K l f w->XP P all C (λI w'=>(∀t,JH D t=false->I t=f0 t)/\K I w') l f w
 | [],f,w,_,E,h=>by simp only[XP]at h ⊢;exact⟨E,h⟩
 | (j,q)::l,f,w,hd,E,h=>by
  simp only[Xc,Oa,oI]at hd;have G:Xc all D l=true:=hd.2;simp only[XP]at h ⊢;cases J:Z3 all f (QR all j)with
  | false=>rw[J]at h;exact XP.keeps l _ _ G (zh hd.1 E) h
  | true =>
   rw[J]at h;cases q with
   | true=>obtain⟨v,S,hx⟩:=h;exact⟨v,S,XP.keeps l _ _ G (zh hd.1 E) hx⟩
   | false=>exact XO.Y (λv w' hx=>⟨hx.1,XP.keeps l _ _ G (zh hd.1 E) hx.2⟩) h
theorem fp {l:xo}{own:LN}{v:OY}(E:∀w',(execOp (ev f) (QR all j)).run P w'=.ok (.value v) w')(h:XF P all C K l own (QO f (QR all j).dst v) w)
  (G:Z3 all f (QR all j)=true:=by rfl):XF P all C K ((j,true)::l) own f w:=⟨G,v,λw' _=>E w',h⟩
theorem fk {l:xo}{own:LN}(h:∀w1,sW w w1->C w1->XO P (QR all j) f w1 λE w'=>C w'/\∃own',O1 own w1 w'/\(∀b∈own',b∈own\/(↑w1<=b/\b<↑w'))/\XF P all C K l own' E w')
  (G:Z3 all f (QR all j)=true:=by rfl):XF P all C K ((j,false)::l) own f w:=⟨G,h⟩
end
attribute [irreducible] XF
def U9 (P:O0)(all:xz)(K:xu->LN->Fr->OX->Prop):xo->xu->LN->Fr->OX->Prop
 | [],C,own,f,w=>K C own f w
 | (j,true)::l,C,own,f,w=>Z3 all f (QR all j)=true/\∃v,(∀w',(yc (QR all j)=true->C w')->(execOp (ev f) (QR all j)).run P w'=.ok (.value v) w')/\U9 P all K l C own (QO f (QR all j).dst v) w
 | (j,false)::l,C,own,f,w=>Z3 all f (QR all j)=true/\∀w1,sW w w1->C w1->XO P (QR all j) f w1 λE w'=>∃C':xu,(∀x,C' x->C x)/\(∀x x',C' x->sW x x'->C' x')/\C' w'/\∃own',O1 own w1 w'/\(∀b∈own',b∈own\/(↑w1<=b/\b<↑w'))/\U9 P all K l C' own' E w'
section
variable {all:xz}{C C0:xu}{KF:xu->LN->Fr->OX->Prop}
theorem U9.I (hK:∀C own f w w',KF C own f w->sW w w'->KF C own f w'):∀{l:xo}{C:xu}{own:LN}{f:Fr}{w w':OX},U9 P all KF l C own f w->sW w w'->U9 P all KF l C own f w'
 | [],_,_,_,_,_,h,E=>hK _ _ _ _ _ h E
 | (_,true)::_,_,_,_,_,_,h,E=>by
  obtain⟨G,v,I,hx⟩:=h;exact⟨G,v,I,U9.I hK hx E⟩
 | (_,false)::_,_,_,_,_,_,h,E=>⟨h.1,λJ S T=>h.2 J (E.D S) T⟩
attribute [local semireducible] XA XO in
theorem XA.sub {C':xu}(hC:∀x,C' x->C x):∀(k:Nat) (ls:Array Bool) (f:Fr) (w:OX),XA P all C' K k ls f w->XA P all C K k ls f w
 | 0,_,_,_,h=>h
 | k+1,ls,f,w,h=>by
  refine⟨h.1,λi hi o I=>?_⟩;have E:=h.2 i hi o I;cases G:Z3 all f o with
  | false=>rw[G]at E;exact XA.sub hC k _ _ _ E
  | true =>
   rw[G]at E;exact XO.Y (λJ w' hx=>⟨hx.1.imp id (Or.imp id (hC w')),XA.sub hC k _ _ _ hx.2⟩) E
structure Fl3 (P:O0)(all:xz)(C0:xu)(K:xt)(KF:xu->LN->Fr->OX->Prop)(i d:Nat)(rest:xo)(Φ:OY->OX->Prop)(Dc:xp)(f1:Fr):Prop where
 stab:∀v (own:LN) w w',Φ v w->O1 own w w'->(∀b∈ow v,b∉own)->Φ v w'
 spec:∀f w,(∀t,JH Dc t=false->f t=f1 t)->C0 w->XO P (QR all i) f w λf' w'=>sW w w'/\C0 w'/\Φ (f' d) w'/\∀b∈ow (f' d),↑w<=b/\b<↑w'
 fin:∀C own f w,KF C own f w->∀v,C w->(∀x,C x->C0 x)->Φ v w->(∀b∈ow v,b∉own/\b<↑w)->XP P all C K rest (QO f (some d) v) w
 Y:∀C own f w w',KF C own f w->sW w w'->KF C own f w'
theorem yD:∀(l:xz) (j:Nat),l[j]?=none->QR l j=default
 | [],_,_=>rfl
 | _::l,0,h=>by simp at h
 | _::l,j+1,h=>yD l j (ou h)
theorem Qa4 (G:Region.noSelect all.toArray=true)(j:Nat):∀cs b,(QR all j).op≠.select cs b:=by
 intro cs b;cases E:all[j]? with
 | none=>rw[yD all j E];intro e;cases e
 | some o=>rw[ZD E];exact Region.noSelect_spec G j o cs b (ou E)
theorem Qdg {i d:Nat}{rest:xo}{Φ:OY->OX->Prop}{Dc:xp}{f1:Fr}(hF:Fl3 P all C0 K KF i d rest Φ Dc f1)(I:Region.noSelect all.toArray=true){v:OY}:∀(l:xo) (C:xu) (own:LN) (ls:Array Bool) (f:Fr) (w:OX),(∀x,C x->C0 x)->(∀x x',C x->sW x x'->C x')->ls.size=all.length->Xp all d l=true->U9 P all KF l C own f w->C w->Φ v w ->
  (∀b∈ow v,b∉own/\b<↑w)->Y7 all.toArray (l++rest) ls=true->XA P all C K (l++rest).length ls (QO f (some d) v) w
 | [],C,own,ls,f,w,J,hh,S,_,h,hC,T,hb,G=>Yi I rest ls _ w S (.inl hC) G (hF.fin C own f w h v hC J T hb)
 | (j,true)::l,C,own,ls,f,w,J,hh,S,hfr,h,hC,T,hb,G=>by
  simp only[Xp,Oa,oI,Od,List.contains_eq_mem,decide_eq_false_iff_not,beq_eq_false_iff_ne,ne_eq]at hfr;obtain⟨⟨h1,h2⟩,hfr⟩:=hfr;have hl:Xp all d l=true:=by simpa[Xp]using hfr
  have hd:∀e,some d=some e->e∉(QR all j).looksAt all.toArray:=λe U=>by cases U;exact h1
  simp only[o0,Y7,oI]at G;obtain⟨⟨V,hf⟩,hn⟩:=G;have hy:j∈Region.ready .any all.toArray ls:=by simpa using V
  obtain⟨hg,u,hu,hx⟩:=h;cases E:all[j]? with
  | none =>
   exfalso;obtain⟨_,o,h7,_⟩:=mem_ready.1 hy;simp[E]at h7
  | some o =>
   have h8:∀(j:Nat) (o:Oper) cs b,all[j]?=some o->o.op≠.select cs b:=λj o cs b hj=>Region.noSelect_spec I j o cs b (ou hj);have h9:=λk ok hk=>Region.free_spec (ops:=all.toArray) (md:=.any) (i:=j) (oi:=o) (listed:=ls) (ou E) hf k ok (ou hk);have hq:Z3 all (QO f (some d) v) o=true:=by
    have:=VT (QR all j) f (some d) v hd;rw[ZD E]at this hg;rw[this];exact hg
   have hA:∀w',(yc o=true->C w')->(execOp (ev (QO f (some d) v)) o).run P w'=.ok (.value u) w':=λw' hc=>by
    have:=Jy (all:=all) (Qa4 I j) f (some d) v hd;rw[ZD E]at this hu;rw[this];exact hu w' hc
   have hz:=Qdg hF I l C own (ls.setIfInBounds j true) _ w J hh (ou S) hl hx hC T hb hn;rw[<-Uq f v u (λe U=>by cases U;exact h2),ZD E]at hz;exact JW (v:=u) (D:=λw=>yc o=true->C w) E (λ_ h=>h) h8 _ ls _ w (λ_=>hC) h9 hy (.inl ⟨hq,hA⟩) hz
 | (j,false)::l,C,own,ls,f,w,J,hh,S,hfr,h,hC,T,hb,G=>by
  simp only[Xp,Oa,oI,Od,List.contains_eq_mem,decide_eq_false_iff_not,beq_eq_false_iff_ne,ne_eq]at hfr;obtain⟨⟨h1,h2⟩,hfr⟩:=hfr;have hl:Xp all d l=true:=by simpa[Xp]using hfr
  have hd:∀e,some d=some e->e∉(QR all j).looksAt all.toArray:=λe U=>by cases U;exact h1
  simp only[o0,Y7,oI,beq_iff_eq]at G;obtain⟨V,hn⟩:=G;show XA P all C K ((l++rest).length+1) ls _ w;refine JC (λh0=>(by rw[h0]at V;cases V)) ?_;rw[V];intro k hk o E;have hB:k=j:=by simpa using hk
  subst hB;have ht:=ZD E;have hq:Z3 all (QO f (some d) v) o=true:=by
   have:=VT (QR all k) f (some d) v hd;rw[ht]at this;rw[this,<-ht];exact h.1
  rw[hq,cond_true];have Y:=h.2 w (O1.Z _ _) hC;have h4:XO P (QR all k) (QO f (some d) v) w λf' w'=>(KB all k=true\/w'=w\/C w')/\XA P all C K (l++rest).length (ls.setIfInBounds k true) f' w':=by
   refine Qlu (all:=all) (Qa4 I k) h1 h2 (λu w' hx=>?_) Y;obtain⟨C',hw,hD,h5,own',h6,hE,hx⟩:=hx;refine⟨.inr (.inr (hw _ h5)),XA.sub hw _ _ _ _ (Qdg hF I l C' own' _ _ w' (λx hx=>J x (hw x hx)) hD (ou S) hl hx h5 (hF.stab v own w w' T h6 (λb ha=>(hb b ha).1)) (λb ha=>⟨λhm=>?_,LP (hb b ha).2 h6.size⟩) hn)⟩;rcases hE b hm with Y|Y
   ·exact(hb b ha).1 Y
   exact Nat.lt_irrefl _ (LP (hb b ha).2 Y.1)
  rw[ht]at h4;exact h4
theorem Qde {i d:Nat}{rest:xo}{Φ:OY->OX->Prop}{Dc:xp}{f1:Fr}(S:Fl3 P all C0 K KF i d rest Φ Dc f1)(hs:Region.noSelect all.toArray=true)(hg:(QR all i).guard=none)(hd:(QR all i).dst=some d):∀(l:xo) (C:xu) (ls:Array Bool) (own:LN) (f:Fr) (w:OX),(∀x,C x->C0 x)->(∀x x',C x->sW x x'->C x')->ls.size=all.length->Xp all d l=true->Xc all Dc l=true->(∀t,JH Dc t=false->f t=f1 t) ->
  U9 P all KF l C own f w->C w->(∀b∈own,b<↑w)->QcS all.toArray i rest l ls=true->XA P all C K (l.length+1+rest.length) ls f w
 | [],C,ls,own,f,w,T,ha,he,hfr,U,hk1,h,hC,hc,E=>by
  simp only[QcS,oI,beq_iff_eq]at E;obtain⟨Y,E⟩:=E;rw[show([]:xo).length+1+rest.length=rest.length+1 by simp;omega];refine JC (λh0=>(by rw[h0]at Y;cases Y)) ?_;rw[Y];intro k hk o G;have hl:k=i:=by simpa using hk
  subst hl;have hh:=ZD G;have hx:=S.spec f w hk1 (T _ hC);rw[hh]at hg hd hx;rw[zo hg,cond_true];refine hx.Y λv w' hx=>?_;rw[hd]at hx ⊢;obtain⟨V,_,I,h4⟩:=hx;simp only[QO,Xz]at I h4;have J:=ha _ _ hC V;refine⟨.inr (.inr J),Yi hs rest _ _ _ (ou he) (.inl J) E (S.fin C own f w' (S.Y C own f w w' h V) v J T I (λb hb=>⟨λhm=>Nat.lt_irrefl _ (LP (hc b hm) (h4 b hb).1),(h4 b hb).2⟩))⟩
 | (j,true)::l,C,ls,own,f,w,T,ha,he,hfr,U,hk1,h,hC,hc,E=>by
  simp only[QcS,oI]at E;obtain⟨⟨Y,hf⟩,hn⟩:=E;have hw:j∈Region.ready .any all.toArray ls:=by simpa using Y
  have e:(oY ((j,true)::l))+1+rest.length=(l.length+1+rest.length)+1:=by simp;omega
  rw[e];have hq:Xp all d l=true:=by simp only[Xp,Oa,oI]at hfr;exact hfr.2
  simp only[Xc,Oa,oI]at U;have ht:Xc all Dc l=true:=U.2;cases G:all[j]? with
  | none =>
   exfalso;obtain⟨_,o,h7,_⟩:=mem_ready.1 hw;simp[G]at h7
  | some o =>
   obtain⟨hy,v,hv,hx⟩:=h;rw[ZD G]at hy hv hx;have h8:∀(j:Nat) (o:Oper) cs b,all[j]?=some o->o.op≠.select cs b:=λj o cs b hj=>Region.noSelect_spec hs j o cs b (ou hj);have h9:=λk ok hk=>Region.free_spec (ops:=all.toArray) (md:=.any) (i:=j) (oi:=o) (listed:=ls) (ou G) hf k ok (ou hk);exact JW (v:=v) (D:=λw=>yc o=true->C w) G (λ_ h=>h) h8 _ ls f w (λ_=>hC) h9 hw (.inl ⟨hy,hv⟩) (Qde S hs hg hd l C _ own _ w T ha (ou he) hq ht (by have:=zh (v:=v) U.1 hk1;rw[ZD G]at this;exact this) hx hC hc hn)
 | (j,false)::l,C,ls,own,f,w,T,ha,he,hfr,U,hk1,h,hC,hc,E=>by
  simp only[QcS,oI,Og,Bool.or_eq_true,beq_iff_eq,Od]at E;obtain⟨⟨⟨hz,Y⟩,hA⟩,hn⟩:=E;have e:(oY ((j,false)::l))+1+rest.length=(l.length+1+rest.length)+1:=by simp;omega
  rw[e];have hq:Xp all d l=true:=by simp only[Xp,Oa,oI]at hfr;exact hfr.2
  simp only[Xc,Oa,oI]at U;have ht:Xc all Dc l=true:=U.2;refine JC (λh0=>(by rw[h0]at hz;cases hz)) ?_;intro k hk o G;have hh:=ZD G;have h5:(ls.setIfInBounds k true).size=all.length:=by simpa using he
  by_cases hl:k=i
  ·subst hl;have hx:=S.spec f w hk1 (T _ hC);rw[hh]at hg hd hx;rw[zo hg,cond_true];refine hx.Y λv w' hx=>?_;rw[hd]at hx ⊢;obtain⟨V,_,I,h4⟩:=hx;simp only[QO,Xz]at I h4;have J:=ha _ _ hC V;refine⟨.inr (.inr J),?_⟩;have hx:=Qdg S hs ((j,false)::l) C own (ls.setIfInBounds k true) f w' T ha h5 hfr (U9.I S.Y h V) J I (λb hb=>⟨λhm=>Nat.lt_irrefl _ (LP (hc b hm) (h4 b hb).1),(h4 b hb).2⟩) hA;rw[show((j,false)::l++rest).length=l.length+1+rest.length by simp;omega]at hx;exact hx
  have hB:k=j:=(Y k hk).resolve_right hl;subst hB;have V:=h.1;have J:=h.2 w (O1.Z _ _) hC;rw[hh]at V J;rw[V,cond_true];refine J.Y λv w' hx=>?_;obtain⟨C',hu,hD,h6,own',hE,hG,hx⟩:=hx;refine⟨.inr (.inr (hu _ h6)),XA.sub hu _ _ _ _ (Qde S hs hg hd l C' _ own' _ w' (λx hx=>T x (hu x hx)) hD h5 hq ht (by have:=zh (v:=v) U.1 hk1;rw[hh]at this;exact this) hx h6 (λb hb=>?_) hn)⟩;rcases hG b hb with I|I
  ·exact LP (hc b I) hE.size
  exact I.2
theorem U9.keeps {D:xp}{f0:Fr}:∀(l:xo) (C:xu) (own:LN) (f:Fr) (w:OX),Xc all D l=true->(∀t,JH D t=false->f t=f0 t)->U9 P all KF l C own f w->U9 P all (λC' o G w'=>(∀t,JH D t=false->G t=f0 t)/\KF C' o G w') l C own f w
 | [],C,own,f,w,_,E,h=>⟨E,h⟩
 | (j,true)::l,C,own,f,w,hd,E,h=>by
  simp only[Xc,Oa,oI]at hd;obtain⟨I,v,J,hx⟩:=h;exact⟨I,v,J,U9.keeps l C own _ _ hd.2 (zh hd.1 E) hx⟩
 | (j,false)::l,C,own,f,w,hd,E,h=>by
  simp only[Xc,Oa,oI]at hd;refine⟨h.1,λS T U=>XO.Y (λv w' hx=>?_) (h.2 S T U)⟩;obtain⟨C',V,Y,ha,own',he,hh,hx⟩:=hx;exact⟨C',V,Y,ha,own',he,hh,U9.keeps l C' own' _ _ hd.2 (zh hd.1 E) hx⟩
theorem f3p {l:xo}{own:LN}{v:OY}(E:∀w',(execOp (ev f) (QR all j)).run P w'=.ok (.value v) w')(h:U9 P all KF l C own (QO f (QR all j).dst v) w)
  (G:Z3 all f (QR all j)=true:=by rfl):U9 P all KF ((j,true)::l) C own f w:=⟨G,v,λw' _=>E w',h⟩
theorem Qdf (C:xu)(pre l:xo)(i d:Nat)(rest:xo)(own:LN)(D Dc:xp)(S:α->List (Nat×OY))(I:α->xu->LN->OX->Prop)(Φ:OY->OX->Prop)
  (V:QkS all pre l i rest=true) (T:(Xc all D pre && Xc all D l && Xc all Dc l)=true) (hd:(QR all i).dst=some d) (hC:C { w with drawn:=w.drawn+1 }) (ha:∀x x',C x->sW x x'->C x') (hc:∀b∈own,b<↑w)
  (stab:∀v (own:LN) w w',Φ v w->O1 own w w'->(∀b∈ow v,b∉own)->Φ v w') (mono:∀z C own w w',I z C own w->sW w w'->I z C own w')
  (fin:∀z g own w v (C':xu),I z C' own w->C' w->(∀x,C' x->C x)->Φ v w->(∀b∈ow v,b∉own/\b<↑w)->XP P all C' K rest (QO (Vc (S z) (mix D f g)) (some d) v) w)
  (h:XP P all C (λf1 _=>(∀g w,C w->XO P (QR all i) (mix Dc f1 g) w λE w'=>sW w w'/\C w'/\Φ (E d) w'/\∀b∈ow (E d),↑w<=b/\b<↑w')/\U9 P all (λC' o E w'=>∃z,YW E (S z)/\I z C' o w') l C own f1 { w with drawn:=w.drawn+1 }) pre f { w with drawn:=w.drawn+1 }):XA P all C K all.length (oP all.length false) f { w with drawn:=w.drawn+1 }:=by
 rw[LB,LB]at T;simp only[QkS,oI,beq_iff_eq,Option.isNone_iff_eq_none]at V;obtain⟨⟨⟨⟨⟨G,hl⟩,hq⟩,he⟩,hg⟩,hfr⟩:=V;rw[hd]at hfr;have Y:=Yx (K:=K) (m:=l.length+1+rest.length) G pre (oP all.length false) f _ hC hq
  (B:=λf1 _=>Fl3 P all C K (λC' o E w'=>(∀t,JH D t=false->E t=f t)/\∃z,YW E (S z)/\I z C' o w') i d rest Φ Dc f1/\U9 P all (λC' o E w'=>(∀t,JH D t=false->E t=f t)/\∃z,YW E (S z)/\I z C' o w') l C own f1 { w with drawn:=w.drawn+1 })
  (λf1 hB=>Qde hB.1 G hg hd l C (ZO pre (oP all.length false)) own f1 _ (λ_ h=>h) ha (by rw[YB];simp) hfr T.2 (λ_ _=>rfl) hB.2 hC hc he)
  (XP.keeps_mono _ _ _ (XP.keeps pre f _ T.1.1 (λ_ _=>O) h) (λf1 w1 hx=>⟨⟨stab,?_,?_,?_⟩,U9.keeps l C own _ _ T.1.2 hx.1 hx.2.2⟩))
 ·rw[hl]at Y;exact Y
 ·intro E w' J U;have:=hx.2.1 E w' U;rw[Ky J]at this;exact this
 ·rintro C' o E w' ⟨J,z,G,hi⟩ v U hf hv hb;have:=fin z E o w' v C' hi U hf hv hb;rw[Ky J,Xl G]at this;exact this
 rintro C' o E w' hj ⟨J,z,G,hi⟩ hh;exact⟨J,z,G,mono z C' o _ _ hi hh⟩
theorem f2k {l:xo}{own:LN}(h:∀E,sW w E->C E->XO P (QR all j) f E λI w'=>C w'/\∃own',O1 own E w'/\(∀b∈own',b∈own\/(↑E<=b/\b<↑w'))/\U9 P all KF l C own' I w')
  (J:Z3 all f (QR all j)=true:=by rfl) (S:∀x x',C x->sW x x'->C x':=by exact λ_ _ G T=>G.D T):U9 P all KF ((j,false)::l) C own f w :=
 ⟨J,λE G U=>XO.Y (λ_ _ hx=>⟨C,λ_ h=>h,S,hx⟩) (h E G U)⟩
theorem f2e {own:LN}{S:α->List (Nat×OY)}{I:α->LN->OX->Prop}(h:∃z,YW f (S z)/\I z own w):U9 P all (λC' o E w'=>∃z,YW E (S z)/\(C'=C/\I z o w')) [] C own f w :=
 let⟨z,a,b⟩:=h
 ⟨z,a,O,b⟩
theorem Vp (C:xu)(pre l:xo)(i d:Nat)(rest:xo)(own:LN)(D Dc:xp)(S:α->List (Nat×OY))(I:α->LN->OX->Prop)(Φ:OY->OX->Prop)
  (G:QkS all pre l i rest=true) (J:(Xc all D pre && Xc all D l && Xc all Dc l)=true) (hd:(QR all i).dst=some d) (hC:C { w with drawn:=w.drawn+1 }) (T:∀b∈own,b<↑w)
  (stab:∀v (own:LN) w w',Φ v w->O1 own w w'->(∀b∈ow v,b∉own)->Φ v w') (mono:∀z own w w',I z own w->sW w w'->I z own w')
  (fin:∀z g own w v,I z own w->C w->Φ v w->(∀b∈ow v,b∉own/\b<↑w)->XP P all C K rest (QO (Vc (S z) (mix D f g)) (some d) v) w)
  (h:XP P all C (λf1 _=>(∀g w,C w->XO P (QR all i) (mix Dc f1 g) w λE w'=>sW w w'/\C w'/\Φ (E d) w'/\∀b∈ow (E d),↑w<=b/\b<↑w')/\U9 P all (λC' o E w'=>∃z,YW E (S z)/\(C'=C/\I z o w')) l C own f1 { w with drawn:=w.drawn+1 }) pre f { w with drawn:=w.drawn+1 })
  (U:∀x x',C x->sW x x'->C x':=by exact λ_ _ V Y=>V.D Y):XA P all C K all.length (oP all.length false) f { w with drawn:=w.drawn+1 }:=
 Qdf C pre l i d rest own D Dc S (λz C' o w=>C'=C/\I z o w) Φ G J hd hC U T stab (λz _ o w w' h hs=>⟨h.1,mono z o w w' h.2 hs⟩)
  (λz g o w v C' h ha _ hv hb=>by obtain⟨rfl,hi⟩:=h;exact fin z g o w v hi ha hv hb) h
theorem QfJ {Q:Exit->Fr->OX->Prop}(C:xu)(pre l:xo)(i d:Nat)(rest:xo)(own:LN)(D Dc:xp)(S:α->List (Nat×OY))(I:α->LN->OX->Prop)(Φ:OY->OX->Prop)(G:P.follows .mixedOrders=true)(J:Xf n all=true)
  (T:QkS all pre l i rest=true) (U:(Xc all D pre && Xc all D l && Xc all Dc l)=true) (hd:(QR all i).dst=some d) (hC:C { w with drawn:=w.drawn+1 }) (V:∀b∈own,b<↑w)
  (stab:∀v (own:LN) w w',Φ v w->O1 own w w'->(∀b∈ow v,b∉own)->Φ v w') (mono:∀z own w w',I z own w->sW w w'->I z own w')
  (fin:∀z g own w v,I z own w->C w->Φ v w->(∀b∈ow v,b∉own/\b<↑w)->XP P all C (λf w=>Q .normal f w) rest (QO (Vc (S z) (mix D f g)) (some d) v) w)
  (h:XP P all C (λf1 _=>(∀g w,C w->XO P (QR all i) (mix Dc f1 g) w λE w'=>sW w w'/\C w'/\Φ (E d) w'/\∀b∈ow (E d),↑w<=b/\b<↑w')/\U9 P all (λC' o E w'=>∃z,YW E (S z)/\(C'=C/\I z o w')) l C own f1 { w with drawn:=w.drawn+1 }) pre f { w with drawn:=w.drawn+1 })
  (Y:∀x x',C x->sW x x'->C x':=by exact λ_ _ h1 h2=>h1.D h2):W P n (.region id all.toArray true) Q f w :=
 Jj C G J (Vp C pre l i d rest own D Dc S I Φ T U hd hC V stab mono fin h Y)
end
attribute [irreducible] U9
abbrev Jo:LV:=[nS,nS,nS,nS,nS]
abbrev U5:LV:=[nS,sS 0,nS,nS]
theorem X2 {a:Array UInt8}(h:a.size<=100):(⟨a⟩:ByteArray).size<=9223372036854775807:=by
 show a.size<=_;omega
def rgB (N M:Nat):LN:=(oK M).filter λb=>decide (N<=b)
theorem VN {b:Nat}:b∈rgB N M↔N<=b/\b<M:=by
 unfold rgB;rw[LS,MD,decide_eq_true_iff];exact And.comm
instance:Bw sV 89 [nS,sS 0,nS,nS,nS,nS,nS,nS] [(0,4),(4,1),(5,1),(6,1),(7,1)]:={}
def spF (c:Yl)(pl:QF)(ps:List (LI))(l:List (LI)):List Rsn:=l.zipIdx.filterMap (λp=>rsn c pl (plx ps (p.1.take c.co.length)) p.2 p.1)
theorem Qgu {c:Yl}{pl:QF}{ps:List (LI)}{l:List (LI)}{k:Nat}(h:k<l.length):spF c pl ps (l.take (k+1))=spF c pl ps (l.take k)++(rsn c pl (plx ps ((l[k]'h).take c.co.length)) k (l[k]'h)).toList:=by
 unfold spF;rw[Lh h,List.zipIdx_append,List.filterMap_append];have e:0+(l.take k).length=k:=by rw[LA];omega
 rw[e];simp only[List.zipIdx_cons,List.zipIdx_nil,List.filterMap_cons,List.filterMap_nil];cases rsn c pl (plx ps ((l[k]'h).take c.co.length)) k (l[k]'h) <;> rfl
theorem QdH (c:Yl)(pl:QF)(ps:List (LI))(l:List (LI)):(spF c pl ps l).length<=l.length:=by
 unfold spF;refine Lx (List.length_filterMap_le _ _) ?_;rw[List.length_zipIdx];exact Lp _
theorem Qcp {c:Yl}{pl sa:QF}{ps ts:List (LI)}(E:xd (O3 c.co)=some (pl,ps))(G:xd (O3 c.co++O3 c.rq)=some (sa,ts)):
  spc c=⟨sa,ts.map (·.take c.co.length),ts.map (·.drop c.co.length),ts.map (λt=>plx ps (t.take c.co.length)),spF c pl ps ts⟩:=by
 unfold spc Kq syQ;rw[E,G];simp only[];rw[yv];simp[spF]
theorem QiK {s:List ByteArray}{x:Kp}(h:YG n u s x=0):x.a.st≠0:=by
 unfold YG at h;split at h
 ·cases h
 split at h
 ·cases h
 split at h
 ·rename_i G E;exact OS h E
 split at h
 ·cases h
 split at h
 ·cases h
 assumption
theorem QbK {n:Nat}{al:LI}:∀{l:List Kp}{s:List ByteArray}{u:LI},(YU n al s u l).1=0->∀x∈l,x.a.st≠0
 | [],_,_,_,x,hx=>by cases hx
 | y::l,s,u,h,x,hx=>by
  rw[Vk]at h;by_cases E:YG n al s y≠0
  ·rw[OQ E]at h;exact OS h E
  rw[OP E]at h;have G:YG n al s y=0:=Lr.1 E;rcases Ll.1 hx with rfl|hx
  ·exact QiK G
  exact QbK h x hx
theorem QiL {c:Yl}(h:ZW c=0):∀x∈c.co,x.a.st≠0:=by
 unfold ZW at h;by_cases E:Xr c.ev≠0
 ·rw[OQ E]at h;exact OS h E
 rw[OP E]at h;by_cases I:c.co.length=0
 ·rw[OQ I]at h;cases h
 rw[OP I]at h;by_cases J:8<c.co.length\/12<c.co.length+c.rq.length
 ·rw[OQ J]at h;cases h
 rw[OP J]at h;by_cases G:(YU c.ev.length (UO c.ev.length) [] [] c.co).1≠0
 ·rw[OQ G]at h;exact OS h G
 exact QbK (Lr.1 G)
theorem Qa1 {c:Yl}(h:ZW c=0){A:QF}{Q:List (LI)}(T:xd (O3 c.co)=some (A,Q)):Zb A/\A.st=(Q.length:Int)/\0<Q.length/\∀e∈A.al,0<=e/\e<(c.ev.length:Int):=by
 have G:=Yr h;have I:=YL G.co;have hsp:=Xb I T;refine⟨hsp.1.okay I,hsp.1.st,?_,λe S=>?_⟩
 ·refine Nat.pos_of_ne_zero λU=>?_;obtain⟨a,J,E⟩:=hsp.2.1 U;obtain⟨x,hx,rfl⟩:=Lz.1 J;exact QiL h x hx E
 rw[hsp.1.al]at S;obtain⟨a,J,E⟩:=(Qen I e).1 S;obtain⟨x,hx,rfl⟩:=Lz.1 J;exact⟨((G.co x hx).al e E).1,G.ce x hx e E⟩
theorem QgS {Q:List (LI)}(h:0<Q.length)(t:LI):0<=plx Q t/\plx Q t<(Q.length:Int):=by
 unfold plx;split
 ·rename_i E;have:=MG E;omega
 omega
theorem Vt.take {a b:List QF}{t:LI}(h:Vt (a++b) t):Vt a (t.take a.length):=by
 have E:=h.1;rw[Lc]at E;refine⟨by rw[LA];omega,λi I G=>?_⟩;have:=h.2 i oa (by rw[Lc];omega);rw[Mi G]at this;rw[MZ];exact this
theorem Vt.drop {a b:List QF}{t:LI}(h:Vt (a++b) t):Vt b (t.drop a.length):=by
 have E:=h.1;rw[Lc]at E;refine⟨by rw[Mf];omega,λi G I=>?_⟩;have:=h.2 (a.length+i) oa (by rw[Lc];omega);rw[M8 oa]at this;rw[List.getElem_drop];simpa using this
theorem Vt.tpOk {l:List Kp}{t:LI}(h:Vt (O3 l) t):Qlw (szs l) t:=by
 have E:=h.1;unfold O3 at E;rw[Lj]at E;refine⟨by unfold szs;rw[Lj];exact E,λi hi=>?_⟩;have G:=h.2 i hi (by unfold O3;rw[Lj];omega);have I:i<(szs l).length:=by unfold szs;rw[Lj];omega
 rw[<-Zu hi,<-Zu I];unfold O3 szs at *;simpa using G
theorem JX.add {W I J S:OX}{U V Y E c0 c1 c2 c3:OY}{cos rqs:List TV}{pls:LI}{fbs:List Rsn}{q:Rsn}(hB:QK ↑W G T [c0,c1,c2,c3,U,V,Y,E])(hS:JX base W U V Y E cos rqs pls fbs)(ha:G<base)(h1:sW W I)
  (ho:J.ownsRow base 173 4 v' (fbs.length+1) (fbs.flatMap ZZ++ZZ q)) (h2:O1 (ob E) I J) (hn:∀b∈ob v',b∈ob E\/↑I<=b) (h3:O1 [G] J S):
  O1 (G::ob E) W S/\JX base S U V Y v' cos rqs pls (fbs++[q])/\(∀x∈G::ob E,∃o:Obj,W.heap[x]?=some o/\o.isCells=true):=by
 refine⟨((h1.any).Q (h2.Y λx hx=>Lm _ hx)).Q (h3.Y λx hx=>?_),(hS.a4 h1 ho h2 hn).low h3 (λx hx=>?_),λx hx=>?_⟩
 ·simp only[oF]at hx;subst hx;exact Lo
 ·simp only[oF]at hx;subst hx;exact ha
 rcases Ll.1 hx with rfl|hx
 ·exact hB.cells
 exact Go.Lg.Q3 hS.o4 x hx
theorem zU (h0:ZV L ↑w c)(mv:Kb w 4096):
  QT sV 31 [c.val] w λr w'=>sW w w'/\∃v,r=.tuple #[v,sS (Y2 c.V)]/\(∃us,v=sT us/\us.length=8/\ZH us)/\(Y2 c.V=0->Qqc ↑w ↑w' v (spc c.V)):=by
 have h:=h0.up (L':=[]) od;refine Zf (Y2 c.V) λE hE=>?_;refine QT.of_G 20 func31 O ntmps31 results31 od ?_;refine QQ<|Qx oh oh<|Zd c.cells λb1 w1 hH hb1 mw=>QP [nS,sS 0,nS,nS,nS,nS,nS,nS] λb2 w2 h9 hb2 gy=>Qb ?_;have kg:=hH.D h9;have my:=mw.lt;have kh:=gy.lt;have mz:=mw.I h9;refine QQ<|Qx oh oh<|QY mz O O<|Qw<|(QbO (h.I kg) (mv.I kg)).Y ?_;rintro r3 w3 ⟨h4,vp,rfl,hbad,m0⟩;rw[hE]at hbad m0 ⊢;have m1:=kg.D h4;refine Qa<|QL O O<|QL O O<|x Qd<|Qb<|QQ<|QQ<|Qx oh oh<|Qa<|ZI O O<|xe<|QlA O (λki=>?_) (λki=>?_)
 ·refine QQ<|Qx oh oh<|x (Zq [] Z)<|Qa<|Q0 [nS,sS 0,nS,nS,nS,nS,nS,nS] (gy.I h4) ⟨O,O,O,O,O,O,O,O,Z⟩ λw4 hM hB4=>Qb<|JE ⟨λ_ h=>(by cases h),Ml,[.agg #[nS,sS 0,nS,nS,nS,nS,nS,nS],sS E],λW' hN=>⟨⟨Jm (hB4.I hN),rfl,Z⟩,(m1.O hM oa).D hN,_,rfl,⟨_,rfl,rfl,rfl,rfl,rfl,rfl,rfl,rfl,rfl,rfl,Z⟩,λe=>OS e ki⟩⟩
 have m2:E=0:=Lr.1 ki;obtain⟨b,q,rfl,rfl,hQ,hq,hF3⟩:=m0 m2;refine Z4<|QQ<|Qx oh oh<|Qa<|Z0 O<|Q7 O<|x (ZS (us:=ZG q.s) hq.B O O O)<|x (Zq [(0,ZG q.s)] ⟨O,O,Z⟩)<|QP [nS,sS 0,nS,nS,nS,nS,nS,nS] λI w5 hU kj h5 =>
  Q0 [q.s.va,sS q.s.a.st,q.s.vm,q.s.ve,nS,nS,nS,nS] h5 ⟨hq.s.al.one,O,hq.s.mr.one,hq.s.ed.one,O,O,O,O,Z⟩ λS gz h5=>xe ?_
 have m3:sW w3 S:=hU.O gz kj;have kk:=h5.lt;have m4:=hq.I m3;have hz3:=h4.size;refine QQ<|QQ<|Qx oh oh<|Qa<|Z0 O<|Qr O m4.B O O<|QG m4.ts.arr O<|Qa<|xe ?_;have m5:=(qh (λa ha=>by
  rcases Le.1 ha with ha|ha
  ·exact YL (Yr hQ.ok).co a ha
  exact YL (Yr hQ.ok).rq a ha) hQ.s)
 have kn:=m5.1;have m6:=m5.2;simp only[]at kn m6;have hY:=Yr hQ.ok;have hckc:=hY.c8;have hZ:q.c.V.co.length=q.c.co.length:=Lj ..;have hrel:q.c.V.rq.length=q.c.rq.length:=Lj ..;have hcr:=hY.cr;have hal:(O3 q.c.V.co++O3 q.c.V.rq).length=q.c.co.length+q.c.rq.length:=by rw[Lc];unfold O3;rw[Lj,Lj,hZ,hrel]
 refine Zf (q.ts.map (·.2)) λT hT=>?_;rw[hT]at kn m6;have hTn:q.ts.length=T.length:=by rw[<-hT,Lj]
 refine ZL<|Kf (α:=Nat×(OY×OY×OY×OY)×List TV×List TV×LI) [(7,17),(37,99),(100,118)] (λz=>[(37,sS z.1)]) (λz ds W'=>z.1<=q.ts.length/\O1 [I] S W'/\Kh ↑S ↑W' ds W'/\QK ↑W' I 89 [q.s.va,sS q.s.a.st,q.s.vm,q.s.ve,z.2.1.1,z.2.1.2.1,z.2.1.2.2.1,z.2.1.2.2.2] /\
  JX ↑S W' z.2.1.1 z.2.1.2.1 z.2.1.2.2.1 z.2.1.2.2.2 z.2.2.1 z.2.2.2.1 z.2.2.2.2 (spF q.c.V q.p.a (q.qs.map (·.2)) (T.take z.1))/\z.2.2.1.map (·.2)=(T.take z.1).map (·.take q.c.co.length)/\z.2.2.2.1.map (·.2)=(T.take z.1).map (·.drop q.c.co.length)/\z.2.2.2.2=(T.take z.1).map (λt=>plx (q.qs.map (·.2)) (t.take q.c.co.length)))
  (λz=>q.ts.length - z.1) oh (0,(nS,nS,nS,nS),[],[],[]) La
  ⟨Ln _,O1.Z _ _,⟨Ml,λD hD=>by cases hD⟩,h5,JX.nil _ _,rfl,rfl,rfl⟩ ?_
 rintro⟨k,⟨v1,v2,v3,U⟩,cos,rqs,pls⟩ g ds w7 ⟨hk,ko,m7,kp,Y,gh,gi,gj⟩;simp only[]at hk kp Y gh gi gj;have gk:sW w3 w7:=m3.O ko kj;have m8:=m1.D gk;have hz7:=ko.size;have g0:(T.take k).length=k:=by rw[LA];omega
 have hcosl:cos.length=k:=by have:=OR oY gh;rw[Lj,Lj,g0]at this;exact this
 have hrqsl:rqs.length=k:=by have:=OR oY gi;rw[Lj,Lj,g0]at this;exact this
 have hplsl:pls.length=k:=by rw[gj,Lj,g0]
 have m9:=QdH q.c.V q.p.a (q.qs.map (·.2)) (T.take k);rw[g0]at m9;refine Zf (spF q.c.V q.p.a (q.qs.map (·.2)) (T.take k)) λfbs g2=>?_;rw[g2]at Y m9;refine Zf (ob v1++(ob v2++(ob v3++ob U))) λav gl=>?_;have ga:∀x∈av,↑S<=x/\x<w7.heap.size:=λx hx=>by
  rw[<-gl]at hx;rcases Qbb hx with G|G|G|G
  ·exact Qi Y.o1 x G
  ·exact Qi Y.o2 x G
  ·exact Qi Y.o3 x G
  exact Qi Y.o4 x G
 have g3:I∉av:=λJ=>oo (ga I J).1
 have kq:∀x∈av,x∈I::av:=λx hx=>Lm _ hx;have g4:Jr (I::av) b ↑w7 q:=(hq.up (λx hx=>.inr (by
  rcases Ll.1 hx with rfl|hx
  ·exact kj
  have:=(ga x hx).1;omega))).I gk
 refine QQ<|Qx oh oh<|ZX O O<|xe<|QQ<|V9 O (λpc=>?_) (λpc=>?_)
 ·refine Jl ?_;rw[Lq oa]at gh gi gj g2;have hsp:=Qcp hQ.p hQ.s;rw[hT,hZ,<-gh,<-gi,<-gj,g2]at hsp;have pd:=h4.D gk;refine QQ<|Qx oh oh<|QY kp O O<|Q0 [q.s.va,sS q.s.a.st,q.s.vm,q.s.ve,v1,v2,v3,U] (gy.I pd) ⟨hq.s.al.one,O,hq.s.mr.one,hq.s.ed.one,Qz Y.o1,Qz Y.o2,Qz Y.o3,Qz Y.o4,Z⟩ λw8 g5 hB8=>Qb ?_;have hb2w:b2<S.heap.size:=oa
  have gm:Kh ↑S ↑w7 ds w8:=m7.blk g5 (gy.I pd);have hb2d:b2∉ds:=λJ=>oo (gm.2 b2 J).1
  have hS8:=Y.low g5 (λx hx=>by simp only[oF]at hx;subst hx;exact hb2w);refine JE ⟨λD hD=>(gm.2 D hD).2.2,gm.1,[.agg #[q.s.va,sS q.s.a.st,q.s.vm,q.s.ve,v1,v2,v3,U],sS E],λW' hN=>?_⟩;have g6:Lg.Js [] w8 W':=Lg.Js.nonc hN (λD hD=>⟨_,(gm.2 D hD).2.2,O⟩);have gb:=hN.size;have h6:=hS8.cst g6 gb;refine⟨⟨Jm (hB8.J hN hb2d),OR sS m2.symm,Z⟩,(m8.O g5 oa).S hN (λD hD=>.inr (oo (gm.2 D hD).1)),_,O,⟨_,O,O,hq.s.al.one,O,hq.s.mr.one,hq.s.ed.one,Qz Y.o1,Qz Y.o2,Qz Y.o3,Qz Y.o4,Z⟩,λ_=>?_⟩;have hl9:pls.length<=1099511627776:=oa
  have hl8:fbs.length<=1099511627776:=oa
  rw[hsp];refine⟨q.s.va,q.s.vm,q.s.ve,v1,v2,v3,U,cos,rqs,O,O,O,λL hL=>⟨?_,⟨QN h6.o1 oa (λx hx J=>?_),λp hp=>h6.e1 p hp L (λx hx=>?_)⟩,⟨QN h6.o2 oa (λx hx J=>?_),λp hp=>h6.e2 p hp L (λx hx=>?_)⟩,QN h6.o3 hl9 (λx hx J=>?_),QN h6.o4 hl8 (λx hx J=>?_)⟩⟩
  ·have G:=((hF3 (b2::L) (λx hx=>by
    rcases Ll.1 hx with rfl|hx
    ·exact kh
    have:=hL x hx;omega)).1.I gk).st (g5.Y (λx hx=>by simp only[oF]at hx;subst hx;exact Lo))
   have h2:=G.up (L':=L) (λx hx=>.inl (Lm _ hx));exact⟨h2.al.cst (g6.Y od) gb,h2.mr.cst (g6.Y od) gb,h2.ed.cst (g6.Y od) gb⟩
  ·have:=(Qi h6.o1 x hx).1;have:=hL x J;omega
  ·exact .inl (oo (hL x hx))
  ·have:=(Qi h6.o2 x hx).1;have:=hL x J;omega
  ·exact .inl (oo (hL x hx))
  ·have:=(Qi h6.o3 x hx).1;have:=hL x J;omega
  have:=(Qi h6.o4 x hx).1;have:=hL x J;omega
 have gn:k<q.ts.length:=by have h39:(k:Int)<(q.ts.length:Int):=pc;omega
 have go:k<T.length:=oa
 have pf:=Lk gn;have hTe:T[k]'go=(q.ts[k]'gn).2:=by subst hT;simp
 have hr:=Qgu (c:=q.c.V) (pl:=q.p.a) (ps:=q.qs.map (·.2)) go;have gq:T.take (k+1)=T.take k++[T[k]'go]:=Lh go;have gc:=kn _ (Lk go);rw[g2]at hr;rw[hTe]at hr gq gc;refine Z4<|QeJ (α:=(OY×OY×OY×OY)×List TV×List TV×LI) [(7,17),(38,117)] (λz=>[(37,sS k)]) (λz hO W'=>O1 [I] S W'/\Kh ↑S ↑W' hO W'/\QK ↑W' I 89 [q.s.va,sS q.s.a.st,q.s.vm,q.s.ve,z.1.1,z.1.2.1,z.1.2.2.1,z.1.2.2.2] /\
  JX ↑S W' z.1.1 z.1.2.1 z.1.2.2.1 z.1.2.2.2 z.2.1 z.2.2.1 z.2.2.2 (spF q.c.V q.p.a (q.qs.map (·.2)) (T.take (k+1)))/\z.2.1.map (·.2)=(T.take (k+1)).map (·.take q.c.co.length)/\z.2.2.1.map (·.2)=(T.take (k+1)).map (·.drop q.c.co.length)/\z.2.2.2=(T.take (k+1)).map (λt=>plx (q.qs.map (·.2)) (t.take q.c.co.length))) oh ?_ ?_
 rotate_left
 ·rintro⟨⟨u1,u2,u3,u4⟩,cos',rqs',pls'⟩ g hO W ⟨hsW,hDW,hBW,hSW,G,h2,h3⟩;refine Qx oh oh<|QC O O<|Qa<|xe ?_;exact⟨(k+1,(u1,u2,u3,u4),cos',rqs',pls'),oe,La,gn,hsW,hDW,hBW,hSW,G,h2,h3⟩
 refine ZL<|QQ<|Qx oh oh<|Qa<|O4 (g:=Yz) J2 g4.ts.arr O O gn λa40 pg=>?_;refine Zf (q.ts[k]'gn) λt ht=>?_;rw[ht]at pg pf hr gq gc;have htl:t.2.length=q.c.co.length+q.c.rq.length:=by rw[gc.1,hal]
 refine x (Qq pg O)<|QP [sS 0] λb7 w9 hs9 hb7 hB9=>Qo<|Qv (j:=0) (u:=sS k) hB9 O O og O λw10 hs10 hB10 =>
  Qb ?_
 have kr:sW w7 w10:=hs9.O hs10 hb7;refine QQ<|Qx oh oh<|Qa<|Qa<|Qw<|(QaJ (g4.I kr) ((g4.ts.each t pf).I kr) oa).Y ?_;rintro r11 ph ⟨pj,v9,pn,rfl,hI,h7⟩;refine Qa<|QL O O<|QL O O<|x Qd<|Qb ?_;have kt:=kr.D pj;have ku:=g4.I kt;refine Zf (t.2.take q.c.co.length) λtc hR=>?_;refine Zf (t.2.drop q.c.co.length) λtr gr=>?_;rw[hZ]at hr;rw[hR]at hI hr;rw[gr]at h7;have htcl:tc.length=q.c.co.length:=by rw[<-hR,LA];omega
 have htrl:tr.length=q.c.rq.length:=by rw[<-gr,Mf];omega
 have hbdt:=gc.bd (m:=4096) (λa ha=>by
  rcases Le.1 ha with ha|ha
  ·exact(YL hY.co a ha).st1
  exact(YL hY.rq a ha).st1)
 have po:∀x∈tc,0<=x/\x<4096:=λx hx=>hbdt x (L3 (by rw[hR];exact hx));refine QQ<|Vu (sW ph) [oz 0,oz 1,oz 2,oz 3,oz 4,oA 5,oz 6,oz 7] mixed oh oh oc (O1.C _ _) ?_;refine p Qy<|p (YC O)<|p (QH O)<|pq (λ_ hc=>Qk (ku.B.I hc) O O)<|p Qy<|pk<|xg<|(Qak (hI.I (O1.C _ _)) ((mv.I (m8.D kt)).I (O1.C _ _)) po oa).Y ?_;rintro r12 hf ⟨rfl,hs12⟩;have ge:=(O1.C [] ph).D hs12;refine⟨ge,?_⟩;have pp:(match O6 q.mm (Kn tc)with|some u=>u|none=>sS 0)=sS (plx (q.qs.map (·.2)) tc):=by
  rw[hQ.m tc htcl (λx hx=>(po x hx).1)];unfold plx;by_cases J:tc∈q.qs.map (·.2)
  ·rw[OQ J,OQ J]
  rw[OP J,OP J]
 refine Zf (plx (q.qs.map (·.2)) tc) λpi kv=>?_;rw[kv]at pp hr;refine pq (λ_ hc=>(X1 (k:=Kn tc) (ku.m.I hc) O O).D (OR (λv=>Result.ok (Next.value v) _) pp))<|p ZK<|pe ?_;have gg:=kt.D ge;have hI:=hI.I ge;have h7:=h7.I ge;have h5:=kp.I gg;have gs:=Y.I gg;have hS12d:=gs.I (O1.C [] hf);have hz712:=gg.size;have hzd:({ hf with drawn:=hf.drawn+1 }:OX).heap.size=hf.heap.size:=rfl
 have hC0:O1 av hf { hf with drawn:=hf.drawn+1 }:=O1.C _ _
 have fin:∀{hg hh ho hj hl:OY} {wx wy:OX},O1 av hf wx->JX ↑S wx hg hh ho U (cos++[(hj,tc)]) (rqs++[(hl,tr)]) (pls++[pi]) fbs->O1 [I] wx wy->QK ↑wy I 89 [q.s.va,sS q.s.a.st,q.s.vm,q.s.ve,hg,hh,ho,U] ->
   O1 (I::av) hf wy/\QK ↑wy I 89 [q.s.va,sS q.s.a.st,q.s.vm,q.s.ve,hg,hh,ho,U]/\JX ↑S wy hg hh ho U (cos++[(hj,tc)]) (rqs++[(hl,tr)]) (pls++[pi]) fbs:=λhC hP hs hB =>
  ⟨(hC.Y kq).Q (hs.Y (λx hx=>by simp only[oF]at hx;subst hx;exact Lo)),hB,hP.low hs (λx hx=>by simp only[oF]at hx;subst hx;exact kk)⟩
 have hkl:k<=4096:=oa
 have htr16:tr.length<=16:=oa
 have htc40:tc.length<=1099511627776:=oa
 have htr40:tr.length<=1099511627776:=oa
 have my:cos.length+1<=1099511627776:=oa
 have kh:rqs.length+1<=1099511627776:=oa
 have hl3:pls.length+1<=1099511627776:=oa
 have gt:S.heap.size<=hf.heap.size:=oa
 refine QeJ (α:=OY×OY×OY×OY×OY) [(55,74)] (λ_=>[]) (λz hO w'=>hO=ds/\O1 (I::av) hf w'/\QK ↑w' I 89 [q.s.va,sS q.s.a.st,q.s.vm,q.s.ve,z.1,z.2.1,z.2.2.1,U]/\JX ↑S w' z.1 z.2.1 z.2.2.1 U (cos++[(z.2.2.2.1,tc)]) (rqs++[(z.2.2.2.2,tr)]) (pls++[pi]) fbs) oh ?_ ?_
 ·refine z1 _ mixed oh oh (Vp (α:=OY×OY×OY×OY) (O1 av hf) [oz 0,oz 1,oz 2,oz 6,oz 7,oz 8,oz 12,oz 13,oz 14] [oA 3,oA 4,oA 5,oz 17,oA 9,oA 10,oA 11] 15 70
   [oA 16,oA 18,oz 19,oA 20,oz 21,oA 22] av [(55,74)] [(58,60),(64,66),(72,72)] (λz=>[(60,z.1),(66,z.2.1),(68,v3),(72,.pointer (some ⟨I,4,none⟩))]) (λz _ w'=>O1 av hf w'/\JX ↑S w' z.1 z.2.1 v3 U (cos++[(z.2.2.1,tc)]) (rqs++[(z.2.2.2,tr)]) pls fbs)
   (λv w'=>∃b,v=sL b 1 1/\QK ↑w' b 3 [sS pi]) oc oh O hC0 (λx hx=>LP (ga x hx).2 hz712) ?_ ?_ ?_ ?_)
  ·rintro v own w w' ⟨b,rfl,hB⟩ hs hn;exact⟨b,O,hB.J hs (hn b (by simp[ow]))⟩
  ·rintro z own w w' ⟨G,h2⟩ hs;exact⟨G.D hs,h2.I hs⟩
  ·rintro⟨hg,hh,hj,hl⟩ g own wz v ⟨pt,hP⟩ _ ⟨b15,rfl,g7⟩ _;have hcz:=pt.size;refine pk<|Q2 (news:=[sS pi]) (L:=[]) hP.o3 O O O (g7.at od) om hl3 (Lx gt hcz) λho y1 g8 hH hn1=>?_;have Q1:=JX.a3 (q:=pi) hP (O1.Z [] _) g8 hH hn1;have kw:O1 av hf y1:=pt.Q (hH.Y (λb hb=>by rw[<-gl];exact zl (.inr (.inr (.inl hb)))));refine⟨kw,?_⟩;refine pkk<|Qv (j:=4) (u:=hg) (h5.J kw g3) O O od (Qz Q1.o1) λy2 h9 kx=>p (QH rfl) <|
    pkk<|Qv (j:=5) (u:=hh) kx O O od (Qz Q1.o2) λy3 h4 hB3'=>p (QH rfl) <|
    pkk<|Qv (j:=6) (u:=ho) hB3' O O od (Qz Q1.o3) λy4 hM hB4'=>pe ?_
   exact⟨(hg,hh,ho,hj,hl),Z,O,fin kw Q1 ((h9.Q h4).Q hM) hB4'⟩
  refine p (QH O)<|pq (λ_ hc=>Qk (h5.J hc g3) O O)<|p Qy<|p (QH O)<|pq (λ_ hc=>Qk (h5.J hc g3) O O)<|p Qy <|
   p (QH rfl)<|pq (λ_ hc=>Qk (h5.J hc g3) O O)<|p Qy<|pe ⟨λg wf hCf=>Q5 [[sS pi]] λb wf' pu hbf pw=>⟨pu,hCf.D pu,⟨b,O,pw⟩,λx hx=>?_⟩,?_⟩
  ·have hxe:x=b:=by
    have hx':x∈[b]:=hx;simpa using hx'
   subst hxe;exact⟨hbf,pw.lt⟩
  have pz:∀{X:LN},(∀x∈X,x∈ob v1\/x∈ob v2)->∀x∈X,x∈av:=λhX x hx=>by rw[<-gl];exact zl ((hX x hx).imp id .inl)
  refine f2k λx1 p1 c1=>xg<|(ZT (hI.J c1 kq)).Y ?_;rintro hj y1 ⟨hH,g8⟩;have P1:=hS12d.I p1;refine⟨c1.D hH,av,hH.any,λb hb=>.inl hb,?_⟩;refine f2k λx2 p2 c2=>Yf (us:=[[hj]]) O O og od ⟨xH g8,rfl,Z⟩ λb2' y2 h9 hb2' kx=>⟨c2.D h9,av,h9.any,λb hb=>.inl hb,?_⟩;refine f2k λx3 p3 c3=>?_;have p0:=((hH.D p2).D h9).D p3;have p7:=Qm g8 ((p2.D h9).D p3);refine Q2 (news:=[hj]) (L:=[]) (Qm P1.o1 p0) O O O ((kx.I p3).at od) (λu hu=>by rw[oF]at hu;subst hu;exact Qz p7) my (Lx gt c3.size) λhg y3 ho4 h4 hn3=>?_;have p8:O1 av x3 y3:=h4.Y (pz λx hx=>.inl hx);refine⟨c3.Q p8,av,p8,λb hb=>.inl hb,?_⟩;refine f3p (QH O) ?_;refine f2k λx4 p4 c4=>xg<|(ZT (h7.J c4 kq)).Y ?_;rintro hl y4 ⟨hM,p9⟩;have P3:=(JX.a1 (q:=(hj,tc)) P1 p0 p7 htc40 (Lp _) (Lx gt c1.size) ho4 h4 hn3).I p4;refine⟨c4.D hM,av,hM.any,λb hb=>.inl hb,?_⟩;refine f2k λx5 p5 c5=>Yf (us:=[[hl]]) O O og od ⟨xH p9,rfl,Z⟩ λb5' y5 hU hb5' hB5'=>⟨c5.D hU,av,hU.any,λb hb=>.inl hb,?_⟩;refine f2k λx6 p6 c6=>?_;have qf:=((hM.D p5).D hU).D p6;have qj:=Qm p9 ((p5.D hU).D p6);refine Q2 (news:=[hl]) (L:=[]) (Qm P3.o2 qf) O O O ((hB5'.I p6).at od) (λu hu=>by rw[oF]at hu;subst hu;exact Qz qj) kh (Lx gt c6.size) λhh y6 ho7 gz hn6=>?_;have kz:O1 av x6 y6:=gz.Y (pz λx hx=>.inr hx);refine⟨c6.Q kz,av,kz,λb hb=>.inl hb,?_⟩;exact f2e ⟨(hg,hh,hj,hl),oy,c6.Q kz,(JX.a2 (q:=(hl,tr)) P3 qf qj htr40 (Lp _) (Lx gt c4.size) ho7 gz hn6)⟩
 rintro⟨hg,hh,ho,hj,hl⟩ g hO k0 ⟨rfl,hJ,hB13,hS13⟩;have hz13:=hJ.size;have ql:=(ku.I ge).st hJ;have hI:=hI.st hJ;have h7:=h7.st hJ;have g9:Jr [] b ↑k0 q:=ql.up od;have hcell:∀x∈I::av,∃o:Obj,hf.heap[x]?=some o/\o.isCells=true:=λx hx=>by
  rcases Ll.1 hx with rfl|hx
  ·exact h5.cells
  rw[<-gl]at hx;rcases Qbb hx with G|G|G|G
  ·exact Go.Lg.Q3 gs.o1 x G
  ·exact Go.Lg.Q3 gs.o2 x G
  ·exact Go.Lg.Q3 gs.o3 x G
  exact Go.Lg.Q3 gs.o4 x G
 have hD13:Kh ↑S ↑w7 hO k0:=((m7.up (Lp _)).I gg).J hJ hcell;have hb7n:b7∉I::av:=λJ=>by
  rcases Ll.1 J with G|G
  ·omega
  have:=(ga _ G).2;omega
 have hb1n:b1∉I::av:=λJ=>by
  rcases Ll.1 J with G|G
  ·omega
  have:=(ga _ G).1;omega
 have q0:=((hB10.I pj).I ge).J hJ hb7n;have hB1c:=((mz.I (h4.D gk)).I gg).J hJ hb1n;have hs613:O1 [I] S k0:=(ko.D gg).S hJ (λx hx=>by
  rcases Ll.1 hx with G|G
  ·subst G;exact .inl Lo
  exact .inr (ga x G).1)
 have k4:(cos++[(hj,tc)]).map (·.2)=(T.take (k+1)).map (·.take q.c.co.length):=by rw[gq,Lv,Lv,gh,Nl,Nl,hR]
 have k5:(rqs++[(hl,tr)]).map (·.2)=(T.take (k+1)).map (·.drop q.c.co.length):=by rw[gq,Lv,Lv,gi,Nl,Nl,gr]
 have k6:pls++[pi]=(T.take (k+1)).map (λt=>plx (q.qs.map (·.2)) (t.take q.c.co.length)):=by rw[gq,Lv,gj,Nl,hR,kv]
 have hVc:Vt (O3 q.c.V.co) tc:=by
  have G:=gc.take;rw[show(O3 q.c.V.co).length=q.c.co.length by unfold O3;rw[Lj];exact hZ,hR]at G;exact G
 have hVr:Vt (O3 q.c.V.rq) tr:=by
  have G:=gc.drop;rw[show(O3 q.c.V.co).length=q.c.co.length by unfold O3;rw[Lj];exact hZ,gr]at G;exact G
 have gu:=Qa1 hQ.ok hQ.p;have hpr:=QgS gu.2.2.1 tc;rw[kv,<-gu.2.1]at hpr;have hckp:cks q.p.a pi=0:=by
  unfold cks;rw[OP (by rw[(ZF q.p.a).2 gu.1];decide),OP oa]
 have hvo:=UY g9.k1 g9.k2 g9.k3 (hI.up (L':=[]) od) (by rw[hQ.ex,hQ.cs];exact hY.cd) hVc.tpOk;have hA:rsn q.c.V q.p.a pi k t.2=(match vio q.c.V tc with|some (kd,j)=>some ⟨k,kd,j,-1⟩|none=>match rfd q.c.V tr (Qft q.p.a pi)with|some (j,v)=>some ⟨k,3,j,v⟩|none=>none):=by unfold rsn;rw[hZ,hR,gr];rfl
 rw[Qf7]at hA;rw[hQ.ex,hQ.cs]at hvo;refine Zf (Vx q.c.V.ex q.c.V.cs tc) λV hV=>?_;rw[hV]at hvo hA;refine QQ<|QQ<|Qx oh oh<|Qa<|Z0 O<|Q7 O<|x (ZS (us:=[q.vs,q.vx,q.vk]) g9.B O O O)<|Qa<|Qw<|hvo.Y ?_;rintro r14 k9 ⟨h8,rfl⟩;refine Qa<|QL O O<|QL O O<|QL O O<|QL O O<|x Qd<|x Qd<|x Qd<|Qb ?_;have ka:=hB13.I h8;have hK:=hS13.I h8;have q4:=hD13.I h8;have q5:=hs613.D h8;have hz14:=h8.size;have j1:fbs.length+1<=1099511627776:=oa
 have hb014:S.heap.size<=k9.heap.size:=oa
 have hz714:w7.heap.size<=k9.heap.size:=oa
 refine QQ<|Qx oh oh<|Qa<|xe<|Kg rfl (λma=>?_) (λma=>?_)
 ·rw[OQ ma]at hA;rw[hA]at hr;refine QQ<|Qx oh oh<|Qr O ka O O<|ZA (q0.I h8) O O<|Qa<|Qa<|x (QB ⟨O,O,O,O,Z⟩) <|
   Qo<|Q5 [ZZ ⟨k,V.1,V.2.1,-1⟩] λb93 y1 hF hb93 mc=>?_
  have j2:=hF.size;refine Qo<|Q2 (m:=1) (news:=ZZ ⟨k,V.1,V.2.1,-1⟩) (L:=[]) (Qm hK.o4 hF) O O O (mc.at od) om j1 (Lx hb014 j2) λu4 y2 gv gx mf=>?_;have mg:I∉ob U:=λJ=>oo (Qi hK.o4 _ J).1
  refine Q7 O<|Qo<|Qv (j:=7) (u:=u4) ((ka.I hF).J gx mg) O O od (Qz gv) λy3 mh mj=>xe ?_;have hw:=JX.add (q:=⟨k,V.1,V.2.1,-1⟩) ka hK kk hF gv gx mf mh;refine Jl<|⟨((hg,hh,ho,u4),cos++[(hj,tc)],rqs++[(hl,tr)],pls++[pi]),La,q5.S hw.1 (λx hx=>?_),((q4.J hw.1 hw.2.2).up (Lx hz714 hw.1.size)),mj,?_,k4,k5,k6⟩
  ·rcases Ll.1 hx with G|G
   ·subst G;exact .inl Lo
   exact .inr (Qi hK.o4 x G).1
  simp only[];rw[hr];exact hw.2.1
 rw[OP (by rw[ma];decide)]at hA;refine Z4 ?_;have h7:=h7.I h8;refine QQ<|Qx oh oh<|Qa<|Qa<|Qa<|Qw<|(UQ (b:=b) (st:=pi) (vr:=pn) h7.cells).Y ?_;rintro r15 kb ⟨hG,c1,c2,c3,rfl,hc1,hc2,hc3,hR1,hR2,hR3⟩;refine xe ?_;have hz15:=hG.size;have g7:=ka.I hG;have j3:=hK.I hG;have j4:=q4.I hG;have za:=q5.D hG;refine Zf (wrf q.c.V.rq tr (enb q.p.a pi)) λfl kc=>?_;have z2:∀x∈I::ob U,x∈I::av:=λx hx=>by
  rcases Ll.1 hx with rfl|hx
  ·exact Lo
  exact Lm _ (by rw[<-gl];exact zl (.inr (.inr (.inr hx))))
 have mo:∀x∈I::ob U,x<k9.heap.size:=λx hx=>by
  rcases Ll.1 hx with rfl|hx
  ·omega
  exact(Qi hK.o4 x hx).2
 have z3:Jr (I::ob U) b ↑kb q:=((ql.I h8).I hG).up (λx hx=>.inl (z2 x hx));have hIr15:Qt (I::ob U) ↑kb pn tr:=(h7.I hG).up (λx hx=>.inl (z2 x hx));have hEv:∀p∈fl,0<=p.1/\p.1<(q.c.ev.length:Int):=λp hp=>by
  rw[<-kc]at hp;have G:=(qg.1 hp).1;unfold enb at G;obtain⟨e,he,h2⟩:=Lz.1 G;have h3:=gu.2.2.2 _ (gu.1.ed e (ZC he).1).2.2.1;rw[h2]at h3;exact h3
 refine ZL<|Qb2 (α:={ x:Int×Int // x∈fl }) (I::ob U) oa (capt:=[sP c1,sP c2,sP c3]) O (encs:=λx=>[sS x.1.1,sS x.1.2]) og (λ_=>O)
  (VD hR1 hR2 hR3 (λJ=>oo (mo _ J)) (λJ=>oo (mo _ J)) (λx hx=>oo (mo _ hx)) z3 hIr15 (λx hx=>hY.rq x.it (LG hx)) hVr hckp O kc)
  (λpre W=>(∀y∈pre,(q.c.V.ev.getD y.1.1.toNat ⟨.empty,false,false,false,0⟩).co=true)/\sW kb W) (λpre=>(Z7.pure _).and (Z7.J (Lp _)))
  (λe pre W=>e=.exit 2/\(∃p y,pre=p++[y]/\(∀y∈p,(q.c.V.ev.getD y.1.1.toNat ⟨.empty,false,false,false,0⟩).co=true)/\(q.c.V.ev.getD y.1.1.toNat ⟨.empty,false,false,false,0⟩).co=false /\
   ∃u4,O1 (I::ob U) kb W/\QK ↑W I 89 [q.s.va,sS q.s.a.st,q.s.vm,q.s.ve,hg,hh,ho,u4]/\JX ↑S W hg hh ho u4 (cos++[(hj,tc)]) (rqs++[(hl,tr)]) (pls++[pi]) (fbs++[⟨k,3,y.1.2,y.1.1⟩])/\Kh ↑S ↑w7 hO W))
  (λe pre=>(Z7.pure _).and (Z7.ex λp=>Z7.ex λy=>(Z7.pure _).and ((Z7.pure _).and ((Z7.pure _).and (Z7.ex λu4=>(Z7.J (Lp _)).and (Z7.blk.and ((Z7.cst λW W' h hc hz=>h.cst hc hz).and (Kh.stb oa))))))))
  ⟨λy hy=>(by cases hy),O1.Z _ _⟩
  (λf x f' W=>f'=upd (upd (upd (upd f 100 (sS x.1.1)) 101 (sS x.1.2)) 16 (sS x.1.1)) 17 (sS x.1.2)) (λx f'=>Z7.pure _) ?_ ?_ ?_ ?_
 ·rintro l pre ⟨⟨e,i⟩,he⟩ W hW;refine QQ<|Qx oh oh<|Qb<|Qx oh oh<|Qb<|⟨O,Xy.refl _ _ _,Lg.Js.refl _ _,hW,O⟩
 ·rintro l pre ⟨⟨e,i⟩,he⟩ f' W ⟨ke,hW⟩ rfl _;have hee:=hEv _ he;have hen:e=(e.toNat:Int):=oa
  have kf:e.toNat<q.c.ev.length:=oa
  refine ZL<|QQ<|Qx oh oh<|Q7 O<|x (Qk ((hB1c.I (h8.D hG)).I hW) O O)<|Qa<|O4 (g:=Zv) (i:=e.toNat) Qad (z3.I hW).c.ev.arr O (OR sS hen) kf λa105 z4=>?_;have hge:q.c.V.ev.getD e.toNat ⟨.empty,false,false,false,0⟩=q.c.ev[e.toNat]'kf:=by
   show q.c.ev.getD e.toNat _=_;simp[oO,kf]
  refine Zf (q.c.ev[e.toNat]'kf) λv hv=>?_;rw[hv]at z4 hge;refine x (ZN O)<|x (Qq (z4.fld 1 (.bool v.co) O) O)<|x (Zh O)<|xe<|Kg O (λmq=>?_) (λmq=>?_)
  ·have ms:v.co=false:=by simpa using mq
   have hS:=j3.I hW;have hB:=g7.I hW;have gb:=hW.size;refine QQ<|Qx oh oh<|Qr O hB O O<|x (Qk ((q0.I (h8.D hG)).I hW) O O)<|Qa<|Qa<|x (QB ⟨O,O,O,O,Z⟩) <|
    Qo<|Q5 [ZZ ⟨k,3,i,e⟩] λb93 y1 hF hb93 mc=>?_
   have j2:=hF.size;refine Qo<|Q2 (m:=1) (news:=ZZ ⟨k,3,i,e⟩) (L:=[]) (Qm hS.o4 hF) O O O (mc.at od) om j1 oa λu4 y2 gv gx mf=>?_;have mg:I∉ob U:=λJ=>oo (Qi hK.o4 _ J).1
   refine Q7 O<|Qo<|Qv (j:=7) (u:=u4) ((hB.I hF).J gx mg) O O od (Qz gv) λy3 mh mj=>xe ?_;have hw:=JX.add (q:=⟨k,3,i,e⟩) hB hS kk hF gv gx mf mh;refine Jl ?_;exact⟨Xy.J hw.1 gb (λx hx=>⟨.inl hx,hw.2.2 x hx⟩),O,pre,_,O,ke,by simp only[];rw[hge];exact ms,u4,hW.any.Q hw.1,mj,hw.2.1,(j4.I hW).J hw.1 hw.2.2⟩
  have ms:v.co=true:=by simpa using mq
  refine Z4<|⟨Xy.refl _ _ _,Lg.Js.refl _ _,λy hy=>?_,hW⟩;rcases Le.1 hy with G|G
  ·exact ke y G
  simp only[oF]at G;subst G;simp only[];rw[hge];exact ms
 ·rintro D xs W hD hxs ⟨ke,hW⟩ mt;have mu:rfd q.c.V tr (Qft q.p.a pi)=none:=qN λx hx=>by
   rw[show wrf q.c.V.rq tr (Qft q.p.a pi)=fl from kc,<-hxs]at hx;obtain⟨y,hy,rfl⟩:=Lz.1 hx;exact ke y hy
  rw[mu]at hA;rw[hA]at hr;refine⟨((hg,hh,ho,U),cos++[(hj,tc)],rqs++[(hl,tr)],pls++[pi]),La,za.D hW,(j4.I hW).cons oa oa mt,g7.I hW,?_,k4,k5,k6⟩;simp only[];rw[hr];simpa using(j3.I hW)
 rintro D e pre W hD hSp ⟨rfl,p,y,rfl,hp,hy,u4,hst,hBu,hSu,hDu⟩ mt _;have mu:rfd q.c.V tr (Qft q.p.a pi)=some (y.1.2,y.1.1):=by
  obtain⟨rs,z5⟩:=hSp;rw[Lv]at z5;refine qM (x:=y.1) (t:=rs) (p:=p.map (·.1)) ?_ (λz hz=>?_) hy
  ·exact(show wrf q.c.V.rq tr (Qft q.p.a pi)=fl from kc).D (z5.symm.D od)
  obtain⟨z',hz',rfl⟩:=Lz.1 hz;exact hp z' hz'
 rw[mu]at hA;rw[hA]at hr;refine⟨((hg,hh,ho,u4),cos++[(hj,tc)],rqs++[(hl,tr)],pls++[pi]),La,za.S hst (λx hx=>?_),hDu.cons oa oa mt,hBu,?_,k4,k5,k6⟩
 ·rcases Ll.1 hx with G|G
  ·subst G;exact .inl Lo
  exact .inr (Qi hK.o4 x G).1
 simp only[];rw[hr];exact hSu
section
theorem qX [h1:Xt P t]{x:OZ}{b:Nat}{l:List Bool}{u:Bool}(E:QK ↑w b T (l.map Value.bool))(hx:ev f x=.pointer (some ⟨b,0+i*1,none⟩))(G:ev f y=.bool u)(hi:i<l.length)
  (hK:∀w',O1 [b] w w'->QK ↑w' b T ((l.set i u).map Value.bool)->K (QO f d undef) w'):XO P ⟨d,.store t x y,ty,pS,af,gd⟩ f w K:=by
 refine Qv E hx G (ou hi) rfl λw' I J=>hK w' I ?_;rw[Nr];simpa using J
theorem Jw [Xt P t]{x:OZ}{b:Nat}{l:List Bool}(h:QK ↑w b T (l.map Value.bool))(hx:ev f x=.pointer (some ⟨b,0+i*1,none⟩))(hi:i<l.length):
  (execOp (ev f) ⟨d,.load t x,ty,pS,af,gd⟩).run P w=.ok (.value (.bool (l[i]'hi))) w:=Qk h hx (by simp[hi])
variable {C:xu}{pl:xo}
theorem pqB {b:Bool}(E:∀w',C w'->(execOp (ev f) (QR ops i)).run P w'=.ok (.value (.bool b)) w')(I:b=true->XP P ops C K pl (QO f (QR ops i).dst (.bool true)) w)(J:b=false->XP P ops C K pl (QO f (QR ops i).dst (.bool false)) w)
  (hd:yc (QR ops i)=true:=by rfl) (G:Z3 ops f (QR ops i)=true:=by rfl):XP P ops C K ((i,true)::pl) f w:=by
 cases hb:b with
 | true=>rw[hb]at E;exact pq E (I hb) hd G
 | false=>rw[hb]at E;exact pq E (J hb) hd G
end
def bA (n:Nat)(g:Nat->Bool):List Bool:=(oK n).map g
theorem QnE (n:Nat)(g:Nat->Bool):(bA n g).length=n:=by simp[bA]
theorem QnD {g E:Nat->Bool}{u:Bool}(G:u=E i)(h:∀j,j<n->j≠i->E j=g j):(bA n g).set i u=bA n E:=by
 apply LZ
 ·simp[bA]
 intro k S I;rw[Nj];have J:k<n:=by simpa[bA]using I
 by_cases e:i=k
 ·rw[OQ e,G,e];simp[bA]
 rw[OP e];have:=h k J (λe'=>e e'.symm);simp[bA,this]
theorem Qlo (n:Nat):(oG n (Value.bool false).cells.toList).flatten=(bA n (λi=>decide (i<0))).map Value.bool:=by
 apply LZ
 ·simp[Value.cells,bA]
 intro i E G;simp[Value.cells,bA]
theorem Uv {l:Lf}(h:s.toNat<l.length):l[s.toNat]'h=lft l s:=by unfold lft;simp[oO,h]
theorem Qkr (n:Nat)(fb:LI):(lf0 n fb).length=n:=by unfold lf0;rw[zB];simp
instance:Bw sV 327 [nS,sS 0,nS,nS,nS,.map none,nS] [(0,4),(4,1),(5,1),(6,1)]:={}
structure Pz where
 va:OY
 vm:OY
 ve:OY
 a:QF
 vu:OY
 unc:LI
 mb:Nat
 mm:List (Int×OY)
 bl:Nat
 n:Nat
 rv:Nat->OY
abbrev Pz.cells (p:Pz):LV:=[p.va,sS p.a.st,p.vm,p.ve,p.vu,.map (some p.mb),.slice (some ⟨p.bl,0,none⟩) p.n p.n]
structure PzA (L:LN)(H:xw)(bp:Nat)(p:Pz):Prop where
 B:QK H bp 327 p.cells
 bL:bp∉L
 a:Zr L H p.va p.vm p.ve p.a
 u:Qt L H p.vu p.unc
 M:ZP Xm H p.mb p.mm
 mL:p.mb∉L
 g:∀s,s<p.n->(match O6 p.mm ((s:Nat):Int)with|some u=>u|none=>nS)=p.rv s
 R:∀s,s<p.n->Qt L H (p.rv s) (YR p.a.ed s)
theorem PzA.I {L:LN}{w w':OX}{bp:Nat}{p:Pz}(h:PzA L ↑w bp p)(E:sW w w'):PzA L ↑w' bp p:=⟨h.B.I E,h.bL,h.a.I E,h.u.I E,h.M.I E,h.mL,h.g,λs G=>(h.R s G).I E⟩
theorem PzA.st {L:LN}{w w':OX}{bp:Nat}{p:Pz}(h:PzA L ↑w bp p)(E:O1 L w w'):PzA L ↑w' bp p:=⟨h.B.J E h.bL,h.bL,h.a.st E,h.u.st E,h.M.J E h.mL,h.mL,h.g,λs G=>(h.R s G).st E⟩
theorem PzA.up {L L':LN}{H:xw}{bp:Nat}{p:Pz}(h:PzA L H bp p)(E:∀b∈L',b∈L\/H.size<=b):PzA L' H bp p :=
 ⟨h.B,λI=>by rcases E _ I with G|G;exact h.bL G;have:=h.B.lt;omega,h.a.up E,h.u.up E,h.M,λI=>by rcases E _ I with G|G;exact h.mL G;have:=h.M.lt;omega,h.g,λs J=>(h.R s J).up E⟩
structure PzQ (p:Pz):Prop where
 ok:Zb p.a
 n:p.a.st=(p.n:Int)
def stP (N n:Nat):Nat->OY->OX->Prop
 | 2,v,w=>∃b,v=.map (some b)/\N<=b/\ZP Xm ↑w b []
 | _,v,w=>∃b,v=.slice (some ⟨b,0,none⟩) n n/\N<=b/\QK ↑w b 4 ((bA n (λi=>decide (i<0))).map Value.bool)
theorem QjF {v:OY}:∀{i:Nat},stP N n i v w->sW w w'->stP N n i v w'
 | 0,⟨b,E,G,I⟩,J|1,⟨b,E,G,I⟩,J|_+3,⟨b,E,G,I⟩,J=>⟨b,E,G,I.I J⟩
 | 2,⟨b,E,G,I⟩,J=>⟨b,E,G,I.I J⟩
theorem Qgr {rm unc:LI}(h:Zr [] ↑w va vm ve a)(hC:Zb a)(hn:a.st=(n:Int))(hr:Qt [] ↑w vr rm)(gn:∀x∈rm,0<=x/\x<a.st)(hu:Qt [] ↑w vu unc):
  QT sV 222 [.agg #[va,sS a.st,vm,ve],vr,vu] w λr w'=>sW w w'/\∃bp p,r=sP bp/\p.a=a/\p.unc=unc/\p.n=n/\↑w<=p.bl/\PzA [p.bl] ↑w' bp p/\QK ↑w' p.bl 4 ((lf0 n rm).map Value.bool):=by
 have ko:=hC.st1;have kp:=hC.ed_le;have kq:=hr.le;refine Zn func222 ?_;refine Qc<|Zd [va,sS a.st,vm,ve] λb3 I hf kr hw=>Qb ?_;have kt:=hw.lt;refine QV (α:=Nat×Nat×Nat) [(7,7),(13,20)] (λz=>[(7,.pointer (some ⟨z.1,0,none⟩))]) (λz w'=>sW I w'/\QK ↑w' z.1 327 [va,sS a.st,vm,ve,vu,.map (some z.2.1),.slice (some ⟨z.2.2,0,none⟩) n n] /\
  ZP Xm ↑w' z.2.1 []/\QK ↑w' z.2.2 4 ((bA n (λi=>decide (i<0))).map Value.bool)/\↑I<=z.1/\↑I<=z.2.1/\↑I<=z.2.2/\z.1≠z.2.1/\z.1≠z.2.2/\z.2.1≠z.2.2) oh ?_ ?_
 ·have go:sW I { I with drawn:=I.drawn+1 }:=O1.C _ _
  refine KJ (α:=Nat×Nat) (sW I) [oz 0,oz 1,oz 3,oz 4] (λ_=>[]) [2,5] [oz 6,oA 7,oz 8] [(15,15),(18,18)] (stP ↑I n) (λz=>[(15,.map (some z.1)),(18,.slice (some ⟨z.2,0,none⟩) n n)])
   (λz w'=>ZP Xm ↑w' z.1 []/\QK ↑w' z.2 4 ((bA n (λi=>decide (i<0))).map Value.bool)/\↑I<=z.1/\↑I<=z.2/\z.1≠z.2) mixed oh oc go (λ_ _ h1 h2=>h1.D h2) (λ_ _ _ _ h T=>QjF h T) ?_ ?_
  ·rintro g w' ⟨⟨b,e1,h1,h2⟩,⟨c,e2,h3,h4⟩,_⟩ gq;have d1:=gq 2 od 5 od og;rw[e1,e2]at d1;simp only[ow,oF,forall_eq]at d1;exact⟨(b,c),⟨e1,e2,Z⟩,h2,h4,h1,h3,d1⟩
  refine pq (λ_ E=>Zj (hw.I E) O O)<|p Qy<|p (QH O)<|pq (λ_ E=>Qk (hw.I E) O O)<|pe ⟨⟨λg w' E _=>?_,λg w' E _=>?_,Z⟩,?_⟩
  ·exact ZU Xm λbm w2 gr hg hQ=>⟨gr,⟨bm,O,Lx E.size hg,hQ⟩,λx hx=>by rw[Lb.1 (show x∈[bm] from hx)];exact⟨hg,hQ.lt⟩⟩
  ·exact YP (n:=n) (OR sS hn) (OR sS hn) oa λbl w3 hp hh hB=>⟨hp,⟨bl,O,Lx E.size hh,by rw[Qlo]at hB;exact hB⟩,λx hx=>by rw[Lb.1 (show x∈[bl] from hx)];exact⟨hh,hB.lt⟩⟩
  rintro⟨bm,bl⟩ g w3 hp ⟨hM,hB,hg,hh,gs⟩;refine p (λ_=>Zq [(0,[va,sS a.st,vm,ve]),(1,[vu]),(2,[.map (some bm)]),(3,[sL bl n n])] ⟨O,O,hu.cells,O,O,O,O,O,Z⟩)<|pk <|
   UR (us:=[va,sS a.st,vm,ve,vu,.map (some bm),sL bl n n]) O λbp w4 J hD V=>⟨hp.D J,p ZK<|pe ?_⟩
  have hz:=hp.size;have h1:=hM.lt;have h2:=hB.lt;exact⟨(bp,bm,bl),La,hp.D J,V,hM.I J,hB.I J,Lx hz hD,hg,hh,oe,oe,gs⟩
 rintro⟨bp,bm,bl⟩ g w4 ⟨J,V,hE,hF,hD,hg,hh,hR,hS,hG⟩;simp only[]at V hE hF hD hg hh hR hS hG;have ku:=V.lt;have kv:=hE.lt;have gt:=hf.D J;have hy:bp∉[bl]:=by simpa using hS
 have hT:bm∉[bl]:=by simpa using hG
 refine Qe<|Ql<|Z0 O<|Qr O V O O<|QG (L:=[]) (hF.arr od (n:=n) (cap:=n) (sz:=1) (by simp[bA]) oa (Lp _)) rfl<|Qa<|xe<|QW (α:=Nat) [(8,8),(26,35)] (λz=>[(26,sS z)]) (λz w'=>z<=n/\O1 [bl] w4 w'/\QK ↑w' bl 4 ((bA n (λi=>decide (i<z))).map Value.bool)) (λz=>n - z) 0 La ⟨Ln _,O1.Z _ _,hF⟩ ?_;rintro k g w5 ⟨hk,h0,hH⟩;refine Zi rfl O (λhU=>?_) (λhU=>?_)
 ·refine Qu ?_;have gu:bA n (λi=>decide (i<k))=(rm.take 0).foldl cut (oG n true):=by
   apply LZ
   ·simp[bA]
   intro i h1 h2;have:i<n:=by simpa[bA]using h1
   simp[bA];omega
  rw[gu]at hH;have hV:Qt [bl] ↑I vr rm:=(hr.I hf).up (λb hb=>.inr (by simp only[oF]at hb;omega));have gv:Zr [bl] ↑I va vm ve a:=(h.I hf).up (λb hb=>.inr (by simp only[oF]at hb;omega));refine Qe<|Ql<|QG ((hV.I J).st h0) O<|Qa<|xe<|QW (α:=Nat) [(10,10),(38,48)] (λz=>[(38,sS z)]) (λz w'=>z<=rm.length/\O1 [bl] w4 w'/\QK ↑w' bl 4 (((rm.take z).foldl cut (oG n true)).map Value.bool)) (λz=>rm.length - z) 0 La ⟨Ln _,h0,hH⟩ ?_;rintro j g w6 ⟨hj,G,Y⟩;refine Zi O O (λhI=>?_) (λhI=>?_)
  ·refine Qu ?_;have gx:rm.length<=j:=by have h5:¬(j:Int)<(rm.length:Int):=hI;omega
   rw[Lq gx]at Y;have hW:=V.J G hy;have gy:=hE.J G hT;have kw:=Y.lt;refine Qe<|Qc<|Qr O ((hw.I J).J G ol) O O<|QG ((gv.I J).st G).ed O<|Qa<|xe ?_;have kx:=G.size;refine QW (α:=Nat×(Nat->OY)×List (Int×OY)) [(12,12),(52,73)] (λz=>[(52,sS z.1)]) (λz w'=>z.1<=a.ed.length/\O1 [bm] w6 w'/\ZP Xm ↑w' bm z.2.2/\K8 ↑w6 w' n z.2.1 (YR (a.ed.take z.1))/\∀s,s<n->(match O6 z.2.2 ((s:Nat):Int)with|some u=>u|none=>nS)=z.2.1 s) (λz=>a.ed.length - z.1) (0,λ_=>nS,[]) ⟨rfl,Z⟩
    ⟨Ln _,O1.Z _ _,gy,⟨λi _=>QM _ _ _ _,λi j _ _ _=>Dj.nil _⟩,λs _=>O⟩ ?_
   rintro⟨i,rv,m⟩ g w7 ⟨hi,S,hJ,ha,h6⟩;simp only[]at hi hJ ha h6;have kz:=S.size;have hX:bp∉[bm]:=by simpa using hR
   have gz:bl∉[bm]:=by simpa using Ne.symm hG
   refine Zi O O (λhK=>?_) (λhK=>?_)
   ·refine Qu ?_;have g0:a.ed.length<=i:=by have h7:¬(i:Int)<(a.ed.length:Int):=hK;omega
    rw[Lq g0]at ha;refine Ql<|Qb<|Qj ⟨[_],La,(gt.O G oa).O S oa,bp,⟨va,vm,ve,a,vu,unc,bm,m,bl,n,rv⟩,O,O,O,O,oe,⟨hW.J S hX,hy,?_,?_,hJ,hT,h6,λs T=>QN (ha.own s T) (Lx (Ux a.ed s) oa) (λb hb hm=>?_)⟩,Y.J S gz⟩
    ·have h9:Zr [bl,bm] ↑w7 va vm ve a:=((((h.I hf).up (L':=[bl,bm]) (λb hb=>.inr (by simp only[oJ,oH,or_false]at hb;omega))).I J).st (G.Y od)).st (S.Y od);exact h9.up od
    ·have h9:Qt [bl,bm] ↑w7 vu unc:=((((hu.I hf).up (L':=[bl,bm]) (λb hb=>.inr (by simp only[oJ,oH,or_false]at hb;omega))).I J).st (G.Y od)).st (S.Y od);exact h9.up od
    have:=(Qi (ha.own s T) b hb).1;simp only[oF]at hm;omega
   refine Qf ?_;have U:i<a.ed.length:=by have h7:(i:Int)<(a.ed.length:Int):=hK;omega
   have hq:a.ed.take (i+1)=a.ed.take i++[a.ed[i]'U]:=Lh U;have hY:=hC.ed _ (Lk U);refine Zf (a.ed[i]'U) λe he=>?_;rw[he]at hq hY;have hZ:e.2.2=(e.2.2.toNat:Int):=oa
   have ht:e.2.2.toNat<n:=oa
   have g2:=Ux (a.ed.take i) e.2.2.toNat;rw[LA]at g2;have hL:=QcO (a.ed.take i) e hY.2.2.2.1;have g3:Ua [bl,bm] ↑w7 ve a.ed:=((((h.ed.I hf).up (L':=[bl,bm]) (λb hb=>.inr (by simp only[oJ,oH,or_false]at hb;omega))).I J).st (G.Y od)).st (S.Y od);refine Qe<|Qn<|Qc<|xie g3 O O U λk0 h7=>?_;rw[he]at h7;refine x (QE h7 O O)<|QP [sS 0,sS 0,sS 0] λg4 w8 g5 g6 g7=>Q0 (Qp e) g7 ox λw9 g8 hN=>xe ?_;have hv:sW w7 w9:=g5.O g8 g6;have k4:=hv.size;have ga:=ha.I hv;have g9:=ga.own _ ht;have h8:∀b∈ob (rv e.2.2.toNat),↑w6<=b/\b<w7.heap.size:=λb hb=>⟨(Qi (ha.own _ ht) b hb).1,QU (ha.own _ ht) b hb⟩;have gb:bp∉ob (rv e.2.2.toNat):=λhb=>oo (h8 _ hb)
   have gc:bm∉ob (rv e.2.2.toNat):=λhb=>oo (h8 _ hb)
   have hO:g4∉ob (rv e.2.2.toNat):=λhb=>oo (h8 _ hb)
   have ge:=((hW.J S hX).I hv);have gg:=hJ.I hv;have gh:=h6 e.2.2.toNat ht;rw[<-hZ]at gh;refine Vq (O1 (ob (rv e.2.2.toNat)) w9) [oz 0,oz 1,oz 2,oz 3,oz 4,oz 5,oz 6,oz 7,oz 8,oz 9,oz 10,oz 11,oz 12,oz 13,oz 14,oA 15,oA 16,oA 17] mixed oh oc (O1.C _ _) ?_;refine p Qy<|p (YC O)<|p (QH O)<|pq (λ_ E=>Qk (ge.J E gb) O O) <|
    p (QH rfl)<|pq (λ_ E=>Qk (hN.J E hO) O O)<|p Qy<|p (YC O)<|p (QH O) <|
    pq (λ_ E=>Qk (ge.J E gb) O O)<|p (QH O)<|pq (λ_ E=>Qk (hN.J E hO) O O) <|
    pq (λ_ E=>(X1 (k:=e.2.2) (gg.J E gc) O O).D (OR (λv=>Result.ok (Next.value v) _) gh))<|p (QH O)<|pq (λ_ E=>Qk (hN.J E hO) O O) <|
    pk<|Q5 [[sS e.1]] λk5 ka gi k6 kb=>⟨(O1.C _ _).D gi,?_⟩
   have hl:sW w9 ka:=(O1.C _ _).D gi;have k9:=hl.size;refine pk<|Q2 (m:=1) (news:=[sS e.1]) (Qm g9 hl) O O O (kb.at (L:=[]) od) om oa oa λhP ma kc hA ke=>⟨hl.any.Q hA,?_⟩;have kf:=(gg.I hl).J hA gc;refine pkk<|YF (k:=e.2.2) kf O O λmc gj kg=>pe ?_;have kh:∀b∈ob hP,b∈ob (rv e.2.2.toNat)\/↑w9<=b:=λb hb=>(ke b hb).imp id (λh=>oa);have gk:=ga.app ht (Qh.snoc kc) (hl.any.Q hA) kh;have gl:=gk.J gj (λi hi b hb=>by have:=(Qi (gk.own i hi) b hb).1;simp only[oF];omega);have ki:Xd (YR (a.ed.take i)) e.2.2.toNat (YR (a.ed.take i) e.2.2.toNat++[e.1])=YR (a.ed.take (i+1)):=by rw[hq];exact funext hL
   rw[ki]at gl;refine Qs<|QC O O<|Qa<|xe<|⟨(i+1,Xd rv e.2.2.toNat hP,O7 m e.2.2 hP),oe,La,U,?_,kg,gl,λs T=>?_⟩
   ·exact(((S.D hv).D hl).S hA (λb hb=>.inr (h8 b hb).1)).Q gj
   simp only[];rw[X3];by_cases gm:s=e.2.2.toNat
   ·subst gm;rw[OQ hZ,Zt]
   rw[OP oa,ZM _ _ gm];exact h6 s T
  refine Qf ?_;have ho:j<rm.length:=by have h5:(j:Int)<(rm.length:Int):=hI;omega
  have kj:=gn _ (Lk ho);have hq:rm.take (j+1)=rm.take j++[rm[j]'ho]:=Lh ho;refine Zf (rm[j]'ho) λs T=>?_;rw[T]at kj hq;have hL:s=(s.toNat:Int):=oa
  have mf:((rm.take j).foldl cut (oG n true)).length=n:=by rw[zB];simp
  refine Qe<|Qn<|Qc<|xii (i:=j) ((hV.I J).st G) O O ho λmg h5=>?_;rw[T]at h5;refine x (Qq h5 O)<|Qb<|Qs<|Qa<|Z0 O<|Qr O (V.J G hy) O O<|Qa<|x (QD (i:=s.toNat) O (OR sS hL) oa) <|
   Qo<|qX (i:=s.toNat) Y O O oa λw7 S kk=>xe ?_
  refine Qs<|QC O O<|Qa<|xe<|⟨j+1,oa,La,ho,G.Q S,?_⟩;rw[hq,Mg];exact kk
 refine Qf ?_;have U:k<n:=by have mh:(k:Int)<(n:Int):=hU;omega
 refine Qe<|Qn<|Ql<|Qb<|Qs<|Qa<|Z0 O<|Qr O (V.J h0 hy) O O<|Qa<|x (QD (i:=k) O O oa) <|
  Qo<|qX (i:=k) hH O O (by rw[QnE];exact U) λw6 G Y=>xe ?_
 have kn:(bA n (λi=>decide (i<k))).set k true=bA n (λi=>decide (i<k+1)):=QnD od (λi _ hi=>by
  by_cases e:i<k
  ·simp[e];omega
  simp[e];omega)
 rw[kn]at Y;refine Qs<|QC O O<|Qa<|xe ?_;exact⟨k+1,oa,La,U,h0.Q G,Y⟩
theorem zN {r:LI}(h:i<l.length):O2 (l++r) i=O2 l i:=by
 unfold O2;simp[oO,Of h]
theorem V0 {q:Pz}(hA:PzA [] ↑w bp q)(hq:PzQ q)(hB:QK ↑w q.bl 4 (lf.map Value.bool))(hl:lf.length=q.n):
  QT sV 226 [sP bp] w λr w'=>sW w w'/\∃b,r=sL b q.n q.n/\↑w<=b/\QK ↑w' b 3 ((dsts q.a lf).map (Value.int .i64))/\(dsts q.a lf).length=q.n:=by
 have hn:=hq.n;have kt:=hq.ok.st1;have gb:=hq.ok.mr;have ku:=hq.ok.mr_le;have kv:=hq.ok.ed_le;have hM:q.a.st.toNat=q.n:=oa
 have gt:=Qng (lf:=lf) hq.ok hn;have gc:(dsL q.a.ed lf q.n 0 (ds0 q.a lf)).1=dsts q.a lf:=by unfold dsts;rw[hM]
 refine Zf (dsts q.a lf) λDD gu=>?_;rw[gu]at gc ⊢;refine Zn func226 ?_;refine Qc<|Qb<|Ql<|Z0 O<|Q7 O<|Qr O hA.B O O<|Qo<|YP (n:=q.n) (OR sS hn) (OR sS hn) oa λbO w1 ge hC hN=>Qb ?_;rw[Qfl]at hN;refine Qe<|Ql<|QG (L:=[]) (hN.arr od (n:=q.n) (cap:=q.n) (sz:=1) (by simp[gA]) oa (Lp _)) rfl<|Qa<|xe<|QW (α:=Nat) [(4,4),(19,25)] (λz=>[(19,sS z)]) (λz w'=>z<=q.n/\sW w w'/\QK ↑w' bO 3 ((gA q.n (λj=>if j<z then -1 else 0)).map (Value.int .i64))) (λz=>q.n - z) 0 La ⟨Ln _,ge,hN⟩ ?_
 rintro j g G ⟨hj,hh,h0⟩;refine Zi rfl O (λhO=>?_) (λhO=>?_)
 ·refine Qu ?_;have hP:j=q.n:=by have gv:¬(j:Int)<(q.n:Int):=hO;omega
  have gx:gA q.n (λi=>if i<j then -1 else 0)=((q.a.mr.take 0).foldl (ds1 lf) (oG q.n (-1),[])).1:=by
   apply LZ
   ·simp[gA]
   intro i h1 h2;have:i<q.n:=by simpa[gA]using h1
   simp[gA];omega
  rw[gx]at h0;refine Qc<|Qb<|Qe<|Ql<|Z0 O<|Q7 O<|Qr O (hA.I hh).B O O<|QG (hA.I hh).a.mr O<|Qa<|xe<|QW (α:=Nat×OY) [(5,5),(7,7),(32,50)] (λz=>[(5,z.2),(32,sS z.1)]) (λz w'=>z.1<=q.a.mr.length/\sW w w'/\G.heap.size<=↑w'/\QK ↑w' bO 3 (((q.a.mr.take z.1).foldl (ds1 lf) (oG q.n (-1),[])).1.map (Value.int .i64)) /\
   Qh 3 ↑G w' z.2 ((q.a.mr.take z.1).foldl (ds1 lf) (oG q.n (-1),[])).2) (λz=>q.a.mr.length - z.1) (0,nS) ov ⟨Ln _,hh,Lp _,h0,QM _ _ _ _⟩ ?_
  rintro⟨k,vl⟩ g w3 ⟨hk,h3,gg,ho,ha⟩;simp only[]at hk ho ha;have gh:=QbB (lf:=lf) (λx hx=>(gb x hx).1) k;rw[hM]at gh;refine Zi O O (λhQ=>?_) (λhQ=>?_)
  ·refine Qu ?_;have gy:q.a.mr.length<=k:=by have hD:¬(k:Int)<(q.a.mr.length:Int):=hQ;omega
   have e0:(q.a.mr.take k).foldl (ds1 lf) (oG q.n (-1),[])=ds0 q.a lf:=by rw[Lq gy];unfold ds0;rw[hM]
   rw[e0]at ho ha;have gz:bO<G.heap.size:=h0.lt;refine Qe<|Qc<|Qb<|QW (α:=Nat×Nat×OY×LI×LI) [(5,5),(8,8),(10,10),(51,100)] (λz=>[(5,z.2.2.1),(8,sS z.2.1)])
    (λz w'=>sW w w'/\G.heap.size<=↑w'/\QK ↑w' bO 3 (z.2.2.2.1.map (Value.int .i64))/\Qh 3 ↑G w' z.2.2.1 z.2.2.2.2/\DsI q.n z.2.2.2/\z.1+z.2.1=q.n/\(dsL q.a.ed lf z.1 z.2.1 z.2.2.2).1=DD) (λz=>q.n - z.2.1) (q.n,0,vl,(ds0 q.a lf).1,(ds0 q.a lf).2) ov
    ⟨h3,gg,ho,ha,gt,O,gc⟩ ?_
   rintro⟨f,i,vl,o,l⟩ g w4 ⟨hf,hR,h4,S,hp,g0,T⟩;simp only[]at hR h4 S hp g0 T;have g2:=hp.le;have gi:=hp.ok.len;simp only[]at g2 gi;have hF:=hA.I hf;refine Qe<|Ql<|Qa<|QG (L:=[]) (QN S oa od) rfl<|ZX rfl rfl<|xe<|Zp O (λhS=>?_) (λhS=>?_)
   ·refine Qu ?_;have g3:¬i<l.length:=by have g4:¬(i:Int)<(l.length:Int):=hS;omega
    rw[Qip g3]at T;simp only[]at T;subst T;refine Ql<|Qb<|Qj ⟨[sL bO q.n q.n],La,hf,bO,O,hC,h4,gi⟩
   refine Qf ?_;have hr:i<l.length:=by have g4:(i:Int)<(l.length:Int):=hS;omega
   refine Exists.elim (Nb (show f≠0 by omega)) λf' g5=>?_;subst g5;rw[dsL,OQ hr]at T;have gj:=Zu hr;have hsr:=hp.ok.q _ (Xh hr);have hT:=hp.s0 _ (Xh hr);refine Zf (O2 l i) λs hs=>?_;rw[hs]at T hsr gj;simp only[]at hsr hT;rw[hs]at hT;have gk:s=(s.toNat:Int):=oa
   have gl:=hF.g s.toNat oa;rw[<-gk]at gl;have g6:=hF.R s.toNat oa;have kw:=Ux q.a.ed s.toNat;refine Qe<|Qn<|Qe<|ZJ [] (Y4 0 11 [])<|p Qy<|p (YC O)<|p (QH O)<|pq (λ_ U=>Qk (hF.B.I U) O O)<|p Qy<|p Qy <|
    pii (i:=i) O (QN (L:=[]) S oa od) rfl rfl hr λkx gm=>?_
   rw[gj]at gm;refine pq (λ_ U=>Qq (gm.I U) O)<|pq (λ_ U=>(X1 (k:=s) (hF.M.I U) O O).D (OR (λv=>Result.ok (Next.value v) _) gl))<|p (λ_=>YH g6 O)<|p Qy<|pe ?_;have hG:sW w4 { w4 with drawn:=w4.drawn+1 }:=O1.C _ _
   refine QW (α:=Nat×OY×LI×LI) [(5,5),(10,10),(67,100)] (λz=>[(5,z.2.1),(67,sS z.1)])
    (λz w'=>z.1<=(YR q.a.ed s.toNat).length/\sW w w'/\G.heap.size<=↑w'/\QK ↑w' bO 3 (z.2.2.1.map (Value.int .i64))/\Qh 3 ↑G w' z.2.1 z.2.2.2/\DsI q.n z.2.2/\0<=O2 z.2.2.1 s.toNat/\i<z.2.2.2.length/\O2 z.2.2.2 i=s /\
     ((YR q.a.ed s.toNat).drop z.1).foldl (dsE lf s) z.2.2=(YR q.a.ed s.toNat).foldl (dsE lf s) (o,l)) (λz=>(YR q.a.ed s.toNat).length - z.1) (0,vl,o,l) ov
    ⟨Ln _,hf.D hG,Lx hR hG.size,h4.I hG,Qm S hG,hp,hT,hr,hs,O⟩ ?_
   rintro⟨m,hH,o2,l2⟩ g w5 ⟨hm,E,hI,ht,hu,hg,hU,h5,hJ,I⟩;simp only[]at hm hI ht hu hg hU h5 hJ I;have gn:=hA.I E;have g7:=hg.le;have g8:=hg.ok.len;simp only[]at g7 g8;refine Zi O O (λhV=>?_) (λhV=>?_)
   ·refine Qu ?_;have g9:(YR q.a.ed s.toNat).length<=m:=by have hK:¬(m:Int)<((YR q.a.ed s.toNat).length:Int):=hV;omega
    rw[Ls g9]at I;simp only[List.foldl_nil]at I;rw[<-I]at T;refine Qs<|Qa<|QC O O<|Qb<|⟨(f',i+1,hH,o2,l2),oe,ov,E,hI,ht,hu,hg,oe,T⟩
   refine Qf ?_;have hv:m<(YR q.a.ed s.toNat).length:=by have hK:(m:Int)<((YR q.a.ed s.toNat).length:Int):=hV;omega
   have go:=Qfm (Lk hv);have ka:=QX hv;rw[ka,LO]at I;refine Zf ((YR q.a.ed s.toNat)[m]'hv) λy hy=>?_;rw[hy]at go I;have kb:0<=y/\y<(q.n:Int):=by
    obtain⟨e,he,h1,_⟩:=go;have:=hq.ok.ed e he;omega
   have hw:y=(y.toNat:Int):=oa
   have h6:y.toNat<o2.length:=oa
   have hW:s.toNat<o2.length:=oa
   have kc:=hg.ok.le _ (Xh hW);simp only[]at kc;have hE:=Qiq (lf:=lf) hg hsr hU kb;have ke:=Uv (l:=lf) (s:=y) oa;refine Qe<|Qn<|Qc<|xii (i:=m) ((gn.R s.toNat oa)) O O hv λkz hK=>?_;rw[hy]at hK;refine x (Qq hK O)<|Qb<|QV (α:=Bool) [(71,84)] (λz=>[(84,.bool z)]) (λz w'=>w'=w5/\z=(lft lf y && decide (O2 o2 y.toNat<0))) oh ?_ ?_
   ·refine Qs<|Qa<|Z0 O<|Qr O gn.B O O<|Qa<|x (QD (i:=y.toNat) O (OR sS hw) oa)<|x (Jw (i:=y.toNat) (hB.I E) O oa)<|?_;rw[ke];cases lft lf y with
    | true =>
     refine Qa<|Qa<|Qa<|x (QD (i:=y.toNat) O (OR sS hw) oa)<|x (qm (i:=y.toNat) ht O h6)<|ZX O O<|QA O<|xe ?_;exact⟨_,La,O,by rw[Zu h6];rfl⟩
    | false =>
     refine Qa<|Zy<|YD<|QA O<|xe ?_;exact⟨_,La,O,O⟩
   rintro z g k0 ⟨rfl,rfl⟩;refine Q9 O (λh7=>?_) (λh7=>?_)
   ·rw[LB,decide_eq_true_eq]at h7;have hX:dsE lf s (o2,l2) y=(o2.set y.toNat (O2 o2 s.toNat+1),l2++[y]):=by unfold dsE;rw[OQ h7]
    rw[hX]at I hE;have kf:=Zu hW;have gq:=Zu h5;rw[hJ]at gq;refine Ql<|Qa<|Qa<|Qa<|Qa<|xii (i:=i) (QN (L:=[]) hu oa od) rfl rfl h5 λk4 gr=>?_;rw[gq]at gr;refine x (Qq gr O)<|x (QD (i:=s.toNat) O (OR sS gk) oa)<|x (qm (i:=s.toNat) ht O hW)<|x (YE O O ⟨oa,oa⟩) <|
     x (QD (i:=y.toNat) O (OR sS hw) oa)<|Qo<|JP (i:=y.toNat) ht O O h6 λw6 J hL=>xe ?_
    rw[kf]at hL;have kg:=J.size;have kh:∀b∈ob hH,b∉[bO]:=λb hb=>by have:=Qi hu b hb;simp only[oF];omega
    have h8:Qh 3 ↑G w6 hH l2:=Qg hu J kh;have ki:sW w w6:=E.O J hC;refine Qs<|Qa<|Qa<|Qo<|Q5 [[sS y]] λk5 w7 h9 k6 kj=>Qo<|Q2 (m:=1) (news:=[sS y]) (Qm h8 h9) O O O (kj.at (L:=[]) od) om oa (oo h9.size) λhY w8 kk hZ k9 =>
     Qb ?_
    have ma:=h9.size;have mc:=hZ.size;refine Qs<|QC O O<|Qa<|xe<|⟨(m+1,hY,_,l2++[y]),oe,ov,hv,(ki.D h9).S hZ (λb hb=>.inr (ot (Qi h8 b hb) ge.size hh.size)),oa,(hL.I h9).J hZ (λhb=>oo (Qi h8 _ hb)),Qh.snoc kk,hE.1,hE.2,by simp only[oM];omega,by rw[zN h5];exact hJ,I⟩
   have hX:dsE lf s (o2,l2) y=(o2,l2):=by
    unfold dsE;rw[OP];intro U;rw[U.1,OT U.2]at h7;cases h7
   rw[hX]at I;refine Qf<|Qs<|QC O O<|Qa<|xe ?_;exact⟨(m+1,hH,o2,l2),oe,ov,hv,E,hI,ht,hu,hg,hU,h5,hJ,I⟩
  refine Qf ?_;have V:k<q.a.mr.length:=by have hD:(k:Int)<(q.a.mr.length:Int):=hQ;omega
  have kn:=gb _ (Lk V);have ko:q.a.mr.take (k+1)=q.a.mr.take k++[q.a.mr[k]'V]:=Lh V;have Y:(q.a.mr.take (k+1)).foldl (ds1 lf) (oG q.n (-1),[])=ds1 lf ((q.a.mr.take k).foldl (ds1 lf) (oG q.n (-1),[])) (q.a.mr[k]'V):=by rw[ko,Mg];rfl
  have kp:((q.a.mr.take k).foldl (ds1 lf) (oG q.n (-1),[])).1.length=q.n/\((q.a.mr.take k).foldl (ds1 lf) (oG q.n (-1),[])).2.length<=q.a.mr.length:=by
   rw[gh];exact⟨V5 _ _,Lx (LF _ _) (by rw[LA];omega)⟩
  refine Zf ((q.a.mr.take k).foldl (ds1 lf) (oG q.n (-1),[])) λz hz=>?_;rw[hz]at ho ha Y kp;refine Zf (q.a.mr[k]'V) λy hy=>?_;rw[hy]at kn Y;have hw:y=(y.toNat:Int):=oa
  have h6:y.toNat<z.1.length:=oa
  have gs:=hA.I h3;refine Qe<|Qn<|Qc<|xii (i:=k) gs.a.mr O O V λmf hD=>?_;rw[hy]at hD;refine x (Qq hD O)<|Qb<|Ql<|Z0 O<|Qr O gs.B O O<|Qa<|x (QD (i:=y.toNat) O (OR sS hw) oa)<|x (Jw (i:=y.toNat) (hB.I h3) O oa)<|xe ?_;rw[(Uv (l:=lf) (s:=y) oa)];refine Q9 O (λga=>?_) (λga=>?_)
  ·have e1:ds1 lf z y=(z.1.set y.toNat 0,z.2++[y]):=by unfold ds1;rw[OQ ga]
   rw[e1]at Y;refine Ql<|Qa<|x (QD (i:=y.toNat) O (OR sS hw) oa)<|Qo<|JP (i:=y.toNat) ho O O h6 λw4 hf h4=>xe ?_;have hR:=hf.size;have gz:bO<G.heap.size:=h0.lt;have S:Qh 3 ↑G w4 vl z.2:=Qg ha hf (λb hb=>by have:=Qi ha b hb;simp only[oF];omega);refine Qs<|Qa<|Qa<|Qo<|Q5 [[sS y]] λmg w5 E mh kq=>Qo<|Q2 (m:=1) (news:=[sS y]) (Qm S E) O O O (kq.at (L:=[]) od) om oa (oo E.size) λhY w6 h8 J mj =>
    Qb ?_
   have hI:=E.size;have kg:=J.size;refine Qs<|QC O O<|Qa<|xe<|⟨(k+1,hY),oe,ov,V,((h3.O hf hC).D E).S J (λb hb=>.inr (oq (Qi S b hb) hh.size)),oa,?_,?_⟩
   ·simp only[];rw[Y];exact(h4.I E).J J (λhb=>oo (Qi S _ hb))
   simp only[];rw[Y];exact Qh.snoc h8
  have e1:ds1 lf z y=z:=by unfold ds1;rw[OP (by rw[ga];decide)]
  rw[e1]at Y;refine Qf<|Qs<|QC O O<|Qa<|xe ?_;exact⟨(k+1,vl),oe,ov,V,h3,gg,by simp only[];rw[Y];exact ho,by simp only[];rw[Y];exact ha⟩
 refine Qf ?_;have hP:j<q.n:=by have gv:(j:Int)<(q.n:Int):=hO;omega
 refine Qe<|Qn<|Ql<|Qb<|Qs ?_;have kr:(gA q.n (λi=>if i<j then -1 else 0)).set j (-1)=gA q.n (λi=>if i<j+1 then -1 else 0):=QcR (by rw[OQ oa]) (λi _ hi=>by
  by_cases e:i<j
  ·rw[OQ e,OQ oa]
  rw[OP e,OP oa])
 refine Qa<|Qa<|x (QD (i:=j) O O oa)<|Qo<|qY (i:=j) h0 O O hP kr λw6 J hL=>xe ?_;refine Qs<|QC O O<|Qa<|xe ?_;exact⟨j+1,oa,La,hP,hh.O J hC,hL⟩
abbrev rmC (rk rs:Int)(x:Int×Int):LV:=[sS x.1,sS rk,sS rs,sS x.2]
theorem QdO (rk rs:Int)(x:Int×Int):(rmC rk rs x).length=4:=rfl
abbrev RmO (base:Nat)(w:OX)(v:OY)(rk rs:Int)(l:xq):Prop:=w.ownsRow base 323 4 v l.length (l.flatMap (rmC rk rs))
theorem RmO.snoc {v:OY}{rk rs:Int}{l:xq}{x:Int×Int}(h:w.ownsRow base 323 4 v (l.length+1) (l.flatMap (rmC rk rs)++rmC rk rs x)):RmO base w v rk rs (l++[x]):=by
 unfold RmO;rw[Lc,LC];simpa using h
theorem Qhr {k:Nat}(h:k<a.ed.length):(a.ed.take (k+1)).foldl (KA ul lf) []=KA ul lf ((a.ed.take k).foldl (KA ul lf) []) (a.ed[k]'h):=by
 rw[Lh h,Mg];rfl
theorem QgZ {q:Pz}(hA:PzA [] ↑w bp q)(hq:PzQ q)(hB:QK ↑w q.bl 4 (lf.map Value.bool))(hl:lf.length=q.n)(rk:Int):
  QT sV 263 [sP bp,sS rk] w λr w'=>sW w w'/\RmO ↑w w' r rk 2 (lost q.a q.unc lf):=by
 have hn:=hq.n;have hQ:=hq.ok.ed_le;refine Zn func263 ?_;refine Qc<|Qb<|Qc<|Qb<|Qe<|Ql<|Z0 O<|Q7 O<|Qr O hA.B O O<|QG hA.a.ed O<|Qa<|xe<|QW (α:=Nat×OY) [(5,5),(7,8),(15,72)] (λz=>[(5,z.2),(15,sS z.1)]) (λz w'=>z.1<=q.a.ed.length/\sW w w'/\RmO ↑w w' z.2 rk 2 ((q.a.ed.take z.1).foldl (KA q.unc lf) [])) (λz=>q.a.ed.length - z.1) (0,nS) ov ⟨Ln _,O1.Z _ _,QM _ _ _ _⟩ ?_;rintro⟨k,vo⟩ g w1 ⟨hk,hh,T⟩;have hj:=(q9 (a:=q.a) (ul:=q.unc) (lf:=lf) (q.a.ed.take k) [] (λe U=>L3 U) (λp hp=>by cases hp)).2;rw[LA]at hj;refine Zi rfl O (λhm=>?_) (λhm=>?_)
 ·refine Qu ?_;have hD:q.a.ed.length<=k:=by have V:¬(k:Int)<(q.a.ed.length:Int):=hm;omega
  rw[Lq hD]at T;refine Ql<|Qb<|Qj ⟨[_],La,hh,T⟩
 refine Qf ?_;have I:k<q.a.ed.length:=by have V:(k:Int)<(q.a.ed.length:Int):=hm;omega
 have hE:=hq.ok.ed _ (Lk I);have G:=Qhr (ul:=q.unc) (lf:=lf) I;refine Zf ((q.a.ed.take k).foldl (KA q.unc lf) []) λout hout=>?_;rw[hout]at T G hj;refine Zf (q.a.ed[k]'I) λe U=>?_;rw[U]at hE G;simp only[List.length_nil]at hj;have hF:e.1=(e.1.toNat:Int):=oa
 have hG:e.2.2=(e.2.2.toNat:Int):=oa
 refine Qe<|Qn<|Qc<|xie (hA.I hh).a.ed O O I λhR V=>?_;rw[U]at V;refine x (QE V O O)<|QP [sS 0,sS 0,sS 0] λb7 w2 hH hI J=>Q0 (Qp e) J ox λw3 hJ Y=>xe ?_;have h3:sW w1 w3:=hH.O hJ hI;have ho:=hh.D h3;have ha:=hA.I ho;have h4:=hB.I ho;refine Qe<|QV (α:=Bool) [(19,47)] (λz=>[(47,.bool z)]) (λz w'=>sW w3 w'/\(z=true↔(lft lf e.1=false\/lft lf e.2.2=true\/e.2.1∉q.unc))) oh ?_ ?_
 ·refine ZJ [] (Y4 0 29 [26])<|p Qy<|p (YC O)<|p (QH O)<|pq (λ_ E=>Qk (ha.B.I E) O O)<|p (QH O)<|pq (λ_ E=>Qk (Y.I E) O O) <|
   p (λ_=>QD (i:=e.1.toNat) O (OR sS hF) oa)<|pq (v:=.bool (lft lf e.1)) (λ_ E=>(Jw (i:=e.1.toNat) (h4.I E) O oa).D (by rw[(Uv (l:=lf) (s:=e.1) oa)]))<|pB (λ_=>Zh rfl) (λS=>?_) (λS=>?_)
  ·refine p Qy<|ps<|ps<|ps<|ps<|ps<|ps<|ps<|ps<|p (YI O)<|p Qy<|ps<|ps<|ps<|ps<|ps<|ps<|ps<|ps<|p (YI O)<|pe ?_;exact⟨_,La,O1.C _ _,by simp at S;simp[S]⟩
  refine p Qy<|p Qy<|p (YC O)<|p (QH O)<|pq (λ_ E=>Qk (ha.B.I E) O O)<|p (QH O)<|pq (λ_ E=>Qk (Y.I E) O O) <|
   p (λ_=>QD (i:=e.2.2.toNat) O (OR sS hG) oa)<|?_
  refine pqB (b:=lft lf e.2.2) (λ_ E=>(Jw (i:=e.2.2.toNat) (h4.I E) O oa).D (by rw[(Uv (l:=lf) (s:=e.2.2) oa)])) (λhr=>?_) (λhr=>?_)
  ·refine p (YI O)<|p Qy<|ps<|ps<|ps<|ps<|ps<|ps<|ps<|ps<|p (YI O)<|pe ?_;exact⟨_,La,O1.C _ _,by simp[hr]⟩
  refine p (YI O)<|p Qy<|p Qy<|p (YC O)<|p (QH O)<|pq (λ_ E=>Qk (ha.B.I E) O O) <|
   p (QH rfl)<|pq (λ_ E=>Qk (Y.I E) O O)<|pk<|xg<|(ZE (ha.u.I (O1.C _ _)) e.2.1).Y ?_
  rintro r4 w4 ⟨rfl,rfl⟩;refine⟨O1.C _ _,?_⟩;refine p (λ_=>qR O)<|p (YI O)<|pe ?_;exact⟨_,La,O1.C _ _,by simp at S;simp[S,hr]⟩
 rintro z g w4 ⟨hs,hz⟩;have h5:=ho.D hs;have ht:=Qm (Qm T h3) hs;have J:=Y.I hs;refine Q9 rfl (λhf=>?_) (λhf=>?_)
 ·refine Qu ?_;have e1:KA q.unc lf out e=out:=by unfold KA;rw[OQ (hz.1 hf)]
  rw[e1]at G;refine Qs<|QC O O<|Qa<|xe ?_;exact⟨(k+1,vo),oe,ov,I,h5,by simp only[];rw[G];exact ht⟩
 refine Qf ?_;have h6:¬(lft lf e.1=false\/lft lf e.2.2=true\/e.2.1∉q.unc):=λh=>by rw[hz.2 h]at hf;cases hf
 have h7:Zs [] ↑w4 vo out.length 4 (out.flatMap (rmC rk 2)):=QN ht oa od;refine Qe<|Ql<|QG h7 O<|Qb<|QV (α:=Bool) [(50,62)] (λz=>[(62,.bool z)]) (λz w'=>sW w4 w'/\(z=true↔out.getLast?.map (·.1)=some e.1)) oh ?_ ?_
 ·refine ZJ [] (Y4 0 13 [])<|p Qy<|pb (λ_=>Z2 O O) (λhu=>?_) (λhu=>?_)
  ·have hS:0<out.length:=by have hK:(0:Int)<(out.length:Int):=hu;omega
   have h8:out.getLast?=some (out[out.length - 1]'oa):=by rw[List.getLast?_eq_getElem?,LD]
   refine Zf (out[out.length - 1]'oa) λy hy=>?_;rw[hy]at h8;refine p Qy<|p Qy<|p Qy<|p (λ_=>X9 O O ⟨oa,oa⟩)<|Go.Lg.pig (g:=rmC rk 2) (i:=out.length - 1) O (QdO rk 2) h7 O (OR sS (show(out.length:Int) - 1=((out.length - 1:Nat):Int) by omega)) oa λhT h9=>?_;rw[hy]at h9;refine p (λ_=>ZN O)<|pq (λ_ E=>Qq ((h9.fld 0 (sS y.1) O).I E) O)<|p (QH O)<|pq (λ_ E=>Qk (J.I E) O O) <|
    p (λ_=>Q6 O O)<|p (YI O)<|pe ?_
   exact⟨_,La,O1.C _ _,by rw[h8];simp⟩
  have h0:out=[]:=Lu (by have hK:¬(0:Int)<(out.length:Int):=hu;omega);refine p Qy<|ps<|ps<|ps<|ps<|ps<|ps<|ps<|ps<|ps<|p (YI O)<|pe ?_;exact⟨_,La,O1.C _ _,by simp[h0]⟩
 rintro z2 g w5 ⟨hv,hC⟩;have hw:=h5.D hv;have h1:=Qm ht hv;have J:=J.I hv;refine Q9 rfl (λhg=>?_) (λhg=>?_)
 ·refine Qu ?_;have e1:KA q.unc lf out e=out:=by unfold KA;rw[OP h6,OQ (hC.1 hg)]
  rw[e1]at G;refine Qs<|QC O O<|Qa<|xe ?_;exact⟨(k+1,vo),oe,ov,I,hw,by simp only[];rw[G];exact h1⟩
 refine Qf ?_;have hL:¬out.getLast?.map (·.1)=some e.1:=λh=>by rw[hC.2 h]at hg;cases hg
 have e1:KA q.unc lf out e=out++[(e.1,e.2.1)]:=by unfold KA;rw[OP h6,OP hL]
 rw[e1]at G;refine Qs<|Qa<|Qr O J O O<|Qa<|Qr O J O O<|x (QB ⟨O,O,O,O,Z⟩) <|
  Qo<|Q5 [rmC rk 2 (e.1,e.2.1)] λhU w6 h2 hV hM =>
  Qo<|Q2 (m:=1) (news:=rmC rk 2 (e.1,e.2.1)) (Qm h1 h2) O O O (hM.at (L:=[]) od) om oa (oq hw.size h2.size) λhN w7 hO hP hW=>Qb<|Qs<|QC O O<|Qa<|xe ?_
 exact⟨(k+1,hN),oe,ov,I,(hw.D h2).S hP (λb hb=>.inr (Qi h1 b hb).1),by simp only[];rw[G];exact RmO.snoc hO⟩
theorem jd (lf:Lf)(d:Int):∀(l:LI) (i:Nat),KZ lf i (l++[d])=KZ lf i l++if lf.getD (i+l.length) false=true/\d<0 then[((i+l.length:Nat):Int)]else[]
 | [],i=>by
  simp only[Ol,KZ,List.length_nil,Oo]
 | a::l,i=>by
  have ih:=jd lf d l (i+1);rw[show i+1+l.length=i+(a::l).length by simp;omega]at ih;simp only[o0,KZ,ih];by_cases h:lf.getD i false=true/\a<0
  ·rw[OQ h,OQ h,Mo]
  rw[OP h,OP h]
abbrev blP (l:LI):xq:=l.map λs=>(s,-1)
theorem Qa2 {q:Pz}(hA:PzA [] ↑w bp q)(T:PzQ q)(hB:QK ↑w q.bl 4 (lf.map Value.bool))(hl:lf.length=q.n)(rk:Int):
  QT sV 264 [sP bp,sS rk] w λr w'=>sW w w'/\RmO ↑w w' r rk 3 (blP (KZ lf 0 (dsts q.a lf)))/\(KZ lf 0 (dsts q.a lf)).length<=q.n:=by
 have hn:=T.n;have h0:=T.ok.st1;refine Zn func264 ?_;refine Qc<|Qb<|Qc<|Qb<|Qe<|Ql<|Qw<|(V0 hA T hB hl).Y ?_;rintro r1 U ⟨hg,b,rfl,hb,hh,V⟩;refine Zf (dsts q.a lf) λD hD=>?_;rw[hD]at hh V ⊢;have hj:Qt [] ↑U (sL b q.n q.n) D:=by
  have h:=hh.arr (L:=[]) od (n:=q.n) (cap:=q.n) (sz:=1) (by simp[V]) oa (Lp _);unfold Qt;rw[V];exact h
 refine QG hj O<|Qa<|xe<|QW (α:=Nat×OY) [(5,7),(11,33)] (λz=>[(5,z.2),(11,sS z.1)]) (λz w'=>z.1<=D.length/\sW U w'/\RmO ↑U w' z.2 rk 3 (blP (KZ lf 0 (D.take z.1)))) (λz=>D.length - z.1) (0,nS) ov ⟨Ln _,O1.Z _ _,QM _ _ _ _⟩ ?_;rintro⟨k,vo⟩ g w2 ⟨hk,J,I⟩;have hm:=(V6 lf (D.take k) 0).2;rw[LA]at hm;have Y:=hg.D J;refine Zi rfl O (λha=>?_) (λha=>?_)
 ·refine Qu ?_;have hp:D.length<=k:=by have hr:¬(k:Int)<(D.length:Int):=ha;omega
  rw[Lq hp]at I;refine Ql<|Qb<|Qj ⟨[_],La,Y,Q8 I hg.size,oo (V6 lf D 0).2⟩
 refine Qf ?_;have E:k<D.length:=by have hr:(k:Int)<(D.length:Int):=ha;omega
 have hs:D.take (k+1)=D.take k++[D[k]'E]:=Lh E;have G:=jd lf (D[k]'E) (D.take k) 0;rw[<-hs,LA,LT,M7 oa]at G;refine Zf (D[k]'E) λd hd=>?_;rw[hd]at G;refine Zf (KZ lf 0 (D.take k)) λout hout=>?_;rw[hout]at G I hm;have hc:k<lf.length:=oa
 have ht:lf[k]'hc=lf.getD k false:=by simp[oO,hc]
 refine Qe<|Qn<|Ql<|xii (i:=k) (hj.I J) O O E λh1 ho=>?_;rw[hd]at ho;refine x (Qq ho O)<|x Qd<|Qb<|QV (α:=Bool) [(16,26)] (λz=>[(26,.bool z)]) (λz w'=>w'=w2/\(z=true↔lf.getD k false=true/\d<0)) oh ?_ ?_
 ·refine Qs<|Qa<|Z0 O<|Qr O (hA.I Y).B O O<|Qa<|x (QD (i:=k) O O oa)<|xB (b:=lf.getD k false) ((Jw (i:=k) (hB.I Y) O hc).D (by rw[ht])) (λhe=>?_) (λhe=>?_)
  ·refine Qa<|Qa<|ZX O O<|QA O<|xe ?_;exact⟨_,La,O,by rw[he];simp⟩
  refine Qa<|YD<|QA O<|xe ?_;exact⟨_,La,O,by rw[he];simp⟩
 rintro z g w3 ⟨rfl,hz⟩;refine Q9 rfl (λS=>?_) (λS=>?_)
 ·rw[OQ (hz.1 S)]at G;refine Qs<|Qa<|Qa<|Qa<|x (QB ⟨O,O,O,O,Z⟩)<|Qo<|Q5 [rmC rk 3 ((k:Int),-1)] λh2 w4 hf h3 hu =>
   Qo<|Q2 (m:=1) (news:=rmC rk 3 ((k:Int),-1)) (Qm I hf) O O O (hu.at (L:=[]) od) om (by rw[Lj];omega) (oq J.size hf.size) λhv w5 hw hy h4=>Qb<|Qs<|QC O O<|Qa<|xe ?_
  refine⟨(k+1,hv),oe,ov,E,(J.D hf).S hy (λb hb=>.inr (Qi I b hb).1),?_⟩;simp only[];rw[G,show blP (out++[(k:Int)])=blP out++[((k:Int),-1)] by simp];exact RmO.snoc hw
 rw[OP (λh=>by rw[hz.2 h]at S;cases S),LH]at G;refine Qf<|Qs<|QC O O<|Qa<|xe ?_;exact⟨(k+1,vo),oe,ov,E,J,by simp only[];rw[G];exact I⟩
def nxR (a:QF)(ul:LI)(lf:Lf):Int×xq:=if(lost a ul lf).length≠0 then(2,lost a ul lf)else(3,blP (KZ lf 0 (dsts a lf)))
theorem Qkc (a:QF)(ul:LI)(lf:Lf):(nxR a ul lf).2.map (·.1)=nxs a ul lf:=by
 unfold nxR nxs;split
 ·rfl
 rw[Mm];exact List.map_id _
theorem QgY {q:Pz}(hA:PzA [] ↑w bp q)(G:PzQ q)(U:QK ↑w q.bl 4 (lf.map Value.bool))(V:lf.length=q.n)(rk:Int):
  QT sV 223 [sP bp,sS rk,.bool true] w λr w'=>sW w w'/\RmO ↑w w' r rk (nxR q.a q.unc lf).1 (nxR q.a q.unc lf).2/\(nxR q.a q.unc lf).2.length<=1000000:=by
 have ha:=(jQ q.a q.unc lf).2;have hh:=G.ok.ed_le;have hn:=G.n;have hj:=G.ok.st1;have E:nxR q.a q.unc lf=if(lost q.a q.unc lf).length≠0 then(2,lost q.a q.unc lf)else(3,blP (KZ lf 0 (dsts q.a lf))):=rfl
 refine Zf (nxR q.a q.unc lf) λNR hc=>?_;rw[hc]at E ⊢;refine Zn func223 ?_;refine Qc<|Qb<|Qe<|Ql<|Qa<|Qw<|(QgZ hA G U V rk).Y ?_;rintro r1 w1 ⟨I,S⟩;refine Zf (lost q.a q.unc lf) λL hL=>?_;rw[hL]at S E ha;refine Qb<|QV (α:=Bool) [(11,17)] (λz=>[(17,.bool z)]) (λz w'=>w'=w1/\(z=true↔L.length≠0)) oh ?_ ?_
 ·refine Qs<|Qa<|QG (L:=[]) (QN S oa od) rfl<|xb (Z2 rfl rfl) (λT=>?_) (λT=>?_)
  ·refine Qa<|YD<|QA O<|xe ?_;exact⟨_,La,O,by have Y:(0:Int)<(L.length:Int):=T;simp;intro e;subst e;simp at Y⟩
  refine Qa<|Qa<|x (Zh O)<|QA O<|xe ?_;have Y:¬(0:Int)<(L.length:Int):=T;have he:L.length=0:=oa
  exact⟨_,La,O,by rw[he];simp⟩
 rintro z g w2 ⟨rfl,hz⟩;refine Q9 rfl (λJ=>?_) (λJ=>?_)
 ·rw[OQ (hz.1 J)]at E;refine Ql<|Qb ?_;subst E;exact Qj ⟨[_],La,I,S,by show L.length<=_;omega⟩
 rw[OP (λh=>by rw[hz.2 h]at J;cases J)]at E;refine Qf<|Ql<|Qa<|Qw<|(Qa2 (hA.I I) G (U.I I) V rk).Y ?_;rintro r3 w3 ⟨hf,hg,hk⟩;refine Qb ?_;subst E;exact Qj ⟨[_],La,I.D hf,Q8 hg I.size,by show(blP _).length<=_;rw[Lj];omega⟩
structure Jk (base:Nat)(w:OX)(n:Nat)(f:Nat->OY)(g:Nat->List Ed):Prop where
 own:∀i,i<n->Z6 179 base w (f i) (g i)
 dj:∀i j,i<n->j<n->i≠j->Dj (f i) (f j)
theorem Jk.app {f:Nat->OY}{g:Nat->List Ed}{l:List Ed}(h:Jk base w n f g)(hi:i<n)(T:Z6 179 base w' v' l)(U:O1 (ob (f i)) w w')
  (V:∀b∈ob v',b∈ob (f i)\/↑w<=b):Jk base w' n (Xd f i v') (Xd g i l):=by
 refine⟨λj E=>?_,λj k E I G=>?_⟩
 ·by_cases e:j=i
  ·subst e;rw[Zt,Zt];exact T
  rw[ZM _ _ e,ZM _ _ e];exact Qg (h.own j E) U (h.dj j i E hi e)
 have key:∀j,j<n->j≠i->Dj v' (f j):=λj E e b hb J=>by
  rcases V b hb with S|S
  ·exact h.dj i j hi E (Ne.symm e) b S J
  have:=QU (h.own j E) b J;omega
 by_cases e1:j=i
 ·subst e1;rw[Zt,ZM _ _ (Ne.symm G)];exact key k I (Ne.symm G)
 rw[ZM _ _ e1];by_cases e2:k=i
 ·subst e2;rw[Zt];exact(key j E e1).symm
 rw[ZM _ _ e2];exact h.dj j k E I G
theorem Jk.J {f:Nat->OY}{g:Nat->List Ed}(h:Jk base w n f g)(E:O1 X w w')(hX:∀i,i<n->∀b∈ob (f i),b∉X):Jk base w' n f g :=
 ⟨λi hi=>Qg (h.own i hi) E (hX i hi),h.dj⟩
theorem Jk.I {f:Nat->OY}{g:Nat->List Ed}(h:Jk base w n f g)(E:sW w w'):Jk base w' n f g:=h.J E (λ_ _ _ _=>od)
def Ve (es:List Ed)(s:Nat):List Ed:=QS es (s:Int)
theorem Ui (es:List Ed)(e:Ed)(E:0<=e.1):Xd (Ve es) e.1.toNat (Ve es e.1.toNat++[e])=Ve (es++[e]):=by
 funext s;unfold Ve QS;rw[LR];by_cases h:s=e.1.toNat
 ·subst h;rw[Zt];have:e.1=(e.1.toNat:Int):=oa
  simp[<-this]
 rw[ZM _ _ h];have:¬e.1=(s:Int):=oa
 simp[this]
theorem QaQ (es:List Ed)(s:Nat):(Ve es s).length<=es.length:=Z8 es _
def Qdo (num:LI)(m:List (Int×OY)):Prop:=∀s:Nat,s<num.length->O6 m (s:Int)=if O2 num s<0 then none else some (sS (O2 num s))
theorem KR (l:LI)(k:Int):Yh l k=O2 l k.toNat:=rfl
structure Ko (b4 mb:Nat)(r2:OY)(wS:OX)(c:Cs)(m:List (Int×OY))(vo vk ve:OY)(w:OX):Prop where
 st:O1 [b4,mb] wS w
 B4:QK ↑w b4 53 [r2,sS 0,vk,ve]
 M:ZP Xm ↑w mb m
 nm:Qdo c.num m
 o:Qh 3 ↑wS w vo c.ord
 k:Qh 3 ↑wS w vk c.mk'
 e:Z6 179 ↑wS w ve c.ed
 d1:Dj vo vk
 d2:Dj vo ve
 d3:Dj vk ve
section
variable {b4 mb:Nat}{r2:OY}{wS:OX}{c:Cs}{m:List (Int×OY)}{w'':OX}
theorem Ko.I (h:Ko b4 mb r2 wS c m vo vk ve w)(E:sW w w'):Ko b4 mb r2 wS c m vo vk ve w' :=
 ⟨h.st.D E,h.B4.I E,h.M.I E,h.nm,Qm h.o E,Qm h.k E,Qm h.e E,h.d1,h.d2,h.d3⟩
theorem Ko.setK (h:Ko b4 mb r2 wS c m vo vk ve w)(U:b4<wS.heap.size)(lm:mb<↑wS)(ne:mb≠b4){G:OY}(I:O1 (ob vk) w w')(J:Qh 3 ↑wS w' G l)
  (S:∀b∈ob G,b∈ob vk\/↑w<=b) (E:O1 [b4] w' w'') (T:QK ↑w'' b4 53 [r2,sS 0,G,ve]):Ko b4 mb r2 wS ⟨c.ord,c.num,l,c.ed⟩ m vo G ve w'' :=
 ⟨(h.st.S I (λb hb=>.inr (Qi h.k b hb).1)).S E (λb hb=>.inl (by simp at hb;simp[hb])),T,(h.M.J I (QJ h.k lm)).J E (ou ne),h.nm,
  Qg (Qg h.o I h.d1) E (λb hb=>by have:=(Qi h.o b hb).1;simp;omega),Qg J E (λb hb=>by have:=(Qi J b hb).1;simp;omega),
  Qg (Qg h.e I h.d3.symm) E (λb hb=>by have:=(Qi h.e b hb).1;simp;omega),h.d1.grow S (QU h.o),h.d2,(h.d3.symm.grow S (QU h.e)).symm⟩
theorem Ko.setE (h:Ko b4 mb r2 wS c m vo vk ve w)(U:b4<wS.heap.size)(lm:mb<↑wS)(ne:mb≠b4){G:OY}{l:List Ed}(I:O1 (ob ve) w w')(J:Z6 179 ↑wS w' G l)
  (S:∀b∈ob G,b∈ob ve\/↑w<=b) (E:O1 [b4] w' w'') (T:QK ↑w'' b4 53 [r2,sS 0,vk,G]):Ko b4 mb r2 wS ⟨c.ord,c.num,c.mk',l⟩ m vo vk G w'' :=
 ⟨(h.st.S I (λb hb=>.inr (Qi h.e b hb).1)).S E (λb hb=>.inl (by simp at hb;simp[hb])),T,(h.M.J I (QJ h.e lm)).J E (ou ne),h.nm,
  Qg (Qg h.o I h.d2) E (λb hb=>by have:=(Qi h.o b hb).1;simp;omega),Qg (Qg h.k I h.d3) E (λb hb=>by have:=(Qi h.k b hb).1;simp;omega),
  Qg J E (λb hb=>by have:=(Qi J b hb).1;simp;omega),h.d1,h.d2.grow S (QU h.o),h.d3.grow S (QU h.k)⟩
theorem Ko.setN (h:Ko b4 mb r2 wS c m vo vk ve w)(lm:mb<↑wS)(ne:mb≠b4){G:List (Int×OY)}(E:O1 [mb] w w')(I:ZP Xm ↑w' mb G)(J:Qdo l G):Ko b4 mb r2 wS ⟨c.ord,l,c.mk',c.ed⟩ G vo vk ve w' :=
 ⟨h.st.S E (λb hb=>.inl (by simp at hb;simp[hb])),h.B4.J E (ou ne.symm),I,J,Qg h.o E (λb hb=>by have:=(Qi h.o b hb).1;simp;omega),
  Qg h.k E (λb hb=>by have:=(Qi h.k b hb).1;simp;omega),Qg h.e E (λb hb=>by have:=(Qi h.e b hb).1;simp;omega),h.d1,h.d2,h.d3⟩
theorem Ko.setO (h:Ko b4 mb r2 wS c m vo vk ve w)(J:b4<wS.heap.size)(lm:mb<↑wS){G:OY}(E:O1 (ob vo) w w')(S:Qh 3 ↑wS w' G l)
  (I:∀b∈ob G,b∈ob vo\/↑w<=b):Ko b4 mb r2 wS ⟨l,c.num,c.mk',c.ed⟩ m G vk ve w' :=
 ⟨h.st.S E (λb hb=>.inr (Qi h.o b hb).1),h.B4.J E (QJ h.o J),h.M.J E (QJ h.o lm),h.nm,S,Qg h.k E h.d1.symm,Qg h.e E h.d2.symm,
  (h.d1.symm.grow I (QU h.k)).symm,(h.d2.symm.grow I (QU h.e)).symm,h.d3⟩
end
theorem Qdo.set {num:LI}{m:List (Int×OY)}(h:Qdo num m){k:Nat}(G:k<num.length){v:Int}(I:0<=v):Qdo (num.set k v) (O7 m (k:Int) (sS v)):=by
 intro s E;rw[MR]at E;rw[X3];by_cases e:s=k
 ·subst e;have:O2 (num.set s v) s=v:=by unfold O2;simp[oO,G]
  rw[OQ rfl,this,OP oa]
 rw[OP oa];have:O2 (num.set k v) s=O2 num s:=by unfold O2;simp[oO,List.getElem?_set_ne (Ne.symm e)]
 rw[this];exact h s E
theorem QaH (i:Nat)(c:Cs)(m:LI)(e:Ed):Zw i ⟨c.ord,c.num,m,c.ed⟩ e=⟨(Zw i c e).ord,(Zw i c e).num,m,(Zw i c e).ed⟩/\(Zw i c e).mk'=c.mk':=by
 unfold Zw;split <;> exact⟨O,O⟩
theorem j8 (i:Nat):∀(l:List Ed) (c:Cs) (m:LI),l.foldl (Zw i) ⟨c.ord,c.num,m,c.ed⟩=⟨(l.foldl (Zw i) c).ord,(l.foldl (Zw i) c).num,m,(l.foldl (Zw i) c).ed⟩/\(l.foldl (Zw i) c).mk'=c.mk'
 | [],c,m=>⟨O,O⟩
 | e::l,c,m=>by
  have E:=QaH i c m e;have G:=j8 i l (Zw i c e) m;rw[LO,LO,E.1,G.1];exact⟨O,G.2.D E.2⟩
theorem yu (i:Nat)(c:Cs)(e:Ed):∃r,(Zw i c e).ord=c.ord++r:=by
 unfold Zw;split
 ·exact⟨_,rfl⟩
 exact⟨[],od⟩
theorem Qbn (i:Nat):∀(l:List Ed) (c:Cs),∃r,(l.foldl (Zw i) c).ord=c.ord++r
 | [],c=>⟨[],od⟩
 | e::l,c=>by
  obtain⟨E,G⟩:=yu i c e;obtain⟨r2,I⟩:=Qbn i l (Zw i c e);exact⟨E++r2,by rw[LO,I,G,LE]⟩
theorem QeW {c:Cs}(hi:i<c.ord.length):yb a i c=Yk a i ((QS a.ed (O2 c.ord i)).foldl (Zw i) c):=by
 unfold yb;rw[KR,MP];obtain⟨r,E⟩:=Qbn i (QS a.ed (O2 c.ord i)) c;unfold Yk;have G:Yh ((QS a.ed (O2 c.ord i)).foldl (Zw i) c).ord (i:Int)=Yh c.ord (i:Int):=by
  rw[KR,KR,E];simp only[Ox];exact zN hi
 rw[G];split
 ·rw[(j8 i _ c _).1,((j8 i (QS a.ed (O2 c.ord i)) c c.mk').2)]
 rfl
theorem qV {q:Pz}(hA:PzA [] ↑w bp q)(hq:PzQ q)(hB:QK ↑w q.bl 4 (lf.map Value.bool))(hl:lf.length=q.n):
  QT sV 227 [sP bp] w λr w'=>sW w w'/\∃v o,r=.tuple #[v,o]/\Y1 ↑w ↑w' v (Qcl q.a lf)/\o.oneCell'=true:=by
 have hn:=hq.n;have hst1:=hq.ok.st1;have kf:=hq.ok.ed_le;have hf:Qcl q.a lf=if q.a.st=0\/lft lf 0=false then⟨q.a.al,0,[],[]⟩else X0 (rstr q.a lf):=rfl
 refine Zf (Qcl q.a lf) λSA pj=>?_;rw[pj]at hf ⊢;refine Zn func227 ?_;refine Qc<|QP [nS,sS 0,nS,nS] λb2 w1 kg hb2 h9=>Qb ?_;have hl2:=h9.lt;have kh:=hA.I kg;refine Ql<|Z0 O<|Q7 O<|Qr O kh.B O O<|Qw<|(ZT kh.a.al).Y ?_;rintro r2 w2 ⟨hM,hv⟩;have hz2:=hM.size;have hN:=Qh.ints (L:=[]) hv hA.a.al.le od;refine x (QB ⟨hN.cells,Z⟩)<|QP [nS,sS 0,nS,nS] λb4 w3 pn po hC =>
  Q0 [r2,sS 0,nS,nS] hC ⟨hN.one,O,O,O,Z⟩ λw4 pp hC=>xe ?_
 have T:sW w2 w4:=pn.O pp po;have U:=kg.D hM;have hD:=U.D T;have hl4:=hC.lt;have hz24:=T.size;have gj:=hA.I hD;have pt:∀b∈ob r2,b<w2.heap.size:=QU hv;refine Qe<|QV (α:=Bool) [(22,36)] (λz=>[(36,.bool z)]) (λz w'=>w'=w4/\(z=true↔(q.a.st=0\/lft lf 0=false))) oh ?_ ?_
 ·refine Qs<|Qa<|Z0 O<|Q7 O<|Qr O gj.B O O<|xb (Q6 O O) (λgk=>?_) (λgk=>?_)
  ·refine Qa<|Zy<|Zy<|J0<|QA O<|xe ?_;exact⟨_,La,O,by simp[gk]⟩
  have gl:(0:Int).toNat<lf.length:=by
   have:0<q.n:=oa
   simp;omega
  have pu:=Uv (l:=lf) (s:=0) gl;refine Qa<|Qa<|Z0 O<|Qr O gj.B O O<|x (QD (i:=0) O O (by simp at gl;omega))<|x (v:=.bool (lft lf 0)) ((Jw (i:=0) (hB.I hD) O gl).D (by rw[<-pu];rfl))<|x (Zh O)<|QA O<|xe ?_;exact⟨_,La,O,by simp[gk]⟩
 rintro z g w4 ⟨rfl,hz⟩;refine Q9 rfl (λhO=>?_) (λhO=>?_)
 ·rw[OQ (hz.1 hO)]at hf;subst hf;refine Qc<|QY hC O O<|Q0 [r2,sS 0,nS,nS] ((h9.I hM).I T) ⟨hN.one,O,O,O,Z⟩ λw6 hE h9=>Qb<|Qj ⟨[.agg #[r2,sS 0,nS,nS],nS],⟨Jm h9,O,Z⟩,hD.O hE oa,_,_,O,?_,O⟩;exact⟨r2,_,_,O,λL' hF=>⟨Qh.ints (Qg (Qm hv T) hE (λb hb=>by have:=(Qi hv b hb).1;simp;omega)) hA.a.al.le (λb hb=>oo (hF b hb)),Zs.nil _ _ _,Zs.nil _ _ _⟩⟩
 have ki:¬(q.a.st=0\/lft lf 0=false):=λh=>by rw[hz.2 h]at hO;cases hO
 rw[OP ki]at hf;have pw:0<q.a.st:=by have:=hq.ok.st0;omega
 have kj:(rstr q.a lf).st.toNat=q.n:=by show q.a.st.toNat=q.n;omega
 unfold X0 at hf;rw[OP (show ¬(rstr q.a lf).st=0 from λh=>ki (.inl h)),kj]at hf;refine Qf<|Ql<|Z0 O<|Q7 O<|Qr O gj.B O O<|Qo<|YP (n:=q.n) (OR sS hn) (OR sS hn) oa λbE w6 hE pz gm=>Qb ?_;rw[VC]at gm;have hlE:=gm.lt;have kk:=hA.I (hD.D hE);refine Qe<|Ql<|Z0 O<|Q7 O<|Qr O kk.B O O<|QG kk.a.ed O<|Qa<|xe<|QW (α:=Nat×(Nat->OY)) [(7,7),(50,74)] (λz=>[(50,sS z.1)]) (λz w'=>z.1<=q.a.ed.length/\O1 [bE] w6 w'/\QK ↑w' bE 51 ((oK q.n).map z.2)/\Jk ↑w6 w' q.n z.2 (Ve ((q.a.ed.take z.1).filter λe=>lft lf e.2.2))) (λz=>q.a.ed.length - z.1) (0,λ_=>nS) La
  ⟨Ln _,O1.Z _ _,gm,⟨λi _=>QM _ _ _ _,λi j _ _ _=>Dj.nil _⟩⟩ ?_
 rintro⟨k,rv⟩ g w7 ⟨hk,hP,kn,V⟩;have hG:sW w4 w7:=hE.O hP pz;have gn:=hD.D hG;have hz7:=hP.size;have ko:=hA.I gn;refine Zi rfl O (λgo=>?_) (λgo=>?_)
 ·refine Qu ?_;have p0:q.a.ed.length<=k:=by have hQ:¬(k:Int)<(q.a.ed.length:Int):=go;omega
  rw[Lq p0]at V;have V:Jk ↑w6 w7 q.n rv (Ve (rstr q.a lf).ed):=V;have kp:(rstr q.a lf).ed.length<=q.a.ed.length:=LF _ _;refine Qc<|Qo<|ZU Xm λmb w8 gq p4 p5=>Qo<|Yn (k:=(0:Int)) p5 O O λG gr kq=>Qa<|Qb ?_;have J:sW w7 G:=gq.O gr p4;have p6:=J.size;have hS:=kq.lt;refine Qc<|Qo<|Q5 [[sS 0]] λkr gs hw hb77 p7=>Qb<|Qe<|Qc<|Qb ?_;have gt:mb≠b4:=oa
  have hH:b4<G.heap.size:=oa
  have p8:=gn.D J;have gu:∀b∈[b4,mb],↑w2<=b:=λb hb=>by simp only[oJ,oH,or_false]at hb;omega
  have p9:PzA [b4,mb] ↑G bp q:=((hA.I U).up (λb hb=>.inr (gu b hb))).I (T.D (hG.D J));have hlw:=hB.lt;have kt:∀s,s<q.n->Ua [b4,mb] ↑G (rv s) (Ve (rstr q.a lf).ed s):=λs hs=>QN (Qm (V.own s hs) J) (oo (QaQ (rstr q.a lf).ed s)) (λb hb hm=>by
   have h1:=(Qi (V.own s hs) b hb).1;have h2:=QU (V.own s hs) b hb;simp only[oJ,oH,or_false]at hm;omega)
  have hJ:=kn.I J;have ku:∀b,b<↑w2->b∉[b4,mb]:=λb hb hm=>oo (gu b hm)
  have qf:bE∉[b4,mb]:=by simp only[oJ,oH,or_false];omega
  have qj:QK ↑G b4 53 [r2,sS 0,nS,nS]:=((hC.I hG)).I J;have ql:QK ↑G b2 53 [nS,sS 0,nS,nS]:=((h9.I hM).I T).I (hG.D J);have q0:=Qm hv (T.D (hG.D J));have q4:Qh 3 ↑G gs (sL kr 1 1) [0]:=p7.own (n:=1) (sz:=1) O oa oa;have kv:Qdo (YM (rstr q.a lf)).num (O7 [] (0:Int) (sS 0)):=by
   have h0:Qdo (oG q.n (-1)) ([]:List (Int×OY)):=λs hs=>by
    have q5:s<q.n:=by simpa using hs
    have:O2 (oG q.n (-1)) s=-1:=by unfold O2;simp[oO,q5]
    rw[this];rfl
   have h1:=h0.set (k:=0) (by simp;omega) (v:=0) (Mt _);unfold YM;rw[kj];exact h1
  have gv:∀e∈(rstr q.a lf).ed,0<=e.1/\e.1<q.a.st/\0<=e.2.2/\e.2.2<q.a.st:=λe Y=>by have:=(yA hq.ok lf).ed e Y;exact⟨this.1,this.2.1,this.2.2.2.1,this.2.2.2.2⟩
  have kw:Vv q.a.st (YM (rstr q.a lf)):=QeA (a:=rstr q.a lf) pw;have kx:(rstr q.a lf).mr=q.a.mr:=rfl;refine Zf (rstr q.a lf) λR hR=>?_;rw[hR]at hf kt kv gv kw kx kp;have j1:R.al=q.a.al:=by rw[<-hR];rfl
  have hnN:q.a.st.toNat=q.n:=oa
  refine QW (α:=Nat×Cs×List (Int×OY)×OY×OY×OY) [(9,10),(12,14),(78,142)] (λz=>[(9,z.2.2.2.1),(10,sS z.1)])
   (λz w'=>Ko b4 mb r2 G z.2.1 z.2.2.1 z.2.2.2.1 z.2.2.2.2.1 z.2.2.2.2.2 w'/\z.1<=z.2.1.ord.length/\Vv q.a.st z.2.1/\z.2.1.mk'.length<=z.1/\z.2.1.ed.length<=z.1*131072/\Jh R (q.n - z.1) z.1 z.2.1=Jh R q.n 0 (YM R)) (λz=>q.n - z.1) (0,YM R,O7 [] (0:Int) (sS 0),sL kr 1 1,nS,nS) ov
   ⟨⟨hw.any,qj.I hw,kq.I hw,kv,q4,QM _ _ _ _,QM _ _ _ _,Dj.nil' _,Dj.nil' _,Dj.nil' _⟩,Ln _,kw,Ln _,Ln _,O⟩ ?_
  rintro⟨i,c,m,vo,vk,ve⟩ g j2 ⟨hI,hi,E,j3,j4,gx⟩;simp only[]at hI hi E j3 j4 gx;have hcle:=E.le;have hT:=Qh.ints (L:=[]) hI.o oa od;refine Qe<|Ql<|Qa<|QG hT O<|ZX O O<|xe<|Zp O (λza=>?_) (λza=>?_)
  ·refine Qu ?_;have z2:c=Jh R q.n 0 (YM R):=by rw[<-gx,ja oa]
   refine Ql<|QG hT O<|Q7 O<|Qo<|Qv hI.B4 O O od rfl λhy U hg=>xe ?_;have z3:=Qh.ints (L:=[]) hI.k oa od;have z4:=Z6.eds (L:=[]) hI.e (oo E.el) od;refine Qc<|QY hg O O<|Qa<|Q0 [r2,sS c.ord.length,vk,ve] ((ql.J hI.st (ku _ oa)).J U (by simp;omega)) ⟨hN.one,O,z3.one,z4.one,Z⟩ λw13 hU hB13=>Qb ?_;have kz:O1 [b4,mb] G hy:=hI.st.S U (λb hb=>.inl (by simp at hb;simp[hb]));have hfin:sW w w13:=(p8.S kz (λb hb=>.inr (oo (gu b hb)))).O hU oa;refine Qj ⟨[.agg #[r2,sS c.ord.length,vk,ve],vo],⟨Jm hB13,O,Z⟩,hfin,_,_,O,?_,hT.one⟩;rw[<-z2]at hf;subst hf;have k1:=Qg (Qg hI.k U (λb hb=>by have:=(Qi hI.k b hb).1;simp;omega)) hU (λb hb=>by have:=(Qi hI.k b hb).1;simp;omega);have k2:=Qg (Qg hI.e U (λb hb=>by have:=(Qi hI.e b hb).1;simp;omega)) hU (λb hb=>by have:=(Qi hI.e b hb).1;simp;omega);have k3:=Qg (Qg q0 kz (λb hb=>ku b (pt b hb))) hU (λb hb=>by have:=(Qi hv b hb).1;simp;omega);exact⟨r2,vk,ve,O,λL' hF=>⟨by rw[j1];exact Qh.ints k3 hA.a.al.le (λb hb=>oo (hF b hb)),Qh.ints k1 (by show c.mk'.length<=_;omega) (λb hb=>oo (hF b hb)),Z6.eds k2 (by show c.ed.length<=_;have:=E.el;omega) (λb hb=>oo (hF b hb))⟩⟩
  have I:i<c.ord.length:=oa
  refine Qf ?_;have k0:=Zu I;have hsr:=E.ord _ (Xh I);have hj:=QeW (a:=R) I;refine Zf (O2 c.ord i) λs0 k5=>?_;rw[k5]at k0 hsr hj;have k6:s0=(s0.toNat:Int):=oa
  have gy:s0.toNat<q.n:=oa
  have hos0:Ve R.ed s0.toNat=QS R.ed s0:=by unfold Ve;rw[<-k6]
  have hV:=kt s0.toNat gy;rw[hos0]at hV;have hosl:=Z8 R.ed s0;have k9:∀e∈QS R.ed s0,0<=e.2.2/\e.2.2<q.a.st:=λe Y=>⟨(gv e (ZC Y).1).2.2.1,(gv e (ZC Y).1).2.2.2⟩;refine Zf (QS R.ed s0) λos hos=>?_;rw[hos]at hV hosl k9 hj;refine Qe<|Qn<|Qe<|Ql<|Qa<|Qa<|xii (i:=i) hT O O I λa87 ma=>?_;rw[k0]at ma;refine x (Qq ma O)<|x (QD (i:=s0.toNat) O (OR sS k6) gy)<|ZA (u:=rv s0.toNat) (hJ.J hI.st qf) O (Kv gy)<|QG (hV.st hI.st) O<|Qa<|xe<|QW (α:=Nat×Cs×List (Int×OY)×OY×OY) [(9,9),(12,14),(92,126)] (λz=>[(9,z.2.2.2.1),(92,sS z.1)])
   (λz w'=>Ko b4 mb r2 G z.2.1 z.2.2.1 z.2.2.2.1 vk z.2.2.2.2 w'/\z.1<=os.length/\Vv q.a.st z.2.1/\z.2.1.mk'=c.mk'/\z.2.1.ed.length=c.ed.length+z.1/\(∃r,z.2.1.ord=c.ord++r)/\(os.drop z.1).foldl (Zw i) z.2.1=os.foldl (Zw i) c) (λz=>os.length - z.1) (0,c,m,vo,ve) ov
   ⟨hI,Ln _,E,O,O,⟨[],od⟩,rfl⟩ ?_
  rintro⟨k4,d,m4,hW,hX⟩ g hy ⟨hh,hk4,S,gz,mc,hY,h3⟩;simp only[]at hh hk4 S gz mc hY h3;have hcle4:=S.le;have hoA4:=Qh.ints (L:=[]) hh.o oa od;have g0:i<d.ord.length:=by obtain⟨r,hr⟩:=hY;rw[hr,Lc];omega
  have mf:O2 d.ord i=s0:=by obtain⟨r,hr⟩:=hY;rw[hr,zN I];exact k5
  refine Zi O O (λh93=>?_) (λh93=>?_)
  ·refine Qu ?_;rw[Ls oa,Ny]at h3;rw[<-h3]at hj;have mg:=p9.st hh.st;have hg4:d.ord[i]'g0=s0:=by rw[Zu g0];exact mf
   have hmkC:Yk R i d=if s0∈q.a.mr then⟨d.ord,d.num,d.mk'++[(i:Int)],d.ed⟩else d:=by
    unfold Yk;rw[KR,MP,mf,kx]
   rw[hmkC]at hj;have hZ:Jh R (q.n - (i+1)) (i+1) (yb R i c)=Jh R q.n 0 (YM R):=by
    rw[<-gx];obtain⟨t,ht⟩:∃t,q.n - i=t+1:=⟨q.n - i - 1,oa⟩;rw[ht,Jh,OQ I,show q.n - (i+1)=t by omega]
   have hm4l:=OR oY gz;refine Qe<|ZJ [] (Y4 0 10 [9])<|p Qy<|p (YC O)<|p (QH O)<|p (QH O)<|pq (λ_ E=>Qk (mg.B.I E) O O)<|p Qy <|
    p Qy<|pii (i:=i) O hoA4 O O g0 λa134 mh=>?_
   rw[hg4]at mh;refine pq (λ_ E=>Qq (mh.I E) O)<|pk<|xg<|(ZE (mg.a.mr.I (O1.C _ _)) s0).Y ?_;rintro r16 w16 ⟨rfl,rfl⟩;refine⟨O1.C _ _,pe ?_⟩;have ha:=hh.I (O1.C [] hy);refine Zp O (λg2=>?_) (λg2=>?_)
   ·rw[OP g2]at hj;refine Qf<|Qs<|Qa<|QC O O<|Qb ?_;rw[hj]at hZ;exact⟨(i+1,d,m4,hW,vk,hX),oe,ov,ha,oe,S,oe,oe,hZ⟩
   rw[OQ g2]at hj;refine Qs<|Qr O ha.B4 O O<|Qa<|Qo<|Q5 [[sS i]] λb140 w17 hs17 hb140 hB140=>?_;have hK:=ha.I hs17;refine Qo<|Q2 (news:=[sS i]) (L:=[]) hK.k O O O (hB140.at od) om oa hK.st.size λmj w18 mo mq hn18=>?_;have hk18:Qh 3 ↑G w18 mj (d.mk'++[(i:Int)]):=Qh.snoc mo;refine Q7 O<|Qo<|Qv (hK.B4.J mq (QJ hK.k hH)) O O od (Qz mo) λw19 hs19 hB19=>xe ?_;have hI19:=hK.setK hH hS gt mq hk18 hn18 hs19 hB19;refine Qs<|Qa<|QC O O<|Qb ?_;rw[hj]at hZ;exact⟨(i+1,⟨d.ord,d.num,d.mk'++[(i:Int)],d.ed⟩,m4,hW,mj,hX),oe,ov,hI19,oe,⟨S.nl,S.sum,S.ord,S.num,S.el⟩,by simp only[oM,oL];omega,oe,hZ⟩
  refine Qf ?_;have ga:k4<os.length:=oa
  have hdr:=QX ga;rw[hdr,LO]at h3;have g3:=k9 _ (Lk ga);refine Zf (os[k4]'ga) λe Y=>?_;rw[Y]at h3 g3;have gb:e.2.2=(e.2.2.toNat:Int):=oa
  have gc:e.2.2.toNat<d.num.length:=by rw[S.nl];omega
  have ms:=hh.nm e.2.2.toNat gc;rw[<-gb]at ms;have mt:Yh d.num e.2.2=O2 d.num e.2.2.toNat:=rfl;refine Qe<|Qn<|Qc<|xie (hV.st hh.st) O O ga λa94 mu=>?_;rw[Y]at mu;refine x (QE mu O O)<|QP [sS 0,sS 0,sS 0] λg4 w20 hs20 g5 hg=>Q0 (Qp e) hg ox λge hs21 hg=>xe ?_;have mv:sW hy ge:=hs20.O hs21 g5;have ha:=hh.I mv;have hl12:=hg.lt;have hz21:=mv.size;have hIz:=hh.st.size;have hc5:Vv q.a.st (Zw i d e):=QaG S g3.1 g3.2 (oo S.el);have mw:Zw i d e=⟨(Yo d e).ord,(Yo d e).num,(Yo d e).mk',(Yo d e).ed++[((i:Int),e.2.1,Yh (Yo d e).num e.2.2)]⟩:=qG gc;refine QV (α:=OY) [(13,14),(96,102)] (λz=>[(13,sS (if O2 d.num e.2.2.toNat<0 then 0 else O2 d.num e.2.2.toNat)),(14,.bool (!decide (O2 d.num e.2.2.toNat<0)))]) (λz w'=>w'=ge) oh ?_ ?_
  ·refine Qs<|Qa<|Qr O hg O O<|x (v:=.tuple #[sS (if O2 d.num e.2.2.toNat<0 then 0 else O2 d.num e.2.2.toNat),.bool (!decide (O2 d.num e.2.2.toNat<0))]) ((Kx (k:=e.2.2) ha.M O O).D (OR (λv=>Result.ok (Next.value v) _) ?_))<|Qa<|QL O O<|QL O O<|x Qd<|Qb ?_
   ·rw[ms];by_cases ho:O2 d.num e.2.2.toNat<0
    ·simp[ho]
    simp[ho]
   exact⟨.bool true,ov,O⟩
  rintro z5 g ge rfl;refine QV (α:=OY×List (Int×OY)×Int) [(9,9),(13,13),(103,115)] (λz=>[(9,z.1),(13,sS z.2.2)]) (λz w'=>O2 (Yo d e).num e.2.2.toNat=z.2.2/\Ko b4 mb r2 G (Yo d e) z.2.1 z.1 vk hX w'/\QK ↑w' g4 179 (Qp e)/\ge.heap.size<=↑w') oh ?_ ?_
  ·refine Ql<|x (Zh O)<|xe<|Q9 O (λg6=>?_) (λg6=>?_)
   ·have ho:O2 d.num e.2.2.toNat<0:=by simpa using g6
    have hL:Yo d e=⟨d.ord++[e.2.2],d.num.set e.2.2.toNat d.ord.length,d.mk',d.ed⟩:=by unfold Yo;rw[mt,OQ ho]
    have hcg:O2 (Yo d e).num e.2.2.toNat=(d.ord.length:Int):=by rw[hL];unfold O2;simp[oO,gc]
    refine Ql<|QG (Qh.ints (L:=[]) ha.o oa od) rfl<|Qb<|Ql<|Qr rfl hg rfl rfl<|Qa<|Qo<|YF (k:=e.2.2) ha.M rfl rfl λw22 g7 hM22=>xe ?_;have my:=ha.nm.set gc (v:=(d.ord.length:Int)) oa;rw[<-gb]at my;have hI6:=ha.setN hS gt g7 hM22 my;have gg:=hg.J g7 (by simp;omega);refine Qs<|Qa<|Qr O gg O O<|Qo<|Q5 [[sS e.2.2]] λb114 w23 g8 hb114 hB114=>?_;have g9:=hI6.I g8;refine Qo<|Q2 (news:=[sS e.2.2]) (L:=[]) g9.o O O O (hB114.at od) om (by show d.ord.length+1<=_;omega) g9.st.size λmz w24 ho24 T hn24=>Qb ?_;have hk24:Qh 3 ↑G w24 mz (d.ord++[e.2.2]):=Qh.snoc ho24;have hb12o:g4∉ob hW:=λhb=>oo (QU hh.o g4 hb)
    have h4:=g9.setO hH hS T hk24 hn24;have:=g7.size;have:=g8.size;have:=T.size;refine⟨(mz,O7 m4 e.2.2 (sS d.ord.length),(d.ord.length:Int)),ov,hcg,?_,(gg.I g8).J T hb12o,oa⟩;simp only[];rw[hL];exact h4
   have ho:¬O2 d.num e.2.2.toNat<0:=by simpa using g6
   have hL:Yo d e=d:=by unfold Yo;rw[mt,OP ho]
   have kf:(if O2 d.num e.2.2.toNat<0 then 0 else O2 d.num e.2.2.toNat)=O2 (Yo d e).num e.2.2.toNat:=by rw[hL,OP ho]
   refine Qf<|⟨(hW,m4,if O2 d.num e.2.2.toNat<0 then 0 else O2 d.num e.2.2.toNat),ov,kf.symm,?_,hg,Lp _⟩
   rw[hL];exact ha
  rintro⟨vo5,m5,tn⟩ g w25 ⟨m0,h4,gg,hz25⟩;simp only[]at h4 m0;have m1:(Yo d e).ed=d.ed:=by unfold Yo;split <;> rfl
  have hgN:Yh (Yo d e).num e.2.2=O2 (Yo d e).num e.2.2.toNat:=rfl;rw[hgN,m1,m0]at mw;have heN:Z6 179 ↑G w25 hX d.ed:=by have:=h4.e;rw[m1]at this;exact this
  refine Qs<|Qr O h4.B4 O O<|Qa<|Qr O gg O O<|Qa<|x (QB ⟨O,O,O,Z⟩) <|
   Qo<|Q5 [Qp ((i:Int),e.2.1,tn)] λb123 w26 m2 hb123 hB123=>?_
  have gh:=h4.I m2;refine Qo<|Q2 (m:=1) (news:=Qp ((i:Int),e.2.1,tn)) (L:=[]) (Qm heN m2) O O O (hB123.at od) (λu hu=>by simp only[Qp,oJ,oH,or_false]at hu;rcases hu with rfl|rfl|rfl <;> rfl) (oo S.el) gh.st.size λm3 w27 m6 m7 hn27=>?_
  have hk27:Z6 179 ↑G w27 m3 (d.ed++[((i:Int),e.2.1,tn)]):=Z6.snoc m6;refine Q7 O<|Qo<|Qv (gh.B4.J m7 (QJ gh.e hH)) O O od (Qz m6) λw28 hs28 hB28=>xe ?_;have m8:=gh.setE hH hS gt m7 hk27 hn27 hs28 hB28;rw[<-mw]at m8;refine Qs<|QC O O<|Qa<|xe<|⟨(k4+1,Zw i d e,m5,vo5,m3),oe,ov,m8,oe,hc5,?_,?_,?_,h3⟩
  ·simp only[];rw[<-gz];exact(QaH i d [] e).2
  ·simp only[];rw[QaI,mc];omega
  simp only[];obtain⟨r1,h1⟩:=yu i d e;obtain⟨r2',h2⟩:=hY;exact⟨r2'++r1,by rw[h1,h2,LE]⟩
 refine Qf ?_;have I:k<q.a.ed.length:=by have hQ:(k:Int)<(q.a.ed.length:Int):=go;omega
 have m9:=hq.ok.ed _ (Lk I);have htk:q.a.ed.take (k+1)=q.a.ed.take k++[q.a.ed[k]'I]:=Lh I;have h5:(q.a.ed.take (k+1)).filter (λe=>lft lf e.2.2)=(q.a.ed.take k).filter (λe=>lft lf e.2.2)++if lft lf (q.a.ed[k]'I).2.2=true then[q.a.ed[k]'I]else[]:=by
  rw[htk,LR];congr 1;by_cases h:lft lf (q.a.ed[k]'I).2.2=true
  ·simp[h]
  simp[h]
 have hfll:((q.a.ed.take k).filter (λe=>lft lf e.2.2)).length<=k:=Lx (LF _ _) (by rw[LA];omega);refine Zf ((q.a.ed.take k).filter (λe=>lft lf e.2.2)) λkept hkept=>?_;rw[hkept]at h5 V hfll;refine Zf (q.a.ed[k]'I) λe Y=>?_;rw[Y]at m9 h5;have pc:e.1=(e.1.toNat:Int):=oa
 have gb:e.2.2=(e.2.2.toNat:Int):=oa
 have hp:e.1.toNat<q.n:=oa
 refine Qe<|Qn<|Qc<|xie ko.a.ed O O I λa52 hQ=>?_;rw[Y]at hQ;refine x (QE hQ O O)<|QP [sS 0,sS 0,sS 0] λb7 w8 gq hb7 h6=>Q0 (Qp e) h6 ox λG gr h6=>xe ?_;have J:sW w7 G:=gq.O gr hb7;have p6:=J.size;have ka:=V.I J;have hJ:=kn.I J;refine Qe<|ZJ [] (Y4 0 8 [])<|p Qy<|p (YC O)<|p (QH O)<|pq (λ_ E=>Qk ((ko.I J).B.I E) O O)<|p (QH O)<|pq (λ_ E=>Qk (h6.I E) O O) <|
  p (λ_=>QD (i:=e.2.2.toNat) O (OR sS gb) oa)<|pq (v:=.bool (lft lf e.2.2)) (λ_ E=>(Jw (i:=e.2.2.toNat) ((hB.I (gn.D J)).I E) O oa).D (by rw[(Uv (l:=lf) (s:=e.2.2) oa)]))<|pe ?_
 have h7:sW G { G with drawn:=G.drawn+1 }:=O1.C _ _
 refine Q9 rfl (λkb=>?_) (λkb=>?_)
 ·rw[OQ kb]at h5;have kc:∀b∈ob (rv e.1.toNat),↑w6<=b/\b<w7.heap.size:=λb hb=>⟨(Qi (V.own _ hp) b hb).1,QU (V.own _ hp) b hb⟩;have pd:bE∉ob (rv e.1.toNat):=λhb=>oo (kc _ hb)
  have ke:b7∉ob (rv e.1.toNat):=λhb=>oo (kc _ hb)
  have kp:=QaQ kept e.1.toNat;refine Vq (O1 (ob (rv e.1.toNat)) G) [oz 0,oz 1,oz 2,oz 3,oz 4,oz 5,oz 6,oz 7,oz 8,oA 9,oA 10,oz 11,oA 12] mixed oh oc (h7.any.Q (O1.C _ _)) ?_;refine p Qy<|p (QH O)<|pq (λ_ E=>Qk (h6.J E ke) O O)<|p Qy<|p (QH O) <|
   pq (λ_ E=>Qk (h6.J E ke) O O)<|p (λ_=>QD (i:=e.1.toNat) O (OR sS pc) hp)<|pq (λ_ E=>Qk (u:=rv e.1.toNat) (hJ.J E pd) O (Kv hp)) <|
   pq (λ_ E=>Zj (h6.J E ke) O O)<|pk<|Q5 [Qp e] λb71 gs hw hb71 hB71=>⟨(h7.any.Q (O1.C _ _)).Q hw.any,?_⟩
  have h8:sW G gs:=(h7.D (O1.C _ _)).D hw;have hz10:=h8.size;refine pk<|Q2 (m:=1) (news:=Qp e) (L:=[]) (Qm (ka.own _ hp) h8) O O O (hB71.at od) (λu hu=>by simp only[Qp,oJ,oH,or_false]at hu;rcases hu with rfl|rfl|rfl <;> rfl) oa oa λvr j2 pf gi hn11=>⟨h8.any.Q gi,?_⟩
  have hlen:((oK q.n).map rv).length=q.n:=od
  refine p (λ_=>QD (i:=e.1.toNat) O (OR sS pc) hp)<|pkk<|Qv (j:=0+e.1.toNat*1) (u:=vr) ((hJ.I h8).J gi pd) O O (by rw[hlen];omega) (Qz pf) λhy U hBE12=>pe ?_;have g5:QK ↑hy bE 51 ((oK q.n).map (Xd rv e.1.toNat vr)):=by
   have e1:=JK id q.n rv e.1.toNat vr;simp only[id]at e1;rw[<-e1];simpa using hBE12
  have hvn:∀b∈ob vr,b∈ob (rv e.1.toNat)\/↑G<=b:=λb hb=>(hn11 b hb).imp id (λh=>oa);have pg:=ka.app hp (Z6.snoc pf) (h8.any.Q gi) hvn;have ph:=pg.J U (λi hi b hb=>by have:=(Qi (pg.own i hi) b hb).1;simp only[oF];omega);rw[Ui kept e m9.1,<-h5]at ph;refine Qs<|QC O O<|Qa<|xe ?_;exact⟨(k+1,Xd rv e.1.toNat vr),oe,La,I,(((hP.D J).D h8).S gi (λb hb=>.inr (kc b hb).1)).Q U,g5,ph⟩
 rw[OP (by rw[kb];decide),LH]at h5;refine Qf<|Qs<|QC O O<|Qa<|xe ?_;exact⟨(k+1,rv),oe,La,I,(hP.D J).D h7,(hJ.I h7),by simp only[];rw[h5];exact ka.I h7⟩
def EdR (L:LN)(H:xw)(v:OY)(n:Nat)(ed:List Ed):Prop :=
 ∃rv:Nat->OY,Zs L H v (oK n).length 1 ((oK n).flatMap λi=>[rv i])/\∀i:Nat,i<n->Ua L H (rv i) (QS ed i)
theorem EdR.I {L:LN}{w w':OX}{v:OY}{n:Nat}{ed:List Ed}(h:EdR L ↑w v n ed)(E:sW w w'):EdR L ↑w' v n ed :=
 let⟨rv,G,I⟩:=h;⟨rv,G.I E,λi hi=>(I i hi).I E⟩
theorem qP (n:Nat)(rv:Nat->OY):((oK n).flatMap λi=>[rv i])=(oK n).map rv:=by
 induction oK n with
 | nil=>rfl
 | cons x l ih=>rw[LK,ih];rfl
theorem QK.ne {H:xw}{a b T':Nat}{G:LV}(h:QK H a T cs)(E:QK H b T' G)(hT:T≠T'):a≠b:=λe=>by
 subst e;unfold QK at h E;rw[h]at E;injection E with h1
 injection h1 with h2 h3
 exact hT h3
abbrev slN (b n:Nat):OY:=sL b n n
theorem Jk.edr {b:Nat}{f:Nat->OY}(h:Jk base w n f (Ve ed))(E:QK ↑w b T ((oK n).map f))(G:n<=4096)(I:ed.length<=1000000):EdR [] ↑w (slN b n) n ed:=by
 refine⟨f,?_,λi hi=>QN (h.own i hi) (oo (Z8 ed i)) od⟩;rw[qP];have:=E.arr (L:=[]) od (n:=(oK n).length) (cap:=n) (sz:=1) od (by simp;omega) od;rw[L4]at this ⊢;exact this
structure ObA (H:xw)(vr vk vz vm:OY)(a:QF)(o:LI):Prop where
 r:EdR [] H vr a.st.toNat a.ed
 k:Qt [] H vk (kpt a o)
 z:Qt [] H vz (ers a o)
 m:Qt [] H vm a.mr
theorem ObA.I {w w':OX}{vr vk vz vm:OY}{a:QF}{o:LI}(h:ObA ↑w vr vk vz vm a o)(E:sW w w'):ObA ↑w' vr vk vz vm a o:=⟨h.r.I E,h.k.I E,h.z.I E,h.m.I E⟩
abbrev yG:LV:=[nS,nS,nS,nS]
instance:Bw sV 201 yG [(0,1),(1,1),(2,1),(3,1)]:={}
def obP (base n:Nat)(vm:OY)(i:Nat)(v:OY)(w:OX):Prop :=
 if i=2 then ∃b,v=slN b n/\base<=b/\QK ↑w b 51 ((oK n).map λ_=>nS)else
 if i=5 then ∃b,v=.agg #[slN b n,ZR,ZR,vm]/\base<=b/\QK ↑w b 51 ((oK n).map λ_=>nS)else
 ∃b,v=sP b/\base<=b/\QK ↑w b 201 yG
theorem Qj8 {v:OY}(h:obP base n vm i v w)(E:sW w w'):obP base n vm i v w':=by
 unfold obP at *
 repeat' split at h
 all_goals simp_all only[if_true,if_false]
 all_goals exact(let⟨b,G,I,J⟩:=h;⟨b,G,I,J.I E⟩)
theorem Qhx (o:LI){k:Nat}(h:k<a.al.length):((a.al.take (k+1)).filter λv=>decide (v∈o))=((a.al.take k).filter λv=>decide (v∈o))++if a.al[k]'h∈o then[a.al[k]'h]else[]:=by
 rw[Lh h,LR];congr 1;by_cases e:a.al[k]'h∈o <;> simp[e]
theorem Qik (o:LI){k:Nat}(h:k<a.al.length):((a.al.take (k+1)).filter λv=>!decide (v∈o))=((a.al.take k).filter λv=>!decide (v∈o))++if a.al[k]'h∈o then[]else[a.al[k]'h]:=by
 rw[Lh h,LR];congr 1;by_cases e:a.al[k]'h∈o <;> simp[e]
theorem QcD (h:Zr [] ↑w va vm ve a)(hO:Qt [] ↑w vo o)(h5:Zb a):
  QT sV 94 [.agg #[va,sS a.st,vm,ve],vo] w λr w'=>sW w w'/\∃vr vk vz,r=.agg #[vr,vk,vz,vm]/\ObA ↑w' vr vk vz vm a o/\Qh 3 ↑w w' vk (kpt a o):=by
 have kq:=h5.st0;have kr:=h5.st1;obtain⟨n,hn⟩:∃n:Nat,a.st=n:=⟨a.st.toNat,oa⟩;have gz:a.st.toNat=n:=oa
 have kt:=h5.ed_le;have ku:=h.al.le;have g0:=h5.ed;refine Zn func94 ?_;refine Qc<|Zd [va,sS a.st,vm,ve] λb2 w1 hY kv h6=>QP yG λb4 w2 hw kw ga=>xe ?_;have hD:=hY.D hw;have kx:=ga.lt;have kz:=hY.size;refine Qe<|KJ (α:=Nat×Nat) (sW w2) [oz 0,oz 1,oz 3,oz 4] (λi=>if i=5 then[2]else[]) [2,5,6] [oA 7] [(12,12),(15,15),(5,5)] (obP ↑w2 n vm)
  (λz=>[(15,.agg #[slN z.1 n,ZR,ZR,vm]),(5,.pointer (some ⟨z.2,0,none⟩))]) (λz w'=>QK ↑w' z.1 51 ((oK n).map λ_=>nS)/\QK ↑w' z.2 201 yG/\↑w2<=z.1/\↑w2<=z.2)
  mixed oh oc (O1.C _ _) (λ_ _ h1 h2=>h1.D h2) (λ_ _ _ _ h hs=>Qj8 h hs) ?_ ?_
 ·rintro g w' ⟨_,⟨b6,e1,g2,g3⟩,⟨b7,e2,g4,g5⟩,_⟩ _;exact⟨(b6,b7),⟨e1,e2,Z⟩,g3,g5,g2,g4⟩
 refine p (QH O)<|pq (λ_ G=>Qk ((h6.I hw).I G) O O)<|p (QH O)<|pq (λ_ G=>Qk ((h6.I hw).I G) O O)<|pe ⟨⟨?_,?_,?_,Z⟩,?_⟩
 ·intro g w' G _;refine YP (n:=n) (OR sS hn) (OR sS hn) oa λb V Y hb hB=>⟨Y,⟨b,O,Lx G.size hb,?_⟩,λc hy=>by rw[Lb.1 (show c∈[b] from hy)];exact⟨hb,hB.lt⟩⟩;rw[<-VC];exact hB
 ·rintro g w' G ⟨⟨b,e2,hb,hB⟩,_⟩;refine xv (Zq [(0,[slN b n]),(3,[vm])] ⟨OR Value.cells e2,O,h.mr.cells,O,Z⟩) ?_;exact⟨O1.Z _ _,⟨b,O,hb,hB⟩,λc hy=>by cases hy⟩
 ·intro g w' G _;exact YK (us:=yG) O λb V Y hb hB=>⟨Y,⟨b,O,Lx G.size hb,hB⟩,λc hy=>by rw[Lb.1 (show c∈[b] from hy)];exact⟨hb,hB.lt⟩⟩
 rintro⟨bI,b5⟩ g w3 gb ⟨hE,hF,gc,h7⟩;simp only[]at hE hF gc h7;have hG:=QK.ne hE hF og;refine pk<|Us [slN bI n,ZR,ZR,vm] hF ⟨O,O,O,h.mr.one,Z⟩ λw4 hH ge=>⟨gb.O hH h7,pe ?_⟩;have h8:sW w2 w4:=gb.O hH h7;have gg:=hE.J hH (by simp only[oF];exact hG);have k0:=gg.lt;have k4:=ge.lt;have g6:=(h6.I hw).I h8;refine Qe<|Qc<|Qr O g6 O O<|QG (h.ed.I (hD.D h8)) O<|Qa<|xe<|QW (α:=Nat×(Nat->OY)) [(7,7),(19,37)] (λz=>[(19,sS z.1)]) (λz w'=>z.1<=a.ed.length/\O1 [bI] w4 w'/\QK ↑w' bI 51 ((oK n).map z.2)/\Jk ↑w4 w' n z.2 (Ve (a.ed.take z.1))) (λz=>a.ed.length - z.1) (0,λ_=>nS) La
  ⟨Ln _,O1.Z _ _,gg,⟨λi _=>QM _ _ _ _,λi j _ _ _=>Dj.nil _⟩⟩ ?_
 rintro⟨k,rv⟩ g V ⟨hk,Y,hI,hh⟩;simp only[]at hk hI hh;have k5:=Y.size;have hJ:sW w2 V:=h8.O Y gc;have hL:=hD.D hJ;have g7:=(h6.I hw).I hJ;have gh:=ge.J Y (by simp only[oF];exact hG.symm);refine Zi rfl O (λhM=>?_) (λhM=>?_)
 ·refine Qu ?_;have g8:a.ed.length<=k:=by have hN:¬(k:Int)<(a.ed.length:Int):=hM;omega
  rw[Lq g8]at hh;refine Qe<|Qc<|Qr O g7 O O<|QG (h.al.I hL) O<|Qa<|xe<|QW (α:=Nat×OY×OY) [(9,9),(41,60)] (λz=>[(41,sS z.1)]) (λz w'=>z.1<=a.al.length/\O1 [b5] V w'/\QK ↑w' b5 201 [slN bI n,z.2.1,z.2.2,vm]/\Qh 3 ↑V w' z.2.1 ((a.al.take z.1).filter λv=>decide (v∈o))/\Qh 3 ↑V w' z.2.2 ((a.al.take z.1).filter λv=>!decide (v∈o))/\Dj z.2.1 z.2.2) (λz=>a.al.length - z.1) (0,ZR,ZR) La
   ⟨Ln _,O1.Z _ _,gh,QM _ _ _ _,QM _ _ _ _,Dj.nil _⟩ ?_
  rintro⟨j,vk,vz⟩ g w6 ⟨hj,ha,hq,hl,ho,hz⟩;simp only[]at hj hq hl ho hz;have k6:=ha.size;have g9:sW w2 w6:=hJ.O ha h7;have h9:=hD.D g9;have hr:=Qi hl;have h0:=Qi ho;have gi:((a.al.take j).filter λv=>decide (v∈o)).length<=j:=Lx (LF _ _) (by rw[LA];omega);have gj:((a.al.take j).filter λv=>!decide (v∈o)).length<=j:=Lx (LF _ _) (by rw[LA];omega);refine Zi O O (λhP=>?_) (λhP=>?_)
  ·refine Qu ?_;have ka:a.al.length<=j:=by have hN:¬(j:Int)<(a.al.length:Int):=hP;omega
   rw[Lq ka]at hl ho gi gj;have gk:(kpt a o).length<=1099511627776:=Lx gi oa;have gl:(ers a o).length<=1099511627776:=Lx gj oa;have hK:Qt [] ↑w6 vk (kpt a o):=Qh.ints hl gk od;have hZ:Qt [] ↑w6 vz (ers a o):=Qh.ints ho gl od;refine Qc<|QY hq O O<|Q0 [slN bI n,vk,vz,vm] ((ga.I h8).J Y ol |>.J ha ol) ⟨rfl,hK.one,hZ.one,h.mr.one,Z⟩ λw7 hf kb=>xe ?_;have hQ:∀v:OY,(∀b∈ob v,↑V<=b)->∀b∈ob v,b∉[b4]:=λv hv b hb E=>by have:=hv b hb;rw[Lb.1 E]at this;omega
   refine Qj ⟨[.agg #[slN bI n,vk,vz,vm]],⟨Jm kb,Z⟩,h9.O hf oa,slN bI n,vk,vz,O,⟨?_,?_,?_,?_⟩,Q8 (Qg hl hf (hQ vk λb hb=>(hr b hb).1)) hL.size⟩
   ·rw[gz];refine((hh.J ha λi hi b hb=>?_).J hf λi hi b hb=>?_).edr ((hI.J ha (by simp only[oF];exact hG)).J hf ol) oa oa
    ·have:=(Qi (hh.own i hi) b hb).1;simp only[oF];omega
    have:=(Qi (hh.own i hi) b hb).1;simp only[oF];omega
   ·exact Qh.ints (Qg hl hf (hQ vk λb hb=>(hr b hb).1)) gk od
   ·exact Qh.ints (Qg ho hf (hQ vz λb hb=>(h0 b hb).1)) gl od
   exact h.mr.I (h9.O hf oa)
  have J:j<a.al.length:=by have hN:(j:Int)<(a.al.length:Int):=hP;omega
  have hg:=Qhx (a:=a) o J;have ht:=Qik (a:=a) o J;refine Qf<|Qe<|Qn<|Qc<|xii (i:=j) (h.al.I h9) O O J λk9 gm=>?_;refine Zf (a.al[j]'J) λv hv=>?_;rw[hv]at gm hg ht;refine x (Qq gm O)<|Qb<|Ql<|Qa<|Qw<|(ZE (hO.I h9) v).Y ?_;rintro r6 w7 ⟨rfl,rfl⟩;refine xe<|Q9 O (λhR=>?_) (λhR=>?_)
  ·have hvo:v∈o:=OU hR;rw[OQ hvo]at hg ht;rw[LH]at ht;refine Qs<|Qr O hq O O<|Qa<|Qo<|Q5 [[sS v]] λma w8 I mc kc =>
    Qo<|Q2 (m:=1) (news:=[sS v]) (L:=[]) (Qm hl I) O O O (kc.at od) om oa (oo I.size) λv8 w9 T S h3=>?_
   have ke:=I.size;have hS:b5∉ob vk:=λE=>oo (hr b5 E).1
   refine Q7 O<|Qo<|Qv (u:=v8) ((hq.I I).J S hS) O O (LX O) (Qz T) λhT U hU=>xe ?_;refine Qs<|QC O O<|Qa<|xe ?_;have hV:∀b∈ob v8,b∉[b5]:=λb hb E=>by
    have:=(Qi T b hb).1;rw[Lb.1 E]at this;omega
   refine⟨(j+1,v8,vz),by show a.al.length - (j+1)<a.al.length - j;omega,La,J,((ha.D I).S S λb hb=>.inr (hr b hb).1).Q U,hU,?_,?_,?_⟩
   ·simp only[];rw[hg];exact Qh.snoc (Qg T U hV)
   ·simp only[];rw[ht];exact Qg (Qg (Qm ho I) S λb hb E=>hz b E hb) U λb hb E=>by
     have:=(h0 b hb).1;rw[Lb.1 E]at this;omega
   intro b hb E;rcases h3 b hb with h1|h1
   ·exact hz b h1 E
   have:=(h0 b E).2;omega
  have hvo:v∉o:=OW hR;rw[OP hvo]at hg ht;rw[LH]at hg;refine Qs<|Qr O hq O O<|Qa<|Qo<|Q5 [[sS v]] λmf w8 I mg hA =>
   Qo<|Q2 (m:=1) (news:=[sS v]) (L:=[]) (Qm ho I) O O O (hA.at od) om oa (oo I.size) λv8 w9 T S h3=>?_
  have ke:=I.size;have hS:b5∉ob vz:=λE=>oo (h0 b5 E).1
  refine Q7 O<|Qo<|Qv (u:=v8) ((hq.I I).J S hS) O O (LX O) (Qz T) λhT U hU=>xe ?_;refine Qs<|QC O O<|Qa<|xe ?_;have hV:∀b∈ob v8,b∉[b5]:=λb hb E=>by
   have:=(Qi T b hb).1;rw[Lb.1 E]at this;omega
  refine⟨(j+1,vk,v8),by show a.al.length - (j+1)<a.al.length - j;omega,La,J,((ha.D I).S S λb hb=>.inr (h0 b hb).1).Q U,hU,?_,?_,?_⟩
  ·simp only[];rw[hg];exact Qg (Qg (Qm hl I) S λb hb E=>hz b hb E) U λb hb E=>by
    have:=(hr b hb).1;rw[Lb.1 E]at this;omega
  ·simp only[];rw[ht];exact Qh.snoc (Qg T U hV)
  intro b hb E;rcases h3 b E with h1|h1
  ·exact hz b hb h1
  have:=(hr b hb).2;omega
 refine Qf ?_;have J:k<a.ed.length:=by have hN:(k:Int)<(a.ed.length:Int):=hM;omega
 have hg:a.ed.take (k+1)=a.ed.take k++[a.ed[k]'J]:=Lh J;have gn:=g0 _ (Lk J);refine Zf (a.ed[k]'J) λe he=>?_;rw[he]at hg gn;have go:e.1=(e.1.toNat:Int):=oa
 have hp:e.1.toNat<n:=oa
 have kf:(Ve (a.ed.take k) e.1.toNat).length<=(a.ed.take k).length:=Z8 _ _;rw[LA]at kf;refine Qe<|Qn<|Qc<|xie (h.ed.I hL) O O J λmh gq=>?_;rw[he]at gq;refine x (QE gq O O)<|QP [sS 0,sS 0,sS 0] λb7 w6 ha kg kh=>Q0 (Qp e) kh ox λw7 hf hW=>xe ?_;have h4:sW V w7:=ha.O hf kg;have mj:=h4.size;have gr:=hh.I h4;have hC:∀b∈ob (rv e.1.toNat),↑w4<=b/\b<V.heap.size:=λb hb=>⟨(Qi (hh.own _ hp) b hb).1,QU (hh.own _ hp) b hb⟩;have gs:bI∉ob (rv e.1.toNat):=λhb=>oo (hC _ hb)
 have gt:b5∉ob (rv e.1.toNat):=λhb=>oo (hC _ hb)
 have hX:b7∉ob (rv e.1.toNat):=λhb=>oo (hC _ hb)
 have gu:=hI.I h4;have hA:=gh.I h4;refine Vq (O1 (ob (rv e.1.toNat)) w7) [oz 0,oz 1,oz 2,oz 3,oz 4,oz 5,oz 6,oz 7,oz 8,oz 9,oz 10,oA 11,oA 12,oz 13,oA 14] mixed oh oc (O1.C _ _) ?_;refine p (QH O)<|pq (λ_ G=>Qk (hA.J G gt) O O)<|p (QH O)<|pq (λ_ G=>Qk (hW.J G hX) O O) <|
  p (QH rfl)<|pq (λ_ G=>Qk (hA.J G gt) O O)<|p (QH O)<|pq (λ_ G=>Qk (hW.J G hX) O O) <|
  p (λ_=>QD (i:=e.1.toNat) O (OR sS go) hp)<|pq (λ_ G=>Qk (u:=rv e.1.toNat) (gu.J G gs) O (Kv hp))<|pq (λ_ G=>Zj (hW.J G hX) O O) <|
  pk<|Q5 [Qp e] λmo w8 I mq ki=>⟨((O1.C _ _).D I).any,?_⟩
 have hu:sW w7 w8:=(O1.C _ _).D I;have ms:=hu.size;refine pk<|Q2 (m:=1) (news:=Qp e) (Qm (gr.own _ hp) hu) O O O (by have:=ki.at (L:=[]) od;simpa using this) (ZH.all (us:=Qp e) ⟨rfl,rfl,rfl,Z⟩) oa oa λvr w9 T S h3=>⟨hu.any.Q S,?_⟩;have kj:((oK n).map rv).length=n:=od
 have kk:=Z6.snoc T;refine p (λ_=>QD (i:=e.1.toNat) O (OR sS go) hp)<|pkk<|Qv (j:=0+e.1.toNat*1) (u:=vr) ((gu.I hu).J S gs) O O (by rw[kj];omega) (Qz T) λhT U kn=>pe ?_;have ko:QK ↑hT bI 51 ((oK n).map (Xd rv e.1.toNat vr)):=by
  have e1:=JK id n rv e.1.toNat vr;simp only[id]at e1;rw[<-e1];simpa using kn
 have kp:∀b∈ob vr,b∈ob (rv e.1.toNat)\/↑w7<=b:=λb hb=>(h3 b hb).imp id (λh=>oa);have gv:=gr.app hp kk (hu.any.Q S) kp;have gx:=gv.J U (λi hi b hb=>by have:=(Qi (gv.own i hi) b hb).1;simp only[oF];omega);have gy:=Ui (a.ed.take k) e gn.1;rw[<-hg]at gy;rw[gy]at gx;refine Qs<|QC O O<|Qa<|xe<|⟨(k+1,Xd rv e.1.toNat vr),by show a.ed.length - (k+1)<a.ed.length - k;omega,La,J,?_,ko,gx⟩;exact(((Y.D h4).D hu).S S (λb hb=>.inr (hC b hb).1)).Q U
end Go.Lg
namespace Go.Proofs
open Go.Proofs.Tryz
open Go.Shelf
def Tryz.sortI_ren:Go.Shelf.Ren:=⟨λ|5=>62|8=>141|7=>140|19=>220|20=>221|10=>211|11=>212|12=>213|13=>214|14=>215|15=>216|16=>217|17=>218|18=>219|30=>257|31=>258|32=>259|33=>260|34=>261|35=>262|40=>286|n=>n,λ|23=>47|25=>3|3=>3|32=>246|22=>47|0=>0|44=>317|46=>319|4=>4|36=>311|35=>310|41=>205|5=>5|9=>9|53=>363|57=>367|63=>389|64=>379|n=>n,λ|n=>n⟩
theorem Tryz.sortI:Go.Proofs.SlLaysM.n5 sV Tryz.sortI_ren:=lyS
def Tryz.cmpI_ren:Go.Shelf.Ren:=⟨λ|43=>161|n=>n,λ|22=>47|23=>3|3=>3|4=>4|0=>0|n=>n,λ|n=>n⟩
theorem Tryz.cmpI:Go.Proofs.SlLaysE.n43 sV Tryz.cmpI_ren:=lyS
def Tryz.delI_ren:Go.Shelf.Ren:=⟨λ|10=>63|6=>142|n=>n,λ|22=>47|23=>3|25=>141|3=>3|4=>4|0=>0|n=>n,λ|n=>n⟩
theorem Tryz.delI:Go.Proofs.SlLaysH.n10 sV Tryz.delI_ren:=lyS
end Go.Proofs
namespace Go.Lg
open Go.Lg Go.Sort Go.Lib
abbrev iC:Int->OY:=Value.int .i64
theorem JN {e:Nat}{cur:Array OY}(G:w.heap[g]?=some (.cells cur e (0,0)))(J:cur.toList.take (l.length*1)=l.map iC):Holds iC w g 0 l.toArray:=by
 intro j E;rw[LQ]at E;have S:cur.toList[j]?=some (iC l[j]):=by
  have I:(cur.toList.take (l.length*1))[j]?=(l.map iC)[j]?:=by rw[J]
  rw[LW,OQ oa,Mq,LD E]at I;exact I
 have T:l.toArray[j]! = l[j]:=by simp[E]
 constructor
 ·show(match w.heap[g]? with|some (.cells c _ _)=>if(none:Option _).isSome then none else c[0+j]?|_=>none)=_
  rw[G,T];simp only[oX,Option.isSome_none,Oh,if_false];rw[<-ME,S]
 show(match w.heap[g]? with|some (.cells _ _ (lo,hi))=>decide (lo<=0+j) && decide (0+j<hi)|_=>false)=false
 rw[G];simp
theorem VH {e:Nat}{cap k:Nat}{cur:Array OY}{os:xw}{d:Array Int}(S:base<=g)(I:w.heap[g]?=some (.cells cur e (0,0)))(hc:d.size<=cap)(T:cap<=maxLen)(U:cur.size=cap*1)(hk:k<=d.size):
  O1 [g] w (grow (putRow iC (Sort.ahead w n) g 0 d) os)/\Qh e base (grow (putRow iC (Sort.ahead w n) g 0 d) os) (sL g k cap) (d.toList.take k):=by
 have V:g<w.heap.size:=(LJ.1 I).1;have E:(grow (putRow iC (Sort.ahead w n) g 0 d) os).heap=w.heap.modify g (onCells (putCells iC 0 d))++os:=rfl;have Y:(d.toList.take k).length=k:=by simp;omega
 refine⟨⟨O,O,O,?_,λi hi hn=>?_⟩,?_⟩
 ·rw[E,Np,My];omega
 ·rw[E,Mv,My,OQ hi,MQ,OP (λe=>hn (by simp[e]))]
 unfold Qh;rw[Y];refine⟨by simp;omega,.inr ⟨g,cap,putCells iC 0 d cur,O,S,?_,oa,T,by simp[putCells,U],?_⟩⟩
 ·rw[E,Mv,My,OQ V,MQ,OQ rfl,I];rfl
 apply Nq;intro j;rw[LW,Mq,LW];by_cases J:j<k
 ·rw[OQ oa,OQ J];have ha:j<cur.size:=oa
  have G:j<d.size:=oa
  rw[ME,ME,MA G];simp only[putCells,Array.getElem?_mapIdx,Array.getElem?_eq_getElem ha,Ov,Nat.zero_le,oX,true_and,OQ G,OK];rw[getElem!_pos d j G]
 rw[OP oa,OP J];rfl
theorem JL {v:OY}(h:Qh 3 base w v l)(hl:l.length<=1099511627776):
  QT sV 62 [v] w λ_ w'=>O1 (ob v) w w'/\Qh 3 base w' v (l.mergeSort λx y=>decide (x<=y)):=by
 unfold QT;rcases h.2 with⟨rfl,T⟩|⟨g,cap,cur,rfl,U,I,hj,V,Y,ha⟩
 ·have hf:l=[]:=Lu T;subst hf;have E:=AnyM.slices_Sort_int_none Tryz.sortI none 0 w;change Calls sV 62 _ _ _ at E;refine Calls.mono E λe w' J=>?_;obtain⟨rfl,rfl⟩:=J;exact⟨O1.Z _ _,by rw[List.mergeSort_nil];exact h⟩
 have hh:g<w.heap.size:=(LJ.1 I).1;have E:=AnyM.slices_Sort_int Tryz.sortI g 0 cap l w (JN I ha) hh oa;change Calls sV 62 _ _ _ at E;refine Calls.mono E λe w' J=>?_;obtain⟨rfl,n,os,rfl⟩:=J;have S:=(M5 l (λx y=>decide (x<=y))).length_eq;have:=VH (e:=3) (n:=n) (k:=l.length) (os:=os) (d:=(l.mergeSort λx y=>decide (x<=y)).toArray) U I (by simp;omega) V Y od;refine⟨this.1,?_⟩;have G:=this.2;simp only[List.take_of_length_le (Nat.le_of_eq S)]at G;unfold Qh at G ⊢;rw[S]at G ⊢;exact G
theorem Qgv {v:OY}(h:Qh 3 base w v l)(E:l.length<=1099511627776):
  QT sV 62 [v] w λ_ w'=>O1 (ob v) w w'/\∃l',l'.length=l.length/\(∀x,x∈l'↔x∈l)/\Qh 3 base w' v l' :=
 (JL h E).Y λ_ _ ⟨G,I⟩=>⟨G,_,(M5 l _).length_eq,λ_=>(M5 l _).mem_iff,I⟩
theorem qw (l:LI):∀m,m<=l.length->∀x,x∈compactUpTo l.toArray m↔x∈l.take m
 | 0,_,x=>by simp[compactUpTo]
 | m+1,h,x=>by
  have G:m<l.length:=oa
  have hx:l.toArray[m]! = l[m]:=by simp[G]
  rw[compactUpTo_succ,Le,(qw l m oa x),Lh G,Le,hx,Lb];by_cases E:keeps l.toArray m=true
  ·rw[OQ E,Lb]
  rw[OP E];refine⟨λh=>.inl (h.resolve_right od),λh=>.inl (h.elim id λe=>?_)⟩;simp only[keeps,decide_eq_true_eq,not_or]at E;have S:m≠0:=by simpa using E.1
  have I:l.toArray[m]! = l.toArray[m - 1]!:=by simpa using E.2
  have J:l.toArray[m - 1]! = l[m - 1]:=by simp[show m - 1<l.length by omega]
  rw[e,<-hx,I,J];rw[List.mem_take_iff_getElem];exact⟨m - 1,oa,O⟩
theorem Qle {v:OY}(h:Qh 3 base w v l)(hl:l.length<=1099511627776):
  QT sV 161 [v] w λr w'=>O1 (ob v) w w'/\∃l',l'.length<=l.length/\(∀x,x∈l'↔x∈l)/\Qh 3 base w' r l':=by
 rcases h.2 with⟨rfl,S⟩|⟨g,cap,cur,rfl,T,G,U,V,Y,ha⟩
 ·have hf:l=[]:=Lu S;subst hf;refine Zn func161 ?_;refine Qc<|Qb<|Qe<|Ql<|x (qS O)<|ZX O O<|xe<|Za O (λ_=>?_) (λh8=>OS og h8);refine Ql<|Qb<|Qj ⟨[nS],La,O1.Z _ _,[],Lp _,λx=>Iff.rfl,h⟩
 unfold QT;have E:=AnyE.slices_Compact Tryz.cmpI iC (λ_=>O) (.intD _ _ .i64) (.intD _ _ .i64) 0 (λw=>oc) g 0 cap l.toArray w (JN G ha) (by simp;omega) (ou U);change Calls sV 161 _ _ _ at E;rw[LQ]at E;refine Calls.mono E λe w' he=>?_;obtain⟨rfl,q,rfl⟩:=he;have I:=qw l l.length (Lp _);rw[OH]at I;have hh:(compactUpTo l.toArray l.length).length<=l.length:=by
  unfold compactUpTo;rw[Lj];exact Lx (LF _ _) od
 generalize compactUpTo l.toArray l.length=u at *;have:=VH (e:=3) (n:=q) (k:=u.length) (os:=#[]) (d:=(u++oG (l.length - u.length) 0).toArray) T G (by simp;omega) V Y od;rw[grow_empty]at this;refine⟨this.1,u,hh,I,?_⟩;have J:=this.2;have h3:(u++oG (l.length - u.length) 0).toArray.toList.take u.length=u:=od
 rw[h3]at J;exact J
structure je where
 b:Nat
 va:OY
 vm:OY
 ve:OY
 vo:OY
 vu:OY
 vr:OY
 a:QF
 o:LI
 un:LI
abbrev Qjw (V:je):LV:=[V.va,sS V.a.st,V.vm,V.ve,V.vo,V.vu,V.vr]
structure jf (H:xw)(V:je):Prop where
 blk:QK H V.b 236 (Qjw V)
 a:Zr [] H V.va V.vm V.ve V.a
 o:Qt [] H V.vo V.o
 u:Qt [] H V.vu V.un
 r:EdR [] H V.vr V.a.st.toNat V.a.ed
 ok:Zb V.a
theorem jf.I {w w':OX}{V:je}(h:jf ↑w V)(E:sW w w'):jf ↑w' V:=⟨h.blk.I E,h.a.I E,h.o.I E,h.u.I E,h.r.I E,h.ok⟩
abbrev Qot:LV:=[nS,sS 0,nS,nS,nS,nS,nS]
instance:Bw sV 236 Qot [(0,4),(4,1),(5,1),(6,1)]:={}
theorem Qmh (h:Zr [] ↑w va vm ve a)(hO:Qt [] ↑w vo o)(hU:Qt [] ↑w vu un)(T:Zb a):
  QT sV 131 [.agg #[va,sS a.st,vm,ve],vo,vu] w λr w'=>sW w w'/\∃V:je,r=.pointer (some ⟨V.b,0,none⟩)/\jf ↑w' V/\V.a=a/\V.o=o/\V.un=un:=by
 have gh:=T.st0;have gi:=T.st1;obtain⟨n,hn⟩:∃n:Nat,a.st=n:=⟨a.st.toNat,oa⟩;have hF:a.st.toNat=n:=oa
 have gj:=T.ed_le;have hG:=T.ed;refine Zn func131 ?_;refine Qc<|Zd [va,sS a.st,vm,ve] λb3 U ht gk hj=>Qb ?_;have hu:sW U { U with drawn:=U.drawn+1 }:=O1.C _ _
 refine Qe<|ZJ [] (Y4 0 9 [5,7])<|pq (λ_ E=>Zj (hj.I E) O O)<|p Qy<|p Qy<|p (QH O)<|pq (λ_ E=>Qk (hj.I E) O O) <|
  pk<|YP (n:=n) (OR sS hn) (OR sS hn) oa λbI w2 hv hH hl=>⟨hu.D hv,?_⟩
 rw[VC]at hl;have hw:=hu.D hv;refine p (λ_=>Zq [(0,[va,sS a.st,vm,ve]),(1,[vo]),(2,[vu]),(3,[slN bI n])] ⟨O,O,hO.cells,O,hU.cells,O,O,O,Z⟩)<|pk<|UR (us:=[va,sS a.st,vm,ve,vo,vu,slN bI n]) O λb7 w3 hm gl hy=>⟨hw.D hm,p ZK<|pe ?_⟩;have ho:=hw.D hm;have hI:=ht.D ho;have gm:=hl.lt;have hJ:↑U<=bI:=hH;have gn:=hy.lt;have hK:=hl.I hm;have hL:=hj.I ho;refine Qe<|Qc<|Qr O hL O O<|QG (h.ed.I hI) O<|Qa<|xe<|QW (α:=Nat×(Nat->OY)) [(9,9),(21,43)] (λz=>[(21,sS z.1)]) (λz w'=>z.1<=a.ed.length/\O1 [bI] w3 w'/\QK ↑w' bI 51 ((oK n).map z.2)/\Jk ↑w3 w' n z.2 (Ve (a.ed.take z.1))) (λz=>a.ed.length - z.1) (0,λ_=>nS) La
  ⟨Ln _,O1.Z _ _,hK,⟨λi _=>QM _ _ _ _,λi j _ _ _=>Dj.nil _⟩⟩ ?_
 rintro⟨k,rv⟩ g w5 ⟨hk,hf,hp,I⟩;simp only[]at hk hp I;have go:=hf.size;have hM:sW U w5:=ho.O hf hJ;have Y:=ht.D hM;have hz:=hy.J hf ol;refine Zi rfl O (λhq=>?_) (λhq=>?_)
 ·refine Qu ?_;have hN:a.ed.length<=k:=by have hP:¬(k:Int)<(a.ed.length:Int):=hq;omega
  rw[Lq hN]at I;have hQ:EdR [] ↑w5 (slN bI n) n a.ed:=I.edr hp oa oa;refine Ql<|Qb<|Qj ⟨[sP b7],La,Y,⟨b7,va,vm,ve,vo,vu,slN bI n,a,o,un⟩,O,⟨hz,h.I Y,hO.I Y,hU.I Y,by rw[hF];exact hQ,T⟩,O,O,O⟩
 refine Qf ?_;have J:k<a.ed.length:=by have hP:(k:Int)<(a.ed.length:Int):=hq;omega
 have h0:a.ed.take (k+1)=a.ed.take k++[a.ed[k]'J]:=Lh J;have h1:=hG _ (Lk J);refine Zf (a.ed[k]'J) λe he=>?_;rw[he]at h0 h1;have h2:e.1=(e.1.toNat:Int):=oa
 have G:e.1.toNat<n:=oa
 have hR:(Ve (a.ed.take k) e.1.toNat).length<=(a.ed.take k).length:=Z8 _ _;rw[LA]at hR;refine Qe<|Qn<|Qc<|xie (h.ed.I Y) O O J λgq h3=>?_;rw[he]at h3;refine x (QE h3 O O)<|QP [sS 0,sS 0,sS 0] λb9 w6 hS hT hV=>Q0 (Qp e) hV ox λw7 hW hr=>xe ?_;have ha:sW w5 w7:=hS.O hW hT;have gr:=ha.size;have h4:=I.I ha;have hg:∀b∈ob (rv e.1.toNat),↑w3<=b/\b<w5.heap.size:=λb hb=>⟨(Qi (I.own _ G) b hb).1,QU (I.own _ G) b hb⟩;have h5:bI∉ob (rv e.1.toNat):=λhb=>oo (hg _ hb)
 have h6:b7∉ob (rv e.1.toNat):=λhb=>oo (hg _ hb)
 have hs:b9∉ob (rv e.1.toNat):=λhb=>oo (hg _ hb)
 have h7:=hp.I ha;have h8:=hz.I ha;refine Vq (O1 (ob (rv e.1.toNat)) w7) [oz 0,oz 1,oz 2,oz 3,oz 4,oz 5,oz 6,oz 7,oz 8,oz 9,oz 10,oz 11,oz 12,oz 13,oz 14,oA 15,oA 16,oz 17,oA 18] mixed oh oc (O1.C _ _) ?_;refine p Qy<|p (YC O)<|p (QH O)<|pq (λ_ E=>Qk (h8.J E h6) O O)<|p (QH O)<|pq (λ_ E=>Qk (hr.J E hs) O O) <|
  p Qy<|p (YC O)<|p (QH O)<|pq (λ_ E=>Qk (h8.J E h6) O O)<|p (QH O)<|pq (λ_ E=>Qk (hr.J E hs) O O) <|
  p (λ_=>QD (i:=e.1.toNat) O (OR sS h2) G)<|pq (λ_ E=>Qk (u:=rv e.1.toNat) (h7.J E h5) O (Kv G))<|pq (λ_ E=>Zj (hr.J E hs) O O) <|
  pk<|Q5 [Qp e] λgs w8 h9 gt hX=>⟨((O1.C _ _).D h9).any,?_⟩
 have S:sW w7 w8:=(O1.C _ _).D h9;have gu:=S.size;refine pk<|Q2 (m:=1) (news:=Qp e) (Qm (h4.own _ G) S) O O O (by have:=hX.at (L:=[]) od;simpa using this) (ZH.all (us:=Qp e) ⟨rfl,rfl,rfl,Z⟩) oa oa λvr w9 hA hh hY=>⟨S.any.Q hh,?_⟩;have hZ:((oK n).map rv).length=n:=od
 have ga:=Z6.snoc hA;refine p (λ_=>QD (i:=e.1.toNat) O (OR sS h2) G)<|pkk<|Qv (j:=0+e.1.toNat*1) (u:=vr) ((h7.I S).J hh h5) O O (by rw[hZ];omega) (Qz hA) λgb hB gc=>pe ?_;have ge:QK ↑gb bI 51 ((oK n).map (Xd rv e.1.toNat vr)):=by
  have e1:=JK id n rv e.1.toNat vr;simp only[id]at e1;rw[<-e1];simpa using gc
 have gg:∀b∈ob vr,b∈ob (rv e.1.toNat)\/↑w7<=b:=λb hb=>(hY b hb).imp id (λh=>oa);have hC:=h4.app G ga (S.any.Q hh) gg;have hD:=hC.J hB (λi hi b hb=>by have:=(Qi (hC.own i hi) b hb).1;simp only[oF];omega);have hE:=Ui (a.ed.take k) e h1.1;rw[<-h0]at hE;rw[hE]at hD;refine Qs<|QC O O<|Qa<|xe<|⟨(k+1,Xd rv e.1.toNat vr),by show a.ed.length - (k+1)<a.ed.length - k;omega,La,J,?_,ge,hD⟩;exact(((hf.D ha).D S).S hh (λb hb=>.inr (hg b hb).1)).Q hB
theorem QgU {v:OY}{n:Int}(h:Qt L ↑w v l)(T:∀x∈l,0<=x/\x<n)(hi:YN l):
  QT sV 167 [v,sS n] w λr w'=>r=sS 0/\w'=w:=by
 have he:=h.le;refine Zn func167 ?_;refine Qc<|Qb<|Qe<|Ql<|QG h O<|Qa<|xe<|QW (α:=Nat) [(4,6),(9,34)] (λz=>[(9,sS z)]) (λz w'=>z<=l.length/\w'=w) (λz=>l.length - z) 0 La ⟨Ln _,O⟩ ?_;rintro k g U ⟨hk,rfl⟩;refine Zi rfl O (λI=>?_) (λI=>?_)
 ·refine Qu<|Qc<|Qb<|Qj ⟨[_],La,O,O⟩
 have E:k<l.length:=by have G:(k:Int)<(l.length:Int):=I;omega
 have hf:=T _ (Lk E);refine Qf<|Qe<|Qn<|Ql<|xii (i:=k) h O O E λhg V=>x (Qq V O)<|x Qd<|Qb<|Qn<|QV (α:=Unit) [(14,21)] (λ_=>[(14,.bool false)]) (λ_ w'=>w'=U) oh ?_ ?_
 ·refine Qs<|Qa<|xb (Yw O O) (λG=>OS G oa) (λG=>?_);refine Qa<|Qa<|Qa<|x (Yd O O)<|QA O<|Qb<|⟨(),⟨OR Value.bool (OV oa),Z⟩,O⟩
 rintro _ g2 Y rfl;refine Zz rfl<|QV (α:=Unit) [(22,33)] (λ_=>[(22,.bool false)]) (λ_ w'=>w'=Y) oh ?_ ?_
 ·refine Qs<|Qa<|xb (Z2 O O) (λJ=>?_) (λJ=>?_)
  ·have hh:0<k:=by have hj:(0:Int)<(k:Int):=J;omega
   have S:k - 1<l.length:=oa
   have ha:((k:Int) - 1)=((k - 1:Nat):Int):=oa
   have hl:=Md.1 hi (k - 1) k S E oa;refine Qa<|Qa<|Qa<|Qa<|x (X9 O O ⟨oa,oa⟩)<|xii (i:=k - 1) h O (show Go.Lg.ev _ _=_ from OR sS ha) S λhm hc =>
    x (Qq hc O)<|x (Ja O O)<|QA O<|Qb<|⟨(),⟨OR Value.bool (OV oa),Z⟩,O⟩
  refine Qa<|Zy<|Zy<|J0<|QA O<|Qb<|⟨(),La,O⟩
 rintro _ g3 w3 rfl;refine Zz rfl<|Qf<|Qs<|QC O O<|Qa<|xe ?_;exact⟨k+1,oa,La,E,O⟩
theorem QcB (h:Zr L ↑w va vm ve a)(I:Qt L ↑w vo o)(J:Zb a)(S:∀x∈o,0<=x/\x<32)(hi:YN o):
  QT sV 93 [.agg #[va,sS a.st,vm,ve],vo] w λr w'=>r=sS 0/\sW w w':=by
 refine Zn func93 ?_;refine Qc<|Zd [va,sS a.st,vm,ve] λU V E Y T=>Qb ?_;have hA:=YV (h.I E);rw[(ZF a).2 J]at hA;refine Qe<|Qc<|QY T O O<|Qw<|hA.Y ?_;rintro r2 w2 ⟨rfl,G⟩;refine Qb<|Ql<|ZI O O<|xe<|Zz rfl<|Qf<|Ql<|Qw<|(QgU ((I.I E).I G) S hi).Y ?_;rintro r3 w3 ⟨rfl,rfl⟩;refine Qb<|Qj ⟨[_],La,O,E.D G⟩
def pkB (l:LI):List UInt8:=l.map λx=>UInt8.ofNat (x.toNat+1)
def pkA (l:LI):ByteArray:=⟨(pkB l).toArray⟩
theorem QjU {m:LI}(I:∀x∈l,0<=x/\x<100)(J:∀x∈m,0<=x/\x<100)(h:pkA l=pkA m):l=m:=by
 have E:pkB l=pkB m:=by
  have:=OR (λb:ByteArray=>b.data.toList) h;simpa[pkA]using this
 clear h;induction l generalizing m with
 | nil =>
  cases m with
  | nil=>rfl
  | cons y m=>cases E
 | cons x l ih =>
  cases m with
  | nil=>cases E
  | cons y m =>
   obtain⟨S,T⟩:=List.cons.inj E;have U:=OR UInt8.toNat S;have V:=I x Lo;have Y:=J y Lo;rw[Xe oa,Xe oa]at U;rw[show x=y by omega,ih (λz G=>I z (Lm _ G)) (λz G=>J z (Lm _ G)) T]
theorem Qdd {v:OY}{r:Nat}(h:w.ownsRow base 5 1 v n cs)(U:r<128)(V:n+1<=1000000000)(hb:base<=↑w):
  QT sV 240 [v,.int .i32 (r:Int)] w λv' w'=>O1 (ob v) w w'/\w'.ownsRow base 5 1 v' (n+1) (cs++[.int .u8 (r:Int)]):=by
 refine Zn func240 ?_;refine Qc<|Qb<|Qe<|Ql<|x (Z9 (n:=(r:Int)) O (show inK .u32 (r:Int) from⟨oa,oa⟩))<|x (Ja O O)<|xe<|Za rfl (λG=>?_) (λG=>OS (show(r:Int)<=127 by omega) G);refine Ql<|Qa<|x (Z9 (n:=(r:Int)) O (show inK .u8 (r:Int) from⟨oa,oa⟩))<|Qo<|Q5 [[.int .u8 (r:Int)]] λb11 Y E ha I =>
  Qo<|Q2 (m:=1) (news:=[.int .u8 (r:Int)]) (L:=[]) (Qm h E) O O O (I.at od) om oa (oo E.size) λJ w2 S T hc=>Qb<|Qj ⟨[J],La,E.any.Q T,S⟩
theorem jm {T:OX}{b:Nat}{E:List UInt8}{p:OY}(h0:sW T w)(hb:↑T<=b)(hp:p=.pointer none\/p=me b)(h:Bl p b E w){r:Nat}(hr:r<128)(hl:E.length+1<=1000000000):
  QT sV 169 [me b,.int .i32 (r:Int)] w λ_ w'=>sW T w'/\Bl (me b) b (E++[UInt8.ofNat r]) w':=by
 refine Zn func169 ?_;refine Qc<|x Qd<|Qb<|Ql<|Qw<|(Kc h0 hb hp h).Y ?_;rintro r1 w1 ⟨rfl,hg,v,I,J⟩;refine xe ?_;have hn:=I.lt;have hh:Zs [] ↑w1 v E.length 1 (Lib.byteCells E):=QN J oa od;refine Ql<|Z0 O<|Qr O I O O<|QG hh O<|Qb<|Ql<|Qa<|Z0 O<|Qr O I O O<|Qa<|Qw<|(Qdd J hr hl oa).Y ?_;rintro S V ⟨Y,hj⟩;have U:V.ownsRow (b+1) 5 1 S (E++[UInt8.ofNat r]).length (Lib.byteCells (E++[UInt8.ofNat r])):=by
  have e:(UInt8.ofNat r).toNat=r:=Xe oa;simpa[Lib.byteCells,e]using hj
 have hk:Zs [] ↑V S (E++[UInt8.ofNat r]).length 1 (Lib.byteCells (E++[UInt8.ofNat r])):=QN U (by simp;omega) od;refine Z0 rfl<|Q7 O<|Qo<|Qv (I.J Y (λG=>oo (Qi J b G).1)) O O od hk.one λw4 ha he=>xe ?_;have hf:=Qg U ha (λc G=>by have:=(Qi U c G).1;simp;omega);have hm:Zs [] ↑w4 S (E++[UInt8.ofNat r]).length 1 (Lib.byteCells (E++[UInt8.ofNat r])):=QN hf (by simp;omega) od;have hq:(E++[UInt8.ofNat r]).length=E.length+1:=od
 refine Ql<|Z0 O<|Qr O he O O<|QG hm O<|Qa<|x (X9 O O ⟨oa,oa⟩)<|x Qd<|Qb<|Qj ⟨[_,.nilIface],ov,((hg.S Y (λc G=>.inr ?_)).O ha hb),S,he,hf⟩;have:=(Qi J c G).1;omega
theorem jF {v:OY}(h:Qt L ↑w v l)(hb:∀x∈l,0<=x/\x<100)(hl:l.length<=1000000):
  QT sV 96 [v] w λr w'=>r=.string (pkA l)/\sW w w':=by
 refine Zn func96 ?_;refine Qc<|Qb<|Qc<|QP [.pointer none,nS] λG w1 ha U hc=>xe ?_;refine Qe<|Ql<|QG h O<|Qa<|xe<|QW (α:=Nat×OY) [(5,5),(8,16)] (λz=>[(8,sS z.1)]) (λz w'=>z.1<=l.length/\sW w w'/\(z.2=.pointer none\/z.2=me G)/\Bl z.2 G (pkB (l.take z.1)) w') (λz=>l.length - z.1) (0,.pointer none) La
  ⟨Ln _,ha,.inl O,⟨_,hc,QM _ _ _ _⟩⟩ ?_
 rintro⟨k,p⟩ g w2 ⟨hk,J,S,I⟩;simp only[]at hk S I;refine Zi rfl O (λT=>?_) (λT=>?_)
 ·refine Qu ?_;have he:l.length<=k:=by have hf:¬(k:Int)<(l.length:Int):=T;omega
  rw[Lq he]at I;refine Qc<|Kr<|(KO J U S I).Y ?_;rintro r3 w3 ⟨rfl,hg⟩;refine Qb<|Qj ⟨[_],La,O,hg⟩
 have E:k<l.length:=by have hf:(k:Int)<(l.length:Int):=T;omega
 have hh:=hb _ (Lk E);have V:pkB (l.take (k+1))=pkB (l.take k)++[UInt8.ofNat ((l[k]'E).toNat+1)]:=by
  rw[Lh E];unfold pkB;rw[Lv];rfl
 refine Qf<|Qe<|Qn<|Qc<|xii (i:=k) (h.I J) O O E λho Y=>?_;refine Zf (l[k]'E) λs hs=>?_;rw[hs]at Y hh V;have hj:s+1=((s.toNat+1:Nat):Int):=oa
 have hq:(pkB (l.take k)).length<=1000000:=by unfold pkB;rw[Lj,LA];omega
 refine x (Qq Y O)<|Qb<|Qs<|Qa<|QC O O<|x (Z9 (n:=s+1) O (show inK .i32 (s+1) from⟨oa,oa⟩))<|Qo<|xf ?_;refine(show QT _ _ [me G,.int .i32 (s+1)] _ _ by rw[hj];exact jm J U S I oa oa).Y ?_;rintro r4 w4 ⟨hm,hn⟩;refine xe<|Qs<|QC O O<|Qa<|xe<|⟨(k+1,me G),by show l.length - (k+1)<l.length - k;omega,La,E,hm,.inr O,?_⟩;simp only[];rw[V];exact hn
theorem Qaj {l:LI}(G:l.Pairwise (·<=·)):∀m,m<=l.length->YN (compactUpTo l.toArray m)
 | 0,_=>by simp[compactUpTo,YN]
 | m+1,h=>by
  have J:m<l.length:=oa
  have hx:l.toArray[m]! = l[m]:=by simp[J]
  rw[compactUpTo_succ];by_cases E:keeps l.toArray m=true
  ·rw[OQ E];refine Mj.2 ⟨Qaj G m oa,od,λx S y T=>?_⟩;rw[Lb.1 T,hx];have U:=(qw l m oa x).1 S;obtain⟨i,hi,e⟩:=List.mem_take_iff_getElem.1 U;have Y:i<m:=oa
   have I:m - 1<l.length:=oa
   have h3:l[m - 1]≠l[m]:=by
    simp only[keeps,decide_eq_true_eq]at E;rcases E with E|E
    ·have:m=0:=by simpa using E
     omega
    intro e2;have V:l.toArray[m - 1]! = l[m - 1]:=by simp[I]
    exact E (by rw[hx,V,e2])
   have h5:l[i]<=l[m - 1]:=by
    by_cases e3:i=m - 1
    ·subst e3;exact Mt _
    exact Md.1 G i (m - 1) oa I oa
   have h6:=Md.1 G (m - 1) m I J oa;omega
  rw[OP E,LH];exact Qaj G m oa
theorem Qld {v:OY}(h:Qh 3 base w v l)(hl:l.length<=1099511627776)(S:l.Pairwise (·<=·)):
  QT sV 161 [v] w λr w'=>O1 (ob v) w w'/\∃l',YN l'/\(∀x,x∈l'↔x∈l)/\Qh 3 base w' r l':=by
 rcases h.2 with⟨rfl,T⟩|⟨g,cap,cur,rfl,U,G,V,Y,ha,hf⟩
 ·have hh:l=[]:=Lu T;subst hh;refine Zn func161 ?_;refine Qc<|Qb<|Qe<|Ql<|x (qS O)<|ZX O O<|xe<|Za O (λ_=>?_) (λh8=>OS og h8);refine Ql<|Qb<|Qj ⟨[nS],La,O1.Z _ _,[],.nil,λx=>Iff.rfl,h⟩
 unfold QT;have E:=AnyE.slices_Compact Tryz.cmpI iC (λ_=>O) (.intD _ _ .i64) (.intD _ _ .i64) 0 (λw=>oc) g 0 cap l.toArray w (JN G hf) (by simp;omega) (ou V);change Calls sV 161 _ _ _ at E;rw[LQ]at E;refine Calls.mono E λe w' he=>?_;obtain⟨rfl,q,rfl⟩:=he;have I:=qw l l.length (Lp _);rw[OH]at I;have hi:=Qaj S l.length (Lp _);have hj:(compactUpTo l.toArray l.length).length<=l.length:=by
  unfold compactUpTo;rw[Lj];exact Lx (LF _ _) od
 generalize compactUpTo l.toArray l.length=u at *;have:=VH (e:=3) (n:=q) (k:=u.length) (os:=#[]) (d:=(u++oG (l.length - u.length) 0).toArray) U G (by simp;omega) Y ha od;rw[grow_empty]at this;refine⟨this.1,u,hi,I,?_⟩;have J:=this.2;have h3:(u++oG (l.length - u.length) 0).toArray.toList.take u.length=u:=od
 rw[h3]at J;exact J
theorem Qba (l:LI):(l.mergeSort λx y=>decide (x<=y)).Pairwise (·<=·):=
 (List.pairwise_mergeSort (λa b c E G=>by simp only[decide_eq_true_eq]at *;omega) (λa b=>by simp only[Bool.or_eq_true,decide_eq_true_eq];omega) l).imp λh=>ou h
theorem yJ (hd:l.Nodup)(hb:∀x∈l,0<=x/\x<(n:Int)):(l.mergeSort λx y=>decide (x<=y))=srt n l:=by
 have E:=M5 l (λx y=>decide (x<=y));refine Qgs ?_ (λx=>E.mem_iff) hb;have G:=Qba l;have I:(l.mergeSort λx y=>decide (x<=y)).Nodup:=E.nodup_iff.2 hd;exact(G.and I).imp λ⟨J,S⟩=>oa
theorem Qnk (h:l.Nodup):(ye l s).Nodup:=by
 unfold ye;split
 ·rename_i E;rw[Mr];exact⟨h,od,λa G b hb e=>E (by rw[List.mem_singleton.1 hb]at e;exact e ▸ G)⟩
 exact h
theorem Qnl (h:∀x∈l,0<=x/\x<(n:Int))(E:0<=s/\s<(n:Int)):∀x∈ye l s,0<=x/\x<(n:Int):=by
 unfold ye;split
 ·intro x hx;rcases Le.1 hx with hx|hx
  ·exact h x hx
  rw[Lb.1 hx];exact E
 exact h
theorem z6.nd {E:LI}(h:z6 n E l)(G:E.Nodup):l.Nodup:=by
 obtain⟨m,rfl,I,_,J⟩:=h.ex;rw[Mr];exact⟨G,I,λa S b hb e=>J b hb (e ▸ S)⟩
structure RcI (base n b7 bs b8:Nat)(w0:OX)(vl:OY)(l:LI)(w:OX):Prop where
 st:sW w0 w
 k7:QK ↑w b7 301 [slN bs n]
 ks:QK ↑w bs 4 ((flg n l).map Value.bool)
 k8:QK ↑w b8 47 [vl]
 o:Qh 3 base w vl l
 z:base<=↑w
theorem RcI.I {base n G I J:Nat}{S w w':OX}{vl:OY}{l:LI}(h:RcI base n G I J S vl l w)(E:sW w w'):RcI base n G I J S vl l w' :=
 ⟨h.st.D E,h.k7.I E,h.ks.I E,h.k8.I E,Qm h.o E,Lx h.z E.size⟩
theorem yB {S:Nat}{w0:OX}(h:RcI base n S E G w0 vl l w)(hw:↑w0<=E/\↑w0<=G)(h7:S<base)(hk:E<base)(h8:G<base)(h0:0<=s)(h1:s<(n:Int))(hl:l.length<=100000):
  QT sV 239 [sS s,sP S,sP G] w λ_ w'=>∃vl',RcI base n S E G w0 vl' (ye l s) w'/\∀b T cs,b<base->b≠E->b≠G->QK ↑w b T cs->QK ↑w' b T cs:=by
 have hj:s=(s.toNat:Int):=oa
 have hc:=Qi h.o;refine Zn func239 ?_;refine Qc<|ZA h.k7 O O<|Qa<|x (QD (i:=s.toNat) O (OR sS hj) oa)<|ZA h.ks O (zq h0 h1)<|x (Zh O)<|xe<|Q9 rfl (λhf=>?_) (λhf=>?_)
 ·have hg:s∉l:=by simpa using hf
  have he:ye l s=l++[s]:=by unfold ye;rw[OQ hg]
  refine Qc<|ZA h.k7 O O<|Qa<|x (QD (i:=s.toNat) O (OR sS hj) oa)<|Qo<|Qv (j:=0+s.toNat*1) (u:=.bool true) h.ks O O (by rw[Lj,VW];omega) O λw1 J hn=>xe ?_;have ho:S≠E:=QK.ne h.k7 h.ks og;have n8s:G≠E:=QK.ne h.k8 h.ks og;have hp:S≠G:=QK.ne h.k7 h.k8 og;have hq:QK ↑w1 E 4 ((flg n (l++[s])).map Value.bool):=by
   rw[<-(qv (n:=n) (l:=l) h0),Nr];simpa using hn
  have hr:=Qg h.o J λb hb Y=>by have:=(hc b hb).1;rw[Lb.1 Y]at this;omega
  have hu:=J.size;have hz:=h.z;refine Qs<|ZA (h.k8.J J (by simp only[oF];exact n8s)) O O<|Qa<|Qo<|Q5 [[sS s]] λhv w2 I h2 hs =>
   Qo<|Q2 (m:=1) (news:=[sS s]) (L:=[]) (Qm hr I) O O O (hs.at od) om oa (oo I.size) λv3 w3 hh U h3=>?_
  have h4:=I.size;have ha:∀{y:Nat},y<base->y∉ob vl:=λhy Y=>oo (hc _ Y).1
  have g3:=Qi hh;refine Qo<|Qv (u:=v3) (((h.k8.J J (by simp only[oF];exact n8s)).I I).J U (ha h8)) O O (LX O) (Qz hh) λw4 V ht=>xe ?_;have h5:=U.size;have h6:=V.size;refine⟨[],Z,v3,?_,λb T cs y1 y2 y3 hB=>(((hB.J J (by simp only[oF];exact y2)).I I).J U (ha y1)).J V (by simp only[oF];exact y3)⟩;rw[he];refine⟨(((h.st.S J λb hb=>?_).D I).S U λb hb=>?_).S V λb hb=>?_,?_,?_,ht,?_,oa⟩
  ·rw[Lb.1 hb];exact .inr hw.1
  ·exact .inr (oo (hc b hb).1)
  ·rw[Lb.1 hb];exact .inr hw.2
  ·exact(((h.k7.J J (by simp only[oF];exact ho)).I I).J U (ha h7)).J V (by simp only[oF];exact hp)
  ·exact((hq.I I).J U (ha hk)).J V (by simp only[oF];exact n8s.symm)
  exact Qh.snoc (Qg hh V λb hb Y=>by have:=(g3 b hb).1;rw[Lb.1 Y]at this;omega)
 have hg:s∈l:=by simpa using hf
 have he:ye l s=l:=by unfold ye;rw[OP (not_not_intro hg)]
 refine Qf ?_;exact⟨[],Z,vl,by rw[he];exact h,λ_ _ _ _ _ _ hB=>hB⟩
theorem Qln {ev:LI}{e:Ed}:bfE (okR ev) l e=if e.2.1∈ev then ye l e.2.2 else l:=by
 unfold bfE ye okR;by_cases E:e.2.1∈ev
 ·rw[OQ E];by_cases G:e.2.2∉l
  ·rw[OQ G,OQ ⟨OT E,G⟩]
  rw[OP G,OP λh=>G h.2]
 rw[OP E,OP λh=>E (OU h.1)]
theorem QaU {vf vv:OY}{fr ev:LI}(hr:EdR [] ↑w vr a.st.toNat a.ed)(hu:Zb a)(hF:Qt [] ↑w vf fr)(hG:∀x∈fr,0<=x/\x<a.st)(kg:fr.length<=1000000)(hV:Qt [] ↑w vv ev):
  QT sV 168 [.agg #[vr,vk,vz,vm],vf,vv] w λr w'=>sW w w'/\Qh 3 ↑w w' r (rch a fr ev):=by
 have kh:=hu.st0;have ki:=hu.st1;obtain⟨n,hn⟩:∃n:Nat,a.st.toNat=n:=⟨_,O⟩;have gj:a.st=(n:Int):=oa
 have kj:=hu.ed_le;obtain⟨rv,hz,hH⟩:=hr;rw[hn]at hz hH;have gk:rch a fr ev=srt n (bfs (okR ev) a.ed ((ddp fr).length+n) 0 (ddp fr)):=by unfold rch cls;rw[hn]
 rw[gk];have gl:=hu.ed;rw[gj]at hG;refine Zn func168 ?_;refine Qc<|Zd [vr,vk,vz,vm] λb3 w1 gm kk h0=>Qb ?_;have kn:=h0.lt;refine Qc<|Qr O h0 O O<|QG hz O<|Qo<|YP (n:=n) (OR (λk:Nat=>sS (k:Int)) L4) (OR (λk:Nat=>sS (k:Int)) L4) oa λS w2 gn ko go =>
  QP [ZR] λb7 w3 hI kp hJ=>Qo<|Qv (u:=slN S n) hJ O O (LX O) O λw4 h3 gq=>xe ?_
 have hK:QK ↑w2 S 4 ((flg n []).map Value.bool):=by
  have e:(oG n (Value.bool false).cells.toList).flatten=(flg n []).map Value.bool:=by
   simp only[flg,oH,decide_false,List.map_map];apply LZ
   ·simp[Value.cells]
   intro i h1 h2;simp[Value.cells]
  rw[<-e];exact go
 have kq:=h3.size;have kr:=hK.lt;have kt:=hJ.lt;refine Qc<|QP [ZR] λT U ho ku hL=>xe ?_;have kv:=hL.lt;have kw:=ho.size;have hM:sW w1 w4:=(gn.D hI).O h3 oa;have h4:sW w U:=(gm.D hM).D ho;have gr:=(h0.I hM).I ho;have gs:RcI ↑U n b7 S T w ZR (ddp (fr.take 0)) U:=⟨h4,gq.I ho,((hK.I hI).J h3 ol).I ho,hL,QM _ _ _ _,Lp _⟩;have hb:↑w<=S/\↑w<=T:=⟨oa,oa⟩;have gt:w.heap.size<=U.heap.size:=h4.size;refine Qc<|x (Zl (l:=[]) (l':=[_,_]))<|Qb<|Qe<|Ql<|QG (hF.I h4) O<|Qa<|xe<|QW (α:=Nat×OY) [(11,11),(22,29)] (λz=>[(22,sS z.1)]) (λz w'=>z.1<=fr.length/\RcI ↑U n b7 S T w z.2 (ddp (fr.take z.1)) w'/\(ddp (fr.take z.1)).Nodup/\(∀x∈ddp (fr.take z.1),0<=x/\x<(n:Int))/\QK ↑w' b3 201 [vr,vk,vz,vm]) (λz=>fr.length - z.1) (0,ZR) La ⟨Ln _,gs,by simp[ddp],by simp[ddp],gr⟩ ?_;rintro⟨k,vl⟩ g w6 ⟨hk,ha,hf,hg,hN⟩;simp only[]at hk ha hf hg;have hO:(ddp (fr.take k)).length<=n:=xD n _ hf hg;refine Zi rfl O (λh5=>?_) (λh5=>?_)
 ·refine Qu ?_;have gu:fr.length<=k:=by have hp:¬(k:Int)<(fr.length:Int):=h5;omega
  rw[Lq gu]at ha hf hg hO;refine Zf (ddp fr) λG gv=>?_;rw[gv]at ha hf hg hO ⊢;refine Zf (bfs (okR ev) a.ed (G.length+n) 0 G) λR hR=>?_;rw[hR];refine Qe<|Qc<|Qb<|QW (α:=Nat×OY×LI) [(12,12),(14,14),(30,57)] (λz=>[(12,sS z.1)]) (λz w'=>z.1<=z.2.2.length/\RcI ↑U n b7 S T w z.2.1 z.2.2 w'/\z6 n G z.2.2/\bfs (okR ev) a.ed (G.length+n - z.1) z.1 z.2.2=R/\QK ↑w' b3 201 [vr,vk,vz,vm]) (λz=>G.length+n+1 - z.1) (0,vl,G) La ⟨Ln _,ha,z6.zero _ _,hR,hN⟩ ?_;rintro⟨i,vi,l⟩ g w7 ⟨hi,E,hq,V,hP⟩;simp only[]at hi E hq V;have kx:=hq.len;have hQ:=hq.all hg;have hS:Qt [] ↑w7 vi l:=Qh.ints E.o oa od;refine Qe<|Ql<|ZA E.k8 O O<|QG hS O<|ZX O O<|xe<|Zp O (λh6=>?_) (λh6=>?_)
  ·refine Qu ?_;have gx:¬i<l.length:=by have hp:¬(i:Int)<(l.length:Int):=h6;omega
   rw[QbR gx]at V;subst V;have hT:=Qi E.o;refine Qc<|ZA E.k8 O O<|Qw<|(JL E.o oa).Y ?_;rintro _ w8 ⟨hU,hW⟩;refine xe<|Qc<|ZA (E.k8.J hU λhm=>oo (hT _ hm).1) O O<|Qb<|Qj ⟨[vi],La,E.st.S hU λb hb=>.inr (oo (hT b hb).1),?_⟩;rw[yJ (hq.nd hf) hQ]at hW;exact Q8 hW gt
  have I:i<l.length:=by have hp:(i:Int)<(l.length:Int):=h6;omega
  have hh:=hQ _ (Xh I);have gy:G.length+n - i=(G.length+n - (i+1))+1:=oa
  rw[gy,bfs,OQ I]at V;have hX:=Zu I;refine Zf (O2 l i) λs hs=>?_;rw[hs]at hh V hX;have hY:s=(s.toNat:Int):=oa
  have hZ:s.toNat<n:=oa
  have hE:=hH s.toNat hZ;have kz:=Z8 a.ed s;have gz:QS a.ed (s.toNat:Nat)=QS a.ed s:=by rw[<-hY]
  rw[gz]at hE;have g0:s.toNat<(oK n).length:=by rw[L4];exact hZ
  refine Qf<|Qe<|Qn<|Qe<|ZJ [] (Y4 0 10 [])<|p (QH O)<|pq (λ_ Y=>Qk (hP.I Y) O O)<|pq (λ_ Y=>Qk (E.k8.I Y) O O)<|p Qy<|Lg.pii (i:=i) O hS O O I λk0 ga=>?_;rw[hX]at ga;refine pq (λ_ Y=>Qq (ga.I Y) O)<|Lg.pig (g:=λj:Nat=>[rv j]) (i:=s.toNat) O (λ_=>O) (hz.I E.st) O (show Go.Lg.ev _ _=_ from OR sS hY) g0 λk4 gb=>?_;rw[MB]at gb;refine pq (λ_ Y=>Qq (u:=rv s.toNat) (gb.I Y) O)<|p (λ_=>YH hE O)<|p Qy<|pe ?_;have gc:sW w7 { w7 with drawn:=w7.drawn+1 }:=O1.C _ _
  refine QW (α:=Nat×OY×LI) [(14,14),(45,57)] (λz=>[(45,sS z.1)]) (λz w'=>z.1<=(QS a.ed s).length/\RcI ↑U n b7 S T w z.2.1 z.2.2 w'/\z6 n G z.2.2/\l.length<=z.2.2.length/\((QS a.ed s).drop z.1).foldl (bfE (okR ev)) z.2.2=(QS a.ed s).foldl (bfE (okR ev)) l/\QK ↑w' b3 201 [vr,vk,vz,vm]) (λz=>(QS a.ed s).length - z.1) (0,vi,l) La ⟨Ln _,E.I gc,hq,Lp _,O,hP.I gc⟩ ?_;rintro⟨j,vj,lj⟩ g w8 ⟨hj,hv,ht,h7,J,h8⟩;simp only[]at hj hv ht h7 J;have k5:=ht.len;refine Zi O O (λh9=>?_) (λh9=>?_)
  ·refine Qu ?_;have g2:(QS a.ed s).length<=j:=by have hp:¬(j:Int)<((QS a.ed s).length:Int):=h9;omega
   rw[Ls g2]at J;have g3:lj=(QS a.ed s).foldl (bfE (okR ev)) l:=J;rw[<-g3]at V;refine Qs<|Qa<|QC O O<|Qb<|⟨(i+1,vj,lj),by show G.length+n+1 - (i+1)<G.length+n+1 - i;omega,La,by show i+1<=lj.length;omega,hv,ht,V,h8⟩
  have hl:j<(QS a.ed s).length:=by have hp:(j:Int)<((QS a.ed s).length:Int):=h9;omega
  have g4:=ZC (Lk hl);have hA:=gl _ g4.1;rw[QX hl,LO]at J;refine Zf ((QS a.ed s)[j]'hl) λe he=>?_;rw[he]at hA J;refine Qf<|Qe<|Qn<|Qc<|xie (hE.I hv.st) O O hl λk6 ge=>?_;rw[he]at ge;refine x (QE ge O O)<|QP [sS 0,sS 0,sS 0] λk9 w9 g5 g6 g7=>Q0 (Qp e) g7 ox λg8 g9 gg=>xe ?_;have hB:sW w8 g8:=g5.O g9 g6;have hC:=hv.I hB;have ka:=ht.edge (okR ev) (e:=e) ⟨hA.2.2.2.1,oa⟩;have kb:lj.length<=(bfE (okR ev) lj e).length:=by unfold bfE;split <;> simp
  have hw:=Qln (ev:=ev) (l:=lj) (e:=e);refine Ql<|Qr O gg O O<|Qw<|(ZE (hV.I hC.st) e.2.1).Y ?_;rintro _ ma ⟨rfl,rfl⟩;refine xe<|Q9 O (λhD=>?_) (λhD=>?_)
  ·rw[OQ (OU hD)]at hw;refine Qs<|Qa<|Qr O gg O O<|Qo<|xc (first:=[]) (capt:=[sP b7,sP T]) O<|(yB hC hb oa oa oa hA.2.2.2.1 (show e.2.2<(n:Int) by omega) oa).Y ?_;rintro _ mc ⟨kc,gh,ke⟩;refine xe<|Qs<|QC O O<|Qa<|xe ?_;rw[<-hw]at gh;refine⟨(j+1,kc,bfE (okR ev) lj e),by show(QS a.ed s).length - (j+1)<(QS a.ed s).length - j;omega,La,hl,gh,ka,Lx h7 kb,J,?_⟩;exact ke b3 _ _ oa oa oa (h8.I hB)
  rw[OP (OW hD)]at hw;rw[hw]at J;refine Qf<|Qs<|QC O O<|Qa<|xe ?_;exact⟨(j+1,vj,lj),by show(QS a.ed s).length - (j+1)<(QS a.ed s).length - j;omega,La,hl,hC,ht,h7,J,h8.I hB⟩
 have I:k<fr.length:=by have hp:(k:Int)<(fr.length:Int):=h5;omega
 have hy:ddp (fr.take (k+1))=ye (ddp (fr.take k)) (fr[k]'I):=by unfold ddp;rw[Lh I,Mg];rfl
 have hh:=hG _ (Lk I);refine Qf<|Qe<|Qn<|Qc<|xii (i:=k) (hF.I ha.st) O O I λmf gi=>?_;refine Zf (fr[k]'I) λs hs=>?_;rw[hs]at gi hy hh;refine x (Qq gi O)<|Qb<|Qs<|Qa<|Qa<|Qo<|xc (first:=[]) (capt:=[sP b7,sP T]) O<|(yB ha hb oa oa oa hh.1 hh.2 oa).Y ?_;rintro _ w7 ⟨v7,E,kf⟩;refine xe<|Qs<|QC O O<|Qa<|xe<|⟨(k+1,v7),by show fr.length - (k+1)<fr.length - k;omega,La,I,?_,?_,?_,?_⟩
 ·show RcI _ _ _ _ _ _ _ (ddp (fr.take (k+1))) _;rw[hy];exact E
 ·show(ddp (fr.take (k+1))).Nodup;rw[hy];exact Qnk hf
 ·show ∀x∈ddp (fr.take (k+1)),_;rw[hy];exact Qnl hg hh
 exact kf b3 _ _ oa oa oa hN
theorem Qbg {k:Nat}(v:Int)(h:k<l.length):hop ed (l.take (k+1)) v=hop ed (l.take k) v++((QS ed (l[k]'h)).filter λe=>decide (e.2.1=v)).map (·.2.2):=by
 unfold hop;rw[Lh h,LC,LK,List.flatMap_nil,LH]
theorem yS {k:Nat}(v:Int)(h:k<es.length):((es.take (k+1)).filter λe=>decide (e.2.1=v)).map (·.2.2)=((es.take k).filter λe=>decide (e.2.1=v)).map (·.2.2)++if(es[k]'h).2.1=v then[(es[k]'h).2.2]else[]:=by
 rw[Lh h,LR,Lv];congr 1;by_cases e:(es[k]'h).2.1=v <;> simp[e]
theorem QhT (E:Zb a)(l:LI)(v:Int):∀x∈hop a.ed l v,0<=x/\x<a.st:=by
 intro x hx;obtain⟨s,_,hx⟩:=Mb.1 hx;obtain⟨e,G,rfl⟩:=Lz.1 hx;have:=E.ed e (ZC (LS.1 G).1).1;omega
theorem j5 (ed:List Ed)(v:Int):∀(l:LI),(hop ed l v).length<=l.length*ed.length
 | []=>by simp[hop]
 | s::l=>by
  have E:=j5 ed v l;have G:(((QS ed s).filter λe=>decide (e.2.1=v)).map (·.2.2)).length<=ed.length:=by
   rw[Lj];exact Lx (LF _ _) (Z8 ed s)
  unfold hop at *;rw[LK,Lc,LL,Nat.succ_mul];omega
theorem Qcz (h:ObA ↑w vr vk vz vm a o)(S:Zb a)(T:0<a.st):
  QT sV 95 [.agg #[vr,vk,vz,vm]] w λr w'=>sW w w'/\Qh 3 ↑w w' r (rch a [0] (ers a o)):=by
 obtain⟨rv,U,_⟩:=h.r;refine Zn func95 ?_;refine Qc<|Zd [vr,vk,vz,vm] λb1 w1 V hf G=>Qb<|Qe<|Qc<|Qr O G O O<|QG U O<|x (Q6 O O)<|xe<|Za rfl (λI=>OS I (by rw[L4];omega)) (λI=>?_);refine Qf<|Qc<|QY G O O<|Qo<|Q5 [[sS 0]] λY w2 J hg ha=>?_;have E:=V.D J;have hF:Qt [] ↑w2 (sL Y 1 1) [0]:=ha.arr od (n:=1) (cap:=1) (sz:=1) rfl og (Lp _);refine Qr rfl (G.I J) O O<|Qw<|(QaU (h.r.I E) S hF (λx hx=>by rw[Lb.1 hx];exact⟨Mt _,T⟩) od (h.z.I E)).Y ?_;rintro r3 w3 ⟨hc,he⟩;refine Qb<|Qj ⟨[_],La,E.D hc,Q8 he E.size⟩
theorem Qe5 {est:LI}(h:ObA ↑w vr vk vz vm a o)(hc:Zb a)(hE:Qt [] ↑w ve est)(h4:∀x∈est,0<=x/\x<a.st)(hP:est.length<=9)(h5:a.ed.length<=1000)(v:Int):
  QT sV 98 [.agg #[vr,vk,vz,vm],ve,sS v] w λr w'=>sW w w'/\Qh 3 ↑w w' r (pnx a (ers a o) est v):=by
 have hQ:=hc.st0;obtain⟨n,hn⟩:∃n:Nat,a.st.toNat=n:=⟨_,O⟩;have hR:a.st=(n:Int):=oa
 obtain⟨rv,hr,ht⟩:=h.r;rw[hn]at hr ht;have h6:∀k,k<=est.length->(hop a.ed (est.take k) v).length<=9000:=λk hk=>by
  have h1:=j5 a.ed v (est.take k);have h2:(est.take k).length<=9:=by rw[LA];omega
  have h3:(est.take k).length*a.ed.length<=9*1000:=Oz h2 h5;omega
 refine Zn func98 ?_;refine Qc<|Zd [vr,vk,vz,vm] λb3 Y hf hS hg=>Qb<|Qc<|Qb<|Qe<|Ql<|QG (hE.I hf) O<|Qa<|xe<|QW (α:=Nat×OY) [(7,7),(9,9),(11,11),(14,38)] (λz=>[(7,z.2),(14,sS z.1)]) (λz w'=>z.1<=est.length/\sW Y w'/\Qh 3 ↑Y w' z.2 (hop a.ed (est.take z.1) v)) (λz=>est.length - z.1) (0,ZR) ov ⟨Ln _,O1.Z _ _,QM _ _ _ _⟩ ?_;rintro⟨k,vl⟩ g w2 ⟨hk,I,ha⟩;simp only[]at hk ha;have E:=hf.D I;have h7:=h6 k hk;refine Zi rfl O (λhh=>?_) (λhh=>?_)
 ·refine Qu ?_;have h8:est.length<=k:=by have hl:¬(k:Int)<(est.length:Int):=hh;omega
  rw[Lq h8]at ha h7;have hL:=Qh.ints (L:=[]) ha oa od;refine Qc<|QY (hg.I I) O O<|Qa<|Qr O (hg.I I) O O<|Qw<|(QaU (h.r.I E) hc hL (QhT hc est v) oa (h.z.I E)).Y ?_;rintro r3 w3 ⟨h9,hA⟩;refine Qb<|Qj ⟨[_],La,E.D h9,Q8 hA E.size⟩
 have J:k<est.length:=by have hl:(k:Int)<(est.length:Int):=hh;omega
 have hu:=Qbg (ed:=a.ed) v J;have hB:=h4 _ (Lk J);refine Qf<|Qe<|Qn<|Qc<|xii (i:=k) (hE.I E) O O J λhT hv=>?_;refine Zf (est[k]'J) λs hs=>?_;rw[hs]at hv hu hB;have hC:s=(s.toNat:Int):=oa
 have hw:s.toNat<n:=oa
 have hm:=ht s.toNat hw;rw[show((s.toNat:Nat):Int)=s by omega]at hm;have hD:s.toNat<(oK n).length:=by rw[L4];exact hw
 have hU:=Z8 a.ed s;refine x (Qq hv O)<|Qb<|Qc<|Qr O (hg.I I) O O<|Qa<|O4 (g:=λj:Nat=>[rv j]) (i:=s.toNat) (λ_=>O) (hr.I E) O (OR sS hC) hD λhV hy=>?_;rw[MB]at hy;refine x (Qq (u:=rv s.toNat) hy O)<|QG hm O<|Qa<|xe<|QW (α:=Nat×OY) [(7,7),(11,11),(24,37)] (λz=>[(7,z.2),(24,sS z.1)]) (λz w'=>z.1<=(QS a.ed s).length/\sW Y w'/\Qh 3 ↑Y w' z.2 (hop a.ed (est.take k) v++(((QS a.ed s).take z.1).filter λe=>decide (e.2.1=v)).map (·.2.2))) (λz=>(QS a.ed s).length - z.1) (0,vl) ov ⟨Ln _,I,by simp only[List.take_zero,List.filter_nil,OG,On];exact ha⟩ ?_;rintro⟨j,vj⟩ g w4 ⟨hj,S,G⟩;simp only[]at hj G;have hF:=hf.D S;refine Zi rfl O (λho=>?_) (λho=>?_)
 ·refine Qu ?_;have hG:(QS a.ed s).length<=j:=by have hl:¬(j:Int)<((QS a.ed s).length:Int):=ho;omega
  rw[Lq hG,<-hu]at G;refine Qs<|QC O O<|Qa<|xe ?_;exact⟨(k+1,vj),by show est.length - (k+1)<est.length - k;omega,ov,J,S,G⟩
 have T:j<(QS a.ed s).length:=by have hl:(j:Int)<((QS a.ed s).length:Int):=ho;omega
 have U:=yS v T;have hW:(hop a.ed (est.take k) v++(((QS a.ed s).take j).filter λe=>decide (e.2.1=v)).map (·.2.2)).length<=10000:=by
  rw[Lc,Lj];have h1:=LF (λe:Ed=>decide (e.2.1=v)) ((QS a.ed s).take j);rw[LA]at h1;omega
 refine Zf ((QS a.ed s)[j]'T) λe he=>?_;rw[he]at U;refine Qf<|Qe<|Qn<|Qc<|xie (hm.I hF) O O T λhX hz=>?_;rw[he]at hz;refine x (QE hz O O)<|QP [sS 0,sS 0,sS 0] λb11 w5 hH hI hJ=>Q0 (Qp e) hJ ox λw6 hK h0=>xe ?_;have V:sW w4 w6:=hH.O hK hI;have hY:=S.size;have hZ:=V.size;refine Qc<|Qr O h0 O O<|Qa<|x (Q6 O O)<|xe<|Zp rfl (λhp=>?_) (λhp=>?_)
 ·rw[OP hp,LH]at U;refine Qf<|Qs<|QC O O<|Qa<|xe ?_;exact⟨(j+1,vj),by show(QS a.ed s).length - (j+1)<(QS a.ed s).length - j;omega,ov,T,S.D V,by simp only[];rw[U];exact Qm G V⟩
 rw[OQ hp]at U;refine Qs<|Qa<|Qr O h0 O O<|Qo<|Q5 [[sS e.2.2]] λga w7 hq gb hM =>
  Qo<|Q2 (m:=1) (news:=[sS e.2.2]) (L:=[]) (Qm G (V.D hq)) O O O (hM.at od) om oa (oo hq.size) λv8 w8 hN hO gc=>Qb<|Qs<|QC O O<|Qa<|xe ?_
 refine⟨(j+1,v8),by show(QS a.ed s).length - (j+1)<(QS a.ed s).length - j;omega,ov,T,((S.D V).D hq).S hO λb hb=>.inr (Qi G b hb).1,?_⟩;simp only[];rw[U,<-LE];exact Qh.snoc hN
theorem QcA {b:Nat}{mr:LI}(E:QK ↑w b 201 [vr,vk,vz,vm])(G:Qt [] ↑w vm mr)(s:Int):
  QT sV 171 [sS s,sP b] w λr w'=>r=.bool (decide (s∈mr))/\sW w w':=by
 refine Zn func171 ?_;refine Qc<|Qb<|Qc<|Qr O E O O<|Qa<|Qw<|(ZE G s).Y ?_;rintro I J ⟨rfl,rfl⟩;refine Qb<|Qj ⟨[_],La,O,O1.Z _ _⟩
theorem Qe6 {est:LI}(h:ObA ↑w vr vk vz vm a o)(hE:Qt [] ↑w ve est):
  QT sV 97 [.agg #[vr,vk,vz,vm],ve] w λr w'=>r=.bool (mkd a est)/\sW w w':=by
 refine Zn func97 ?_;refine Qc<|Zd [vr,vk,vz,vm] λI T E U J=>Qb<|Ql<|x (Zl (l:=[]) (l':=[.tmp 2]))<|Qw<|(Qah (q:=λs=>decide (s∈a.mr)) (cap:=[sP I]) (hE.I E) (λe V G=>QcA (J.I G) ((h.m.I E).I G) e)).Y ?_;rintro r2 Y ⟨rfl,S⟩;refine Qb<|Qj ⟨[_],La,O,E.D S⟩
abbrev Yu:LV:=[nS,sS 0,nS,nS]
def KnP (m:List (ByteArray×OY))(tup:List (LI)):Prop :=
 ∀u:LI,(∀x∈u,0<=x/\x<100)->O6 m (pkA u)=if u∈tup then some (sS (tup.idxOf u:Int))else none
theorem KnP.add {m:List (ByteArray×OY)}{tup:List (LI)}(h:KnP m tup)(I:u∉tup)(J:∀x∈u,0<=x/\x<100):KnP (O7 m (pkA u) (sS (tup.length:Int))) (tup++[u]):=by
 intro v G;rw[X3];by_cases e:u=v
 ·subst e;rw[OQ rfl,OQ od,Mh,OP I];simp
 rw[OP (λS=>e (QjU J G S)),h v G];by_cases E:v∈tup
 ·rw[OQ E,OQ (by simp[E]),Mh,OQ E]
 rw[OP E,OP (by simp[E,Ne.symm e])]
structure PjO (n:Nat)(s:Sy):Prop where
 v:∀t∈s.tup,Ss n t
 d:s.tup.Nodup
theorem PjO.le {s:Sy}(h:PjO n s):s.tup.length<=2 ^ n:=qi n _ h.d h.v
theorem PjO.add {s:Sy}(h:PjO n s)(G:Ss n u):PjO n (VI s u):=by
 unfold VI;split
 ·exact h
 rename_i I;refine⟨λt E=>?_,?_⟩
 ·rcases Le.1 E with E|E
  ·exact h.v t E
  rw[Lb.1 E];exact G
 rw[Mr];exact⟨h.d,od,λa J b hb e=>I (by rw[List.mem_singleton.1 hb]at e;exact e ▸ J)⟩
theorem QjV (a:QF)(i:Nat)(t:LI)(s:Sy):(pjM a i t s).tup=s.tup/\(pjM a i t s).ed=s.ed/\(pjM a i t s).mk'.length<=s.mk'.length+1:=by
 unfold pjM;split
 ·exact⟨O,O,od⟩
 exact⟨O,O,oa⟩
theorem Qmr (s:Sy)(u:LI):(VI s u).mk'=s.mk'/\(VI s u).ed=s.ed:=by unfold VI;split <;> exact⟨O,O⟩
theorem QpS (h:n<=9):2 ^ n<=512:=Nat.pow_le_pow_right og h
theorem Vr (h:Zr [] ↑w va vm ve a)(hO:Qt [] ↑w vo o)(hv:Zb a)(pc:∀x∈o,0<=x/\x<32)(pd:YN o)(h9:a.st<=9)(pf:a.ed.length<=1000):
  QT sV 40 [.agg #[va,sS a.st,vm,ve],vo] w λr w'=>sW w w'/\∃vp vt,r=.tuple #[vp,vt,sS 0]/\vt.oneCell'=true/\Y1 ↑w ↑w' vp (J4 a o):=by
 have hst0:=hv.st0;obtain⟨n,hn⟩:∃n:Nat,a.st.toNat=n:=⟨_,O⟩;have hna:a.st=(n:Int):=oa
 have hp9:=QpS (n:=n) oa;have hall:=hv.al_le;have ho:prj a o=if a.st=0 then⟨[],[],[]⟩else pjL a (kpt a o) (ers a o) (2 ^ n) 0 (pj0 a (ers a o)):=by unfold prj;rw[hn]
 refine Zn func40 ?_;refine Qc<|Zd [va,sS a.st,vm,ve] λb0 w1 ke hb0 gi=>QP Yu λb4 w2 hL hb4 kf=>x Qd<|Qb ?_;have gj:=ke.D hL;have hl4:=kf.lt;have hz1:=ke.size;refine Qe<|Qc<|QY (gi.I hL) O O<|Qa<|Qw<|(QcB (h.I gj) (hO.I gj) hv pc pd).Y ?_;rintro r3 w3 ⟨rfl,hw⟩;have h3:=gj.D hw;refine Qb<|Ql<|ZI O O<|xe<|Zz rfl<|Qf<|Qc<|QY ((gi.I hL).I hw) O O<|Qa<|Qw<|(QcD (h.I h3) (hO.I h3) hv).Y ?_;rintro r5 w5 ⟨hM,vr,G,vz,rfl,hh,h4⟩;have kg:(kpt a o).length<=1099511627776:=Lx (LF _ _) oa;have pg:vr.oneCell'=true:=by obtain⟨rv,h1,_⟩:=hh.r;exact h1.one
 refine QP yG λb8 w6 ph pj pn=>Q0 [vr,G,vz,vm] pn ⟨pg,hh.k.one,hh.z.one,h.mr.one,Z⟩ λw7 po hN=>xe ?_;have hz:sW w5 w7:=ph.O po pj;have pp:=(h3.D hM).D hz;have kh:=hh.I hz;have hl8:=hN.lt;have hz3:=hw.size;have hz5:=hM.size;refine Qc<|Qr O hN O O<|x (QB ⟨hh.k.cells,Z⟩)<|QP Yu λb2 w8 pt gk pu=>Q0 [G,sS 0,ZR,ZR] pu ⟨hh.k.one,O,O,O,Z⟩ λw9 pw gl=>xe ?_;have hk:sW w7 w9:=pt.O pw gk;have ki:=pp.D hk;have pz:=kh.I hk;have hl2:=gl.lt;have kj:=(((kf.I hw).I hM).I hz).I hk;have p0:=hN.I hk;refine Qe<|Qc<|Q7 O<|x (Qk ((((gi.I hL).I hw).I hM).I (hz.D hk)) O O)<|x (Q6 O O)<|xe<|Za rfl (λgm=>?_) (λgm=>?_)
 ·rw[OQ gm]at ho;refine Qc<|QY gl O O<|Q0 [G,sS 0,ZR,ZR] kj ⟨hh.k.one,O,O,O,Z⟩ λw10 kk p4=>x Qd<|Qb<|Qj ⟨[.agg #[G,sS 0,ZR,ZR],ZR,sS 0],⟨Jm p4,O,O,Z⟩,ki.O kk oa,_,ZR,O,O,?_⟩;have S:J4 a o=⟨kpt a o,0,[],[]⟩:=by unfold J4;rw[ho];rfl
  rw[S];refine⟨G,ZR,ZR,O,λL' h5=>⟨?_,Zs.nil _ _ _,Zs.nil _ _ _⟩⟩;exact Qh.ints (Qg (Qm h4 (hz.D hk)) kk λb hb U=>by have:=(Qi h4 b hb).1;rw[Lb.1 U]at this;have:=hw.size;omega) kg λb hb=>oq (h5 b hb) h3.size
 have p5:a.st≠0:=gm;rw[OP p5]at ho;have hn0:0<n:=oa
 refine Qf<|Qc<|QY p0 O O<|Qw<|(Qcz pz hv oa).Y ?_;rintro hP kn ⟨ko,hQ⟩;have hR:Ss n (rch a [0] (ers a o)):=by unfold rch cls;rw[hn];exact jr _ _
 have p6:(rch a [0] (ers a o)).length<=9:=by unfold rch cls;rw[hn];exact Lx (QdF _ _) oa
 have p7:pj0 a (ers a o)=⟨[rch a [0] (ers a o)],[],[]⟩:=rfl;rw[p7]at ho;refine Zf (rch a [0] (ers a o)) λt0 p8=>?_;rw[p8]at hQ hR p6 ho;have kp:=Qh.ints (L:=[]) hQ oa od;have hz11:=ko.size;refine Qo<|Yf (us:=[[hP]]) O O og od ⟨kp.cells,rfl,Z⟩ λV w12 kq hb37 gn=>Qb ?_;have hl37:=gn.lt;refine Qc<|Qo<|ZU Xj λhe p9 hS hb38 kr=>?_;have hl38:=kr.lt;have qf:Zs [] ↑p9 (sL V 1 1) 1 1 [hP]:=(gn.I hS).arr od (n:=1) (cap:=1) (sz:=1) rfl og (Lp _);refine Qa<|xi (i:=0) qf O O og λa40 qj=>x (Qq (u:=hP) qj O)<|Qw<|(jF ((kp.I kq).I hS) (λx hx=>oo (hR.2 x hx)) oa).Y ?_;rintro r14 ql ⟨rfl,hU⟩;have hz14:=hU.size;refine Qo<|Yn (k:=pkA t0) (kr.I hU) O O λwS go q0=>Qa<|Qb ?_;have hzS:=go.size;have q4:sW kn ql:=(kq.D hS).D hU;have kt:sW kn wS:=q4.O go oa;have h6:sW w9 wS:=ko.D kt;have q5:sW w wS:=ki.D h6;have hV:∀b∈[b2,he,V],b∈([]:LN)\/↑w7<=b:=λb hb=>by
  simp only[oJ,oH,or_false]at hb;rcases hb with rfl|rfl|rfl
  ·exact .inr gk
  ·exact .inr oa
  exact .inr oa
 have ku:sW w7 wS:=hk.D h6;have hW:∀{w':OX},O1 [b2,he,V] wS w'->ObA ↑w' vr G vz vm a o:=λ{w'} hs=>kh.I (ku.S hs hV);have gq:∀{w':OX},O1 [b2,he,V] wS w'->QK ↑w' b8 201 [vr,G,vz,vm]:=λ{w'} hs=>hN.I (ku.S hs hV);have h7:SyN ↑w9 b2 he V wS:=⟨oa,oa,oa,oa,oa,oa⟩;have j1:qb ↑w9 b2 he V G wS ⟨[t0],[],[]⟩ (O7 [] (pkA t0) (sS 0)) [(hP,t0)] (sL V 1 1) ZR ZR wS:=by
  refine⟨O1.Z _ _,gl.I h6,q0,?_,λb hb=>by simp[ob]at hb;exact .inl hb,QM _ _ _ _,QM _ _ _ _,O,λp S=>?_,λp S b hb=>?_,Dj.nil' _,Dj.nil' _,Dj.nil' _⟩
  ·exact(((gn.I hS).I hU).J go (by simp;omega)).own (n:=1) (sz:=1) O oa oa
  ·simp only[oF]at S;subst S;exact Qm hQ kt
  simp only[oF]at S;subst S;have:=(Qi hQ) b hb;refine⟨oa,?_,by simp[ob],by simp[ob]⟩;simp[ob];omega
 have j2:KnP (O7 [] (pkA t0) (sS 0)) [t0]:=by
  have j3:KnP [] []:=λu _=>O;have:=j3.add (u:=t0) od (λx hx=>oo (hR.2 x hx));simpa using this
 have j4:PjO n ⟨[t0],[],[]⟩:=⟨λt ht=>by rw[Lb.1 ht];exact hR,od⟩;generalize hT:pjL a (kpt a o) (ers a o) (2 ^ n) 0 ⟨[t0],[],[]⟩=T at ho;have hkl:(kpt a o).length<=1000:=Lx (LF _ _) oa;have hA:J4 a o=⟨kpt a o,T.tup.length,T.mk',T.ed⟩:=by unfold J4;rw[ho]
 rw[hA];refine Qe<|Qc<|Qb<|QW (α:=Nat×Sy×List (ByteArray×OY)×List TV×OY×OY×OY) [(5,6),(10,10),(12,12),(14,17),(44,111)] (λz=>[(10,z.2.2.2.2.1),(12,sS z.1)])
  (λz w'=>qb ↑w9 b2 he V G wS z.2.1 z.2.2.1 z.2.2.2.1 z.2.2.2.2.1 z.2.2.2.2.2.1 z.2.2.2.2.2.2 w'/\PjO n z.2.1/\KnP z.2.2.1 z.2.1.tup/\z.1<=z.2.1.tup.length/\z.2.1.mk'.length<=z.1/\z.2.1.ed.length<=z.1*1000/\pjL a (kpt a o) (ers a o) (2 ^ n - z.1) z.1 z.2.1=T)
  (λz=>2 ^ n - z.1) (0,⟨[t0],[],[]⟩,_,_,_,ZR,ZR) ov ⟨j1,j4,j2,Ln _,Ln _,Ln _,hT⟩ ?_
 rintro⟨i,s,m,qs,vt,vk,vd⟩ g kv ⟨hI,h8,kw,hi,za,kx,gr⟩;simp only[]at hI h8 kw hi za kx gr;have hle:=h8.le;have z2:qs.length=s.tup.length:=by rw[<-hI.q];simp
 have gs:∀p∈qs,Ss n p.2:=λp S=>h8.v p.2 (by rw[<-hI.q];exact LG S);have z3:∀p∈qs,p.2.length<=9:=λp S=>oo (Xo p.2 0 n (gs p S).1 (gs p S).2)
 have j0:=QN (L:=[]) hI.t oa od;refine Qe<|Ql<|Qa<|QG j0 O<|ZX O O<|xe<|Zp rfl (λz4=>?_) (λz4=>?_)
 ·have z5:s=T:=by rw[<-gr,QgV oa]
  refine Qu ?_;have hK1:=Qh.ints (L:=[]) hI.k oa od;have hE1:=Z6.eds (L:=[]) hI.e oa od;refine Ql<|QG j0 O<|Q7 O<|Qo<|Qv hI.A O O od rfl λgt hq hB17=>xe ?_;have hB4':QK ↑gt b4 53 Yu:=((kj.I h6).J hI.st (by simp;omega)).J hq (by simp;omega);refine Qc<|QY hB17 O O<|Qa<|Q0 [G,sS qs.length,vk,vd] hB4' ⟨hh.k.one,O,hK1.one,hE1.one,Z⟩ λkz h0 hB418=>x Qd<|Qb ?_;have hfin17:sW w gt:=(q5.S hI.st (λb hb=>by rcases hV b hb with h1|h1;cases h1;exact .inr oa)).O hq oa
  have hfin:sW w kz:=hfin17.O h0 oa;refine Qj ⟨[.agg #[G,sS qs.length,vk,vd],vt,sS 0],⟨Jm hB418,O,O,Z⟩,hfin,_,vt,O,Qz hI.t,?_⟩;rw[<-z5];have e1:(qs.length:Int)=s.tup.length:=by rw[z2]
  have k1:=Qg (Qg hI.k hq (λb hb=>by have:=(Qi hI.k b hb).1;simp;omega)) h0 (λb hb=>by have:=(Qi hI.k b hb).1;simp;omega);have k2:=Qg (Qg hI.e hq (λb hb=>by have:=(Qi hI.e b hb).1;simp;omega)) h0 (λb hb=>by have:=(Qi hI.e b hb).1;simp;omega);refine⟨G,vk,vd,by rw[e1],λL' h5=>⟨?_,Qh.ints k1 (by show s.mk'.length<=_;omega) (λb hb=>oo (h5 b hb)),Z6.eds k2 (by show s.ed.length<=_;omega) (λb hb=>oo (h5 b hb))⟩⟩;have k0:∀{c:Nat},↑w7<=c->c∉ob G:=λhc U=>oo (Qi h4 _ U).2
  have hn4:b4∉ob G:=λU=>oo (Qi h4 _ U).1
  exact Qh.ints (Qg (Qg (Qg (Qm h4 (hz.D (hk.D h6))) hI.st λb hb U=>by
   rcases hV b U with h1|h1
   ·cases h1
   exact k0 h1 hb) hq λb hb U=>k0 gk ((Lb.1 U) ▸ hb)) h0 λb hb U=>hn4 ((Lb.1 U) ▸ hb)) kg λb hb=>oq (h5 b hb) h3.size
 have hlt:i<s.tup.length:=oa
 have ha:i<qs.length:=oa
 have k4:=QlF hI.q ha;have k5:=gs (qs[i]'ha) (Lk ha);obtain⟨t,hB⟩:∃t,(qs[i]'ha).2=t:=⟨_,O⟩;rw[hB]at k4 k5;have htb:∀x∈t,0<=x/\x<a.st:=λx hx=>oo (k5.2 x hx)
 have htl:t.length<=9:=by have:=z3 _ (Lk ha);rw[hB]at this;exact this
 refine Qf ?_;have k6:pjL a (kpt a o) (ers a o) (2 ^ n - (i+1)) (i+1) ((kpt a o).foldl (pjE a (ers a o) i t) (pjM a i t s))=T:=by
  rw[<-gr];obtain⟨f,hf⟩:∃f,2 ^ n - i=f+1:=⟨2 ^ n - i - 1,oa⟩;rw[hf,pjL,OQ hlt,k4,show 2 ^ n - (i+1)=f by omega]
 have htI:Qt [] ↑kv (qs[i]'ha).1 t:=by rw[<-hB];exact Qh.ints (hI.el (qs[i]'ha) (Lk ha)) (by rw[hB];omega) od
 refine Qe<|Qn<|QV (α:=OY) [(50,61)] (λz=>[]) (λz w'=>qb ↑w9 b2 he V G wS (pjM a i t s) m qs vt z vd w') oh ?_ ?_
 ·refine Qe<|ZJ [] (Y4 0 6 [5])<|pq (λ_ hc=>Zj ((gq hI.st).I hc) O O)<|p Qy<|p Qy<|Lg.pig O J2 j0 O O ha λa53 h53 =>
   pq (λ_ hc=>Qq (h53.I hc) O)<|pk<|xg<|(Qe6 ((hW hI.st).I (O1.C _ _)) (htI.I (O1.C _ _))).Y ?_
  rintro r17 gt ⟨rfl,hq⟩;have k9:=(O1.C [] kv).D hq;refine⟨k9,?_⟩;refine pe ?_;have gu:=hI.I k9;refine Q9 O (λgv=>?_) (λgv=>?_)
  rotate_left
  ·refine Qf<|⟨vk,Z,?_⟩;unfold pjM;rw[OP (by rw[gv];simp)];exact gu
  refine Qs<|Qr O gu.A O O<|Qa<|Qo<|Q5 [[sS i]] λb59 kz h0 hb59 hB59=>?_;have hC:=gu.I h0;refine Qo<|Q2 (news:=[sS i]) (L:=[]) hC.k O O O (hB59.at od) om oa hC.st.size λma w19 ho19 mc hn19=>?_;have mf:Qh 3 ↑wS w19 ma (s.mk'++[(i:Int)]):=Qh.snoc ho19;refine Q7 O<|Qo<|Qv (hC.A.J mc (QJ hC.k oa)) O O od (Qh.ints (L:=[]) mf (by simp;omega) od).one λw20 hs20 hB20=>xe ?_;refine⟨ma,Z,?_⟩;unfold pjM;rw[OQ gv];exact hC.setK h7 mc mf hn19 hs20 hB20
 rintro hX g3 w21 gx;obtain⟨hY,hed2,hmk2⟩:=QjV a i t s;have hsk2:PjO n (pjM a i t s):=⟨by rw[hY];exact h8.v,by rw[hY];exact h8.d⟩;have hveI:=(hW gx.st).k;refine Qe<|Qc<|Qr O (gq gx.st) O O<|QG hveI O<|Qa<|xe<|QW (α:=Nat×Sy×List (ByteArray×OY)×List TV×OY×OY) [(10,10),(14,17),(65,107)] (λz=>[(10,z.2.2.2.2.1),(65,sS z.1)])
  (λz w'=>qb ↑w9 b2 he V G wS z.2.1 z.2.2.1 z.2.2.2.1 z.2.2.2.2.1 hX z.2.2.2.2.2 w'/\PjO n z.2.1/\KnP z.2.2.1 z.2.1.tup/\z.1<=(kpt a o).length/\z.2.1.mk'=(pjM a i t s).mk'/\z.2.1.ed.length<=i*1000+z.1/\s.tup.length<=z.2.1.tup.length /\
   (∃h:i<z.2.2.2.1.length,(z.2.2.2.1[i]'h).2=t)/\((kpt a o).drop z.1).foldl (pjE a (ers a o) i t) z.2.1=(kpt a o).foldl (pjE a (ers a o) i t) (pjM a i t s))
  (λz=>(kpt a o).length - z.1) (0,pjM a i t s,m,qs,vt,vd) ov
  ⟨gx,hsk2,by rw[hY];exact kw,Ln _,O,by rw[hed2];simpa using kx,by rw[hY];exact Lp _,⟨ha,hB⟩,O⟩ ?_
 rintro⟨j,E,m4,Y,hZ,ga⟩ g4 hD ⟨I,hE,hr,hj,gb,mg,gy,⟨hl,h2⟩,hg⟩;simp only[]at I hE hr hj gb mg gy hg hl h2;have mh:Y.length=E.tup.length:=by rw[<-I.q];simp
 have hle4:=hE.le;have mj:=QN (L:=[]) I.t oa od;refine Zi rfl O (λgz=>?_) (λgz=>?_)
 ·have hje:(kpt a o).length<=j:=by have h18:¬(j:Int)<((kpt a o).length:Int):=gz;omega
  rw[Ls hje]at hg;have hrun4':E=(kpt a o).foldl (pjE a (ers a o) i t) (pjM a i t s):=hg;rw[<-hrun4']at k6;refine Qu<|Ql<|QG mj O<|x (Z2 O O)<|xe<|Za O (λmo=>OS (show(4096:Int)<(Y.length:Int) from mo) oa) (λmo=>?_);refine Qf<|Qs<|Qa<|QC O O<|Qb<|⟨(i+1,E,m4,Y,hZ,hX,ga),by show 2 ^ n - (i+1)<2 ^ n - i;omega,ov,I,hE,hr,by show i+1<=E.tup.length;omega,by show E.mk'.length<=i+1;rw[gb];omega,by show E.ed.length<=(i+1)*1000;omega,k6⟩
 have gc:j<(kpt a o).length:=by have h18:(j:Int)<((kpt a o).length:Int):=gz;omega
 rw[QX gc,LO]at hg;obtain⟨v,mq⟩:∃v,(kpt a o)[j]=v:=⟨_,O⟩;rw[mq]at hg;refine Qf<|Qe<|Qn<|Qc<|xii ((hW I.st).k) O O gc λa67 ms=>?_;rw[mq]at ms;refine x (Qq ms O)<|Qb ?_;have htI4:Qt [] ↑hD (Y[i]'hl).1 t:=by rw[<-h2];exact Qh.ints (I.el (Y[i]'hl) (Lk hl)) (by rw[h2];omega) od
 refine Qe<|ZJ [] (Y4 0 8 [6])<|pq (λ_ hc=>Zj ((gq I.st).I hc) O O)<|p Qy<|p Qy<|Lg.pig O J2 mj O O hl λa72 h72 =>
  pq (λ_ hc=>Qq (h72.I hc) O)<|p Qy<|pk<|xg<|(Qe5 ((hW I.st).I (O1.C _ _)) hv (htI4.I (O1.C _ _)) htb htl pf v).Y ?_
 rintro vx w23 ⟨hs23,ge⟩;have mt:=(O1.C [] hD).D hs23;refine⟨mt,p ZK<|pe ?_⟩;have gg:=I.I mt;have hz22:=I.st.size;have g0:Ss n (pnx a (ers a o) t v):=by unfold pnx rch cls;rw[hn];exact jr _ _
 have hul:(pnx a (ers a o) t v).length<=9:=by unfold pnx rch cls;rw[hn];exact Lx (QdF _ _) oa
 have hF:pjE a (ers a o) i t E v=if(pnx a (ers a o) t v).length=0 then E else⟨(VI E (pnx a (ers a o) t v)).tup,(VI E (pnx a (ers a o) t v)).mk',(VI E (pnx a (ers a o) t v)).ed++[((i:Int),v,((VI E (pnx a (ers a o) t v)).tup.idxOf (pnx a (ers a o) t v):Int))]⟩:=rfl
 refine Zf (pnx a (ers a o) t v) λu hu0=>?_;rw[hu0]at ge g0 hul hF;have hG:=Qh.ints (L:=[]) ge oa od;have hH:∀x∈u,0<=x/\x<100:=λx hx=>oo (g0.2 x hx)
 refine Qe<|Ql<|QG hG O<|x (Q6 O O)<|xe<|Za rfl (λg2=>?_) (λg2=>?_)
 ·have g5:u.length=0:=by have h79:(u.length:Int)=0:=g2;omega
  rw[OQ g5]at hF;rw[hF]at hg;refine Qu<|Qs<|QC O O<|Qa<|xe ?_;exact⟨(j+1,E,m4,Y,hZ,ga),by show(kpt a o).length - (j+1)<(kpt a o).length - j;omega,ov,gg,hE,hr,gc,gb,by show E.ed.length<=i*1000+(j+1);omega,gy,⟨hl,h2⟩,hg⟩
 have g5:¬u.length=0:=λe=>g2 (by show(u.length:Int)=0;omega);rw[OP g5]at hF;rw[hF]at hg;have mu:=Qi ge;refine Qf<|QV (α:=Unit) [(16,17),(79,85)] (λz=>[(16,sS (if u∈E.tup then(E.tup.idxOf u:Int)else 0)),(17,.bool (decide (u∈E.tup)))]) (λz w'=>sW w23 w') oh ?_ ?_
 ·refine Qs<|Qa<|Qa<|Qw<|(jF hG hH oa).Y ?_;rintro r24 w24 ⟨rfl,gh⟩;by_cases J:u∈E.tup
  ·refine x (Un (k:=pkA u) ((gg.I gh).M) O O (by rw[hr u hH,OQ J]))<|Qa<|QL rfl rfl<|QL rfl rfl<|x Qd<|Qb<|⟨(),⟨OR sS (OQ J).symm,OR Value.bool (OT J).symm,Z⟩,gh⟩
  refine x (yC (k:=pkA u) ((gg.I gh).M) O O (by rw[hr u hH,OP J]))<|Qa<|QL rfl rfl<|QL rfl rfl<|x Qd<|Qb<|⟨(),⟨OR sS (OP J).symm,OR Value.bool (OV J).symm,Z⟩,gh⟩
 rintro _ g6 w25 g8;have g9:=gg.I g8;have hxA25:=hG.I g8;have hadd:∀b∈ob vx,b∉ob hZ/\b∉ob hX/\b∉ob ga:=λb hb=>by
  have h1:=(mu b hb).1;have h1':↑hD<=b:=h1;exact⟨λhJ=>oo (QU I.t b hJ),λhJ=>oo (QU I.k b hJ),λhJ=>oo (QU I.e b hJ)⟩
 refine QV (α:=List (ByteArray×OY)×List TV×OY) [(10,10),(16,16),(86,97)] (λz=>[(10,z.2.2),(16,sS ((VI E u).tup.idxOf u:Int))])
  (λz w'=>qb ↑w9 b2 he V G wS (VI E u) z.1 z.2.1 z.2.2 hX ga w'/\KnP z.1 (VI E u).tup/\∃h:i<z.2.1.length,(z.2.1[i]'h).2=t) oh ?_ ?_
 ·refine Ql<|x (Zh O)<|xe<|Q9 O (λka=>?_) (λka=>?_)
  rotate_left
  ·have J:u∈E.tup:=by simpa using ka
   refine Qf ?_;have e1:VI E u=E:=by unfold VI;rw[OQ J]
   have e2:(if u∈E.tup then(E.tup.idxOf u:Int)else 0)=((VI E u).tup.idxOf u:Int):=by rw[e1,OQ J]
   refine⟨(m4,Y,hZ),⟨O,OR sS e2,Z⟩,?_,?_,hl,h2⟩
   ·rw[e1];exact g9
   rw[e1];exact hr
  have J:u∉E.tup:=by simpa using ka
  have htA6:=QN (L:=[]) g9.t oa od;refine Ql<|QG htA6 O<|Qb<|Ql<|Qa<|Qw<|(jF hxA25 hH oa).Y ?_;rintro r26 w26 ⟨rfl,mv⟩;have mw:=g9.I mv;refine Qa<|Qo<|YF (k:=pkA u) mw.M O O λw27 my hm27=>xe ?_;have hx27:=Qg (Qm (Qm ge g8) mv) my (λb hb=>by have:=(mu b hb).1;have h1':↑hD<=b:=this;simp;omega);refine Qs<|Qa<|Qa<|Qo<|Yf (us:=[[vx]]) O O og od ⟨hG.cells,rfl,Z⟩ λb96 w28 mz hb96 hB96=>?_;have kb:=(mw.setM h7 my hm27).I mz;refine Qo<|Q2 (news:=[vx]) (L:=[]) kb.t O O O (hB96.at od) (λy hy=>by simp only[oF]at hy;subst hy;exact hG.one) oa (oq kb.st.size h7.nS) λm0 w29 ho29 hs29 hn29=>Qb ?_;have hk29:qa 47 ↑w9 w29 m0 (Y++[(vx,u)]):=qa.snoc ho29;have hIA:=kb.setT h7 (u:=u) (Q8 (Qm hx27 mz) (by show wS.heap.size<=↑hD;omega)) hadd hs29 hk29 hn29;have e1:VI E u=⟨E.tup++[u],E.mk',E.ed⟩:=by unfold VI;rw[OP J]
  have e2:(Y.length:Int)=((VI E u).tup.idxOf u:Int):=by
   rw[e1];simp only[];rw[Mh,OP J,<-mh];simp
  refine⟨(O7 m4 (pkA u) (sS (Y.length:Int)),Y++[(vx,u)],m0),⟨O,OR sS e2,Z⟩,?_,?_,by simp;omega,?_⟩
  ·rw[e1];exact hIA
  ·rw[e1];simp only[];rw[mh];exact hr.add J hH
  simp only[];rw[Mi hl];exact h2
 rintro⟨m5,qs5,vt5⟩ g7 w30 ⟨kc,m1,m2,m3⟩;simp only[]at kc m1 m2 m3;obtain⟨hmk5,hedA⟩:=Qmr E u;have hed5:(VI E u).ed.length<=i*1000+j:=by rw[hedA];exact mg
 have m6:=hE.add g0;have hlA:E.tup.length<=(VI E u).tup.length:=by unfold VI;split <;> simp
 refine Qs<|Qr O kc.A O O<|Qa<|Qa<|Qa<|x (QB ⟨O,O,O,Z⟩)<|Qo<|Q5 [Qp ((i:Int),v,((VI E u).tup.idxOf u:Int))] λb104 w31 hs31 hb104 hB104=>?_;have hK:=kc.I hs31;refine Qo<|Q2 (news:=Qp ((i:Int),v,((VI E u).tup.idxOf u:Int))) (L:=[]) hK.e O O O (hB104.at od) (ZH.all (us:=Qp _) ⟨rfl,rfl,rfl,Z⟩) oa hK.st.size λm7 w32 ho32 m8 hn32=>?_;have m9:Z6 179 ↑wS w32 m7 ((VI E u).ed++[((i:Int),v,((VI E u).tup.idxOf u:Int))]):=Z6.snoc ho32;refine Q7 rfl<|Qo<|Qv (hK.A.J m8 (QJ hK.e oa)) O O od (Z6.eds (L:=[]) m9 (by simp;omega) od).one λw33 hs33 hB33=>xe ?_;refine Qs<|QC O O<|Qa<|xe<|⟨(j+1,_,m5,qs5,vt5,m7),by show(kpt a o).length - (j+1)<(kpt a o).length - j;omega,ov,(hK.setE h7 m8 m9 hn32 hs33 hB33),⟨m6.v,m6.d⟩,m1,gc,?_,?_,Lx gy hlA,⟨m2,m3⟩,hg⟩
 ·simp only[];rw[hmk5];exact gb
 simp only[oM,oL];omega
theorem qu {V:je}(h:jf ↑w V)(e:Int):
  QT sV 135 [.pointer (some ⟨V.b,0,none⟩),sS e] w λr w'=>r=.bool (decide (e∈V.o))/\w'=w:=by
 refine Zn func135 ?_;refine Qc<|Qb<|Ql<|Z0 O<|Qr O h.blk O O<|Qa<|Qw<|(ZE h.o e).Y ?_;rintro E G ⟨rfl,rfl⟩;refine Qb<|Qj ⟨[_],La,O,O⟩
theorem Qce {V:je}{b:Nat}(h:jf ↑w V)(E:QK ↑w b 128 [.pointer (some ⟨V.b,0,none⟩)])(e:Int):
  QT sV 256 [sS e,sP b] w λr w'=>r=.bool (decide (e∈V.a.mr))/\sW w w':=by
 refine Zn func256 ?_;refine Qc<|Qb<|Qc<|ZA E O O<|Z0 O<|Q7 O<|Qr O h.blk O O<|Qa<|Qw<|(ZE h.a.mr e).Y ?_;rintro G I ⟨rfl,rfl⟩;refine Qb<|Qj ⟨[_],La,O,O1.Z _ _⟩
theorem yp {V:je}(h:jf ↑w V)(I:Qt [] ↑w vl l):
  QT sV 206 [.pointer (some ⟨V.b,0,none⟩),vl] w λr w'=>r=.bool (mkd V.a l)/\sW w w':=by
 refine Zn func206 ?_;refine Qc<|Zd [.pointer (some ⟨V.b,0,none⟩)] λJ U E Y S=>Qb<|Ql<|x (Zl (l:=[]) (l':=[.tmp 2]))<|Qw<|(Qah (q:=λs=>decide (s∈V.a.mr)) (cap:=[sP J]) (I.I E) (λe w4 G=>Qce ((h.I E).I G) (S.I G) e)).Y ?_;rintro r2 w2 ⟨rfl,T⟩;refine Qb<|Qj ⟨[_],La,O,E.D T⟩
theorem Qcf {V:je}{b:Nat}(h:jf ↑w V)(E:QK ↑w b 128 [.pointer (some ⟨V.b,0,none⟩)])(e:Int):
  QT sV 138 [sS e,sP b] w λr w'=>r=.bool (!decide (e∈V.o))/\w'=w:=by
 refine Zn func138 ?_;refine Qc<|Qb<|Qc<|ZA E O O<|Qa<|Qw<|(qu h e).Y ?_;rintro G I ⟨rfl,rfl⟩;refine x (Zh O)<|Qb<|Qj ⟨[_],La,O,O⟩
theorem Vz (m:Nat)(U:m<256)(w:OX):QT sV 83 [.int .u8 m] w λr w'=>sW w w'/\Qh 3 ↑w w' r (setK m 5):=by
 refine Zn func83 ?_;refine Qc<|Qb<|Qc<|Qb<|Qe<|Qc<|Qb<|QW (α:=Nat×OY) [(3,17)] (λz=>[(3,z.2),(4,sS z.1)]) (λz w'=>z.1<=5/\sW w w'/\Qh 3 ↑w w' z.2 (setK m z.1)) (λz=>5 - z.1) (0,nS) ov
  ⟨Ln _,O1.Z _ _,QM _ _ _ _⟩ ?_
 rintro⟨k,v⟩ g w1 ⟨V,G,E⟩;simp only[]at V E;have hj:=Vy m k;have hl:=G.size;refine Qe<|Ql<|ZX O O<|xe<|Zp rfl (λY=>?_) (λY=>?_)
 ·refine Qu<|Ql<|Qb ?_;have ha:k=5:=oa
  rw[ha]at E;exact Qj ⟨[v],La,G,E⟩
 have S:k<5:=oa
 have hc:m / 2 ^ k<256:=Nat.lt_of_le_of_lt (Nat.div_le_self _ _) U;have I:=yy m k;refine Qf<|Qe<|Qn<|Ql<|Qa<|x (QdQ (n:=k) O O (by show k<=8;omega))<|x (qT (a:=m / 2 ^ k) (b:=1) (OR (Value.int .u8) (QdJ m k)) O hc og)<|x (Q6 O O)<|xe<|Zp rfl (λT=>?_) (λT=>?_)
 ·rw[OP (λe=>T (by rw[e];rfl))]at I;refine Qf<|Qs<|Qa<|QC O O<|Qb<|⟨(k+1,v),oe,ov,S,G,by simp only[];rw[I];exact E⟩
 rw[OQ oa]at I;refine Qs<|Qa<|Qa<|Qo<|Q5 [[sS k]] λb15 w2 J hn he=>?_;have hf:=Qm E J;have ho:=J.size;refine Qo<|Q2 (news:=[sS k]) (L:=[]) hf O O O (he.at od) om oa oa λv3 w3 hg hh hp =>
  Qb<|Qs<|Qa<|QC O O<|Qb<|⟨(k+1,v3),oe,ov,S,(G.D J).S hh (λb hb=>.inr ((Qi E) b hb).1),?_⟩
 simp only[];rw[I];exact Qh.snoc hg
theorem At.from {H:xw}{a:Addr}(h:At L H a us)(j:Nat):At L H (a.add j) (us.drop j):=
 ⟨λu E=>by rw[Ys];exact h.out u (MK E),λu E=>by rw[Ys];exact h.lt u (MK E),λi v G=>by
  rw[Addr.add_add];exact h.cell (j+i) v (by rw[<-MJ];exact G)⟩
theorem zE {v:OY}{l:List Ed}(h:Zs L ↑w v l.length 3 (l.flatMap Qp)):
  QT sV 238 [v] w λr w'=>sW w w'/\w'.ownsRow ↑w 179 3 r l.length (l.flatMap Qp):=
 zD ⟨_,O,func238⟩ h (Qd0 (c:=Qp) (λ_=>ox) l)
theorem Qc2 {v:OY}{l:List KX}(h:Zs L ↑w v l.length 5 (l.flatMap Zv)):
  QT sV 165 [v] w λr w'=>sW w w'/\w'.ownsRow ↑w 94 5 r l.length (l.flatMap Zv):=
 zD ⟨_,O,func165⟩ h (Qd0 (c:=Zv) (λ_=>⟨O,O,O,O,O,Z⟩) l)
structure KK {α:Type}(g:α->LV)(sz T:Nat)(ps:α->List (OY×Nat×Nat×LV))(base:Nat)(w:OX)(v:OY)(l:List α):Prop where
 own:w.ownsRow base T sz v l.length (l.flatMap g)
 each:∀q∈l,∀t∈ps q,Yv base (ob v) ↑w t.1 t.2.1 t.2.2.1 t.2.2.2
section
variable {g:α->LV}{ps:α->List (OY×Nat×Nat×LV)}{v:OY}{l:List α}
theorem KK.nil:KK g sz T ps base w (nS) []:=⟨QM _ _ _ _,λq E=>by cases E⟩
theorem KK.I (h:KK g sz T ps base w v l)(E:sW w w'):KK g sz T ps base w' v l:=⟨Qm h.own E,λq G t I=>(h.each q G t I).I E⟩
theorem KK.low {X:LN}(h:KK g sz T ps base w v l)(E:O1 X w w')(hX:∀b∈X,b<base):KK g sz T ps base w' v l :=
 ⟨Qg h.own E (λb hb G=>oq (Qi h.own b hb).1 (hX b G)),λq I t J=>(h.each q I t J).low E hX⟩
theorem KK.app {E G:OX}{I:OY}{q:α}(h:KK g sz T ps base w v l)(V:sW w E)
  (Y:∀t∈ps q,∃N e,E.ownsRow N e t.2.2.1 t.1 t.2.1 t.2.2.2/\t.2.1<=1099511627776/\↑w<=N) (hb:base<=↑w)
  (ho:G.ownsRow base T sz I (l.length+1) (l.flatMap g++g q)) (J:O1 (ob v) E G) (S:∀b∈ob I,b∈ob v\/↑E<=b):KK g sz T ps base G I (l++[q]):=by
 refine⟨?_,λd hd t U=>?_⟩
 ·rw[Lc,LC];simpa using ho
 rcases Le.1 hd with hd|hd
 ·exact((h.each d hd t U).I V).app J S
 simp only[oF]at hd;subst hd;obtain⟨N,e,h1,h2,h3⟩:=Y t U;exact(Yv.of_own h1 h2 oa (λb hb=>oo ((QU h.own) b hb))).app J S
end
abbrev Qfj (q:IV):List (OY×Nat×Nat×LV):=[(q.p.va,q.p.a.al.length,1,q.p.a.al.map (.int .i64)),(q.p.vm,q.p.a.mr.length,1,q.p.a.mr.map (.int .i64)),(q.p.ve,q.p.a.ed.length,3,q.p.a.ed.flatMap Qp)]
abbrev IvP (base:Nat)(w:OX)(v:OY)(l:List IV):Prop:=KK Zm 5 81 Qfj base w v l
theorem IvP.itms {v:OY}{l:List IV}(h:IvP base w v l)(I:l.length<=1099511627776)(J:∀q∈l,z7 q.nm)(E:∀b∈L,b<base):KM L ↑w v l :=
 ⟨QN h.own I (λb hb S=>oq (Qi h.own b hb).1 (E b S)),λq G=>⟨h.each q G (q.p.va,q.p.a.al.length,1,q.p.a.al.map (.int .i64)) od L (λb hb=>.inl (E b hb)),h.each q G (q.p.vm,q.p.a.mr.length,1,q.p.a.mr.map (.int .i64)) od L (λb hb=>.inl (E b hb)),h.each q G (q.p.ve,q.p.a.ed.length,3,q.p.a.ed.flatMap Qp) od L (λb hb=>.inl (E b hb))⟩,J⟩
instance:Bw sV 81 [.string .empty,nS,sS 0,nS,nS] [(0,1),(1,4)]:={}
theorem Yv.of_lt {H:xw}{v:OY}(h:∀L:LN,(∀b∈L,b<N)->Zs L H v n sz cs)(hb:base<=N)(E:∀b∈av,b<N):Yv base av H v n sz cs:=λL G =>
 h L (λb I=>(G b I).elim (λh=>oa) (E b))
theorem jO (L:LN)(H:xw):Qt L H (nS) []:=Zs.nil L H 1
theorem Qmn {e bys:Nat}[h:Sl P t e 1 bys z][he:Ik P e .u8][hd:St P E]{x:OZ}{b cap:Nat}(G:QK ↑w b T [.int .u8 (n:Int)])(V:n<256)(hx:ev f x=sL b 1 cap):
  (execOp (ev f) ⟨d,.convert t E x,ty,pS,af,gd⟩).run P w=.ok (.value (.string ⟨#[UInt8.ofNat n]⟩)) w:=by
 refine qn hx ?_;refine run_convert_bytes_back (P:=P) w t E e ⟨b,0,none⟩ cap [UInt8.ofNat n] h.u he.u hd.u (λj I=>?_);have J:j=0:=by simp at I;omega
 subst J;rw[X4];have S:(⟨b,0,none⟩:Addr).add 0=⟨b,0,none⟩:=rfl;rw[S,G.cell];have U:(UInt8.ofNat n).toNat=n:=by simp[UInt8.toNat_ofNat'];omega
 simp[U]
theorem Qbs (e:KX):∀u∈Zv e,u.oneCell'=true:=by
 intro y E;simp only[Zv,oJ,oH,or_false]at E;rcases E with rfl|rfl|rfl|rfl|rfl <;> rfl
theorem jX {q:IV}(G:q.p.va.oneCell'=true)(I:q.p.vm.oneCell'=true)(J:q.p.ve.oneCell'=true):∀u∈Zm q,u.oneCell'=true:=by
 intro y E;simp only[Zm,oJ,oH,or_false]at E;rcases E with rfl|rfl|rfl|rfl|rfl
 ·rfl
 ·exact G
 ·rfl
 ·exact I
 exact J
theorem zj {H:xw}{q:IV}(h:∀L:LN,(∀b∈L,b<N)->Zr L H q.p.va q.p.vm q.p.ve q.p.a)(hb:base<=N)(G:∀b∈av,b<N):∀t∈Qfj q,Yv base av H t.1 t.2.1 t.2.2.1 t.2.2.2:=by
 intro t I;simp only[oJ,oH,or_false]at I;rcases I with rfl|rfl|rfl
 ·exact Yv.of_lt (λL E=>(h L E).al) hb G
 ·exact Yv.of_lt (λL E=>(h L E).mr) hb G
 exact Yv.of_lt (λL E=>(h L E).ed) hb G
structure qc (base:Nat)(w:OX)(vc va:OY)(co:List IV)(al:LI):Prop where
 c:w.ownsRow base 81 5 vc co.length (co.flatMap Zm)
 a:Qh 3 base w va al
 dj:Dj vc va
 each:∀q∈co,∀t∈Qfj q,Yv base (ob vc++ob va) ↑w t.1 t.2.1 t.2.2.1 t.2.2.2
section
variable {vc vc' va':OY}{co:List IV}
theorem qc.nil:qc base w (nS) (nS) [] []:=⟨QM _ _ _ _,QM _ _ _ _,Dj.nil _,λq E=>by cases E⟩
theorem qc.I (h:qc base w vc va co al)(E:sW w w'):qc base w' vc va co al:=⟨Qm h.c E,Qm h.a E,h.dj,λq G t I=>(h.each q G t I).I E⟩
theorem qc.low {X:LN}(h:qc base w vc va co al)(E:O1 X w w')(hX:∀b∈X,b<base):qc base w' vc va co al :=
 ⟨Qg h.c E (λb hb G=>oq (Qi h.c b hb).1 (hX b G)),Qg h.a E (λb hb G=>oq (Qi h.a b hb).1 (hX b G)),h.dj,λq I t J=>(h.each q I t J).low E hX⟩
theorem qc.avlt (h:qc base w vc va co al):∀b∈ob vc++ob va,b<w.heap.size:=λb hb=>(Le.1 hb).elim (QU h.c b) (QU h.a b)
theorem qc.setC {q:IV}(h:qc base w vc va co al)(V:∀t∈Qfj q,Yv base (ob vc++ob va) ↑w t.1 t.2.1 t.2.2.1 t.2.2.2)(Y:w'.ownsRow base 81 5 vc' (co.length+1) (co.flatMap Zm++Zm q))
  (E:O1 (ob vc) w w') (G:∀b∈ob vc',b∈ob vc\/↑w<=b):qc base w' vc' va (co++[q]) al:=by
 have I:O1 (ob vc++ob va) w w':=E.Y (λb hb=>Le.2 (.inl hb));have J:∀b∈ob vc'++ob va,b∈ob vc++ob va\/↑w<=b:=λb hb=>by
  rcases Le.1 hb with hb|hb
  ·exact(G b hb).imp (λh=>Le.2 (.inl h)) id
  exact .inl (Le.2 (.inr hb))
 refine⟨?_,Qg h.a E (λb hb ha=>h.dj b ha hb),λb hb S=>?_,λd hd t T=>?_⟩
 ·rw[Lc,LC];simpa using Y
 ·rcases G b hb with U|U
  ·exact h.dj b U S
  have:=QU h.a b S;omega
 rcases Le.1 hd with hd|hd
 ·exact(h.each d hd t T).app I J
 simp only[oF]at hd;subst hd;exact(V t T).app I J
theorem qc.setA {G:LI}(h:qc base w vc va co al)(T:Qh 3 base w' va' G)(I:O1 (ob va) w w')(J:∀b∈ob va',b∈ob va\/↑w<=b):qc base w' vc va' co G:=by
 have U:O1 (ob vc++ob va) w w':=I.Y (λb hb=>Le.2 (.inr hb));have V:∀b∈ob vc++ob va',b∈ob vc++ob va\/↑w<=b:=λb hb=>by
  rcases Le.1 hb with hb|hb
  ·exact .inl (Le.2 (.inl hb))
  exact(J b hb).imp (λh=>Le.2 (.inr h)) id
 refine⟨Qg h.c I (λb hb E=>h.dj b hb E),T,λb hb E=>?_,λd hd t Y=>(h.each d hd t Y).app U V⟩;rcases J b E with S|S
 ·exact h.dj b hb S
 have:=QU h.c b hb;omega
theorem qc.itms (h:qc base w vc va co al)(I:co.length<=1099511627776)(J:∀q∈co,z7 q.nm)(E:∀b∈L,b<base):KM L ↑w vc co :=
 ⟨QN h.c I (λb hb S=>oq (Qi h.c b hb).1 (E b S)),λq G=>⟨h.each q G (q.p.va,q.p.a.al.length,1,q.p.a.al.map (.int .i64)) od L (λb hb=>.inl (E b hb)),h.each q G (q.p.vm,q.p.a.mr.length,1,q.p.a.mr.map (.int .i64)) od L (λb hb=>.inl (E b hb)),h.each q G (q.p.ve,q.p.a.ed.length,3,q.p.a.ed.flatMap Qp) od L (λb hb=>.inl (E b hb))⟩,J⟩
end
theorem Xi (ns:LN):(bys ns).length=ns.length:=by rw[bys,Lj]
def grN (ns:LN)(o:Nat):LN:=(ns.drop o).take 27
theorem QhW {o:Nat}(h:o+27<=ns.length):(grN ns o).length=27:=by unfold grN;simp;omega
theorem QlP {o:Nat}(h:∀n∈ns,n<256):∀n∈grN ns o,n<256:=Qlj h o 27
theorem QiP (ns:LN)(n:Nat):(bys ns).set 0 (.int .u8 (n:Int))=bys (ns.set 0 n):=by
 unfold bys;rw[Nr]
theorem QjI (h:∀m∈ns,m<256)(E:n<256):∀m∈ns.set 0 n,m<256:=λm G=>by
 rcases Nn G with I|rfl
 ·exact h m I
 exact E
theorem Qgx (h:0<ns.length):(ns.set 0 n).getD 0 0=n:=by simp[oO,h]
structure GdA (a:QF):Prop where
 ok:Zb a
 p:0<a.st
 s:a.st<=3
 c:∃a0:QF,Zb a0/\0<a0.st/\a=JU a0
theorem QiN (G:Zb a)(h:0<a.st):0<(JU a).st:=by
 show 0<((xh a).length:Int);have E:(0:Int)∈xh a:=by
  have key:∀(f i:Nat) (out:LI),(0:Int)∈out->(0:Int)∈fdL a f i out:=by
   intro f;induction f with
   | zero=>intro i out h;exact h
   | succ f ih =>
    intro i out h;rw[fdL];split
    ·exact ih _ _ (Qaa _ _ _ h)
    exact h
  refine key _ _ _ ?_;unfold fd0;rw[OQ h];simp
 have:=List.length_pos_of_mem E;omega
theorem GdA.of {E:QF}(G:Zb E)(I:0<E.st)(T:E.st<=((1+n % 5:Nat):Int))(S:a=JU E)(U:n<3):GdA a:=by
 have J:=Qez G;subst S;exact⟨J.1,QiN G I,oo J.2.2,E,G,I,O⟩
def nmI (c k:Nat):ByteArray:=⟨#[UInt8.ofNat c]⟩++⟨#[UInt8.ofNat (48+k)]⟩
theorem Uu (c k:Nat):z7 (nmI c k):=by
 show(ByteArray.mk _++ByteArray.mk _).size<=_;rw[ByteArray.size_append];show 1+1<=_;omega
end Go.Lg
