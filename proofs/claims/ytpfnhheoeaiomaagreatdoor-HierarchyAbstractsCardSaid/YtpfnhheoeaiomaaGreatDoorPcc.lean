/- Merged out of 29 texts. -/
import Derived.Test.YtpfnhheoeaiomaaGreatDoorPcb
import Derived.Shelf.SortM.Plain
import Derived.Shelf.SortM.SortNone
import Derived.Shelf.SlicesE.Compact
import Derived.Shelf.SlicesE.DeleteFunc
import Derived.Ground.SlgmProg
import Derived.Ground.SlgnProg
import Derived.Ground.SlgfProg
import Derived.Laws.IdiomStrings
set_option maxHeartbeats 40000000
set_option maxRecDepth 100000
set_option linter.all false
open Go Go.Lg
open Go.Value renaming int->oB
open Go.IntKind renaming i64->oC
open _root_.List renaming mem_singleton->oF,replicate->oG,not_mem_nil->oH,range->oJ,mem_cons->oK,length_singleton->oL,length_append->oM,getD->oO,map_cons->oS,length->oU,cons_append->oZ,getElem?_append_left->Oa,all_cons->Ob,append_assoc->Of,all_eq_true->Oj,nil_append->On,append_nil->Oo,length_map->Ow,map_nil->OC,take_length->OI,flatMap_nil->OJ
open _root_.Bool renaming and_eq_true->oI,not_eq_true'->Oe,false_eq_true->Ok,true_and->OK
open _root_.Array renaming replicate->oP
open _root_.Nat renaming zero_add->oX,add_zero->Ox,sub_zero->ON,succ_mul->OO,mul_one->OQ
open _root_.Int renaming toNat_natCast->Oy
open _root_.Option renaming map_some->OD
open Go renaming World->O1,Value->O2,Operand->O3,Program->O4
open Go.Proofs Go.Proofs.Tryz
open Go.Proofs.Tryz renaming prog->sV
variable {w w' W':O1}{L L' ds ns av:LN}{n t i sz base T j N E m g id B kt ty G lo gp bp gf M:Nat}{a:Qz}{l o u un hi ul out rs:LI}{cs us cap capt:LV}{α:Type}{y:O3}{va ve vm z vt vl vs v' vk vx vr vo vu vz:O2}{f:Fr}{P:O4}{c:CL}{aa:List Qz}{fn:Func}{s:Int}{lf:Lf}{es ed:List Ed}{K:xx}{d:xE}{pS:String}{af:xC}{gd:xq}{k':IntKind}{at_:Array Nat}{ops:xD}{q:IV}{qx:List XV}{ks:List KV}
namespace Go.Lg
inductive Cd where
 | ex (b:Nat) (q:XV)
 | co (b:Nat) (q:KV)
def Cd.val:Cd->O2
 | .ex b _=>.func (.func 268) #[] #[.pointer (some ⟨b,0,none⟩)]
 | .co b _=>.func (.func 271) #[] #[.pointer (some ⟨b,0,none⟩)]
def Cd.src:Cd->Sum XV KV
 | .ex _ q=>.inl q
 | .co _ q=>.inr q
def Qga (t:LI):Sum XV KV->Bool
 | .inl q=>VI t q.x
 | .inr q=>US t q.k
def Cd.vio (t:LI)(c:Cd):Bool:=Qga t c.src
abbrev UI (c:Cd):LV:=[c.val]
theorem Qpt (c:Cd):(UI c).length=1:=rfl
def CdA (H:xA):Cd->Prop
 | .ex b q=>QL H b 186 (Zw q)/\P2s [] H q.v q.ls
 | .co b q=>QL H b 191 (Zz q)/\P2s [] H q.v q.ts
theorem CdA.I {w w':O1}{c:Cd}(h:CdA ↑w c)(E:sW w w'):CdA ↑w' c:=by
 cases c with
 | ex b q=>exact⟨h.1.I E,h.2.I E⟩
 | co b q=>exact⟨h.1.I E,h.2.I E⟩
def Cd.rg (n:Nat):Cd->Prop
 | .ex _ q=>∀p∈q.ls,0<=p.1/\p.1<(n:Int)
 | .co _ q=>(∀p∈q.ts,0<=p.1/\p.1<(n:Int)/\-65536<=p.2/\p.2<=65536)/\q.ts.length<=8
theorem Qcx {q:XV}(w:O1):QR sV 233 [sT (Zw q)] w λr w'=>sW w w'/\∃b,r=(Cd.ex b q).val/\↑w<=b/\QL ↑w' b 186 (Zw q):=by
 refine Zm func233 ?_;refine Qc<|Za (Zw q) λE S G I J=>Qb<|Qc<|x Zn<|Qb<|Qh ⟨[_],La,G,E,O,I,J⟩
theorem Qea {q:KV}(w:O1):QR sV 234 [sT (Zz q)] w λr w'=>sW w w'/\∃b,r=(Cd.co b q).val/\↑w<=b/\QL ↑w' b 191 (Zz q):=by
 refine Zm func234 ?_;refine Qc<|Za (Zz q) λE S G I J=>Qb<|Qc<|x Zn<|Qb<|Qh ⟨[_],La,G,E,O,I,J⟩
def CdB (H:xA):Cd->Prop
 | .ex b q=>QL H b 186 (Zw q)
 | .co b q=>QL H b 191 (Zz q)
def Cd.blk:Cd->Nat
 | .ex b _=>b
 | .co b _=>b
theorem CdB.lt {H:xA}{c:Cd}(h:CdB H c):c.blk<H.size:=by cases c <;> exact QL.lt h
theorem CdB.J {X:LN}{w w':O1}{c:Cd}(h:CdB ↑w c)(E:O5 X w w')(hX:c.blk∉X):CdB ↑w' c:=by
 cases c <;> exact QL.J h E hX
structure CdL (base:Nat)(w:O1)(v:O2)(cds:List Cd):Prop where
 own:w.ownsRow base 334 1 v cds.length (cds.flatMap UI)
 bx:∀c∈cds,CdB ↑w c/\c.blk∉ob v
theorem CdL.add {E G:O1}{v I:O2}{cds:List Cd}{c:Cd}(h:CdL base w v cds)(T:sW w E)(U:CdB ↑E c)(hb:↑w<=c.blk)
  (V:G.ownsRow base 334 1 I (cds.length+1) (cds.flatMap UI++[c.val])) (Y:O5 (ob v) E G) (hn:∀b∈ob I,b∈ob v\/↑E<=b):CdL base G I (cds++[c]):=by
 have ha:c.blk∉ob v:=λJ=>oo ((QU h.own) _ J)
 refine⟨?_,λd hd=>?_⟩
 ·rw[Lc,LD];simpa using V
 have key:CdB ↑E d/\d.blk∉ob v:=by
  rcases Lh.1 hd with hd|hd
  ·exact⟨(h.bx d hd).1.J T od,(h.bx d hd).2⟩
  simp only[oF]at hd;subst hd;exact⟨U,ha⟩
 refine⟨key.1.J Y key.2,λJ=>?_⟩;rcases hn _ J with S|S
 ·exact key.2 S
 have:=key.1.lt;omega
theorem Qkd (hX:jg [] ↑w vx qx)(hK:yS [] ↑w vk ks)(hI:qx.length<=32)(hJ:ks.length<=32):
  QR sV 153 [.agg #[vs,vx,vk]] w λr w'=>sW w w'/\∃cds,CdL ↑w w' r cds/\cds.map Cd.src=qx.map Sum.inl++ks.map Sum.inr:=by
 refine Zm func153 ?_;refine Qc<|Za [vs,vx,vk] λb1 S I hM h4=>Qb<|Qc<|Qb<|Qd<|Qc<|Qq O h4 O O<|QG (hX.I I).arr O<|Qa<|xe<|QW (α:=Nat×O2×List Cd) [(3,3),(5,5),(11,20)] (λz=>[(3,z.2.1),(11,sS z.1)]) (λz w'=>z.1<=qx.length/\sW S w'/\CdL ↑S w' z.2.1 z.2.2/\z.2.2.map Cd.src=(qx.take z.1).map Sum.inl) (λz=>qx.length - z.1) (0,nS,[]) ov
  ⟨Lo _,O5.Y _ _,⟨QM _ _ _ _,λc hc=>(by cases hc)⟩,rfl⟩ ?_
 rintro⟨k,vo,cds⟩ g wA ⟨hk,J,Y,ha⟩;simp only[]at hk Y ha;have hN:cds.length=k:=by have:=OV oU ha;simp at this;omega
 refine Zk rfl O (λhn=>?_) (λhn=>?_)
 ·refine Qt ?_;have h9:qx.length<=k:=by have ho:¬(k:Int)<(qx.length:Int):=hn;omega
  rw[Lq h9]at ha;refine Qd<|Qc<|Qq O (h4.I J) O O<|QG ((hK.I I).I J).arr O<|Qa<|xe<|QW (α:=Nat×O2×List Cd) [(3,3),(7,7),(24,33)] (λz=>[(3,z.2.1),(24,sS z.1)]) (λz w'=>z.1<=ks.length/\sW S w'/\CdL ↑S w' z.2.1 z.2.2/\z.2.2.map Cd.src=qx.map Sum.inl++(ks.take z.1).map Sum.inr) (λz=>ks.length - z.1) (0,vo,cds) ov
   ⟨Lo _,J,Y,by simp only[];rw[ha];simp⟩ ?_
  rintro⟨j,vp,cdt⟩ g wB ⟨hj,he,T,hf⟩;simp only[]at hj T hf;have hO:cdt.length=qx.length+j:=by have:=OV oU hf;simp at this;omega
  refine Zk O O (λhp=>?_) (λhp=>?_)
  ·refine Qt ?_;have hB:ks.length<=j:=by have ho:¬(j:Int)<(ks.length:Int):=hp;omega
   rw[Lq hB]at hf;refine Qk<|Qb<|Qh ⟨[_],La,I.D he,cdt,⟨Zf T.own I.size,T.bx⟩,hf⟩
  have U:j<ks.length:=by have ho:(j:Int)<(ks.length:Int):=hp;omega
  have h5:=Le U;have h6:ks.take (j+1)=ks.take j++[ks[j]'U]:=Lj U;refine Qf<|Qd<|Qn<|Qc<|O8 VR ((hK.I I).I he).arr O O U λaA hA=>?_;refine Zg (ks[j]'U) λq hq=>?_;rw[hq]at hA h5 h6;have hr:=((hK.I I).I he).each q h5;refine x (QA hA O O)<|QN [.string .empty,nS,sS 0] λb7 w4 hs ht hu=>Q2 (Zz q) hu ⟨O,hr.one,O,Z⟩ λw5 hv hw=>xe ?_;have hg:sW wB w5:=hs.Q hv ht;refine Qs<|Qa<|QV hw O O<|Qv<|(Qea w5).S ?_;rintro r6 w6 ⟨hy,E,rfl,hC,hz⟩;refine Qo<|Q9 [[(Cd.co E q).val]] λhD w7 hh hE h0=>?_;have G:=(hg.D hy).D hh;have hF:=(he.D G).size;have hG:=hg.size;refine Qo<|Q8 (news:=[(Cd.co E q).val]) (L:=[]) (Qm T.own G) O O O (h0.at od) (by simp[Cd.val,Value.oneCell']) oa oa λv8 w8 h1 hm h2 =>
   Qb ?_
  have hge:=Qj T.own;have hH:=T.add (c:=Cd.co E q) G (QL.I hz hh) (by show _<=E;omega) h1 hm h2;have h3:sW S w8:=(he.D G).O hm (λb hb=>.inr (hge b hb).1);refine Qs<|QD O O<|Qa<|xe ?_;exact⟨(j+1,v8,cdt++[Cd.co E q]),oe,ov,U,h3,hH,by simp only[];rw[Lv,hf,h6];simp[Cd.src]⟩
 have V:k<qx.length:=by have ho:(k:Int)<(qx.length:Int):=hn;omega
 have h7:=Le V;have h8:qx.take (k+1)=qx.take k++[qx[k]'V]:=Lj V;refine Qf<|Qd<|Qn<|Qc<|O8 VF ((hX.I I).I J).arr O O V λaA hA=>?_;refine Zg (qx[k]'V) λq hq=>?_;rw[hq]at hA h7 h8;have hr:=((hX.I I).I J).each q h7;refine x (QA hA O O)<|QN [.string .empty,nS] λb7 w4 hs ht hu=>Q2 (Zw q) hu ⟨O,hr.one,Z⟩ λw5 hv hw=>xe ?_;have hg:sW wA w5:=hs.Q hv ht;refine Qs<|Qa<|QV hw O O<|Qv<|(Qcx w5).S ?_;rintro r6 w6 ⟨hy,E,rfl,hC,hz⟩;refine Qo<|Q9 [[(Cd.ex E q).val]] λhD w7 hh hE h0=>?_;have G:=(hg.D hy).D hh;have hF:=(J.D G).size;have hG:=hg.size;refine Qo<|Q8 (news:=[(Cd.ex E q).val]) (L:=[]) (Qm Y.own G) O O O (h0.at od) (by simp[Cd.val,Value.oneCell']) oa oa λv8 w8 h1 hm h2 =>
  Qb ?_
 have h3:sW S w8:=(J.D G).O hm (λb hb=>.inr ((Qj Y.own) b hb).1);refine Qs<|QD O O<|Qa<|xe ?_;exact⟨(k+1,v8,cds++[Cd.ex E q]),oe,ov,V,h3,(Y.add (c:=Cd.ex E q) G (QL.I hz hh) (by show _<=E;omega) h1 hm h2),by simp only[];rw[Lv,ha,h8];simp[Cd.src]⟩
theorem QoZ [Fu sV gp fn]{q:Cd->Bool}{v:O2}{l:List Cd}(h:Zt L ↑w v l.length 1 (l.flatMap UI))
  (G:∀e∈l,∀(E:O1),sW w E->QR sV gp ([e.val]++cap) E λr w'=>r=.bool (q e)/\sW E w'):
  QR sV 231 [v,.func (.func gp) #[] cap.toArray] w λr w'=>r=sS (fix q 0 l)/\sW w w' :=
 ixG ⟨_,O,func231⟩ Qpt (ld1 λ_=>O) h G
theorem Qm2 {c:Cd}{t:LI}(E:CdA ↑w c)(I:Qu [] ↑w vt t)(G:c.rg t.length)(J:∀i,i<t.length->0<=O6 t i/\O6 t i<=4096):
  ∃g fn cap,c.val=.func (.func g) #[] #[cap]/\Fu sV g fn/\QR sV g ([vt]++[cap]) w λr w'=>r=.bool (c.vio t)/\sW w w':=by
 cases c with
 | ex b q=>exact⟨_,_,_,O,inferInstance,QmO E.1 E.2 I G⟩
 | co b q=>exact⟨_,_,_,O,inferInstance,QmN E.1 E.2 I G.1 G.2 J⟩
theorem QhC {bt:Nat}{c:Cd}{t:LI}(E:QL ↑w bt 47 [vt])(G:CdA ↑w c)(I:Qu [] ↑w vt t)(J:c.rg t.length)(S:∀i,i<t.length->0<=O6 t i/\O6 t i<=4096):
  QR sV 232 ([c.val]++[sP bt]) w λr w'=>r=.bool (c.vio t)/\sW w w':=by
 obtain⟨gq,fn,cap,T,V,hcall⟩:=Qm2 G I J S;rw[T];refine Zm func232 ?_;refine Qc<|Qb<|Qk<|ZE E O O<|Qo<|xc (g:=gq) (fn:=fn) (first:=[]) (capt:=[cap]) O<|hcall.S ?_;rintro Y w1 ⟨rfl,U⟩;refine Qb<|Qh ⟨[_],La,O,U⟩
theorem QbB {v:O2}{cds:List Cd}{t:LI}(h:Zt L ↑w v cds.length 1 (cds.flatMap UI))(S:∀c∈cds,CdA ↑w c)(I:Qu [] ↑w vt t)(T:∀c∈cds,c.rg t.length)(U:∀i,i<t.length->0<=O6 t i/\O6 t i<=4096):
  QR sV 152 [v,vt] w λr w'=>r=sS (fix (Cd.vio t) 0 cds)/\sW w w':=by
 refine Zm func152 ?_;refine Qc<|Qo<|qD (us:=[vt]) I.cells λV w1 G ha Y=>Qb<|Qk<|x Zn<|Qv<|(QoZ (q:=Cd.vio t) (cap:=[sP V]) (h.I G) (λc J w2 E=>QhC (Y.I E) (((S c J).I G).I E) ((I.I G).I E) (T c J) U)).S ?_;rintro r2 w2 ⟨rfl,E⟩;refine Qb<|Qh ⟨[_],La,O,G.D E⟩
theorem Qkn {sz t:LI}(hS:Qu [] ↑w vs sz)(G:Qu [] ↑w vt t)(h:Qnr sz t):
  QR sV 230 [.agg #[vs,vx,vk],vt] w λr w'=>r=sS 0/\sW w w':=by
 have he:=G.le;have h0:=h.1;refine Zm func230 ?_;refine Qc<|Za [vs,vx,vk] λb2 U E hf J=>Qb<|Qd<|Qk<|QG (G.I E) O<|Qq O J O O<|QG (hS.I E) O<|x (JN O O) <|
  xe ?_
 refine Zr rfl (λS=>?_) (λS=>?_)
 ·refine Qf<|Qd<|Qk<|QG (G.I E) O<|Qa<|xe<|QW (α:=Nat) [(4,6),(15,31)] (λz=>[(15,sS z)]) (λz w'=>z<=t.length/\w'=U) (λz=>t.length - z) 0 La ⟨Lo _,O⟩ ?_;rintro k g V ⟨hk,rfl⟩;refine Zk O O (λT=>?_) (λT=>?_)
  ·refine Qt<|Qc<|Qb<|Qh ⟨[_],La,O,E⟩
  have I:k<t.length:=by have hg:(k:Int)<(t.length:Int):=T;omega
  have hb:=h.2 k I;refine Qf<|Qd<|Qn<|Qk<|xic (i:=k) (G.I E) O O I λhh Y=>x (Qr Y O)<|x Qe<|Qb<|QX (α:=Unit) [(20,30)] (λz=>[(30,.bool false)]) (λz w'=>w'=V) oh ?_ ?_
  ·refine Qs<|Qa<|xb (YC O O) (λha=>oa) (λha=>?_);refine Qa<|Qa<|Qq O J O O<|Qa<|xic (i:=k) (hS.I E) O O oa λhj hc=>x (Qr hc O) <|
    x (Yl rfl O)<|QB O<|xe ?_
   exact⟨(),⟨OV Value.bool (OZ oa),Z⟩,O⟩
  rintro _ g w3 rfl;refine ZD O<|Qf<|Qs<|QD O O<|Qa<|xe ?_;exact⟨k+1,oa,La,I,O⟩
 exact OW (show(t.length:Int)=(sz.length:Int) by omega) S
theorem ji {sz t:LI}(hS:Qu [] ↑w vs sz)(hX:jg [] ↑w vx qx)(hK:yS [] ↑w vk ks)(T:Qu [] ↑w vt t)(U:Y4 sz (qx.map (·.x)) (ks.map (·.k))=0)(h:Qnr sz t):
  QR sV 151 [.agg #[vs,vx,vk],vt] w λr w'=>r=sS 0/\sW w w':=by
 refine Zm func151 ?_;refine Qc<|Za [vs,vx,vk] λY w1 E ha I=>Qb<|Qd<|Qc<|QV I O O<|Qv<|(yq (hS.I E) (hX.I E) (hK.I E)).S ?_;rintro r2 w2 ⟨J,S⟩;rw[U]at J;subst J;refine Qb<|Qk<|ZM O O<|xe<|ZD rfl<|Qf ?_;have G:=E.D S;refine Qc<|QV (I.I S) O O<|Qa<|Qv<|(Qkn (hS.I G) (T.I G) h).S ?_;rintro r3 w3 ⟨rfl,V⟩;refine Qb<|Qh ⟨[_],La,O,G.D V⟩
def V7 (qx:List Exc)(ks:List xL)(t:LI):Int×Int×Bool :=
 if 0<=fix (VI t) 0 qx then(1,fix (VI t) 0 qx,true) else if 0<=fix (US t) 0 ks then(2,fix (US t) 0 ks,true) else(0,0,false)
theorem QmI {cds:List Cd}(t:LI)(h:cds.map Cd.src=qx.map Sum.inl++ks.map Sum.inr):
  fix (Cd.vio t) 0 cds=if 0<=fix (VI t) 0 (qx.map (·.x)) then fix (VI t) 0 (qx.map (·.x)) else if 0<=fix (US t) 0 (ks.map (·.k)) then fix (US t) 0 (ks.map (·.k))+qx.length else -1:=by
 have E:fix (Cd.vio t) 0 cds=fix (Qga t) 0 (cds.map Cd.src):=(Vu (Qga t) Cd.src cds 0).symm;rw[E,h,yn,Vu,Ll,jZ,Vu (Qga t) Sum.inr ks 0];have e1:fix (λa=>Qga t (Sum.inl a)) 0 qx=fix (VI t) 0 (qx.map (·.x)):=(Vu (VI t) XV.x qx 0).symm;have e2:fix (λa=>Qga t (Sum.inr a)) 0 ks=fix (US t) 0 (ks.map (·.k)):=(Vu (US t) KV.k ks 0).symm;rw[e1,e2]
theorem Qn2 {P:Int×Int×Bool}{a b:Int}{c:Bool}(h:P=(a,b,c)):(Value.tuple #[sS a,sS b,.bool c,sS 0])=.tuple #[sS P.1,sS P.2.1,.bool P.2.2,sS 0]:=by rw[h]
theorem qJ {sz t:LI}(hS:Qu [] ↑w vs sz)(hX:jg [] ↑w vx qx)(hK:yS [] ↑w vk ks)(ht:Qu [] ↑w vt t)(hc:Y4 sz (qx.map (·.x)) (ks.map (·.k))=0)(h:Qnr sz t):
  QR sV 77 [.agg #[vs,vx,vk],vt] w λr w'=>sW w w'/\r=.tuple #[sS (V7 (qx.map (·.x)) (ks.map (·.k)) t).1,sS (V7 (qx.map (·.x)) (ks.map (·.k)) t).2.1,.bool (V7 (qx.map (·.x)) (ks.map (·.k)) t).2.2,sS 0]:=by
 have hok:=QcS hc;have hw:qx.length<=32:=by have:=hok.xl;simpa using this
 have hy:ks.length<=32:=by have:=hok.kl;simpa using this
 refine Zm func77 ?_;refine Qc<|Za [vs,vx,vk] λb2 w1 V h7 hk=>x Qe<|x Qe<|x Qe<|Qb<|Qd<|Qc<|QV hk O O<|Qa<|Qv<|(ji (hS.I V) (hX.I V) (hK.I V) (ht.I V) hc h).S ?_;rintro r2 w2 ⟨rfl,hn⟩;refine Qb<|Qk<|ZM O O<|xe<|ZD rfl<|Qf ?_;have hf:=V.D hn;have ho:=hk.I hn;refine Qc<|QV ho O O<|Qv<|(Qkd (hX.I hf) (hK.I hf) hw hy).S ?_;rintro r3 w3 ⟨hp,cds,hL,hg⟩;have he:=hf.D hp;have h8:cds.length=qx.length+ks.length:=by have:=OV oU hg;simpa using this
 have hz:∀i,i<t.length->0<=O6 t i/\O6 t i<=4096:=λi hi=>by
  have J:=h.2 i hi;have Y:i<sz.length:=by rw[<-h.1];exact hi
  have h3:=hok.s _ (Le Y);rw[ZA Y]at h3;omega
 have hs:∀c∈cds,c.src∈qx.map Sum.inl++ks.map Sum.inr:=λc S=>by rw[<-hg];exact LG S
 have h0:∀c∈cds,CdA ↑w3 c:=λc S=>by
  have J:=hs c S;have Y:=(hL.bx c S).1;cases c with
  | ex b q =>
   have I:q∈qx:=by simpa[Cd.src]using J
   exact⟨Y,(hX.each q I).I he⟩
  | co b q =>
   have I:q∈ks:=by simpa[Cd.src]using J
   exact⟨Y,(hK.each q I).I he⟩
 have h4:∀c∈cds,c.rg t.length:=λc S=>by
  have J:=hs c S;rw[h.1];cases c with
  | ex b q =>
   have I:q∈qx:=by simpa[Cd.src]using J
   exact hok.x q.x (LG I)
  | co b q =>
   have I:q∈ks:=by simpa[Cd.src]using J
   exact hok.k q.k (LG I)
 have g1:=Qd7 (VI t) (qx.map (·.x)) 0;have g2:=Qd7 (US t) (ks.map (·.k)) 0;simp only[Ow]at g1 g2;refine Qa<|Qv<|(QbB (QO (L:=[]) hL.own oa od) h0 (ht.I he) h4 hz).S ?_;rintro r4 w4 ⟨rfl,hu⟩;rw[(QmI t hg)];have ha:=he.D hu;refine Zg (V7 (qx.map (·.x)) (ks.map (·.k)) t) λP T=>?_;rw[T];unfold V7 at T;refine Zg (fix (VI t) 0 (qx.map (·.x))) λU hh=>?_;refine Zg (fix (US t) 0 (ks.map (·.k))) λi2 hj=>?_;rw[hh,hj]at T;rw[hh]at g1;rw[hj]at g2;refine Zg (if 0<=U then U else if 0<=i2 then i2+(qx.length:Int) else -1) λr E=>?_
 rw[hh,hj,E];refine Qb<|Qn<|Qk<|ZX O O<|Qb<|Zi O (λh5=>?_) (λh5=>?_)
 ·have G:¬0<=U:=λh=>by rw[OU h]at E;omega
  have n2:¬0<=i2:=λh=>by rw[OT G,OU h]at E;omega
  refine Qc<|x Qe<|x Qe<|x Qe<|Qb<|Qh ⟨[_,_,_,_],oy,ha,Qn2 (by rw[<-T,OT G,OT n2])⟩
 have hv:=(ho.I hp).I hu;refine Qk<|Qq O hv O O<|QG (hX.I ha).arr O<|ZX O O<|Qb<|Zi O (λh6=>?_) (λh6=>?_)
 ·have p1:0<=U:=by
   refine Ls.1 λG=>?_;by_cases h:0<=i2
   ·rw[OT G,OU h]at E;omega
   rw[OT G,OT h]at E;omega
  have e:r=U:=by rw[OU p1]at E;exact E.symm
  refine Qk<|x Qe<|x Qe<|x Qe<|Qb<|Qh ⟨[_,_,_,_],oy,ha,Qn2 (by rw[<-T,OU p1,e])⟩
 have G:¬0<=U:=λh=>by rw[OU h]at E;omega
 have p2:0<=i2:=by
  refine Ls.1 λn2=>?_;rw[OT G,OT n2]at E;omega
 have e:r - (qx.length:Int)=i2:=by rw[OT G,OU p2]at E;omega
 refine Qd<|ZL [] (Xg 0 9 [])<|p Qx<|p (QH O)<|pq (λ_ hc=>Ql (hv.I hc) O O)<|p (λ_=>YY (hX.I ha).arr O) <|
  p (λ_=>Jq O O ⟨oa,oa⟩)<|p ZN<|p ZN<|p ZN<|p ZN <|
  pe ?_
 exact Qh ⟨[_,_,_,_],oy,ha.D (O5.X _ _),Qn2 (by rw[<-T,OT G,OU p2,<-e])⟩
def YF (base:Nat)(av:LN)(H:xA)(v:O2)(n sz:Nat)(cs:LV):Prop:=∀L:LN,(∀b∈L,b<base\/b∈av)->Zt L H v n sz cs
theorem YF.I {base:Nat}{av:LN}{w w':O1}{v:O2}{n sz:Nat}{cs:LV}(h:YF base av ↑w v n sz cs)(E:sW w w'):YF base av ↑w' v n sz cs:=λL G=>(h L G).I E
theorem YF.app {I:LN}{v:O2}(h:YF base av ↑w v n sz cs)(J:O5 av w w')(S:∀b∈I,b∈av\/↑w<=b):YF base I ↑w' v n sz cs:=by
 intro L T;have U:Zt (av++L.filter λb=>decide (b<base)) ↑w v n sz cs:=h _ (λb hb=>by
  rcases Lh.1 hb with hb|hb
  ·exact .inr hb
  exact .inl (by simpa using(LQ.1 hb).2))
 refine U.grow J (λb hb=>Lh.2 (.inl hb)) λb hb=>?_;rcases T b hb with E|E
 ·exact .inl (Lh.2 (.inr (LQ.2 ⟨hb,ou E⟩)))
 rcases S b E with G|G
 ·exact .inl (Lh.2 (.inl G))
 exact .inr G
theorem YF.of_own {v:O2}{e:Nat}(h:w.ownsRow N e sz v n cs)(G:n<=1099511627776)(hb:base<=N)(I:∀b∈av,b<N):YF base av ↑w v n sz cs:=λL J =>
 QO h G λb hb S=>by
  have T:=(Qj h b hb).1;rcases J b S with E|E
  ·omega
  have:=I b E;omega
structure Kq {α:Type}(g:α->LV)(sz T:Nat)(p:α->O2×Nat×Nat×LV)(base:Nat)(w:O1)(v:O2)(l:List α):Prop where
 own:w.ownsRow base T sz v l.length (l.flatMap g)
 each:∀q∈l,YF base (ob v) ↑w (p q).1 (p q).2.1 (p q).2.2.1 (p q).2.2.2
theorem Kq.nil {g:α->LV}{p:α->O2×Nat×Nat×LV}:Kq g sz T p base w (nS) []:=⟨QM _ _ _ _,λq E=>by cases E⟩
theorem Kq.app {α:Type}{g:α->LV}{sz T:Nat}{p:α->O2×Nat×Nat×LV}{base N e:Nat}{w E G:O1}{v I:O2}{l:List α}{q:α}(h:Kq g sz T p base w v l)(U:sW w E)
  (V:E.ownsRow N e (p q).2.2.1 (p q).1 (p q).2.1 (p q).2.2.2) (Y:(p q).2.1<=1099511627776) (hN:↑w<=N) (hb:base<=↑w)
  (ho:G.ownsRow base T sz I (l.length+1) (l.flatMap g++g q)) (J:O5 (ob v) E G) (S:∀b∈ob I,b∈ob v\/↑E<=b):Kq g sz T p base G I (l++[q]):=by
 refine⟨?_,λd hd=>?_⟩
 ·rw[Lc,LD];simpa using ho
 rcases Lh.1 hd with hd|hd
 ·exact((h.each d hd).I U).app J S
 simp only[oF]at hd;subst hd;exact(YF.of_own V Y oa (λb hb=>oo ((QU h.own) b hb))).app J S
theorem Vl {hc he hf:O2}{b:Qz}(h:Zp L ↑w va vm ve a)(h':Zp L' ↑w hc he hf b):
  QR sV 41 [.agg #[va,sS a.st,vm,ve],.agg #[hc,sS b.st,he,hf]] w λr w'=>r=.bool (decide (a.st=b.st/\a.al=b.al/\a.mr=b.mr/\a.ed=b.ed))/\sW w w':=by
 refine Zm func41 ?_;refine Qc<|Za [va,sS a.st,vm,ve] λb2 w1 hk hp hm=>Za [hc,sS b.st,he,hf] λb3 w2 hg E I=>Qb ?_;have J:=hk.D hg;have S:=hm.I hg;refine QX (α:=Bool) [(4,30)] (λz=>[(4,.bool z)]) (λz w'=>sW w w'/\z=decide (a.st=b.st/\a.al=b.al/\a.mr=b.mr/\a.ed=b.ed)) oh ?_ ?_
 ·refine Qs<|Qq O S O O<|Qq O I O O<|xb (Zd O O) (λh9=>?_) (λh9=>?_)
  ·refine Qa<|Qq O S O O<|Qq O I O O<|Qv<|(qh (h.al.I J) (h'.al.I J)).S ?_;rintro r3 w3 ⟨T,U⟩;have V:=J.D U;refine Qeb (decide (a.al=b.al)) (λE=>?_) (λE=>?_)
   ·rw[E]at T;subst T;refine QB O<|Qa<|Qq O (S.I U) O O<|Qq O (I.I U) O O<|Qv<|(qh (h.mr.I V) (h'.mr.I V)).S ?_;rintro r4 w4 ⟨Y,hh⟩;have ha:=V.D hh;have hj:=U.D hh;refine Qeb (decide (a.mr=b.mr)) (λG=>?_) (λG=>?_)
    ·rw[G]at Y;subst Y;refine QB O<|Qa<|Qq O (S.I hj) O O<|Qq O (I.I hj) O O<|Qv<|(QgR (h.ed.I ha) (h'.ed.I ha)).S ?_;rintro r5 w5 ⟨rfl,hn⟩;refine QB O<|Qb<|⟨_,La,ha.D hn,bD ⟨λe=>⟨h9,OY E,OY G,e⟩,λe=>e.2.2.2⟩⟩
    rw[G]at Y;subst Y;refine QB O<|Qa<|Zq<|Yf<|QB O<|Qb<|⟨_,La,ha,bF (λe=>O0 G e.2.2.1)⟩
   rw[E]at T;subst T;refine QB O<|Qa<|Zq<|Yf<|QB O<|Qa<|Zq<|Yf<|x (VM O) <|
    Qb<|⟨_,La,V,bF (λe=>O0 E e.2.1)⟩
  refine Qa<|Zq<|Yf<|QB O<|Qa<|Zq<|Yf<|x (VM O) <|
   Qa<|Zq<|Yf<|QB O<|Qb<|⟨_,La,J,bF (λe=>h9 e.1)⟩
 rintro z g w6 ⟨ho,rfl⟩;exact Qh ⟨[_],La,O,ho⟩
theorem QkS (h:Zp L ↑w va vm ve a):
  QR sV 173 [.agg #[va,sS a.st,vm,ve]] w λr w'=>r=.bool (Kh a)/\sW w w':=by
 refine Zm func173 ?_;refine Qc<|Za [va,sS a.st,vm,ve] λb1 U hf hj G=>Qb<|QX (α:=Bool) [(2,11)] (λz=>[(2,.bool z)]) (λz w'=>sW w w'/\z=Kh a) oh ?_ ?_
 ·refine ZL [] (Xg 0 10 [1,6,7]) ?_;have V:=hf.D (O5.X [] U);refine pq (λ_ E=>Q7 (G.J E od) rfl rfl)<|pk<|xg<|(Y5 (h.I V)).S ?_;rintro r2 w2 ⟨rfl,Y⟩;have I:=V.D Y;have J:=(O5.X [] U).D Y;refine⟨J,?_⟩;refine pb (λ_=>Zd O O) (λS=>?_) (λS=>?_)
  ·have E:X4 a=0:=S;refine p Qx<|pq (λ_ E=>Q7 (G.J E od) rfl rfl)<|pq (λ_ E=>Q7 (G.J E od) rfl rfl) <|
    pk<|xg<|(KC (h.I I) ((ZC a).1 E)).S ?_
   rintro r3 w3 ⟨T,hk,hm,hn,rfl,hg⟩;have ha:=I.D T;refine⟨J.D T,?_⟩;refine pk<|xg<|(Vl (h.I ha) (hg [] od)).S ?_;rintro r4 w4 ⟨rfl,he⟩;refine⟨(J.D T).D he,?_⟩;refine p (Ys O)<|p ZN<|pe ?_;refine⟨_,La,ha.D he,?_⟩;unfold Kh;rw[OX E,OK];exact bD ⟨λe=>⟨e.1.symm,e.2.1.symm,e.2.2.1.symm,e.2.2.2.symm⟩,λe=>⟨e.1.symm,e.2.1.symm,e.2.2.1.symm,e.2.2.2.symm⟩⟩
  have E:¬X4 a=0:=S;refine p Qx<|ps<|ps<|ps<|ps<|p (Ys O)<|p ZN<|pe ?_;exact⟨_,La,I,by unfold Kh;rw[OZ E];rfl⟩
 rintro z g w5 ⟨hh,rfl⟩;exact Qh ⟨[_],La,O,hh⟩
theorem ZR [Ag P t sz]{x:O3}{b o:Nat}(h:QL ↑w b T cs)(hx:ev f x=.pointer (some ⟨b,o,none⟩))(hl:us.length=sz)(G:(cs.drop o).take sz=us):
  (execOp (ev f) ⟨d,.load t x,ty,pS,af,gd⟩).run P w=.ok (.value (sT us)) w:=zg hx hl λj v E=>by
 rw[X0,Kl,h.cell];rw[<-G,L2]at E;split at E
 ·simpa using E
 cases E
theorem QdZ {v:O2}{qs:List IV}(h:Vk L ↑w v qs):
  QR sV 50 [v] w λr w'=>sW w w'/\w'.ownsRow ↑w 53 4 r (qs.map (·.p)).length ((qs.map (·.p)).flatMap ZB):=by
 have hs:=h.arr.le;refine Zm func50 ?_;refine Qc<|Qb<|Qc<|Qb<|Qd<|Qk<|QG h.arr O<|Qa<|xe<|QW (α:=Nat×O2) [(3,3),(5,5),(8,17)] (λz=>[(3,z.2),(8,sS z.1)]) (λz w'=>z.1<=qs.length/\sW w w'/\w'.ownsRow ↑w 53 4 z.2 z.1 (((qs.take z.1).map (·.p)).flatMap ZB)) (λz=>qs.length - z.1) (0,nS) ov
  ⟨Lo _,O5.Y _ _,QM _ _ _ _⟩ ?_
 rintro⟨k,vo⟩ g w1 ⟨hk,I,S⟩;refine Zk rfl O (λT=>?_) (λT=>?_)
 ·refine Qt ?_;have he:k=qs.length:=by have J:¬(k:Int)<(qs.length:Int):=T;omega
  subst he;rw[Lq (Lp _)]at S;refine Qk<|Qb<|Qh ⟨[_],La,I,by rw[Ll];exact S⟩
 have E:k<qs.length:=by have J:(k:Int)<(qs.length:Int):=T;omega
 have Y:=Le E;have ha:qs.take (k+1)=qs.take k++[qs[k]'E]:=Lj E;refine Qf<|Qd<|Qn<|Qc<|O8 Va (h.arr.I I) O O E λht J=>?_;refine Zg (qs[k]'E) λq hq=>?_;rw[hq]at J Y ha;have G:=h.each q Y;refine x (QA J O O)<|QN [.string .empty,nS,sS 0,nS,nS] λb5 w2 hf hg U=>Q2 (QZ q) U ⟨O,G.al.one,O,G.mr.one,G.ed.one,Z⟩ λw3 hh U =>
  xe ?_
 have hj:sW w1 w3:=hf.Q hh hg;refine Qs<|Qa<|Zc O<|x (ZR (us:=ZB q.p) U O O O)<|Qo<|Q9 [ZB q.p] λb15 w4 hm hv hn=>?_;have V:=hj.D hm;have hc:=Qm S V;have hw:=(I.D V).size;have ho:∀u∈ZB q.p,u.oneCell'=true:=by
  intro u hu;simp only[oK,oH,or_false]at hu;rcases hu with rfl|rfl|rfl|rfl
  ·exact G.al.one
  ·rfl
  ·exact G.mr.one
  exact G.ed.one
 refine Qo<|Q8 (news:=ZB q.p) (L:=[]) hc O O O (hn.at od) ho oa oa λv5 w5 hp hr hy=>Qb<|Qs<|QD rfl rfl<|Qa<|xe<|⟨(k+1,v5),oe,ov,E,(I.D V).O hr (λb hb=>.inr ((Qj hc) b hb).1),?_⟩;simp only[];rw[ha,Lv,LD];simpa using hp
theorem Qjq {r:O2}{e:Nat}{ps:List AV}(h:w.ownsRow base e 4 r ps.length (ps.flatMap ZB))(E:ps.length<=1099511627776)(G:∀b∈L,b<base)(I:∀p∈ps,Zp L ↑w p.va p.vm p.ve p.a):X1 L ↑w r ps :=
 ⟨QO h E (λb hb J=>oq (Qj h b hb).1 (G b J)),I⟩
theorem Qjp {b:Nat}{n m:Int}(E:QL ↑w b 3 [sS m]):
  QR sV 174 ([sS n]++[sP b]) w λr w'=>r=.bool (decide (m<=n))/\sW w w':=by
 refine Zm func174 ?_;refine Qc<|Qb<|Qk<|ZE E O O<|x (Yl O O)<|Qb<|Qh ⟨[_],La,O,O5.Y _ _⟩
theorem Qfq {nev:Nat}{vg:O2}{amg:LI}{bm:Nat}{seen:List ByteArray}(hA:Zp L ↑w q.p.va q.p.vm q.p.ve q.p.a)(h3:yY q.nm)(hg:Qu L' ↑w vg amg)(hD:amg.length<=4096)(hm:ZU Xz ↑w bm (nmM seen))(h4:bm∈L)(h5:bm∈L'):
  QR sV 111 [sT (QZ q),sS nev,vg,.map (some bm)] w λr w'=>r=sS (Yx nev amg seen q.it)/\O5 [bm] w w'/\(Yx nev amg seen q.it=0->ZU Xz ↑w' bm (nmM (seen++[q.nm]))):=by
 have E:Yx nev amg seen q.it=(if Xl q.nm=false then 7 else if q.nm∈seen then 8 else if X4 q.p.a≠0 then X4 q.p.a else if Kh q.p.a=false then 6 else if q.p.a.st=0 then 12 else
  if(q.p.a.al.any λe=>decide ((nev:Int)<=e))=true then 2 else if(mns q.p.a.al amg).length≠0 then 9 else 0):=rfl
 refine Zg (Yx nev amg seen q.it) λR hR=>?_;rw[hR]at E ⊢;refine Zm func111 ?_;refine Qc<|Za (QZ q) λb4 w1 hv hE h6=>Za [sS nev] λb5 w2 U hF h7=>Qb ?_;have V:=hv.D U;have Y:=h6.I U;refine Qd<|Qn<|Qc<|Qq O Y O O<|Qv<|(qy q.nm h3 w2).S ?_;rintro r3 w3 ⟨rfl,rfl⟩;refine x (Zl O)<|Qb<|Q6 O (λhj=>?_) (λhj=>?_)
 ·have G:Xl q.nm=false:=by simpa using hj
  rw[OU G]at E;subst E;refine Qc<|Qb<|Qh ⟨[_],La,O,V.any,λe=>OW e og⟩
 have G:¬Xl q.nm=false:=by simpa using hj
 rw[OT G]at E;have hw:=hm.I V;refine Qk<|Qq O Y O O<|x (Qb1 hw O O)<|Qb<|Zi O (λha=>?_) (λha=>?_)
 ·rw[OU ha]at E;subst E;refine Qc<|Qb<|Qh ⟨[_],La,O,V.any,λe=>OW e og⟩
 rw[OT ha]at E;refine Qf ?_;have hG:=hm.lt;refine Qk<|Qq O Y O O<|Qo<|YO (k:=q.nm) hw O O λw4 hk hy=>xe ?_;rw[show ev _ _=Value.bool true from rfl,Qfh ha]at hy;have I:O5 [bm] w w4:=V.any.V hk;have hH:=hv.size;have hc:=Y.J hk (by simp;omega);have hf:Zp L ↑w4 q.p.va q.p.vm q.p.ve q.p.a:=hA.st (I.S (λb hb=>by simp at hb;subst hb;exact h4));have h8:Qu L' ↑w4 vg amg:=hg.st (I.S (λb hb=>by simp at hb;subst hb;exact h5));refine Qd<|Qc<|Zc O<|x (ZR (us:=ZB q.p) hc O O O)<|Qv<|(Y5 hf).S ?_;rintro r5 w5 ⟨rfl,hh⟩;refine Qb<|Qk<|ZM O O<|xe<|Zi rfl (λJ=>?_) (λJ=>?_)
 ·rw[OU J]at E;subst E;refine Qk<|Qb<|Qh ⟨[_],La,O,I.D hh,λe=>OW e J⟩
 rw[OT J]at E;refine Qf<|Qd<|Qn<|Qc<|Zc O<|x (ZR (us:=ZB q.p) (hc.I hh) O O O)<|Qv<|(QkS (hf.I hh)).S ?_;rintro r6 w6 ⟨rfl,h9⟩;have S:=hh.D h9;have hz:=I.D S;have h0:=hc.I S;refine x (Zl O)<|Qb<|Q6 O (λho=>?_) (λho=>?_)
 ·have G:Kh q.p.a=false:=by simpa using ho
  rw[OU G]at E;subst E;refine Qc<|Qb<|Qh ⟨[_],La,O,hz,λe=>OW e og⟩
 have G:¬Kh q.p.a=false:=by simpa using ho
 rw[OT G]at E;refine Qc<|Zc O<|Qq O h0 O O<|x (Zd O O)<|Qb<|Zi O (λhp=>?_) (λhp=>?_)
 ·have hq:q.p.a.st=0:=hp;rw[OU hq]at E;subst E;refine Qc<|Qb<|Qh ⟨[_],La,O,hz,λe=>OW e og⟩
 have hq:¬q.p.a.st=0:=hp;rw[OT hq]at E;refine Qc<|Zc O<|Qq O h0 O O<|x Zn<|Qv<|(Qel (q:=λe=>decide ((nev:Int)<=e)) (cap:=[sP b5]) (Qu.fl (hf.al.I S)) (λe he w2 U=>Qjp (((h7.J hk (by simp;omega)).I S).I U))).S ?_;rintro r7 w7 ⟨rfl,hB⟩;have T:=S.D hB;refine Qb<|Q6 O (λhs=>?_) (λhs=>?_)
 ·rw[OU hs]at E;subst E;refine Qc<|Qb<|Qh ⟨[_],La,O,(I.D T),λe=>OW e og⟩
 rw[OT (by rw[hs];decide)]at E;have hI:=((ZC q.p.a).1 (Ls.1 J)).al_le;refine Qc<|Zc O<|Qq O (hc.I T) O O<|Qa<|Qv<|(Qag (hf.al.I T) (h8.I T) oa).S ?_;rintro r8 w8 ⟨hC,rfl⟩;have h1:=T.D hC;have h2:=I.D h1;refine x (zQ O)<|Qb<|Zi O (λht=>?_) (λht=>?_)
 ·have hu:(mns q.p.a.al amg).length≠0:=λe=>ht (Lt e);rw[OU hu]at E;subst E;refine Qc<|Qb<|Qh ⟨[_],La,O,h2,λe=>OW e og⟩
 have hu:¬(mns q.p.a.al amg).length≠0:=λe=>ht (λh=>e (by rw[show mns q.p.a.al amg=[] from h];rfl));rw[OT hu]at E;subst E;refine Qf<|Qc<|Qb<|Qh ⟨[_],La,O,h2,λ_=>hy.I h1⟩
theorem QgZ {v:O2}{l:xw}(h:P2s L ↑w v l):
  QR sV 180 [v] w λr w'=>sW w w'/\w'.ownsRow ↑w 188 2 r l.length (l.flatMap Q5):=
 yx ⟨_,O,func180⟩ h (Qfe (c:=Q5) (λ_=>ov) l)
theorem QgY {v:O2}{l:xw}(h:P2s L ↑w v l):
  QR sV 181 [v] w λr w'=>sW w w'/\w'.ownsRow ↑w 193 2 r l.length (l.flatMap Q5):=
 yx ⟨_,O,func181⟩ h (Qfe (c:=Q5) (λ_=>ov) l)
theorem YF.low {X:LN}{v:O2}(h:YF base av ↑w v n sz cs)(E:O5 X w w')(hX:∀b∈X,b<base):YF base av ↑w' v n sz cs:=by
 intro L G;have I:Zt (X++L) ↑w v n sz cs:=h _ (λb hb=>by
  rcases Lh.1 hb with hb|hb
  ·exact .inl (hX b hb)
  exact G b hb)
 exact(I.J E (λb hb=>Lh.2 (.inl hb))).up (λb hb=>.inl (Lh.2 (.inr hb)))
theorem Kq.low {α:Type}{g:α->LV}{sz T:Nat}{p:α->O2×Nat×Nat×LV}{base:Nat}{X:LN}{w w':O1}{v:O2}{l:List α}(h:Kq g sz T p base w v l)(E:O5 X w w')(hX:∀b∈X,b<base):Kq g sz T p base w' v l :=
 ⟨Qg h.own E (λb hb G=>oq (Qj h.own b hb).1 (hX b G)),λq I=>(h.each q I).low E hX⟩
theorem Kq.arr {g:α->LV}{p:α->O2×Nat×Nat×LV}{v:O2}{l:List α}(h:Kq g sz T p base w v l)(E:l.length<=1099511627776)(G:∀b∈L,b<base):Zt L ↑w v l.length sz (l.flatMap g):=
 QO h.own E (λb hb I=>oq (Qj h.own b hb).1 (G b I))
abbrev xvP (q:XV):O2×Nat×Nat×LV:=(q.v,q.ls.length,2,q.ls.flatMap Q5)
abbrev kvP (q:KV):O2×Nat×Nat×LV:=(q.v,q.ts.length,2,q.ts.flatMap Q5)
abbrev XvN (base:Nat)(w:O1)(v:O2)(l:List XV):Prop:=Kq Zw 2 186 xvP base w v l
abbrev KvN (base:Nat)(w:O1)(v:O2)(l:List KV):Prop:=Kq Zz 3 191 kvP base w v l
theorem XvN.xcs {v:O2}{l:List XV}{qs:List XV}(h:XvN base w v l)(S:l.map (·.x)=qs.map (·.x))(E:∀q∈qs,yY q.nm)(T:l.length<=1099511627776)(G:∀b∈L,b<base):jg L ↑w v l:=by
 refine⟨h.arr T G,λq E=>h.each q E L (λb hb=>.inl (G b hb)),λq U=>?_⟩;have V:q.x∈qs.map (·.x):=by rw[<-S];exact LG U
 obtain⟨I,Y,e⟩:=Ly.1 V;have J:=E I Y;have h3:I.nm=q.nm:=OV Exc.nm e;rw[h3]at J;exact J
theorem KvN.kcs {v:O2}{l:List KV}{qs:List KV}(h:KvN base w v l)(S:l.map (·.k)=qs.map (·.k))(E:∀q∈qs,yY q.nm)(T:l.length<=1099511627776)(G:∀b∈L,b<base):yS L ↑w v l:=by
 refine⟨h.arr T G,λq E=>h.each q E L (λb hb=>.inl (G b hb)),λq U=>?_⟩;have V:q.k∈qs.map (·.k):=by rw[<-S];exact LG U
 obtain⟨I,Y,e⟩:=Ly.1 V;have J:=E I Y;have h3:I.nm=q.nm:=OV xL.nm e;rw[h3]at J;exact J
theorem QC {e:Nat}{v:O2}(h:w.ownsRow base e sz v n cs):v.oneCell'=true:=by
 rcases h.2 with⟨E,_⟩|⟨g,cap,cur,E,_⟩ <;> subst E <;> rfl
theorem xM {e:Nat}{v:O2}(h:w.ownsRow base e sz v n cs):v.cells=#[v]:=by
 rcases h.2 with⟨E,_⟩|⟨g,cap,cur,E,_⟩ <;> subst E <;> rfl
theorem QeJ {q:XV}(h:q.v.oneCell'=true):∀u∈Zw q,u.oneCell'=true:=by
 intro u E;simp only[oK,oH,or_false]at E;rcases E with rfl|rfl
 ·rfl
 exact h
theorem Qmi {q:KV}(h:q.v.oneCell'=true):∀u∈Zz q,u.oneCell'=true:=by
 intro u E;simp only[oK,oH,or_false]at E;rcases E with rfl|rfl|rfl
 ·rfl
 ·exact h
 rfl
def Qsi (N:Nat)(w:O1)(r:O2)(sz:LI)(ex:List Exc)(cs:List xL):Prop:=∃vs vx vk qx ks,r=.agg #[vs,vx,vk]/\qx.map (·.x)=ex/\ks.map (·.k)=cs/\∀L:LN,(∀b∈L,b<N)->Qu L ↑w vs sz/\jg L ↑w vx qx/\yS L ↑w vk ks
theorem Qab (h:ZP L ↑w c):
  QR sV 113 [c.val] w λr w'=>sW w w'/\Qsi ↑w w' r (szs c.C.co) c.C.ex c.C.cs:=by
 have pc:=h.co.arr.le;have pd:=h.ex.arr.le;have pf:=h.cs.arr.le;refine Zm func113 ?_;refine Qc<|Za c.cells λb1 w1 ga pg gb=>QN [nS,nS,nS] λb2 w2 gc ph ge=>xe ?_;have pj:=ga.size;have pn:=gb.lt;have po:=ge.lt;refine Qc<|x (QE Z)<|QN [nS,nS,nS] λE w3 ka kb h8=>Q2 [nS,nS,nS] h8 ox λw4 kc h8 =>
  xe ?_
 have pp:=h8.lt;have V:sW w2 w4:=ka.Q kc kb;have gg:sW w w4:=(ga.D gc).D V;have gh:=(gb.I gc).I V;have ke:=ge.I V;have h4:=h.I gg;have pt:b1<E:=oa
 have pu:b2<E:=oa
 have kf:↑w<=E:=oa
 have hJ:∀{wa wb:O1},O5 [E] wa wb->sW w wa->sW w wb:=λha hb=>hb.Q ha kf;refine Qd<|Qc<|Qq O gh O O<|QG h4.co.arr O<|Qa<|xe<|QW (α:=Nat×O2) [(5,5),(14,26)] (λz=>[(14,sS z.1)]) (λz w'=>z.1<=c.co.length/\O5 [E] w4 w'/\QL ↑w' E 163 [z.2,nS,nS]/\Qi 3 ↑w4 w' z.2 ((c.co.take z.1).map (·.p.a.st))) (λz=>c.co.length - z.1) (0,nS) La
  ⟨Lo _,O5.Y _ _,h8,QM _ _ _ _⟩ ?_
 rintro⟨k,vs⟩ g w5 ⟨hk,hv,h9,S⟩;simp only[]at hk h9 S;have gi:=hJ hv gg;have h5:=h.I gi;have gj:=gh.J hv (by simp;omega);have kg:=ke.J hv (by simp;omega);have pw:=hv.size;refine Zk rfl O (λhK=>?_) (λhK=>?_)
 ·refine Qt ?_;have kh:c.co.length<=k:=by have U:¬(k:Int)<(c.co.length:Int):=hK;omega
  rw[Lq kh]at S;refine Qd<|Qc<|Qq O gj O O<|QG h5.ex.arr O<|Qa<|xe<|QW (α:=Nat×O2×List XV) [(7,7),(30,45)] (λz=>[(30,sS z.1)]) (λz w'=>z.1<=c.ex.length/\O5 [E] w5 w'/\QL ↑w' E 163 [vs,z.2.1,nS]/\XvN ↑w5 w' z.2.1 z.2.2/\z.2.2.map (·.x)=(c.ex.take z.1).map (·.x)) (λz=>c.ex.length - z.1) (0,nS,[]) La
   ⟨Lo _,O5.Y _ _,h9,Kq.nil,O⟩ ?_
  rintro⟨j,vx,qx⟩ g w6 ⟨hj,Y,hM,hf,hg⟩;simp only[]at hj hM hf hg;have gk:=hJ Y gi;have h6:=h.I gk;have ki:=gj.J Y (by simp;omega);have kj:=kg.J Y (by simp;omega);have pz:=Y.size;have p0:qx.length=j:=by have:=OV oU hg;simp at this;omega
  refine Zk O O (λhN=>?_) (λhN=>?_)
  ·refine Qt ?_;have kk:c.ex.length<=j:=by have U:¬(j:Int)<(c.ex.length:Int):=hN;omega
   rw[Lq kk]at hg;refine Qd<|Qc<|Qq O ki O O<|QG h6.cs.arr O<|Qa<|xe<|QW (α:=Nat×O2×List KV) [(9,9),(49,66)] (λz=>[(49,sS z.1)]) (λz w'=>z.1<=c.cs.length/\O5 [E] w6 w'/\QL ↑w' E 163 [vs,vx,z.2.1]/\KvN ↑w6 w' z.2.1 z.2.2/\z.2.2.map (·.k)=(c.cs.take z.1).map (·.k)) (λz=>c.cs.length - z.1) (0,nS,[]) La
    ⟨Lo _,O5.Y _ _,hM,Kq.nil,O⟩ ?_
   rintro⟨i,vk,ks⟩ g w7 ⟨hi,hh,hO,hn,ho⟩;simp only[]at hi hO hn ho;have gl:=hJ hh gk;have h7:=h.I gl;have kn:=kj.J hh (by simp;omega);have p4:=hh.size;have p5:ks.length=i:=by have:=OV oU ho;simp at this;omega
   refine Zk O O (λhP=>?_) (λhP=>?_)
   ·refine Qt ?_;have ko:c.cs.length<=i:=by have U:¬(i:Int)<(c.cs.length:Int):=hP;omega
    rw[Lq ko]at ho;have kq:Zv [vs,vx,vk]:=⟨QC S,QC hf.own,QC hn.own,Z⟩;refine Qc<|QV hO O O<|Q2 [vs,vx,vk] kn kq λw8 hA kr=>xe ?_;refine Qh ⟨[.agg #[vs,vx,vk]],⟨Jl kr,Z⟩,gl.Q hA oa,?_⟩;have kt:=Qg ((Qg S Y (λb hb G=>by have:=(Qj S b hb).1;simp at G;omega))) hh (λb hb G=>by have:=(Qj S b hb).1;simp at G;omega);have ku:=Qg kt hA (λb hb G=>by have:=(Qj S b hb).1;simp at G;omega);have kv:=(Kq.low hf hh (by simp;omega)).low hA (by simp;omega);have kw:=Kq.low hn hA (by simp;omega);refine⟨vs,vx,vk,qx,ks,O,hg,ho,λL hL=>⟨?_,XvN.xcs kv hg h.ex.nm oa (λb hb=>oo (hL b hb)),KvN.kcs kw ho h.cs.nm oa (λb hb=>oo (hL b hb))⟩⟩;have he:szs c.C.co=c.co.map (·.p.a.st):=by show((c.co.map IV.it).map _)=_;rw[Mw];rfl
    rw[he];exact Qi.ints ku (by rw[Ll];omega) (λb hb=>oo (hL b hb))
   have hp:i<c.cs.length:=by have U:(i:Int)<(c.cs.length:Int):=hP;omega
   have gm:=Le hp;have gn:c.cs.take (i+1)=c.cs.take i++[c.cs[i]'hp]:=Lj hp;refine Qf<|Qd<|Qn<|Qc<|O8 VR h7.cs.arr O O hp λp6 go=>?_;refine Zg (c.cs[i]'hp) λq hq=>?_;rw[hq]at go gm gn;have J:=h7.cs.each q gm;refine x (QA go O O)<|QN [.string .empty,nS,sS 0] λb9 w9 kx kz hw=>Q2 (Zz q) hw ⟨O,J.one,O,Z⟩ λhr k0 hw =>
    xe ?_
   have hB:sW w7 hr:=kx.Q k0 kz;have gq:=hO.I hB;have hQ:=Qj hn.own;have T:E∉ob vk:=λG=>oo (hQ E G).1
   have hR:b9∉ob vk:=λG=>oo (hQ b9 G).2
   refine ZL (ob vk) [oz 0,oz 1,oz 2,oz 3,oz 4,oz 5,oz 7,oz 8,oA 6,oz 9,oA 10,oA 11,oz 12,oA 13] ?_;have k4:=hB.D (O5.X [] hr);refine p (QH O)<|pq (λ_ I=>Ql (gq.J I T) O O)<|p (QH O)<|pq (λ_ I=>Ql (hw.J I hR) O O) <|
    p (QH rfl)<|pq (λ_ I=>Ql (hw.J I hR) O O)<|p (QH O)<|pq (λ_ I=>Ql (hw.J I hR) O O) <|
    pk<|xg<|(QgY (J.I k4)).S ?_
   rintro hy p7 ⟨k5,hS⟩;have hz:=(O5.X [] hr).D k5;refine⟨hz.any,?_⟩;refine p (λ_=>QE ⟨O,xM hS,O,Z⟩)<|pk<|Q9 [Zz ⟨q.nm,hy,q.ts,q.bd⟩] λp8 p9 h0 qa k6=>⟨(hz.D h0).any,?_⟩;have hC:=(hB.D hz).D h0;have hT:↑hr=({ hr with drawn:=hr.drawn+1 }:O1).heap.size:=rfl
   have qe:=hB.size;have qf:=hC.size;refine pk<|Q8 (news:=Zz ⟨q.nm,hy,q.ts,q.bd⟩) (L:=[]) (Qm hn.own hC) O O O (k6.at od) (Qmi (q:=⟨q.nm,hy,q.ts,q.bd⟩) (QC hS)) oa oa λhU gr gs hD k9=>⟨((hz.D h0).any (L:=ob vk)).V hD,?_⟩;have ma:KvN ↑w6 gr hU (ks++[⟨q.nm,hy,q.ts,q.bd⟩]):=Kq.app hn hC (Qm hS h0) J.le (by rw[<-hT];omega) oa gs hD k9;have mc:=(gq.J ((hz.D h0).any (L:=ob vk)) T).J hD T;refine p (QH O)<|pkk<|Qw (j:=2) (u:=hU) mc O O od (QC gs) λqj gt mf=>pe ?_;have mg:O5 [E] w6 gr:=(hh.D hC).O hD (λb hb=>.inr (hQ b hb).1);refine Qs<|QD O O<|Qa<|xe<|⟨(i+1,hU,ks++[⟨q.nm,hy,q.ts,q.bd⟩]),oe,La,hp,?_,mf,Kq.low ma gt (by simp;omega),?_⟩
   ·exact mg.V gt
   simp only[];rw[Lv,ho,gn,Lv];rfl
  have hs:j<c.ex.length:=by have U:(j:Int)<(c.ex.length:Int):=hN;omega
  have gu:=Le hs;have gv:c.ex.take (j+1)=c.ex.take j++[c.ex[j]'hs]:=Lj hs;refine Qf<|Qd<|Qn<|Qc<|O8 VF h6.ex.arr O O hs λql gx=>?_;refine Zg (c.ex[j]'hs) λq hq=>?_;rw[hq]at gx gu gv;have J:=h6.ex.each q gu;refine x (QA gx O O)<|QN [.string .empty,nS] λb7 qm mh mj hE=>Q2 (Zw q) hE ⟨O,J.one,Z⟩ λht mo hE =>
   xe ?_
  have hF:sW w6 ht:=mh.Q mo mj;have gy:=hM.I hF;have hV:=Qj hf.own;have T:E∉ob vx:=λG=>oo (hV E G).1
  have gz:b7∉ob vx:=λG=>oo (hV b7 G).2
  refine ZL (ob vx) (Xg 0 12 [6,8,9,11]) ?_;have mq:=hF.D (O5.X [] ht);refine p (QH O)<|pq (λ_ I=>Ql (gy.J I T) O O)<|p (QH O)<|pq (λ_ I=>Ql (hE.J I gz) O O) <|
   p (QH rfl)<|pq (λ_ I=>Ql (hE.J I gz) O O)<|pk<|xg<|(QgZ (J.I mq)).S ?_
  rintro h1 q0 ⟨ms,hW⟩;have h2:=(O5.X [] ht).D ms;refine⟨h2.any,?_⟩;refine p (λ_=>QE ⟨O,xM hW,Z⟩)<|pk<|Q9 [Zw ⟨q.nm,h1,q.ls⟩] λq4 q5 h3 j1 mt=>⟨(h2.D h3).any,?_⟩;have hG:=(hF.D h2).D h3;have hT:↑ht=({ ht with drawn:=ht.drawn+1 }:O1).heap.size:=rfl
  have j2:=hF.size;have j3:=hG.size;refine pk<|Q8 (news:=Zw ⟨q.nm,h1,q.ls⟩) (L:=[]) (Qm hf.own hG) O O O (mt.at od) (QeJ (q:=⟨q.nm,h1,q.ls⟩) (QC hW)) oa oa λhX g0 g2 hH mu=>⟨((h2.D h3).any (L:=ob vx)).V hH,?_⟩;have mv:XvN ↑w5 g0 hX (qx++[⟨q.nm,h1,q.ls⟩]):=Kq.app hf hG (Qm hW h3) J.le (by rw[<-hT];omega) oa g2 hH mu;have mw:=(gy.J ((h2.D h3).any (L:=ob vx)) T).J hH T;have my:O5 [E] w5 g0:=(Y.D hG).O hH (λb hb=>.inr (hV b hb).1);refine p (QH O)<|pkk<|Qw (j:=1) (u:=hX) mw O O od (QC g2) λj4 g3 mz=>pe ?_;refine Qs<|QD O O<|Qa<|xe<|⟨(j+1,hX,qx++[⟨q.nm,h1,q.ls⟩]),oe,La,hs,?_,mz,Kq.low mv g3 (by simp;omega),?_⟩
  ·exact my.V g3
  simp only[];rw[Lv,hg,gv,Lv];rfl
 have hu:k<c.co.length:=by have U:(k:Int)<(c.co.length:Int):=hK;omega
 have g4:=Le hu;have g5:c.co.take (k+1)=c.co.take k++[c.co[k]'hu]:=Lj hu;have za:((c.co.take k).map (·.p.a.st)).length=k:=by simp;omega
 refine Qf<|Qd<|Qn<|Qc<|O8 Va h5.co.arr O O hu λz0 U=>?_;refine Zg (c.co[k]'hu) λq hq=>?_;rw[hq]at U g4 g5;have J:=h5.co.each q g4;refine x (QA U O O)<|QN [.string .empty,nS,sS 0,nS,nS] λb5 z2 m0 m1 hY=>Q2 (QZ q) hY ⟨O,J.al.one,O,J.mr.one,J.ed.one,Z⟩ λm2 m3 hY =>
  xe ?_
 have g6:sW w5 m2:=m0.Q m3 m1;have m4:=h9.I g6;refine Qs<|Qq O m4 O O<|Zc O<|Qq O hY O O<|Qo<|Q9 [[sS q.p.a.st]] λz3 z4 m5 z5 m6=>?_;have hI:=g6.D m5;have hz523:=hI.size;have g7:=Qj S;have T:E∉ob vs:=λG=>oo (g7 E G).1
 refine Qo<|Q8 (news:=[sS q.p.a.st]) (L:=[]) (Qm S hI) O O O (m6.at od) om oa oa λg8 m7 hZ V hn24=>?_;have m8:O5 [E] w4 m7:=(hv.D hI).O V (λb hb=>.inr (g7 b hb).1);refine Zc rfl<|Qo<|Qw (j:=0) (u:=g8) ((h9.I hI).J V T) O O od (QC hZ) λw25 g9 m9 =>
  xe ?_
 refine Qs<|QD O O<|Qa<|xe<|⟨(k+1,g8),oe,La,hu,m8.V g9,m9,?_⟩;simp only[];rw[g5,Lv];exact Qi.snoc (n:=q.p.a.st) (Qg hZ g9 (λb hb G=>by have:=(Qj hZ b hb).1;simp at G;omega))
theorem QhH (n:Nat):VB (n+1)=VB n++[(n:Int)]:=by unfold VB;rw[Nf,Lv];rfl
theorem Qli (n:Nat):(VB n).length=n:=by unfold VB;simp
theorem K6 {k:Nat}{l:List IV}(h:k<l.length):(l.drop k).map (·.it)=(l[k]'h).it::(l.drop (k+1)).map (·.it):=by rw[QY h];rfl
theorem yC {s:List ByteArray}{x:X5}(h:Yx n u s x=0):Q0 x.a:=by
 unfold Yx at h;split at h
 ·cases h
 split at h
 ·cases h
 split at h
 ·rename_i E G;exact OW h G
 rename_i E;exact(ZC _).1 (Ls.1 E)
theorem VW {al:LI}{s:List ByteArray}{x:X5}{l:List X5}:Yy n al s u (x::l)=if Yx n al s x≠0 then(Yx n al s x,s,u) else Yy n al (s++[x.nm]) (mrg (· || ·) u x.a.al) l:=rfl
theorem yA {s:List ByteArray}{x:X5}{l:List X5}:Kk n u s (x::l)=if Yx n u s x≠0 then Yx n u s x else Kk n u (s++[x.nm]) l:=rfl
theorem qt (h:ZP L ↑w c):
  QR sV 45 [c.val] w λr w'=>r=sS (Z0 c.C)/\sW w w':=by
 have kh:=h.co.arr.le;have ki:=h.rq.arr.le;have E:Z0 c.C=(if XK c.ev≠0 then XK c.ev else if c.co.length=0 then 12 else if 8<c.co.length\/12<c.co.length+c.rq.length then 3 else
  if(Yy c.ev.length (VB c.ev.length) [] [] (c.co.map (·.it))).1≠0 then(Yy c.ev.length (VB c.ev.length) [] [] (c.co.map (·.it))).1 else
  if Kk c.ev.length (Yy c.ev.length (VB c.ev.length) [] [] (c.co.map (·.it))).2.2 (Yy c.ev.length (VB c.ev.length) [] [] (c.co.map (·.it))).2.1 (c.rq.map (·.it))≠0 then Kk c.ev.length (Yy c.ev.length (VB c.ev.length) [] [] (c.co.map (·.it))).2.2 (Yy c.ev.length (VB c.ev.length) [] [] (c.co.map (·.it))).2.1 (c.rq.map (·.it)) else
  Y4 (szs c.C.co) c.C.ex c.C.cs):=by
  unfold Z0;rw[show c.C.co.length=c.co.length from Ll ..,show c.C.rq.length=c.rq.length from Ll ..];rfl
 refine Zg (Z0 c.C) λR hR=>?_;rw[hR]at E ⊢;refine Zg (Yy c.ev.length (VB c.ev.length) [] [] (c.co.map (·.it))) λCO h9=>?_;rw[h9]at E;refine Zm func45 ?_;refine Qc<|Za c.cells λb1 w1 hA kj hB=>Qb<|Qd<|Qc<|Qq O hB O O<|Qv<|(yr (h.ev.I hA)).S ?_;rintro r2 w2 ⟨rfl,hC⟩;refine Qb ?_;have ha:=hA.D hC;have hp:=hB.I hC;have h2:=h.I ha;refine Qk<|ZM O O<|xe<|Zi rfl (λhs=>?_) (λhs=>?_)
 ·rw[OU hs]at E;subst E;refine Qk<|Qb<|Qh ⟨[_],La,O,ha⟩
 rw[OT hs]at E;have kk:c.ev.length<=32:=by
  refine Ls.1 λhn=>?_;apply hs;unfold XK;rw[OU oa];decide
 refine Qf<|Qd<|Qc<|Qq O hp O O<|QG h2.co.arr O<|Qb<|Qn<|Qk<|x (Zd O O)<|Qb<|Zi O (λhy=>?_) (λhy=>?_)
 ·have hz:c.co.length=0:=by have ga:(c.co.length:Int)=0:=hy;omega
  rw[OU hz]at E;subst E;refine Qc<|Qb<|Qh ⟨[_],La,O,ha⟩
 have hz:¬c.co.length=0:=by have ga:¬(c.co.length:Int)=0:=hy;omega
 rw[OT hz]at E;refine QX (α:=Bool) [(27,37)] (λz=>[(27,.bool z)]) (λz w'=>w'=w2/\z=decide (8<c.co.length\/12<c.co.length+c.rq.length)) oh ?_ ?_
 ·refine Qs<|Qa<|xb (Ya O O) (λgb=>?_) (λgb=>?_)
  ·refine Qa<|Zq<|Zq<|QB O<|Qb<|⟨_,La,O,bT (.inl oa)⟩
  refine Qa<|Qa<|Qq O hp O O<|QG h2.rq.arr O<|x (Xp O O ⟨oa,oa⟩) <|
   x (Ya rfl O)<|QB O<|Qb<|⟨_,La,O,bD oa⟩
 rintro z g w3 ⟨rfl,rfl⟩;refine Zi rfl (λh0=>?_) (λh0=>?_)
 ·rw[OU h0]at E;subst E;refine Qc<|Qb<|Qh ⟨[_],La,O,ha⟩
 rw[OT h0]at E;refine Qf<|Qc<|Qo<|Z1 Xz λbm w4 hD kn hE=>Qb ?_;have ko:=hE.lt;have kq:=hp.lt;have hG:=ha.D hD;have hH:=hp.I hD;have hI:b1≠bm:=oa
 have hge:↑w<=bm:=oa
 have hM:ZP [bm] ↑w c:=h.up (λb hb=>.inr (by simp at hb;omega));have hJ:=hM.I hG;refine Qc<|x Qe<|Qb<|Qd<|Qc<|Qq O hH O O<|QG hJ.ev.arr O<|Qa<|xe<|QW (α:=Nat×O2) [(6,6),(8,8),(42,49)] (λz=>[(6,z.2),(42,sS z.1)]) (λz w'=>z.1<=c.ev.length/\sW w4 w'/\Qi 3 ↑w4 w' z.2 (VB z.1)) (λz=>c.ev.length - z.1) (0,nS) ov
  ⟨Lo _,O5.Y _ _,QM _ _ _ _⟩ ?_
 rintro⟨k,vg⟩ g w5 ⟨hk,hc,ht⟩;simp only[]at hk ht;have kr:=Qli k;refine Zk rfl O (λh1=>?_) (λh1=>?_)
 ·refine Qt ?_;have he:k=c.ev.length:=by have hf:¬(k:Int)<(c.ev.length:Int):=h1;omega
  subst he;have gc:Qu [bm] ↑w5 vg (VB c.ev.length):=Qi.ints ht oa (by simp;omega);have ge:=hE.I hc;have hK:=hH.I hc;have hL:=hJ.I hc;have gg:=hG.D hc;refine Qd<|Qc<|Qq O hK O O<|QG hL.co.arr O<|Qa<|xe<|QW (α:=Nat×O2×List ByteArray×LI) [(2,2),(7,7),(10,11),(53,72)] (λz=>[(7,z.2.1),(53,sS z.1)]) (λz w'=>z.1<=c.co.length/\O5 [bm] w5 w'/\ZU Xz ↑w' bm (nmM z.2.2.1)/\Qu [bm] ↑w' z.2.1 z.2.2.2/\z.2.2.2.length<=32*z.1/\Yy c.ev.length (VB c.ev.length) z.2.2.1 z.2.2.2 ((c.co.drop z.1).map (·.it))=CO) (λz=>c.co.length - z.1) (0,nS,[],[]) ov
   ⟨Lo _,O5.Y _ _,ge,Zt.nil _ _ _,od,h9⟩ ?_
  rintro⟨k,vu,sn,u⟩ g w6 ⟨hk,hg,hu,h3,gh,I⟩;simp only[]at hk hu h3 gh I;have hN:sW w w6:=gg.Q hg hge;have h4:=hK.J hg (ou hI);have U:=hL.st hg;refine Zk O O (λh5=>?_) (λh5=>?_)
  ·refine Qt ?_;have he:k=c.co.length:=by have hf:¬(k:Int)<(c.co.length:Int):=h5;omega
   subst he;rw[Lr (Lp _)]at I;have gi:CO=(0,sn,u):=I.symm;subst gi;rw[OT od]at E;simp only[]at E;refine Zg (Kk c.ev.length u sn (c.rq.map (·.it))) λRQ hO=>?_;rw[hO]at E;refine Qd<|Qc<|Qq O h4 O O<|QG U.rq.arr O<|Qa<|xe<|QW (α:=Nat×List ByteArray) [(2,2),(13,14),(76,90)] (λz=>[(76,sS z.1)]) (λz w'=>z.1<=c.rq.length/\O5 [bm] w6 w'/\ZU Xz ↑w' bm (nmM z.2)/\Kk c.ev.length u z.2 ((c.rq.drop z.1).map (·.it))=RQ) (λz=>c.rq.length - z.1) (0,sn) La
    ⟨Lo _,O5.Y _ _,hu,hO⟩ ?_
   rintro⟨k,sm⟩ g w7 ⟨hk,hh,hP,J⟩;simp only[]at hk hP J;have hQ:sW w w7:=hN.Q hh hge;have hS:=h4.J hh (ou hI);have hj:=U.st hh;have gj:=h3.st hh;refine Zk O O (λh6=>?_) (λh6=>?_)
   ·refine Qt ?_;have he:c.rq.length<=k:=by have hf:¬(k:Int)<(c.rq.length:Int):=h6;omega
    rw[Lr he]at J;have gk:RQ=0:=J.symm;rw[OT (by rw[gk];decide)]at E;refine Qc<|QV hS O O<|Qv<|(Qab hj).S ?_;rintro r8 w8 ⟨gl,vs,vx,vk,qx,ks,rfl,gm,gn,hF⟩;obtain⟨go,gq,gr⟩:=hF [] od;refine Qv<|(yq go gq gr).S ?_;rintro r9 w9 ⟨rfl,gs⟩;rw[gm,gn,<-E];refine Qb<|Qh ⟨[_],La,O,(hQ.D gl).D gs⟩
   have G:k<c.rq.length:=by have hf:(k:Int)<(c.rq.length:Int):=h6;omega
   have T:=Le G;rw[K6 G,yA]at J;refine Qf<|Qd<|Qn<|Qc<|O8 Va hj.rq.arr O O G λkt hT=>?_;refine Zg (c.rq[k]'G) λq hq=>?_;rw[hq]at hT T J;have S:=hj.rq.each q T;refine x (QA hT O O)<|QN [.string .empty,nS,sS 0,nS,nS] λku kv gt gu h7=>Q2 (QZ q) h7 ⟨O,S.al.one,O,S.mr.one,S.ed.one,Z⟩ λgv gx h7 =>
    xe ?_
   have V:sW w7 gv:=gt.Q gx gu;refine Qc<|QV h7 O O<|Qq O (hS.I V) O O<|QG (hj.ev.I V).arr O<|Qa<|Qa<|Qv<|(Qfq (S.I V) (hj.rq.nm q T) (gj.I V) oa (hP.I V) od od).S ?_;rintro kw kx ⟨rfl,hU,gy⟩;refine Qb<|Qk<|ZM O O<|xe<|Zi O (λhm=>?_) (λhm=>?_)
   ·rw[OU hm]at J;rw[OU (by rw[<-J];exact hm)]at E;refine Qk<|Qb<|Qh ⟨[_],La,by rw[E,<-J];rfl,(hQ.D V).Q hU hge⟩
   rw[OT hm]at J;refine Qf<|Qs<|QD O O<|Qa<|xe ?_;exact⟨(k+1,sm++[q.nm]),oe,La,G,(hh.D V).V hU,gy (Ls.1 hm),J⟩
  have G:k<c.co.length:=by have hf:(k:Int)<(c.co.length:Int):=h5;omega
  have T:=Le G;rw[K6 G,VW]at I;refine Qf<|Qd<|Qn<|Qc<|O8 Va U.co.arr O O G λkz hV=>?_;refine Zg (c.co[k]'G) λq hq=>?_;rw[hq]at hV T I;have S:=U.co.each q T;have gz:=gc.st hg;refine x (QA hV O O)<|QN [.string .empty,nS,sS 0,nS,nS] λb10 k0 g0 g2 hv=>Q2 (QZ q) hv ⟨O,S.al.one,O,S.mr.one,S.ed.one,Z⟩ λg3 g4 hv =>
   xe ?_
  have Y:sW w6 g3:=g0.Q g4 g2;have k4:=hu.lt;refine Qd<|Qc<|QV hv O O<|Qq O (h4.I Y) O O<|QG (U.ev.I Y).arr O<|Qa<|Qa<|Qv<|(Qfq (S.I Y) (U.co.nm q T) (gz.I Y) oa (hu.I Y) od od).S ?_;rintro k5 g5 ⟨rfl,h8,g6⟩;refine Qb<|Qk<|ZM O O<|xe<|Zi O (λho=>?_) (λho=>?_)
  ·rw[OU ho]at I;rw[OU (by rw[<-I];exact ho)]at E;refine Qk<|Qb<|Qh ⟨[_],La,by rw[E,<-I];rfl,(hN.D Y).Q h8 hge⟩
  rw[OT ho]at I;have hW:Yx c.ev.length (VB c.ev.length) sn q.it=0:=Ls.1 ho;have g7:=(yC hW).al_le;have k6:q.p.a.al.length<=32:=g7;refine Qf ?_;have hw:O5 [bm] w6 g5:=Y.any.V h8;have g8:=h3.st hw;have k9:=hw.size;refine Qs<|Qa<|Zc O<|Qq O (hv.J h8 (by simp;omega)) O O<|Qv<|(yL g8 (U.st hw |>.co.each q T |>.al) oa).S ?_;rintro g9 ma ⟨hX,ka⟩;refine Qb ?_;have mc:=zl (· || ·) u q.p.a.al;refine Qs<|QD O O<|Qa<|xe ?_;exact⟨(k+1,g9,sn++[q.nm],mrg (· || ·) u q.p.a.al),oe,ov,G,(hg.V hw).D hX,(g6 hW).I hX,Qi.ints ka (by show(mrg _ _ _).length<=_;omega) (by simp;omega),oe,I⟩
 have G:k<c.ev.length:=by have hf:(k:Int)<(c.ev.length:Int):=h1;omega
 refine Qf<|Qd<|Qn<|Qk<|Qb<|Qs<|Qa<|Qa<|Qo<|Q9 [[sS k]] λmf mg hY mh kb=>?_;have hZ:=hc.D hY;have mj:=hZ.size;have kc:=Qj ht;refine Qo<|Q8 (news:=[sS k]) (L:=[]) (Qm ht hY) O O O (kb.at od) om oa oa λke mo kf kg mq =>
  Qb<|Qs<|QD O O<|Qa<|xe ?_
 refine⟨(k+1,ke),oe,ov,G,hZ.O kg (λb hb=>.inr (kc b hb).1),?_⟩;simp only[];rw[QhH];exact Qi.snoc (n:=(k:Int)) kf
theorem QrS {C:xz}{pl:xt}
  {e bys:Nat}  {x G I:O3}  {v:O2}   {H:xA} {k:IntKind} {hi:Nat} [h:Sl P t e sz bys z]
  (J:QT ops E=⟨d,.slice t x none (some G) (some I),ty,pS,af,gd⟩) (hA:Zt L H v n sz cs) (hx:ev f x=v) (S:ev f G=.int k hi) (T:ev f I=.int k' hi) (U:hi<=n)
  (hK:∀v',Zt L H v' hi sz (cs.take (hi*sz))->XP P ops C K pl (QP f d v') w)
  (V:Z8 ops f (QT ops E)=true:=by rfl):XP P ops C K ((E,true)::pl) f w:=by
 obtain⟨v',Y,h4⟩:=Qid (P:=P) (d:=d) (ty:=ty) (pS:=pS) (af:=af) (gd:=gd) (t:=t) hA hx S T U;exact Lg.p (λw'=>by rw[J];exact h4 w') (by rw[J];exact hK v' Y) V
structure Qrc (c:Z2):Prop where
 ev:c.ev.length<=32
 c0:c.co.length≠0
 c8:c.co.length<=8
 cr:c.co.length+c.rq.length<=12
 co:∀x∈c.co,Q0 x.a
 rq:∀x∈c.rq,Q0 x.a
 ce:∀x∈c.co,∀e∈x.a.al,e<(c.ev.length:Int)
 re:∀x∈c.rq,∀e∈x.a.al,e<(c.ev.length:Int)
 cd:Y4 (szs c.co) c.ex c.cs=0
 e0:XK c.ev=0
theorem QcO {s:List ByteArray}{x:X5}(h:Yx n u s x=0):∀e∈x.a.al,e<(n:Int):=by
 unfold Yx at h;split at h
 ·cases h
 split at h
 ·cases h
 split at h
 ·rename_i E G;exact OW h G
 split at h
 ·cases h
 split at h
 ·cases h
 split at h
 ·cases h
 rename_i E;intro e I;refine Ls.1 λJ=>E ?_;rw[Ni];exact⟨e,I,OX oa⟩
theorem QcR {n:Nat}{al:LI}:∀{l:List X5}{s:List ByteArray}{u:LI},(Yy n al s u l).1=0->∀x∈l,Q0 x.a/\∀e∈x.a.al,e<(n:Int)
 | [],_,_,_,x,hx=>by cases hx
 | y::l,s,u,h,x,hx=>by
  rw[VW]at h;by_cases E:Yx n al s y≠0
  ·rw[OU E]at h;exact OW h E
  rw[OT E]at h;have G:Yx n al s y=0:=Ls.1 E;rcases Ln.1 hx with rfl|hx
  ·exact⟨yC G,QcO G⟩
  exact QcR h x hx
theorem QcN {n:Nat}{u:LI}:∀{l:List X5}{s:List ByteArray},Kk n u s l=0->∀x∈l,Q0 x.a/\∀e∈x.a.al,e<(n:Int)
 | [],_,_,x,hx=>by cases hx
 | y::l,s,h,x,hx=>by
  rw[yA]at h;by_cases E:Yx n u s y≠0
  ·rw[OU E]at h;exact OW h E
  rw[OT E]at h;have G:Yx n u s y=0:=Ls.1 E;rcases Ln.1 hx with rfl|hx
  ·exact⟨yC G,QcO G⟩
  exact QcN h x hx
theorem YP {c:Z2}(h:Z0 c=0):Qrc c:=by
 unfold Z0 at h;by_cases E:XK c.ev≠0
 ·rw[OU E]at h;exact OW h E
 rw[OT E]at h;by_cases J:c.co.length=0
 ·rw[OU J]at h;cases h
 rw[OT J]at h;by_cases S:8<c.co.length\/12<c.co.length+c.rq.length
 ·rw[OU S]at h;cases h
 rw[OT S]at h;by_cases G:(Yy c.ev.length (VB c.ev.length) [] [] c.co).1≠0
 ·rw[OU G]at h;exact OW h G
 rw[OT G]at h;by_cases I:Kk c.ev.length (Yy c.ev.length (VB c.ev.length) [] [] c.co).2.2 (Yy c.ev.length (VB c.ev.length) [] [] c.co).2.1 c.rq≠0
 ·rw[OU I]at h;exact OW h I
 rw[OT I]at h;have a4:=QcR (Ls.1 G);have T:=QcN (Ls.1 I);have U:c.ev.length<=32:=by
  refine Ls.1 λV=>?_;apply E;unfold XK;rw[OU oa];decide
 exact⟨U,J,oa,oa,λx hx=>(a4 x hx).1,λx hx=>(T x hx).1,λx hx=>(a4 x hx).2,λx hx=>(T x hx).2,h,Ls.1 E⟩
theorem Yz.e {H:xA}{c:Int}(h:Yz N H aa va vt c):c=JG aa:=by
 unfold Yz at h;unfold JG;by_cases E:KR aa≠0
 ·rw[OU E]at h ⊢;exact h.1
 rw[OT E]at h ⊢;cases G:xo aa with
 | none=>rw[G]at h;exact h.1
 | some z=>rw[G]at h;exact h.1
theorem Yz.bad {H:xA}{c:Int}(h:Yz N H aa va vt c)(I:c≠0):va=zA/\vt=Zs:=by
 unfold Yz at h;by_cases E:KR aa≠0
 ·rw[OU E]at h;exact h.2
 rw[OT E]at h;cases G:xo aa with
 | none=>rw[G]at h;exact h.2
 | some z=>rw[G]at h;exact OW h.1 I
theorem Yz.good {H:xA}{c:Int}(h:Yz N H aa va vt c)(G:c=0):YT N H va (JZ aa)/\Qc7 N H vt (syQ aa)/\xo aa=some (JZ aa,syQ aa)/\KR aa=0:=by
 unfold Yz at h;unfold JZ syQ;by_cases E:KR aa≠0
 ·rw[OU E]at h;exact OW (h.1.symm.D G) E
 rw[OT E]at h;cases I:xo aa with
 | none=>rw[I]at h;rw[h.1]at G;cases G
 | some z=>rw[I]at h;exact⟨h.2.1,h.2.2,O,Ls.1 E⟩
theorem Yz.st1 {b:Nat}{c:Int}(h:Yz N ↑w aa va vt c)(hb:b<N)(G:O5 [b] w w'):Yz N ↑w' aa va vt c:=by
 unfold Yz at *;split
 ·rename_i E;rw[OU E]at h;exact h
 rename_i E;rw[OT E]at h;cases I:xo aa with
 | none=>rw[I]at h;exact h
 | some z=>rw[I]at h;exact⟨h.1,Y8 h.2.1 hb G,QkJ h.2.2 hb G⟩
theorem Yz.S {N M:Nat}{H:xA}{aa:List Qz}{va vt:O2}{c:Int}(h:Yz N H aa va vt c)(G:M<=N):Yz M H aa va vt c:=by
 unfold Yz at *;split
 ·rename_i E;rw[OU E]at h;exact h
 rename_i E;rw[OT E]at h;cases I:xo aa with
 | none=>rw[I]at h;exact h
 | some z=>rw[I]at h;exact⟨h.1,h.2.1.S G,h.2.2.S G⟩
theorem Qlt (c:Z2):YN c=if Z0 c≠0 then Z0 c else if JG (O7 c.co)≠0 then JG (O7 c.co) else JG (O7 c.co++O7 c.rq):=by
 unfold YN;split
 ·rfl
 have e:JG (O7 c.co)=if KR (O7 c.co)≠0 then KR (O7 c.co) else match xo (O7 c.co) with|none=>3|some _=>0:=rfl
 by_cases E:KR (O7 c.co)≠0
 ·rw[OU E]at e;rw[OU E,e,OU E]
 rw[OT E]at e;rw[OT E];cases G:xo (O7 c.co) with
 | none=>rw[G]at e;simp only[]at e;rw[e];rfl
 | some z=>rw[G]at e;simp only[]at e;rw[e];rfl
theorem QfV (c:CL):(c.co.map (·.p)).map (·.a)=O7 c.C.co:=by unfold O7;show _=(c.co.map IV.it).map _;rw[Mw,Mw];rfl
theorem Qnl (c:CL):(c.rq.map (·.p)).map (·.a)=O7 c.C.rq:=by unfold O7;show _=(c.rq.map IV.it).map _;rw[Mw,Mw];rfl
theorem QaI {ps:List AV}(h:∀p∈ps,Q0 p.a):∀p∈ps,p.a.st<=4096:=λp E=>(h p E).st1
def qK (N:Nat)(H:xA)(c:Z2)(va vt:O2)(e:Int):Prop:=if Z0 c≠0 then e=Z0 c/\va=zA/\vt=Zs else Yz N H (O7 c.co) va vt e
theorem yP (h:ZP L ↑w c)(hk:Kb w 4096):
  QR sV 14 [c.val] w λr w'=>sW w w'/\∃va vt e,r=.tuple #[va,vt,sS e]/\qK ↑w ↑w' c.C va vt e:=by
 refine Zm func14 ?_;refine Qc<|Za c.cells λb1 w1 ha hw hm=>QN [nS,sS 0,nS,nS] λb2 w2 hc hy S=>x Qe<|Qb ?_;have hf:=ha.D hc;have hz:=ha.size;have hg:=hm.I hc;refine Qd<|Qc<|QV hg O O<|Qv<|(qt (h.I hf)).S ?_;rintro r3 w3 ⟨rfl,E⟩;refine Qb ?_;have T:=hf.D E;have h0:=S.lt;refine Qk<|ZM O O<|xe<|Zi rfl (λI=>?_) (λI=>?_)
 ·refine Qc<|x (QE Z)<|Qa<|Q2 [nS,sS 0,nS,nS] (S.I E) oy λw4 hn ho=>x Qe<|Qb<|Qh ⟨[zA,Zs,sS (Z0 c.C)],⟨Jl ho,O,O,Z⟩,T.Q hn oa,zA,Zs,_,O,by unfold qK;rw[OU I];exact⟨O,O,O⟩⟩
 refine Qf<|Qc<|Qq O (hg.I E) O O<|Qv<|(QdZ (h.I T).co).S ?_;rintro r5 w5 ⟨U,hr⟩;have J:=T.D U;have hs:∀p∈c.co.map (·.p),Q0 p.a:=λp V=>by
  obtain⟨q,Y,rfl⟩:=Ly.1 V;exact(YP (Ls.1 I)).co q.it (LG Y)
 have h1:=h.co.arr.le;have ht:X1 [] ↑w5 r5 (c.co.map (·.p)):=Qjq hr (by rw[Ll];omega) od (λp V=>by
  obtain⟨q,Y,rfl⟩:=Ly.1 V;exact(((h.co.each q Y).up (L':=[]) od).I J))
 refine Qv<|(UL (km:=4096) ht (hk.I J) og (QaI hs)).S ?_;rintro r6 w6 ⟨hh,va,vt,e,rfl,hR⟩;rw[QfV]at hR;have hu:∃us,va=sT us/\us.length=4/\Zv us:=by
  by_cases he:e=0
  ·exact Y9 (hR.good he).1
  exact⟨[nS,sS 0,nS,nS],(hR.bad he).1,O,O,O,O,O,Z⟩
 refine Exists.elim hu λus G=>?_;refine QJ rfl O<|QJ O O<|QJ O O<|Qo<|Zj (us:=us) ((S.I E).I (U.D hh)) O G.1 G.2.1 O G.2.2 λw7 hj hv =>
  x Qe<|Qb<|Qh ⟨[sT us,vt,sS e],⟨⟨_,O,ZF G.2.1 (hv.at (L:=[]) od).cells⟩,rfl,rfl,Z⟩,(J.D hh).Q hj oa,va,vt,e,by rw[G.1];rfl,?_⟩
 unfold qK;rw[OT I];exact(hR.st1 (oq U.size E.size) hj).S J.size
theorem Qbm {v:O2}{m:Int}(h:Qu L ↑w v l)(T:Kb w m)(hb:∀n∈l,0<=n/\n<m)(hl:l.length<=1000000):
  QR sV 76 [v] w λr w'=>r=.string ⟨(YS l).toArray⟩/\sW w w':=by
 refine Zm func76 ?_;refine Qc<|Qb<|Qc<|QN [.pointer none,nS] λI w1 hc U he=>xe ?_;refine Qd<|Qk<|QG h O<|Qa<|xe<|QW (α:=Nat×O2) [(5,5),(8,16)] (λz=>[(8,sS z.1)]) (λz w'=>z.1<=l.length/\sW w w'/\(z.2=.pointer none\/z.2=me I)/\Bl z.2 I (YS (l.take z.1)) w'/\(YS (l.take z.1)).length<=8*z.1) (λz=>l.length - z.1) (0,.pointer none) La
  ⟨Lo _,hc,.inl O,⟨_,he,QM _ _ _ _⟩,Lp _⟩ ?_
 rintro⟨k,p⟩ g w2 ⟨hk,E,J,G,hf⟩;simp only[]at hk J G hf;refine Zk rfl O (λh9=>?_) (λh9=>?_)
 ·refine Qt<|Qc ?_;rw[Lq oa]at G;refine KS<|(Vm E U J G).S ?_;rintro r3 w3 ⟨rfl,hg⟩;refine Qb<|Qh ⟨[.string ⟨(YS l).toArray⟩],La,O,hg⟩
 have S:k<l.length:=oa
 have ho:=hb l[k] (Le S);obtain⟨q,hq⟩:∃q:Nat,l[k]=q:=⟨l[k].toNat,oa⟩;have hh:l[k].toNat=q:=oa
 have hr:=Kj 7 q (oo T.le);have V:YS (l.take (k+1))=YS (l.take k)++(Lib.decDigits q++[32]):=by
  rw[Lj S];unfold YS;rw[LD,M7,hh]
 refine Qf<|Qd<|Qn<|Qc<|xii (h.I E) O O S λhs hj=>x (Qr hj O)<|Qb<|Qs<|Qa<|Qo<|xf ?_;refine(show QR _ _ [sS l[k]] _ _ by rw[hq];exact(Qa1 q oa w2 (T.I E))).S ?_;rintro r4 w4 ⟨rfl,Y⟩;have hm:(⟨(Lib.decDigits q).toArray⟩:ByteArray).size+(⟨#[32]⟩:ByteArray).size<=1000000000:=by show(Lib.decDigits q).toArray.size+1<=_;simp;omega
 refine x (YJ O O hm)<|KS<|(Jo (E.D Y) U J (G.I Y) ((⟨(Lib.decDigits q).toArray⟩:ByteArray)++(⟨#[32]⟩:ByteArray)) (by rw[ByteArray.size_append];show _+((Lib.decDigits q).toArray.size+1)<=_;simp;omega)).S ?_;rintro r5 w5 ⟨hn,ha⟩;refine xe<|Qs<|QD O O<|Qa<|xe<|⟨(k+1,me I),oe,La,oe,hn,.inr O,?_,?_⟩
 ·simp only[];rw[V];have e:((⟨(Lib.decDigits q).toArray⟩++⟨#[32]⟩:ByteArray)).data.toList=Lib.decDigits q++[32]:=by rw[ByteArray.data_append];simp
  rw[e]at ha;exact ha
 simp only[];rw[V];simp;omega
structure Sty where
 c:CL
 p:AV
 vq:O2
 qs:List TV
 s:AV
 vt:O2
 ts:List TV
 vs:O2
 vx:O2
 vk:O2
 qx:List XV
 ks:List KV
 bm:Nat
 mm:List (ByteArray×O2)
abbrev Sty.cells (q:Sty):LV:=[q.c.ve,q.c.vc,q.c.vr,q.c.vx,q.c.vk,q.p.va,sS q.p.a.st,q.p.vm,q.p.ve,q.vq,q.s.va,sS q.s.a.st,q.s.vm,q.s.ve,q.vt,q.vs,q.vx,q.vk,.map (some q.bm)]
structure JJ (L:LN)(b:Nat)(H:xA)(q:Sty):Prop where
 B:QL H b 166 q.cells
 bL:b∉L
 c:ZP L H q.c
 p:Zp L H q.p.va q.p.vm q.p.ve q.p.a
 s:Zp L H q.s.va q.s.vm q.s.ve q.s.a
 qs:JI L H q.vq q.qs
 ts:JI L H q.vt q.ts
 k1:Qu L H q.vs (szs q.c.C.co)
 k2:jg L H q.vx q.qx
 k3:yS L H q.vk q.ks
 mL:q.bm∉L
 m:ZU Xz H q.bm q.mm
theorem JJ.I {L:LN}{b:Nat}{w w':O1}{q:Sty}(h:JJ L b ↑w q)(E:sW w w'):JJ L b ↑w' q:=⟨h.B.I E,h.bL,h.c.I E,h.p.I E,h.s.I E,h.qs.I E,h.ts.I E,h.k1.I E,h.k2.I E,h.k3.I E,h.mL,h.m.I E⟩
theorem JJ.st {L:LN}{b:Nat}{w w':O1}{q:Sty}(h:JJ L b ↑w q)(E:O5 L w w'):JJ L b ↑w' q:=⟨h.B.J E h.bL,h.bL,h.c.st E,h.p.st E,h.s.st E,h.qs.st E,h.ts.st E,h.k1.st E,h.k2.st E,h.k3.st E,h.mL,h.m.J E h.mL⟩
theorem JJ.up {L L':LN}{b:Nat}{H:xA}{q:Sty}(h:JJ L b H q)(E:∀b∈L',b∈L\/H.size<=b):JJ L' b H q :=
 ⟨h.B,λI=>by rcases E _ I with G|G;exact h.bL G;have:=h.B.lt;omega,h.c.up E,h.p.up E,h.s.up E,h.qs.up E,h.ts.up E,h.k1.up E,h.k2.up E,h.k3.up E,λI=>by rcases E _ I with G|G;exact h.mL G;have:=h.m.lt;omega,h.m⟩
structure Qsc (q:Sty):Prop where
 ok:Z0 q.c.C=0
 p:xo (O7 q.c.C.co)=some (q.p.a,q.qs.map (·.2))
 s:xo (O7 q.c.C.co++O7 q.c.C.rq)=some (q.s.a,q.ts.map (·.2))
 ex:q.qx.map (·.x)=q.c.C.ex
 cs:q.ks.map (·.k)=q.c.C.cs
 m:qw q.c.co.length q.mm (q.qs.map (·.2))
theorem YV {l:List X5}(h:∀x∈l,Q0 x.a):∀a∈O7 l,Q0 a:=λa E=>by
 obtain⟨x,hx,rfl⟩:=Ly.1 E;exact h x hx
def stp (a:Qz)(s v:Int):Int×Bool×Int:=if cks a s≠0 then(0,false,cks a s) else if v∉a.al then(0,false,9) else if 0<=nxt a.ed s v then(nxt a.ed s v,true,0) else(0,false,0)
theorem QkG (h:Zp L ↑w va vm ve a)(s v:Int):
  QR sV 33 [.agg #[va,sS a.st,vm,ve],sS s,sS v] w λr w'=>r=.tuple #[sS (stp a s v).1,.bool (stp a s v).2.1,sS (stp a s v).2.2]/\sW w w':=by
 have E:stp a s v=(if cks a s≠0 then(0,false,cks a s) else if v∉a.al then(0,false,9) else if 0<=nxt a.ed s v then(nxt a.ed s v,true,0) else(0,false,0)):=rfl
 refine Zg (stp a s v) λR hR=>?_;rw[hR]at E ⊢;refine Zm func33 ?_;refine Qc<|Za [va,sS a.st,vm,ve] λb3 w1 ha hf S=>x Qe<|x Qe<|Qb<|Qd<|Qc<|QV S O O<|Qa<|Qv<|(J2 (h.I ha) s).S ?_;rintro r2 w2 ⟨rfl,T⟩;refine Qb ?_;have I:=ha.D T;refine Qk<|ZM O O<|xe<|Zi rfl (λJ=>?_) (λJ=>?_)
 ·rw[OU J]at E;subst E;refine Qk<|x Qe<|x Qe<|Qb<|Qh ⟨[_,_,_],ox,O,I⟩
 rw[OT J]at E;refine Qf<|Qd<|Qc<|Qq O (S.I T) O O<|Qa<|Qv<|(ZK (h.al.I I) v).S ?_;rintro r3 w3 ⟨rfl,rfl⟩;refine x (zQ O)<|xe<|Zi rfl (λU=>?_) (λU=>?_)
 ·rw[OU U]at E;subst E;refine Qc<|x Qe<|x Qe<|Qb<|Qh ⟨[_,_,_],ox,O,I⟩
 rw[OT U]at E;refine Qf ?_;have G:cks a s=0:=Ls.1 J;have hck:X4 a=0:=by
  unfold cks at G;refine Ls.1 λV=>?_;rw[OU V]at G;exact V G
 have hsr:0<=s/\s<a.st:=by
  unfold cks at G;rw[OT (by rw[hck];decide)]at G;refine Ls.1 λV=>?_;rw[OU oa]at G;cases G
 refine Qd<|Qc<|QV (S.I T) O O<|Qa<|Qa<|Qv<|(Qc1 (h.ed.I I) ((ZC a).1 hck) s v hsr.1 hsr.2).S ?_;rintro r4 w4 ⟨rfl,he⟩;refine Qb<|Qk<|x (Yl O O)<|xe<|Zi rfl (λY=>?_) (λY=>?_)
 ·rw[OU Y]at E;subst E;refine Qk<|x Qe<|x Qe<|Qb<|Qh ⟨[_,_,_],ox,O,I.D he⟩
 rw[OT Y]at E;subst E;refine Qf<|Qc<|x Qe<|x Qe<|Qb<|Qh ⟨[_,_,_],ox,O,I.D he⟩
theorem QiQ (es:List Ed)(s v:Int):nxt es s v=(xj es s v).getD (-1):=by
 induction es with
 | nil=>rfl
 | cons e es ih =>
  rw[nxt,xj];by_cases h:e.1=s/\e.2.1=v
  ·rw[OU h,OU h];rfl
  rw[OT h,OT h];exact ih
theorem Qn8 (h:Q0 a){v:Int}(J:0<=s)(S:s<a.st)(E:v∈a.al):(stp a s v).2.1=(xj a.ed s v).isSome:=by
 have G:cks a s=0:=by unfold cks;rw[OT (by rw[(ZC a).2 h];decide),OT oa]
 unfold stp;rw[OT (by rw[G];decide),OT (ou E),QiQ];cases I:xj a.ed s v with
 | none=>rfl
 | some t =>
  have:=(h.ed _ (QcE I)).2.2.2.1;rw[Option.getD_some,OU (ou this)];rfl
theorem QbO {b:Nat}{q:Sty}{t:LI}(hS:JJ L b ↑w q)(I:Qu L' ↑w vt t)(J:q.c.co.length<=t.length):
  QR sV 75 [sP b,vt] w λr w'=>sW w w'/\∃E G,r=.tuple #[E,G]/\Qu L' ↑w' E (t.take q.c.co.length)/\Qu L' ↑w' G (t.drop q.c.co.length):=by
 refine Zm func75 ?_;refine Qc<|x Qe<|Qb<|Qk<|Z6 O<|Zc O<|Qq O hS.B O O<|QG hS.c.co.arr O<|Qb<|Qd<|ZL [] (Xg 0 9 [])<|p Qx<|p Qx<|p Qx<|QrS (hi:=q.c.co.length) O I O O O J λE S=>p Qx<|p Qx<|Qok (lo:=q.c.co.length) O I O O J λG T =>
  p ZN<|p ZN<|pe ?_
 refine Qh ⟨[_,_],ov,O5.X _ _,E,G,O,?_,?_⟩
 ·rw[OQ,<-List.map_take]at S;have e:(t.take q.c.co.length).length=q.c.co.length:=by rw[LC];omega
  unfold Qu;rw[e];exact S
 exact Qu.drop T
theorem Qh9 {v:Int}{y:X5}{l:List X5}{ss:LI}:rfr v i (y::l) (s::ss)=if v∈y.a.al/\(xj y.a.ed s v).isSome=false then(i:Int) else rfr v (i+1) l ss:=rfl
theorem QdC {b:Nat}{q:Sty}{v:Int}(hS:JJ L b ↑w q)(hr:Qu L' ↑w vr rs)(hok:∀x∈q.c.rq,Q0 x.p.a)(hv:Vt (O7 q.c.C.rq) rs):
  QR sV 155 [sP b,vr,sS v] w λr w'=>r=sS (rfr v 0 q.c.C.rq rs)/\sW w w':=by
 have h5:=hS.c.rq.arr.le;have h6:rs.length=q.c.rq.length:=by rw[hv.1];unfold O7;show((q.c.rq.map IV.it).map _).length=_;simp
 refine Zg (rfr v 0 q.c.C.rq rs) λR hR=>?_;rw[hR];refine Zm func155 ?_;refine Qc<|Qb<|Qd<|Qk<|Z6 O<|Zc O<|Qq O hS.B O O<|QG hS.c.rq.arr O<|Qa<|xe<|QW (α:=Nat) [(6,11),(18,44)] (λz=>[(18,sS z)]) (λz w'=>z<=q.c.rq.length/\sW w w'/\rfr v z ((q.c.rq.drop z).map (·.it)) (rs.drop z)=R) (λz=>q.c.rq.length - z) 0 La
  ⟨Lo _,O5.Y _ _,hR⟩ ?_
 rintro k g w1 ⟨hk,J,E⟩;refine Zk rfl O (λY=>?_) (λY=>?_)
 ·refine Qt ?_;have hs:q.c.rq.length<=k:=by have ht:¬(k:Int)<(q.c.rq.length:Int):=Y;omega
  rw[Lr hs]at E;have hu:R=-1:=E.symm;refine Qc<|Qb<|Qh ⟨[_],La,by rw[hu];rfl,J⟩
 have G:k<q.c.rq.length:=by have ht:(k:Int)<(q.c.rq.length:Int):=Y;omega
 have I:k<rs.length:=oa
 have ha:=Le G;rw[K6 G,QY I,Qh9]at E;have S:∀hz:k<(O7 q.c.C.rq).length,0<=rs[k]'I/\rs[k]'I<((O7 q.c.C.rq)[k]'hz).st:=λhz=>hv.2 k I hz;have hh:k<(O7 q.c.C.rq).length:=by unfold O7;show k<((q.c.rq.map IV.it).map _).length;simpa using G
 have S:=S hh;have hw:(O7 q.c.C.rq)[k]'hh=(q.c.rq[k]'G).p.a:=by unfold O7;show((q.c.rq.map IV.it).map _)[k]'_=_;simp[IV.it]
 rw[hw,ZA I]at S;rw[ZA I]at E;refine Qf<|Qd<|Qn<|Qk<|O8 Va (hS.c.rq.arr.I J) O O G λh7 hj=>?_;refine Zg (q.c.rq[k]'G) λy hy=>?_;rw[hy]at hj ha E S;have T:=(hS.c.rq.each y ha).I J;have hm:=hok y ha;refine x (QA hj O O)<|QN [.string .empty,nS,sS 0,nS,nS] λb8 w2 h0 h1 V=>x Qe <|
  Q2 (QZ y) V ⟨O,T.al.one,O,T.mr.one,T.ed.one,Z⟩ λw3 h2 V=>xe ?_
 have U:sW w1 w3:=h0.Q h2 h1;refine Qd<|Qc<|Zc O<|Qq O V O O<|Qa<|Qv<|(J3 (T.al.I U) hm.ali v).S ?_;rintro r4 w4 ⟨rfl,rfl⟩;refine x (zQ O)<|xe<|Zi rfl (λhe=>?_) (λhe=>?_)
 ·rw[OT (λe=>he e.1)]at E;refine Qt<|Qs<|QD O O<|Qa<|xe ?_;exact⟨k+1,oa,La,G,J.D U,E⟩
 have hn:v∈y.p.a.al:=Ls.1 he;have ho:=Qn8 hm S.1 S.2 hn;refine Qf<|Qd<|ZL [] (Xg 0 15 [7])<|p (QH O)<|pq (λ_ hc=>ZR (us:=ZB y.p) (V.J hc od) rfl rfl rfl)<|p Qx<|p Qx<|pic (i:=k) rfl ((hr.I J).I U) rfl rfl I λh8 h3 =>
  pq (λ_ hc=>Qr (h3.I hc) O)<|p Qx<|pk<|xg<|(QkG ((T.I U).I (O5.X _ _)) (O6 rs k) v).S ?_
 rintro r5 w5 ⟨rfl,h4⟩;have hp:=(O5.X [] w4).D h4;refine⟨hp,?_⟩;refine p Qx<|p (λ_=>Q3 O O)<|p (λ_=>Q3 O O)<|p (λ_=>Q3 O O)<|p ZN <|
  p ZN<|p ZN<|pe ?_
 have hq:=(J.D U).D hp;refine Qk<|x (Zl O)<|xe<|Q6 rfl (λhf=>?_) (λhf=>?_)
 ·have hg:(xj y.p.a.ed (O6 rs k) v).isSome=false:=by rw[<-ho];simpa using hf
  rw[OU ⟨hn,hg⟩]at E;refine Qk<|Qb<|Qh ⟨[_],La,by rw[<-E];rfl,hq⟩
 have hg:¬(xj y.p.a.ed (O6 rs k) v).isSome=false:=by rw[<-ho];simpa using hf
 rw[OT (λe=>hg e.2)]at E;refine Qf<|Qs<|QD O O<|Qa<|xe ?_;exact⟨k+1,oa,La,G,hq,E⟩
open Go.RowKit
def JE (L:LN)(W W':O1):Prop:=∀(k:Nat) (o:Obj),k∉L->W.heap[k]?=some o->o.isCells=true->W'.heap[k]?=some o
theorem JE.refl (L:LN)(W:O1):JE L W W:=λ_ _ _ h _=>h
theorem JE.D {A B C:O1}(h:JE L A B)(k:JE L B C):JE L A C:=λi o E I G=>k i o E (h i o E I G) G
theorem JE.J {W:O1}(h:O5 L W W'):JE L W W':=λk _ G E _=>(h.block k (LH.1 E).1 G).D E
theorem At.cst {W:O1}{a:Addr}(h:At L ↑W a us)(J:JE L W W')(S:W.heap.size<=↑W'):At L ↑W' a us:=by
 refine⟨h.out,λu G=>LR (h.lt u G) S,λj u G=>?_⟩;have E:=h.cell j u G;unfold cel at E ⊢;rw[YE]at E ⊢;cases I:W.heap[a.block]? with
 | none=>rw[I]at E;cases E
 | some o =>
  rw[I]at E;cases o with
  | cells c t m=>rw[J a.block _ (h.out u (Ml G)) I rfl];exact E
  | _=>cases E
theorem Zt.cst {L:LN}{W W':O1}{v:O2}{n sz:Nat}{cs:LV}(h:Zt L ↑W v n sz cs)(E:JE L W W')(G:W.heap.size<=↑W'):Zt L ↑W' v n sz cs :=
 ⟨h.1,h.2.1,h.2.2.imp id λ⟨a,cap,I,J,S⟩=>⟨a,cap,I,J,S.cst E G⟩⟩
structure LwC (B:Nat)(L:LN)(W W':O1):Prop where
 lw:Lw B L W W'
 cst:JE L W W'
theorem LwC.D {B:Nat}{L:LN}{E w w':O1}(h:LwC B L E w)(k:LwC B L w w'):LwC B L E w':=⟨h.lw.D k.lw,h.cst.D k.cst⟩
def rdC {α:Type}(B:Nat)(L:LN)(I:List α->O1->Prop)(X:Exit->List α->O1->Prop)(xs:List α)(W:O1):Exit->LN->Fr->O1->Prop
 | .normal,_,_,W'=>XX B L W W'/\JE L W W'/\I xs W'
 | .ret,_,_,W'=>XX B L W W'/\X .ret xs W'
 | .exit i,_,_,W'=>XX B L W W'/\X (.exit i) xs W'
 | _,_,_,_=>False
theorem Qdb {Q:Exit->LN->Fr->O1->Prop}{g:O3}{ps:LN}{assign body:Code}(L:LN)(h1:1<=m)
    [hF:Fu P gf fn]  (hg:ev f g=.func (.func gf) #[] capt.toArray) {encs:α->LV} {S Sp:List α->Prop}  (hp:∀p∈ps,p<n) (hn:∀x,(encs x).length=ps.length)
  (hq:SeqStopsK (fen none) (m - 1) P gf capt.toArray (λx=>(encs x).toArray) (LwC ↑w L) S Sp N w)
  (I:List α->O1->Prop) (hI:∀s,Ye ↑w (I s)) (X:Exit->List α->O1->Prop) (hX:∀e s,Ye ↑w (X e s)) (h0:I [] w) (A:Fr->α->Fr->O1->Prop) (hA:∀x E,Ye ↑w (A f x E))
  (hf:∀l pre x W,I pre W->WG (some l) (m - 1 - 1) P n assign (Qds (λhe E W'=>he=[]/\XX ↑w L W W'/\JE L W W'/\I pre W'/\A f x E W') (λ_ _ _ _=>False)) [] (Qdp f ps (encs x)) W)
  (hh:∀l pre x E W,I pre W->A f x E W->pre.length<N->WG (some l) (m - 1 - 1) P n body (rdC ↑w L I X (pre++[x]) W) [] E W)
  (hs:∀D xs W,↑w<=D->S xs->I xs W->W.heap[D]?=some (.deferred (some []))->Q .normal (D::ds) f W)
  (hj:∀D e pre W,↑w<=D->Sp pre->X e pre W->W.heap[D]?=some (.deferred (some []))->(e=.ret\/∃i,e=.exit i)->Q e (D::ds) f W):
  WG none m P n (.rangeFunc g ps.toArray assign body) Q ds f w:=by
 unfold WG at hf hh ⊢;intro a T;have eg:∀args w,(callFunc gf args).run P w=.ok (.enter gf args) w:=by
  intro args w;have h1:¬fn.name = "runtime.NumGoroutine" := by simpa using hF.nm
  have U:¬fn.body=none:=by have:=hF.b;intro e;rw[e]at this;cases this
  simp[callFunc,hF.f,h1,U]
 have keep:∀{W W':O1},XX ↑w L W W'->KeepsFrom ↑w W W':=λh=>⟨h.lw.size,λk o _ V ho=>h.other k o V ho⟩;refine wpIn_rangeFunc_ownH (F:=fen none) O h1 (gf:=gf) (lb:=capt.toArray) (by rw[T.eval];exact hg) Z eg hq (λh k=>h.D k)
  (λW l o o' hl ho ht _=>⟨⟨O,O,O,od,λk V _=>World.putObj_heap_other oa⟩,λk o2 _ V hc=>by
   have hu:k≠l:=λe=>by subst e;rw[ho]at V;cases V;rw[ht]at hc;cases hc
   rw[World.putObj_heap_other hu];exact V⟩) (Below.refl _ _) (λx=>by simp[hn x]) I
  (λc pre W=>match c with| .ret=>X .ret pre W| .exit i=>X (.exit i) pre W|_=>False) (Ye.own hI) (λc=>Ye.own λs=>?_) h0
  (λx Y W=>∃E,Xf n [] Y E/\A f x E W) (λx Y=>Ye.own λ_=>Ye.ex λE=>Ye.and (Ye.pure _) (hA x E)) ?_ ?_ ?_ ?_
 ·cases c <;> first|exact hX _ s|exact Ye.pure _
 ·intro l pre x W K hi hK;have hr:Xf n [] { tmps:=(ps.toArray.zip (encs x).toArray).foldl (λt (p,v)=>t.setIfInBounds p v) a.tmps,defers:=[] } (Qdp f ps (encs x)):=by
   have U:Xf n [] { a with defers:=[] } f:=⟨T.size,O,T.get⟩
   have J:=UZ ps (encs x) _ _ U hp;have e:(ps.toArray.zip (encs x).toArray).foldl (λt (p,v)=>t.setIfInBounds p v) a.tmps=(ps.zip (encs x)).foldl (λt (x:Nat×O2)=>t.setIfInBounds x.1 x.2) a.tmps:=od
   rw[e];exact J
  refine wpIn_mono (hf l pre x W hi _ hr) ?_;rintro e Y W' ⟨he,E,U,_,J⟩;cases e with
  | normal=>obtain⟨rfl,h4,hv,G,h6⟩:=J;exact hK Y W' (keep h4) ⟨h4.lw,hv⟩ G ⟨E,U,h6⟩
  | exit id=>exact J.elim
  | goto l=>exact J.elim
  | ret=>exact J.elim
  | panic ch=>exact J.elim
  | outgrown=>exact J.elim
 ·rintro l pre x Y W _ _ hi ⟨E,U,J⟩ hw;refine wpIn_mono (hh l pre x E W hi J hw Y U) ?_;rintro e hy W' ⟨he,hz,h4,_,G⟩;cases e with
  | normal=>exact⟨keep G.1,⟨G.1.lw,G.2.1⟩,G.2.2⟩
  | exit id=>exact⟨keep G.1,G.2⟩
  | goto l=>exact G.elim
  | ret=>exact⟨keep G.1,G.2⟩
  | panic ch=>exact G.elim
  | outgrown=>exact G.elim
 ·intro D xs W hD hS hi hd;exact⟨D::ds,f,⟨T.size,by rw[show coll (D::ds)={ target:=.collected D,args:=#[] }::coll ds from rfl,T.defers],T.get⟩,λ_ _=>rfl,hs D xs W hD hS hi hd⟩
 intro D c pre W hD hS hx hd;have hm:Xf n (D::ds) { a with defers:={ target:=.collected D,args:=#[] }::a.defers } f:=⟨T.size,by rw[show coll (D::ds)={ target:=.collected D,args:=#[] }::coll ds from rfl,T.defers],T.get⟩
 cases c with
 | ret=>exact wpIn_ret ⟨_,f,hm,λ_ _=>O,hj D .ret pre W hD hS hx hd (.inl O)⟩
 | exit i=>exact wpIn_exit ⟨_,f,hm,λ_ _=>O,hj D (.exit i) pre W hD hS hx hd (.inr ⟨i,O⟩)⟩
 | _=>exact hx.elim
theorem xy2 {rest:xD}{x z:O3}{l:Nat}{R:Ending->O1->Prop}
  (hx:ev f x=.func (.yield l) #[] #[]) (E:YieldAt (fen none) (m - 1) P l #[ev f y,ev f z] w R) (hK:∀e w',R e w'->∃v,e=.returned v/\Jm P m ops K rest (QP f d v) w')
  (G:Z8 ops f ⟨d,.call ⟨.value x,#[y,z],at_⟩,ty,pS,af,gd⟩=true:=by rfl):
  Jm P m ops K (⟨d,.call ⟨.value x,#[y,z],at_⟩,ty,pS,af,gd⟩::rest) f w:=by
 obtain⟨fn,tmps,assign,body,I,J⟩:=E;have S:(execOp (ev f) ⟨d,.call ⟨.value x,#[y,z],at_⟩,ty,pS,af,gd⟩).run P w=.ok (.round l fn tmps assign body) w:=by
  simp[execOp,resolve,hx,Deferred.ofValue,invoke,I]
 unfold Jm;rw[G];simp only[XOY,S,upY,cond_true];exact J.mono λe w' h=>by obtain⟨v,rfl,T⟩:=hK e w' h;exact T
def wrf (rq:List X5)(rs:LI):LI->List (Int×Int)
 | []=>[]
 | v::l=>if 0<=rfr v 0 rq rs then(v,rfr v 0 rq rs)::wrf rq rs l else wrf rq rs l
theorem Qbx (rq:List X5)(rs:LI)(v:Int):∀l,wrf rq rs (l++[v])=wrf rq rs l++if 0<=rfr v 0 rq rs then[(v,rfr v 0 rq rs)]else[]
 | []=>by simp only[On,wrf]
 | a::l=>by
  simp only[oZ,wrf,Qbx rq rs v l];by_cases h:0<=rfr a 0 rq rs
  ·rw[OU h,OU h];rfl
  rw[OT h,OT h]
theorem VG (rq:List X5)(rs:LI)(b:LI):∀a,wrf rq rs (a++b)=wrf rq rs a++wrf rq rs b
 | []=>rfl
 | x::a=>by
  simp only[oZ,wrf,VG rq rs b a];by_cases h:0<=rfr x 0 rq rs
  ·rw[OU h,OU h];rfl
  rw[OT h,OT h]
theorem Qlg (rq:List X5)(rs:LI)(l:LI)(k:Nat):(wrf rq rs (l.take k)).length<=(wrf rq rs l).length:=by
 have h:=VG rq rs (l.drop k) (l.take k);rw[MA]at h;rw[h,Lc];omega
theorem Qht {rq:List X5}{k:Nat}(h:k<l.length):wrf rq rs (l.take (k+1))=wrf rq rs (l.take k)++if 0<=rfr (O6 l k) 0 rq rs then[(O6 l k,rfr (O6 l k) 0 rq rs)]else[]:=by
 rw[Lj h,Qbx,ZA h]
theorem zc {rq:List X5}{rs:LI}{x:Int×Int}:∀{l:LI},x∈wrf rq rs l↔x.1∈l/\0<=x.2/\x.2=rfr x.1 0 rq rs
 | []=>by simp[wrf]
 | v::l=>by
  rw[wrf];have ih:=zc (rq:=rq) (rs:=rs) (x:=x) (l:=l);by_cases h:0<=rfr v 0 rq rs
  ·rw[OU h,Ln,ih,Ln];constructor
   ·rintro(rfl|⟨E,G⟩)
    ·exact⟨.inl O,h,O⟩
    exact⟨.inr E,G⟩
   rintro⟨E|E,G,I⟩
   ·exact .inl (by rw[<-E];exact Prod.ext_iff.2 ⟨O,I⟩)
   exact .inr ⟨E,G,I⟩
  rw[OT h,ih,Ln];constructor
  ·rintro⟨E,G⟩;exact⟨.inr E,G⟩
  rintro⟨E|E,G,I⟩
  ·exact OW (by rw[<-E,<-I];exact G) h
  exact⟨E,G,I⟩
theorem qC {b:Nat}{st:Int}(S:vr.cells=#[vr]):
  QR sV 78 [sP b,sS st,vr] w λr w'=>sW w w'/\∃b1 b2 E,r=.func (.func 154) #[] #[sP b1,sP b2,sP E] /\
   ↑w<=b1/\↑w<=b2/\↑w<=E/\QL ↑w' b1 159 [sP b]/\QL ↑w' b2 3 [sS st]/\QL ↑w' E 47 [vr]:=by
 refine Zm func78 ?_;refine Qc<|Za [sP b] λE w1 J T U=>Za [sS st] λV w2 G hc Y=>Qo<|qD (us:=[vr]) S λb5 w3 I he ha=>x Qe <|
  xe ?_
 have hf:=J.size;have hg:=G.size;refine Qc<|x Zn<|Qb<|Qh ⟨[_],La,(J.D G).D I,E,V,b5,O,T,oa,oa,(U.I G).I I,Y.I I,ha⟩
theorem Ue {b2 U b:Nat}{q:Sty}{es:LI}{st:Int}{fl:xw}(hz:QL ↑w T 159 [sP b])(hB:QL ↑w b2 3 [sS st])(hC:QL ↑w U 47 [vr])
  (hD:T∉L) (hE:U∉L) (hF:∀x∈L,x<↑w) (hS:JJ L b ↑w q) (hr:Qu L ↑w vr rs) (hok:∀x∈q.c.rq,Q0 x.p.a) (hv:Vt (O7 q.c.C.rq) rs) (G:cks q.p.a st=0) (h3:enb q.p.a st=es) (hn:wrf q.c.C.rq rs es=fl):
  SeqStopsK (fen none) m sV 154 #[sP T,sP b2,sP U] (λx:{ x:Int×Int // x∈fl }=>[sS x.1.1,sS x.1.2].toArray) (LwC ↑w L)
   (λys=>ys.map (·.1)=fl) (λpre=>pre.map (·.1) <+: fl) fl.length w:=by
 intro l J Jx W hG hJ hH hY h0;have hf:sW w W:=O5.of_below hG;have ab:∀{ys:List { x:Int×Int // x∈fl }} {W1 W2:O1},J ys W1->sW W1 W2->J ys W2:=λ{ys W1 W2} hj hg=>hJ ys W1 W2 none hj ⟨hg.os,hg.tape,hg.output,hg.size,λk hk _=>hg.block k hk od⟩ (λr e=>by cases e);have hI:es.length<=1099511627776:=by
  have E:=hS.p.ed.le;have h2:=Yg q.p.a.ed st;rw[<-h3];unfold enb;rw[Ll];omega
 have hK:=Qlg q.c.C.rq rs es;rw[hn]at hK;have key:QR sV 154 [.func (.yield l) #[] #[],sP T,sP b2,sP U] W (λ_ W'=>(∃ys,ys.map (·.1)=fl/\J ys W')\/(∃pre,pre.map (·.1) <+: fl/\Jx pre W')):=by
  refine QR.of_G m func154 O ntmps154 results154 od ?_;have h4:=hS.I hf;refine QS<|V4 (sW W) [oz 0,oz 1,oz 2,oz 3,oz 4,oA 5,oz 6,oz 7,oz 8,oz 9,oz 10] mixed oh oh oc (O5.X _ _) ?_;refine pq (λ_ G=>Ql ((hz.I hf).I G) O O)<|p (YL O)<|p (QH O)<|pq (λ_ G=>ZR (us:=ZB q.p) (h4.B.I G) O O O)<|pq (λ_ G=>Ql ((hB.I hf).I G) O O)<|pk<|xg<|(QeH (h4.p.I (O5.X _ _)) st).S ?_;rintro r1 w1 ⟨hL,ve,rfl,_,ho⟩;have ho:=ho G;have hs:=(O5.X [] W).D hL;refine⟨hs,?_⟩;refine p Qx<|p (λ_=>Q3 O O)<|p (λ_=>Q3 O O)<|p ZN<|p ZN<|pe ?_;have hP:=hf.size;have hQ:({ W with drawn:=W.drawn+1 }:O1).heap.size=W.heap.size:=rfl
  rw[h3]at ho;have h5:Qu L ↑w1 ve es:=Qi.ints ho hI (λx hx=>oo (hF x hx));refine QS<|Qy oh oh<|Qa<|QG h5 O<|Qa<|xe<|ZO<|KG (α:=Nat×List { x:Int×Int // x∈fl }) [(8,9),(21,38)] (λz=>[(21,sS z.1)]) (λz ds W'=>ds=[]/\z.1<=es.length/\O5 L w W'/\Qu L ↑W' ve es/\z.2.map (·.1)=wrf q.c.C.rq rs (es.take z.1)/\J z.2 W') (λz=>es.length - z.1) oh (0,[]) La
   ⟨O,Lo _,(hf.D hs).any,h5,O,ab h0 hs⟩ ?_
  rintro⟨k,ys⟩ g ds w2 ⟨rfl,hk,V,ht,hh,hu⟩;refine QS<|Qy oh oh<|ZX O O<|xe<|QS<|UO O (λhw=>?_) (λhw=>?_)
  ·refine JD ?_;have hM:es.length<=k:=by have hp:¬(k:Int)<(es.length:Int):=hw;omega
   rw[Lq hM,hn]at hh;exact⟨λ_ h=>(by cases h),Ms,[],λW' I=>⟨Z,.inl ⟨ys,hh,ab hu I⟩⟩⟩
  refine Yb ?_;have Y:k<es.length:=by have hp:(k:Int)<(es.length:Int):=hw;omega
  have S:=Qht (rq:=q.c.C.rq) (rs:=rs) Y;have h6:O6 es k∈es:=by rw[<-ZA Y];exact Le Y
  refine Zg (O6 es k) λv h7=>?_;rw[h7]at S h6;refine Zg (rfr v 0 q.c.C.rq rs) λj hj=>?_;rw[hj]at S;refine QS<|ZO<|QS<|Qy oh oh<|xic (i:=k) ht O O Y λhR hp=>?_;rw[h7]at hp;refine x (Qr hp O)<|Qb<|QS<|Qy oh oh<|ZE (hz.J V hD) O O<|ZE (hC.J V hE) O O<|Qa<|Qv<|(QdC (v:=v) (hS.st V) (hr.st V) hok hv).S ?_;rintro r3 w3 ⟨h8,ha⟩;rw[hj]at h8;subst h8;refine Qb<|QS<|Kr oh ?_;refine Jm.pre3 ?_;refine Qa<|xb (Yl O O) (λhy=>?_) (λhy=>?_)
  ·have hq:0<=j:=hy;have hm:(v,j)∈fl:=by rw[<-hn];exact zc.2 ⟨h6,hq,hj.symm⟩
   rw[OU hq]at S;have hA:(ys++[(⟨(v,j),hm⟩:{ x:Int×Int // x∈fl })]).map (·.1) <+: fl:=by
    rw[Lv,hh,show[(⟨(v,j),hm⟩:{ x:Int×Int // x∈fl })].map (·.1)=[(v,j)] from rfl,<-S,<-hn];have h9:=VG q.c.C.rq rs (es.drop (k+1)) (es.take (k+1));rw[MA]at h9;exact⟨_,h9.symm⟩
   have hN:ys.length<fl.length:=by have E:=hA.length_le;rw[Ll,Lc,Lu]at E;omega
   refine Qa<|xe<|Jm.pre3 ?_;refine Qa<|Qa<|Qa<|xe<|xy2 (l:=l) O (hY ys ⟨(v,j),hm⟩ w3 (ab hu ha) hN) λen W3 hO=>Or.elim hO (λE=>⟨.bool true,E.1,?_⟩) (λE=>⟨.bool false,E.1,?_⟩)
   ·refine Jm.of_XL<|x (Zl O)<|QB O<|xe<|JX O<|Yb ?_;refine Qy oh oh<|QD O O<|Qa<|xe ?_;exact⟨(k+1,ys++[⟨(v,j),hm⟩]),oe,La,O,Y,(V.D ha).lw E.2.2.lw,(ht.I ha).cst E.2.2.cst E.2.2.lw.size,by simp only[];rw[S,Lv,hh];rfl,E.2.1⟩
   refine Jm.of_XL<|x (Zl O)<|QB O<|xe<|yT O ?_;refine JW ⟨λ_ h=>(by cases h),Ms,[],λW' I=>⟨Z,.inr ⟨ys++[⟨(v,j),hm⟩],hA,?_⟩⟩⟩;exact hH _ W3 W' none E.2 ⟨I.os,I.tape,I.output,I.size,λk hk _=>I.block k hk od⟩ (λr e=>by cases e)
  have hq:¬0<=j:=hy;rw[OT hq,LF]at S;refine Qa<|xe<|Jm.of_XL<|Zq<|Yf<|QB O<|xe<|JX O<|Yb ?_;refine Qy oh oh<|QD O O<|Qa<|xe ?_;exact⟨(k+1,ys),oe,La,O,Y,V.D ha,ht.I ha,by simp only[];rw[S,hh],ab hu ha⟩
 refine(callsIn_wide (n:=m)).2 ?_;have ea:(#[.func (.yield l) #[] #[]]++[sP T,sP b2,sP U].toArray:Array O2)=#[.func (.yield l) #[] #[],sP T,sP b2,sP U]:=od
 rw[ea];unfold QR at key;refine Calls.mono key λe w' he=>?_;cases e with
 | returned v=>exact⟨⟨v,O⟩,he⟩
 | panicked c=>exact he.elim
 | outgrown=>exact he.elim
theorem J9 [h1:Ag P t sz]{x:O3}{b o:Nat}{E:LV}(G:QL ↑w b T cs)(hx:ev f x=.pointer (some ⟨b,o,none⟩))(J:ev f y=sT us)(hl:us.length=sz)(V:o+sz<=cs.length)(S:Zv us)(U:cs.take o++us++cs.drop (o+sz)=E)
  (hK:∀w',O5 [b] w w'->QL ↑w' b T E->K (QP f d undef) w'):XO P ⟨d,.store t x y,ty,pS,af,gd⟩ f w K:=by
 have I:=run_storeCells_at P b o T us 0 cs.toArray w G (by simp;omega) S.all;subst hl;simp only[Ox,U]at I;refine xk (w':=w.setRow b E.toArray) ?_ (hK _ (O5.setRow _ _ _) (Jp G));simp[execOp,hx,J,Instr.storeAt,Instr.sureAddr,storeVar,UW (sz:=us.length),Value.cells,I]
instance:Bw sV 166 [nS,nS,nS,nS,nS,nS,sS 0,nS,nS,nS,nS,sS 0,nS,nS,nS,nS,nS,nS,.map none] [(0,5),(5,4),(9,1),(10,4),(14,1),(15,3),(18,1)]:={}
theorem Yz.shape {H:xA}{v:O2}{c:Int}(h:Yz N H aa v vt c):∃(a:Qz) (va vm ve:O2) (qs:List TV),v=.agg #[va,sS a.st,vm,ve]/\Zv [va,sS a.st,vm,ve]/\vt.oneCell'=true /\
  (c=0->xo aa=some (a,qs.map (·.2))/\KR aa=0/\∀L:LN,(∀b∈L,b<N)->Zp L H va vm ve a/\JI L H vt qs):=by
 by_cases G:c=0
 ·obtain⟨⟨va,vm,ve,I,E⟩,⟨qs,T,J⟩,U,V⟩:=h.good G;have hA:=E [] od;exact⟨JZ aa,va,vm,ve,qs,I,⟨hA.al.one,O,hA.mr.one,hA.ed.one,Z⟩,(J [] od).arr.one,λ_=>⟨by rw[T];exact U,V,λL S=>⟨E L S,J L S⟩⟩⟩
 obtain⟨I,E⟩:=h.bad G;exact⟨⟨[],0,[],[]⟩,Zs,Zs,Zs,[],I,oy,by rw[E];rfl,λe=>OW e G⟩
def plE (c:Z2):Int:=if Z0 c≠0 then Z0 c else JG (O7 c.co)
theorem qK.shape {N:Nat}{H:xA}{c:Z2}{v vt:O2}{e:Int}(h:qK N H c v vt e):e=plE c/\∃(a:Qz) (va vm ve:O2) (qs:List TV),v=.agg #[va,sS a.st,vm,ve]/\Zv [va,sS a.st,vm,ve]/\vt.oneCell'=true /\
  (e=0->Z0 c=0/\xo (O7 c.co)=some (a,qs.map (·.2))/\KR (O7 c.co)=0/\∀L:LN,(∀b∈L,b<N)->Zp L H va vm ve a/\JI L H vt qs):=by
 unfold qK at h;unfold plE;by_cases E:Z0 c≠0
 ·rw[OU E]at h ⊢;obtain⟨G,I,J⟩:=h;exact⟨G,⟨[],0,[],[]⟩,Zs,Zs,Zs,[],I,oy,by rw[J];rfl,λe=>OW (G.symm.D e) E⟩
 rw[OT E]at h ⊢;obtain⟨a,va,vm,ve,qs,G,I,J,S⟩:=h.shape;exact⟨h.e,a,va,vm,ve,qs,G,I,J,λe=>⟨Ls.1 E,S e⟩⟩
theorem Qls (c:Z2):YN c=if plE c≠0 then plE c else JG (O7 c.co++O7 c.rq):=by
 rw[Qlt];unfold plE;by_cases h:Z0 c≠0
 ·rw[OU h,OU h,OU h]
 rw[OT h,OT h]
theorem Qnk {H:xA}{ps:List AV}(h:∀p∈ps,Zp L H p.va p.vm p.ve p.a):∀u∈ps.flatMap ZB,u.oneCell'=true:=by
 intro u G;obtain⟨p,I,E⟩:=Md.1 G;have hA:=h p I;simp only[oK,oH,or_false]at E;rcases E with rfl|rfl|rfl|rfl
 ·exact hA.al.one
 ·rfl
 ·exact hA.mr.one
 exact hA.ed.one
theorem Qo7 {F:LN->Array Obj->Prop}(st:∀{L:LN}{w w':O1},F L ↑w->O5 L w w'->F L ↑w')(up:∀{L L':LN}{H:xA},F L H->(∀b∈L',b∈L\/H.size<=b)->F L' H){b:Nat}
  (h:∀L:LN,(∀x∈L,x<N)->F L ↑w) (hb:b<N) (E:O5 [b] w w'):∀L:LN,(∀x∈L,x<N)->F L ↑w':=λL G =>
 up (st (h (b::L) (λx hx=>by
  rcases Ln.1 hx with rfl|hx
  ·exact hb
  exact G x hx)) (E.S (λx hx=>by simp only[oF]at hx;subst hx;exact Lm))) (λx hx=>.inl (Lk _ hx))
theorem qw.nil (n:Nat):qw n [] []:=λu _ _=>by simp[xd]
theorem QcW (h0:ZP L ↑w c)(hz:Kb w 4096):
  QR sV 74 [c.val] w λr w'=>sW w w'/\∃vp,r=.tuple #[vp,sS (YN c.C)]/\(YN c.C≠0->vp=.pointer none) /\
   (YN c.C=0->∃b q,vp=sP b/\q.c=c/\Qsc q/\JJ [] b ↑w' q/\∀L:LN,(∀x∈L,x<↑w)->Zp L ↑w' q.s.va q.s.vm q.s.ve q.s.a/\(ZP L ↑w c->JJ L b ↑w' q)):=by
 have h:=h0.up (L':=[]) od;have hE:=Qls c.C;refine Zg (YN c.C) λE gr=>?_;rw[gr]at hE ⊢;refine Zm func74 ?_;refine Qc<|Za c.cells λb1 w1 gs mc h2=>x Qe<|Qb ?_;have mf:=h2.lt;refine Qc<|QV h2 O O<|x (Zu [(0,c.cells)] ⟨O,O,Z⟩)<|Za [c.ve,c.vc,c.vr,c.vx,c.vk,nS,sS 0,nS,nS,nS,nS,sS 0,nS,nS,nS,nS,nS,nS,.map none] λb10 w2 hN mg G=>Qb ?_;have h3:=gs.D hN;have gt:=G.lt;have hO:=h2.I hN;have hge:↑w<=b10:=oa
 have mh:b1≠b10:=oa
 refine Qc<|Qb<|Qd<|Qk<|Qa<|QV hO O O<|Qv<|(yP (h.I h3) (hz.I h3)).S ?_;rintro r3 w3 ⟨hg,v3,vq,e3,rfl,hP⟩;obtain⟨h4,pa,pva,pvm,pve,qs,rfl,gu,gv,gx⟩:=hP.shape;refine Qa<|QJ O O<|QJ O O<|QJ O O<|Z6 O<|Zc O<|Qo<|J9 (us:=[pva,sS pa.st,pvm,pve]) (G.I hg) O O O od gu rfl λw4 gy G =>
  Z6 rfl<|Zc O<|Qo<|Qw (j:=9) (u:=vq) G O O od gv λY gz G=>Qb ?_
 have hh:O5 [b10] w3 Y:=gy.V gz;have hj:sW w Y:=(h3.D hg).Q hh hge;refine Qk<|ZM O O<|xe<|Zi rfl (λhn=>?_) (λhn=>?_)
 ·have g0:plE c.C≠0:=by rw[<-h4];exact hn
  rw[OU g0,<-h4]at hE;subst hE;refine Qk<|x Qe<|Qb<|Qh ⟨[_,_],ov,hj,.pointer none,O,λ_=>O,λe=>OW e hn⟩
 have hQ:e3=0:=Ls.1 hn;rw[OT (by rw[<-h4,hQ];decide)]at hE;obtain⟨hck,h6,mj,g2⟩:=gx hQ;have hok:=YP hck;refine Qf ?_;have h7:=(hO.I hg).J hh (by simp;omega);have h5:=h.I hj;have mo:=h.co.arr.le;have mq:=h.rq.arr.le;have ms:c.co.length<=8:=by have:=hok.c8;have e:c.C.co.length=c.co.length:=Ll ..;omega
 have mt:c.co.length+c.rq.length<=12:=by have:=hok.cr;have e:c.C.co.length=c.co.length:=Ll ..;have e':c.C.rq.length=c.rq.length:=Ll ..;omega
 refine Qd<|Qd<|ZL [] [oz 0,oz 1,oz 2,oz 3,oz 5,oz 6,oA 4,oA 7,oA 8,oA 9,oz 10,oz 11,oz 12,oz 13,oz 14,oz 15,oA 16,oz 17,oz 18,oA 19,oz 20]<|p Qx<|p Qx<|p (QH O)<|pq (λ_ hc=>Ql (h7.J hc od) rfl rfl)<|p (QH rfl) <|
  pq (λ_ hc=>Ql (h7.J hc od) rfl rfl)<|pk<|xg<|(QdZ (h5.co.I (O5.X _ _))).S ?_
 rintro r6 w6 ⟨hS,hT⟩;have h8:=(O5.X [] Y).D hS;refine⟨h8,?_⟩;refine pk<|xg<|(QdZ (h5.rq.I h8)).S ?_;rintro r7 w7 ⟨hA,g3⟩;have hU:=h8.D hA;refine⟨hU,?_⟩;have mu:=hS.size;have mv:=hA.size;have mw:({ Y with drawn:=Y.drawn+1 }:O1).heap.size=Y.heap.size:=rfl
 have g4:Zt [] ↑w7 r7 (c.rq.map (·.p)).length 4 ((c.rq.map (·.p)).flatMap ZB):=QO g3 (by rw[Ll];omega) od;refine pk<|QaL (Qm hT hA) O g4 O (Qnk λp S=>by
   obtain⟨q,T,rfl⟩:=Ly.1 S;exact(h.rq.each q T)) (by rw[Ll,Ll];omega) oa λv8 w8 hV g5 my=>?_
 have ho:sW Y w8:=hU.O g5 (λb hb=>.inr (oo ((Qj hT) b hb).1));refine⟨ho,?_⟩;have hB:=hj.D ho;have mz:=ho.size;have g6:X1 [] ↑w8 v8 (c.co.map (·.p)++c.rq.map (·.p)):=by
  rw[<-Lc,<-LD]at hV;exact Qjq hV (by rw[Lc,Ll,Ll];omega) od (λp S=>by
   rcases Lh.1 S with S|S
   ·obtain⟨q,T,rfl⟩:=Ly.1 S;exact(h.co.each q T).I hB
   obtain⟨q,T,rfl⟩:=Ly.1 S;exact(h.rq.each q T).I hB)
 have g7:∀p∈c.co.map (·.p)++c.rq.map (·.p),Q0 p.a:=λp S=>by
   rcases Lh.1 S with S|S
   ·obtain⟨q,T,rfl⟩:=Ly.1 S;exact hok.co q.it (LG T)
   obtain⟨q,T,rfl⟩:=Ly.1 S;exact hok.rq q.it (LG T)
 refine pk<|xg<|(UL (km:=4096) g6 (hz.I hB) og (QaI g7)).S ?_;rintro r9 w9 ⟨g8,v9,vt,e9,rfl,hR⟩;rw[Lv,QfV,Qnl]at hR;have hW:=hR.e;obtain⟨sa,sva,svm,sve,ts,rfl,g9,ka,kb⟩:=hR.shape;have hC:=ho.D g8;refine⟨hC,?_⟩;refine p Qx<|p (λ_=>Q3 O O)<|p (λ_=>Q3 O O)<|p (λ_=>Q3 O O)<|p (YL O) <|
  p (QH rfl)<|pkk<|J9 (us:=[sva,sS sa.st,svm,sve]) (G.I hC) O O O od g9 rfl λm0 kc G=>p (YL rfl)<|p (QH rfl) <|
  pkk<|Qw (j:=14) (u:=vt) G O O od ka λhr ke G=>p ZN<|pe ?_
 have hX:O5 [b10] w9 hr:=kc.V ke;have ht:O5 [b10] Y hr:=hC.any.V hX;have hu:sW w hr:=hj.Q ht hge;refine Qk<|ZM O O<|xe<|Zi rfl (λhD=>?_) (λhD=>?_)
 ·rw[<-hW]at hE;subst hE;refine Qk<|x Qe<|Qb<|Qh ⟨[_,_],ov,hu,.pointer none,O,λ_=>O,λe=>OW e hD⟩
 have hY:e9=0:=Ls.1 hD;have hZ:E=0:=by rw[hE,<-hW,hY]
 obtain⟨kf,m1,kg⟩:=kb hY;refine Qf ?_;have kh:=h7.J ht (by simp;omega);refine Qk<|Qa<|QV kh O O<|Qv<|(Qab (h.I hu)).S ?_;rintro m2 U ⟨hf,vs,vx,vk,qx,ks,rfl,ki,kj,ga⟩;have hF:=ga [] od;refine Qo<|Z1 Xz λbm kk gb m3 kn=>Z6 O<|Zc O<|Qo<|J9 (us:=[vs,vx,vk]) ((G.I hf).I gb) O O O od ⟨hF.1.one,hF.2.1.arr.one,hF.2.2.arr.one,Z⟩ rfl λm4 gc G =>
  Z6 rfl<|Zc O<|Qo<|Qw (j:=18) (u:=.map (some bm)) G O O od rfl λhG ge G=>xe ?_
 have m5:=hu.size;have m6:=hf.size;have m7:=ht.size;have m8:=hh.size;have m9:=hg.size;have pc:b10<U.heap.size:=oa
 have ko:bm≠b10:=oa
 have gg:O5 [b10] U hG:=(gb.any.V gc).V ge;have kq:O5 [b10] kk hG:=gc.V ge;have kr:ZU Xz ↑hG bm []:=kn.J kq (ou ko);have kt:O5 [b10] w3 U:=(hh.V ht).D hf;have ku:O5 [b10] w9 U:=hX.D hf;have fP:∀{w':O1},O5 [b10] U w'->∀L:LN,(∀x∈L,x<↑w2)->Zp L ↑w' pva pvm pve pa/\JI L ↑w' vq qs:=λI =>
  Qo7 (F:=λL H=>Zp L H pva pvm pve pa/\JI L H vq qs) (λh I=>⟨h.1.st I,h.2.st I⟩) (λh J=>⟨h.1.up J,h.2.up J⟩) g2 gt (kt.V I)
 have fS:∀{w':O1},O5 [b10] U w'->∀L:LN,(∀x∈L,x<↑w8)->Zp L ↑w' sva svm sve sa/\JI L ↑w' vt ts:=λI =>
  Qo7 (F:=λL H=>Zp L H sva svm sve sa/\JI L H vt ts) (λh I=>⟨h.1.st I,h.2.st I⟩) (λh J=>⟨h.1.up J,h.2.up J⟩) kg oa (ku.V I)
 have fC:∀{w':O1},O5 [b10] U w'->∀L:LN,(∀x∈L,x<↑hr)->Qu L ↑w' vs (szs c.C.co)/\jg L ↑w' vx qx/\yS L ↑w' vk ks:=λI =>
  Qo7 (F:=λL H=>Qu L H vs (szs c.C.co)/\jg L H vx qx/\yS L H vk ks) (λh I=>⟨h.1.st I,h.2.1.st I,h.2.2.st I⟩) (λh J=>⟨h.1.up J,h.2.1.up J,h.2.2.up J⟩) ga oa I
 have kv:=(zd (YV hok.co) h6).1;have kw:(O7 c.C.co).length=c.co.length:=by unfold O7;show((c.co.map IV.it).map _).length=_;simp
 have gh:=(fP gg [] od).2;have pd:=gh.arr.le;refine Qd<|Qk<|Z6 O<|Qq O G O O<|QG gh.arr O<|Qa<|xe<|QW (α:=Nat×List (ByteArray×O2)) [(6,7),(61,73)] (λz=>[(61,sS z.1)]) (λz w'=>z.1<=qs.length/\O5 [b10] U w'/\QL ↑w' b10 166 [c.ve,c.vc,c.vr,c.vx,c.vk,pva,sS pa.st,pvm,pve,vq,sva,sS sa.st,svm,sve,vt,vs,vx,vk,.map (some bm)]/\ZU Xz ↑w' bm z.2/\qw c.co.length z.2 ((qs.take z.1).map (·.2))) (λz=>qs.length - z.1) (0,[]) La
  ⟨Lo _,gg,G,kr,qw.nil _⟩ ?_
 rintro⟨k,mm⟩ g gi ⟨hk,V,hv,hH,hI⟩;have hw:sW w gi:=(hu.D hf).Q V hge;refine Zk rfl O (λhJ=>?_) (λhJ=>?_)
 ·refine Qt ?_;have kx:qs.length<=k:=by have kz:¬(k:Int)<(qs.length:Int):=hJ;omega
  rw[Lq kx]at hI;refine Qk<|x Qe<|Qb ?_;have aP:=fP V [] od;have aS:=fS V [] od;have aC:=fC V [] od;refine Qh ⟨[_,_],ov,hw,sP b10,by rw[hZ];rfl,λe=>OW hZ e,λ_=>⟨b10,⟨c,⟨pva,pvm,pve,pa⟩,vq,qs,⟨sva,svm,sve,sa⟩,vt,ts,vs,vx,vk,qx,ks,bm,mm⟩,O,O,⟨hck,h6,kf,ki,kj,hI⟩,⟨hv,od,h.I hw,aP.1,aS.1,aP.2,aS.2,aC.1,aC.2.1,aC.2.2,od,hH⟩,λL J=>?_⟩⟩;have bP:=fP V L (λb hb=>oo (J b hb));have bS:=fS V L (λb hb=>oo (J b hb));have bC:=fC V L (λb hb=>oo (J b hb));exact⟨bS.1,λk0=>⟨hv,λhm=>oo (J _ hm),k0.I hw,bP.1,bS.1,bP.2,bS.2,bC.1,bC.2.1,bC.2.2,λhm=>by have h9:bm<w.heap.size:=J bm hm;omega,hH⟩⟩
 have he:k<qs.length:=by have kz:(k:Int)<(qs.length:Int):=hJ;omega
 have gj:=(fP V [] od).2;have hK:=Le he;have hM:(qs.take (k+1)).map (·.2)=(qs.take k).map (·.2)++[(qs[k]'he).2]:=by rw[Lj he,Lv];rfl
 have gk:(qs[k]'he).2∉(qs.take k).map (·.2):=by
  have h1:((qs.take (k+1)).map (·.2)).Nodup:=by
   rw[List.map_take];exact((YQ (YV hok.co) h6).1.nd).sublist (List.take_sublist _ _)
  rw[hM]at h1;intro hm;exact(Mb.1 h1).2.2 _ hm _ (Lb.2 O) O
 have k4:((qs.take k).map (·.2)).length=k:=by rw[Ll,LC];omega
 refine Qf<|Qd<|Qn<|Qk<|O8 (g:=YI) Kv gj.arr O O he λpf gl=>?_;refine Zg (qs[k]'he) λq T=>?_;rw[T]at gl hK hM gk;have gm:=kv q.2 (LG hK);have gn:=gm.bd (m:=4096) (λa ha=>(YV hok.co a ha).st1);have pg:q.2.length=c.co.length:=by rw[gm.1,kw]
 refine x (Qr gl O)<|x Qe<|Qb<|ZL [] [oz 0,oz 1,oz 2,oz 3,oz 4,oz 6,oA 5,oA 7]<|p Qx<|p (YL O)<|p (QH O)<|pq (λ_ hc=>Ql (hv.J hc od) rfl rfl) <|
  p Qx<|p Qx<|pk<|xg<|(Qbm ((gj.each q hK).I (O5.X _ _)) ((hz.I hw).I (O5.X _ _)) gn oa).S ?_
 rintro ph pj ⟨rfl,k5⟩;have hy:=(O5.X [] gi).D k5;refine⟨hy,?_⟩;refine pkk<|YO (k:=KO q.2) (hH.I hy) O O λk6 go k9=>pe ?_;have ma:O5 [b10] U k6:=(V.D hy).Q go oa;have gq:=hI.add gk (λx hx=>(gn x hx).1);rw[k4]at gq;refine Qs<|QD O O<|Qa<|xe ?_;exact⟨(k+1,xh mm (KO q.2) (sS (k:Int))),oe,La,he,ma,((hv.I hy).J go (by simp;omega)),k9,by simp only[];rw[hM];exact gq⟩
theorem zk {W:O1}{e:Nat}{v:O2}(h:W.ownsRow base e sz v n cs)(E:JE [] W W'):W'.ownsRow base e sz v n cs :=
 ⟨h.1,h.2.imp id λ⟨g,cap,cur,G,I,J,S⟩=>⟨g,cap,cur,G,I,E g _ od J rfl,S⟩⟩
theorem JE.S {W:O1}(h:JE L W W')(E:∀b∈L,b∈L'):JE L' W W':=λk o G=>h k o (λI=>G (E k I))
theorem JE.nonc {X:LN}{W:O1}(J:O5 X W W')(hX:∀r∈X,∃o:Obj,W.heap[r]?=some o/\o.isCells=false):JE [] W W':=λk o _ E S =>
 (J.block k (LH.1 E).1 (λhx=>by
  obtain⟨T,G,I⟩:=hX k hx;rw[E]at G;cases G;rw[S]at I;cases I)).D E
theorem Ye.cst {I:xz}(h:∀W W',I W->JE [] W W'->W.heap.size<=↑W'->I W'):Ye B I:=λW W' _ hi E hX=>h W W' hi (JE.nonc E (λr G=>(hX r G).2)) E.size
theorem YF.cst {base:Nat}{av:LN}{W W':O1}{v:O2}{n sz:Nat}{cs:LV}(h:YF base av ↑W v n sz cs)(E:Lg.JE [] W W')(G:W.heap.size<=↑W'):YF base av ↑W' v n sz cs:=λL I=>(h L I).cst (E.S od) G
abbrev Z4 (r:Rsn):LV:=[sS r.st,sS r.kd,sS r.ix,sS r.ev]
theorem Qh5 (r:Rsn):(Z4 r).length=4:=rfl
structure Kp (base:Nat)(w:O1)(v1 v2 v3 v4:O2)(cos rqs:List TV)(pls:LI)(fbs:List Rsn):Prop where
 o1:w.ownsRow base 47 1 v1 cos.length (cos.flatMap YI)
 o2:w.ownsRow base 47 1 v2 rqs.length (rqs.flatMap YI)
 o3:Qi 3 base w v3 pls
 o4:w.ownsRow base 173 4 v4 fbs.length (fbs.flatMap Z4)
 d12:Dj v1 v2
 d13:Dj v1 v3
 d14:Dj v1 v4
 d23:Dj v2 v3
 d24:Dj v2 v4
 d34:Dj v3 v4
 e1:∀p∈cos,YF base (ob v1++(ob v2++(ob v3++ob v4))) ↑w p.1 p.2.length 1 (p.2.map (.int .i64))
 e2:∀p∈rqs,YF base (ob v1++(ob v2++(ob v3++ob v4))) ↑w p.1 p.2.length 1 (p.2.map (.int .i64))
theorem qo {v:O2}:Dj (nS) v:=λb hb=>by simp[ob]at hb
theorem Kp.nil (base:Nat)(w:O1):Kp base w (nS) (nS) (nS) (nS) [] [] [] []:=
 ⟨QM _ _ _ _,QM _ _ _ _,QM _ _ _ _,QM _ _ _ _,qo,qo,qo,qo,qo,qo,λp E=>(by cases E),λp E=>(by cases E)⟩
variable {w7 w8:O1}{v1 v2 v3 v4:O2}{cos rqs:List TV}{pls:LI}{fbs:List Rsn}
theorem Kp.I (h:Kp base w v1 v2 v3 v4 cos rqs pls fbs)(E:sW w w7):Kp base w7 v1 v2 v3 v4 cos rqs pls fbs :=
 ⟨Qm h.o1 E,Qm h.o2 E,Qm h.o3 E,Qm h.o4 E,h.d12,h.d13,h.d14,h.d23,h.d24,h.d34,λp G=>(h.e1 p G).I E,λp G=>(h.e2 p G).I E⟩
theorem Kp.low {X:LN}(h:Kp base w v1 v2 v3 v4 cos rqs pls fbs)(E:O5 X w w7)(hX:∀b∈X,b<base):Kp base w7 v1 v2 v3 v4 cos rqs pls fbs:=by
 have k:∀{e sz n:Nat} {v:O2} {cs:LV},w.ownsRow base e sz v n cs->w7.ownsRow base e sz v n cs:=λo=>Qg o E (λb hb I=>oq (Qj o b hb).1 (hX b I));exact⟨k h.o1,k h.o2,k h.o3,k h.o4,h.d12,h.d13,h.d14,h.d23,h.d24,h.d34,λp G=>(h.e1 p G).low E hX,λp G=>(h.e2 p G).low E hX⟩
theorem Kp.cst (h:Kp base w v1 v2 v3 v4 cos rqs pls fbs)(E:Lg.JE [] w w7)(I:w.heap.size<=↑w7):Kp base w7 v1 v2 v3 v4 cos rqs pls fbs :=
 ⟨zk h.o1 E,zk h.o2 E,zk h.o3 E,zk h.o4 E,h.d12,h.d13,h.d14,h.d23,h.d24,h.d34,λp G=>(h.e1 p G).cst E I,λp G=>(h.e2 p G).cst E I⟩
theorem qp {a b E:O2}(h:Dj a b)(J:∀x∈ob E,x∈ob a\/n<=x)(hb:∀x∈ob b,x<n):Dj E b:=λx hx G=>by
 rcases J x hx with I|I
 ·exact h x I G
 have:=hb x G;omega
theorem Vw {a b E:O2}(h:Dj a b)(I:∀x∈ob E,x∈ob b\/n<=x)(J:∀x∈ob a,x<n):Dj a E:=λx hx S=>by
 rcases I x S with G|G
 ·exact h x hx G
 have:=J x hx;omega
theorem Kp.lt (h:Kp base w v1 v2 v3 v4 cos rqs pls fbs):(∀x∈ob v1,x<↑w)/\(∀x∈ob v2,x<↑w)/\(∀x∈ob v3,x<↑w)/\∀x∈ob v4,x<w.heap.size:=⟨QU h.o1,QU h.o2,QU h.o3,QU h.o4⟩
theorem Qcl {a b c d:LN}{x:Nat}(h:x∈a++(b++(c++d))):x∈a\/x∈b\/x∈c\/x∈d:=by simpa using h
theorem yf {a b c d:LN}{x:Nat}(h:x∈a\/x∈b\/x∈c\/x∈d):x∈a++(b++(c++d)):=by simpa using h
theorem Kp.a1 {e:Nat}{q:TV}(h:Kp base w v1 v2 v3 v4 cos rqs pls fbs)(V:sW w w7)(Y:w7.ownsRow N e 1 q.1 q.2.length (q.2.map (.int .i64)))(ha:q.2.length<=1099511627776)(hN:↑w<=N)(hb:base<=↑w)(ho:w8.ownsRow base 47 1 v' (cos.length+1) (cos.flatMap YI++YI q))
  (S:O5 (ob v1) w7 w8) (T:∀b∈ob v',b∈ob v1\/↑w7<=b):Kp base w8 v' v2 v3 v4 (cos++[q]) rqs pls fbs:=by
 have l:=h.lt;have hz:=V.size;have I:=h.I V;have av:∀b∈ob v'++(ob v2++(ob v3++ob v4)),b∈ob v1++(ob v2++(ob v3++ob v4))\/↑w7<=b:=by
  intro b hb;rcases Qcl hb with E|E|E|E
  ·rcases T b E with U|U
   ·exact .inl (yf (.inl U))
   exact .inr U
  ·exact .inl (yf (.inr (.inl E)))
  ·exact .inl (yf (.inr (.inr (.inl E))))
  exact .inl (yf (.inr (.inr (.inr E))))
 have st:O5 (ob v1++(ob v2++(ob v3++ob v4))) w7 w8:=S.S (λb hb=>yf (.inl hb));have g:∀{v:O2} {n sz:Nat} {cs:LV},YF base (ob v1++(ob v2++(ob v3++ob v4))) ↑w7 v n sz cs->YF base (ob v'++(ob v2++(ob v3++ob v4))) ↑w8 v n sz cs:=λa=>a.app st av;refine⟨by rw[Lc,LD];simpa using ho,Qg I.o2 S (λb hb J=>h.d12 b J hb),Qg I.o3 S (λb hb J=>h.d13 b J hb),Qg I.o4 S (λb hb J=>h.d14 b J hb),qp h.d12 T (λx hx=>oo (l.2.1 x hx)),qp h.d13 T (λx hx=>oo (l.2.2.1 x hx)),qp h.d14 T (λx hx=>oo (l.2.2.2 x hx)),h.d23,h.d24,h.d34,?_,?_⟩
 ·exact λp G=>by
   rcases Lh.1 G with G|G
   ·exact g (I.e1 p G)
   simp only[oF]at G;subst G;exact g (YF.of_own Y ha oa (λb hb=>by
   rcases Qcl hb with E|E|E|E
   ·have:=l.1 b E;omega
   ·have:=l.2.1 b E;omega
   ·have:=l.2.2.1 b E;omega
   have:=l.2.2.2 b E;omega))
 exact λp G=>g (I.e2 p G)
theorem Kp.a2 {e:Nat}{q:TV}(h:Kp base w v1 v2 v3 v4 cos rqs pls fbs)(V:sW w w7)(Y:w7.ownsRow N e 1 q.1 q.2.length (q.2.map (.int .i64)))(ha:q.2.length<=1099511627776)(hN:↑w<=N)(hb:base<=↑w)(ho:w8.ownsRow base 47 1 v' (rqs.length+1) (rqs.flatMap YI++YI q))
  (S:O5 (ob v2) w7 w8) (T:∀b∈ob v',b∈ob v2\/↑w7<=b):Kp base w8 v1 v' v3 v4 cos (rqs++[q]) pls fbs:=by
 have l:=h.lt;have hz:=V.size;have I:=h.I V;have av:∀b∈ob v1++(ob v'++(ob v3++ob v4)),b∈ob v1++(ob v2++(ob v3++ob v4))\/↑w7<=b:=by
  intro b hb;rcases Qcl hb with E|E|E|E
  ·exact .inl (yf (.inl E))
  ·rcases T b E with U|U
   ·exact .inl (yf (.inr (.inl U)))
   exact .inr U
  ·exact .inl (yf (.inr (.inr (.inl E))))
  exact .inl (yf (.inr (.inr (.inr E))))
 have st:O5 (ob v1++(ob v2++(ob v3++ob v4))) w7 w8:=S.S (λb hb=>yf (.inr (.inl hb)));have g:∀{v:O2} {n sz:Nat} {cs:LV},YF base (ob v1++(ob v2++(ob v3++ob v4))) ↑w7 v n sz cs->YF base (ob v1++(ob v'++(ob v3++ob v4))) ↑w8 v n sz cs:=λa=>a.app st av;refine⟨Qg I.o1 S (λb hb J=>h.d12 b hb J),by rw[Lc,LD];simpa using ho,Qg I.o3 S (λb hb J=>h.d23 b J hb),Qg I.o4 S (λb hb J=>h.d24 b J hb),Vw h.d12 T (λx hx=>oo (l.1 x hx)),h.d13,h.d14,qp h.d23 T (λx hx=>oo (l.2.2.1 x hx)),qp h.d24 T (λx hx=>oo (l.2.2.2 x hx)),h.d34,?_,?_⟩
 ·exact λp G=>g (I.e1 p G)
 exact λp G=>by
  rcases Lh.1 G with G|G
  ·exact g (I.e2 p G)
  simp only[oF]at G;subst G;exact g (YF.of_own Y ha oa (λb hb=>by
  rcases Qcl hb with E|E|E|E
  ·have:=l.1 b E;omega
  ·have:=l.2.1 b E;omega
  ·have:=l.2.2.1 b E;omega
  have:=l.2.2.2 b E;omega))
theorem Kp.a3 {q:Int}(h:Kp base w v1 v2 v3 v4 cos rqs pls fbs)(V:sW w w7)(Y:w8.ownsRow base 3 1 v' (pls.length+1) (pls.map (.int .i64)++[sS q]))
  (J:O5 (ob v3) w7 w8) (S:∀b∈ob v',b∈ob v3\/↑w7<=b):Kp base w8 v1 v2 v' v4 cos rqs (pls++[q]) fbs:=by
 have l:=h.lt;have hz:=V.size;have G:=h.I V;have av:∀b∈ob v1++(ob v2++(ob v'++ob v4)),b∈ob v1++(ob v2++(ob v3++ob v4))\/↑w7<=b:=by
  intro b hb;rcases Qcl hb with E|E|E|E
  ·exact .inl (yf (.inl E))
  ·exact .inl (yf (.inr (.inl E)))
  ·rcases S b E with T|T
   ·exact .inl (yf (.inr (.inr (.inl T))))
   exact .inr T
  exact .inl (yf (.inr (.inr (.inr E))))
 have st:O5 (ob v1++(ob v2++(ob v3++ob v4))) w7 w8:=J.S (λb hb=>yf (.inr (.inr (.inl hb))));have g:∀{v:O2} {n sz:Nat} {cs:LV},YF base (ob v1++(ob v2++(ob v3++ob v4))) ↑w7 v n sz cs->YF base (ob v1++(ob v2++(ob v'++ob v4))) ↑w8 v n sz cs:=λa=>a.app st av;refine⟨Qg G.o1 J (λb hb I=>h.d13 b hb I),Qg G.o2 J (λb hb I=>h.d23 b hb I),Qi.snoc Y,Qg G.o4 J (λb hb I=>h.d34 b I hb),h.d12,Vw h.d13 S (λx hx=>oo (l.1 x hx)),h.d14,Vw h.d23 S (λx hx=>oo (l.2.1 x hx)),h.d24,qp h.d34 S (λx hx=>oo (l.2.2.2 x hx)),?_,?_⟩
 ·exact λp U=>g (G.e1 p U)
 exact λp U=>g (G.e2 p U)
theorem Kp.a4 {q:Rsn}(h:Kp base w v1 v2 v3 v4 cos rqs pls fbs)(V:sW w w7)(Y:w8.ownsRow base 173 4 v' (fbs.length+1) (fbs.flatMap Z4++Z4 q))
  (J:O5 (ob v4) w7 w8) (S:∀b∈ob v',b∈ob v4\/↑w7<=b):Kp base w8 v1 v2 v3 v' cos rqs pls (fbs++[q]):=by
 have l:=h.lt;have hz:=V.size;have G:=h.I V;have av:∀b∈ob v1++(ob v2++(ob v3++ob v')),b∈ob v1++(ob v2++(ob v3++ob v4))\/↑w7<=b:=by
  intro b hb;rcases Qcl hb with E|E|E|E
  ·exact .inl (yf (.inl E))
  ·exact .inl (yf (.inr (.inl E)))
  ·exact .inl (yf (.inr (.inr (.inl E))))
  rcases S b E with T|T
  ·exact .inl (yf (.inr (.inr (.inr T))))
  exact .inr T
 have st:O5 (ob v1++(ob v2++(ob v3++ob v4))) w7 w8:=J.S (λb hb=>yf (.inr (.inr (.inr hb))));have g:∀{v:O2} {n sz:Nat} {cs:LV},YF base (ob v1++(ob v2++(ob v3++ob v4))) ↑w7 v n sz cs->YF base (ob v1++(ob v2++(ob v3++ob v'))) ↑w8 v n sz cs:=λa=>a.app st av;refine⟨Qg G.o1 J (λb hb I=>h.d14 b hb I),Qg G.o2 J (λb hb I=>h.d24 b hb I),Qg G.o3 J (λb hb I=>h.d34 b hb I),by rw[Lc,LD];simpa using Y,h.d12,h.d13,Vw h.d14 S (λx hx=>oo (l.1 x hx)),h.d23,Vw h.d24 S (λx hx=>oo (l.2.1 x hx)),Vw h.d34 S (λx hx=>oo (l.2.2.1 x hx)),?_,?_⟩
 ·exact λp U=>g (G.e1 p U)
 exact λp U=>g (G.e2 p U)
theorem jt (c:Z2)(pl:Qz)(ps:List (LI)):∀(l:List (LI)) (i:Nat) (s:Spc),(l.zipIdx i).foldl (Qn9 c pl ps) s =
  ⟨s.a,s.co++l.map (·.take c.co.length),s.rq++l.map (·.drop c.co.length),s.pl++l.map (λt=>plx ps (t.take c.co.length)),s.fb++(l.zipIdx i).filterMap (λp=>rsn c pl (plx ps (p.1.take c.co.length)) p.2 p.1)⟩
 | [],i,s=>od
 | t::l,i,s=>by
  rw[ND,LO,jt c pl ps l (i+1)];unfold Qn9;simp only[oS,Of,oZ,On,List.filterMap_cons];cases rsn c pl (plx ps (t.take c.co.length)) i t with
  | none=>rfl
  | some r=>simp
theorem zL {c:Z2}{rs:LI}:∀{l:LI},(∀x∈wrf c.rq rs l,(c.ev.getD x.1.toNat ⟨.empty,false,false,false,0⟩).co=true)->rfd c rs l=none
 | [],_=>rfl
 | v::l,h=>by
  rw[wrf]at h;rw[rfd];by_cases E:0<=rfr v 0 c.rq rs
  ·rw[OU E]at h;have G:=h _ Lm;rw[OT (λe=>by rw[G]at e;cases e.2)];exact zL λx hx=>h x (Lk _ hx)
  rw[OT E]at h;rw[OT (λe=>E e.1)];exact zL h
theorem zK {c:Z2}{rs:LI}{x:Int×Int}{t:xw}:∀{l:LI}{p:xw},wrf c.rq rs l=p++x::t->(∀y∈p,(c.ev.getD y.1.toNat ⟨.empty,false,false,false,0⟩).co=true)->(c.ev.getD x.1.toNat ⟨.empty,false,false,false,0⟩).co=false->rfd c rs l=some (x.2,x.1)
 | [],p,h,_,_=>by simp[wrf]at h
 | v::l,p,h,G,hx=>by
  rw[wrf]at h;rw[rfd];by_cases E:0<=rfr v 0 c.rq rs
  ·rw[OU E]at h;cases p with
   | nil =>
    simp only[On,List.cons.injEq]at h;obtain⟨I,_⟩:=h;subst I;rw[OU ⟨E,hx⟩]
   | cons y p =>
    simp only[oZ,List.cons.injEq]at h;obtain⟨I,S⟩:=h;have J:=G y Lm;subst I;rw[OT (λe=>by simp only[]at J;rw[J]at e;cases e.2)];exact zK S (λy T=>G y (Lk _ T)) hx
  rw[OT E]at h;rw[OT (λe=>E e.1)];exact zK h G hx
theorem QhD (c:Z2)(t:LI):vio c t=if(V7 c.ex c.cs t).2.2=true then some ((V7 c.ex c.cs t).1,(V7 c.ex c.cs t).2.1) else none:=by
 unfold vio V7;by_cases E:0<=fix (VI t) 0 c.ex
 ·rw[OU E,OU E];rfl
 rw[OT E,OT E];by_cases G:0<=fix (US t) 0 c.cs
 ·rw[OU G,OU G];rfl
 rw[OT G,OT G];rfl
def Qsd (N:Nat)(H:xA)(v:O2)(s:Spc):Prop:=∃va vm ve v1 v2 v3 v4 cos rqs,v=.agg #[va,sS s.a.st,vm,ve,v1,v2,v3,v4]/\cos.map (·.2)=s.co/\rqs.map (·.2)=s.rq /\
 ∀L:LN,(∀b∈L,b<N)->Zp L H va vm ve s.a/\JI L H v1 cos/\JI L H v2 rqs/\Qu L H v3 s.pl/\Zt L H v4 s.fb.length 4 (s.fb.flatMap Z4)
open Go.RowKit
def Qd6 (all:Array Oper)(i:Nat)(rest:xt):xt->Array Bool->Bool
 | [],ls=>Region.ready .any all ls == [i] && Xk all rest (ls.setIfInBounds i true)
 | (j,true)::l,ls=>(Region.ready .any all ls).contains j && Region.free .any all ls j && Qd6 all i rest l (ls.setIfInBounds j true)
 | (j,false)::l,ls=>!(Region.ready .any all ls).isEmpty && (Region.ready .any all ls).all (λk=>k == j || k == i) && Xk all ((j,false)::(l++rest)) (ls.setIfInBounds i true) && Qd6 all i rest l (ls.setIfInBounds j true)
def XI (all:xD)(d:Nat)(l:xt):Bool:=l.all λp=>!((QT all p.1).looksAt all.toArray).contains d && !((QT all p.1).dst == some d)
def QmH (all:xD)(pre l:xt)(i:Nat)(rest:xt):Bool :=
 Region.noSelect all.toArray && (pre.length+(l.length+1+rest.length) == all.length) && Jb all.toArray pre (oP all.length false) && Qd6 all.toArray i rest l (ZS pre (oP all.length false))
  && (QT all i).guard.isNone && (match (QT all i).dst with|some d=>XI all d l|none=>false)
def XF (P:O4)(all:xD)(C:xz)(K:xx):xt->LN->Fr->O1->Prop
 | [],_,f,w=>K f w
 | (j,true)::l,own,f,w=>Z8 all f (QT all j)=true/\∃v,(∀w',(y9 (QT all j)=true->C w')->(execOp (ev f) (QT all j)).run P w'=.ok (.value v) w')/\XF P all C K l own (QP f (QT all j).dst v) w
 | (j,false)::l,own,f,w=>Z8 all f (QT all j)=true/\∀w1,sW w w1->C w1->XO P (QT all j) f w1 λE w'=>C w'/\∃own',O5 own w1 w'/\(∀b∈own',b∈own\/(↑w1<=b/\b<↑w'))/\XF P all C K l own' E w'
section
variable {all:xD}{C:xz}{KF:xx}
attribute [local semireducible] XO in
theorem Qnp {o:Oper}(I:∀cs b,o.op≠.select cs b){d:Nat}{v:O2}{K':xx}(J:d∉o.looksAt all.toArray)(S:o.dst≠some d)(hK:∀u w',K (QP f o.dst u) w'->K' (QP (QP f o.dst u) (some d) v) w')
  (h:XO P o f w K):XO P o (QP f (some d) v) w K':=by
 have G:∀u,QP (QP f (some d) v) o.dst u=QP (QP f o.dst u) (some d) v:=λu=>U5 f v u (λe E=>by cases E;exact S);unfold XO at *;rw[JP (all:=all) I f (some d) v (λe E=>by cases E;exact J)];generalize (execOp (ev f) o).run P w=r at *;cases r with
 | ok nx w' =>
  cases nx <;> simp only[upF]at h ⊢
  case value u=>rw[G];exact hK u w' h
  case skip=>rw[G];exact hK _ w' h
  case enter g args =>
   refine Calls.mono h λe T E=>?_;cases e with
   | returned u=>simp only at E ⊢;rw[G];exact hK u T E
   | panicked c=>exact E.elim
   | outgrown=>exact E.elim
 | halt x w'=>exact h.elim
theorem ya {D:xu}{f0:Fr}{dst:xE}{v:O2}(hd:inD D dst=true)(h:∀t,J0 D t=false->f t=f0 t):∀t,J0 D t=false->QP f dst v t=f0 t:=λt E =>
 (Xa (λe=>by rw[e]at hd;simp only[inD]at hd;rw[hd]at E;cases E) v).D (h t E)
def Xq (all:xD)(D:xu)(l:xt):Bool:=l.all λp=>inD D (QT all p.1).dst
theorem XP.keeps {D:xu}{f0:Fr}:∀(l:xt) (f:Fr) (w:O1),Xq all D l=true->(∀t,J0 D t=false->f t=f0 t)->XP P all C K l f w->XP P all C (λI w'=>(∀t,J0 D t=false->I t=f0 t)/\K I w') l f w
 | [],f,w,_,E,h=>by simp only[XP]at h ⊢;exact⟨E,h⟩
 | (j,q)::l,f,w,hd,E,h=>by
  simp only[Xq,Ob,oI]at hd;have G:Xq all D l=true:=hd.2;simp only[XP]at h ⊢;cases J:Z8 all f (QT all j) with
  | false=>rw[J]at h;exact XP.keeps l _ _ G (ya hd.1 E) h
  | true =>
   rw[J]at h;cases q with
   | true=>obtain⟨v,S,hx⟩:=h;exact⟨v,S,XP.keeps l _ _ G (ya hd.1 E) hx⟩
   | false=>exact XO.S (λv w' hx=>⟨hx.1,XP.keeps l _ _ G (ya hd.1 E) hx.2⟩) h
theorem fp {l:xt}{own:LN}{v:O2}(E:∀w',(execOp (ev f) (QT all j)).run P w'=.ok (.value v) w')(h:XF P all C K l own (QP f (QT all j).dst v) w)
  (G:Z8 all f (QT all j)=true:=by rfl):XF P all C K ((j,true)::l) own f w:=⟨G,v,λw' _=>E w',h⟩
theorem fk {l:xt}{own:LN}(h:∀w1,sW w w1->C w1->XO P (QT all j) f w1 λE w'=>C w'/\∃own',O5 own w1 w'/\(∀b∈own',b∈own\/(↑w1<=b/\b<↑w'))/\XF P all C K l own' E w')
  (G:Z8 all f (QT all j)=true:=by rfl):XF P all C K ((j,false)::l) own f w:=⟨G,h⟩
end
attribute [irreducible] XF
def qZ (P:O4)(all:xD)(K:xz->LN->Fr->O1->Prop):xt->xz->LN->Fr->O1->Prop
 | [],C,own,f,w=>K C own f w
 | (j,true)::l,C,own,f,w=>Z8 all f (QT all j)=true/\∃v,(∀w',(y9 (QT all j)=true->C w')->(execOp (ev f) (QT all j)).run P w'=.ok (.value v) w')/\qZ P all K l C own (QP f (QT all j).dst v) w
 | (j,false)::l,C,own,f,w=>Z8 all f (QT all j)=true/\∀w1,sW w w1->C w1->XO P (QT all j) f w1 λE w'=>∃C':xz,(∀x,C' x->C x)/\(∀x x',C' x->sW x x'->C' x')/\C' w'/\∃own',O5 own w1 w'/\(∀b∈own',b∈own\/(↑w1<=b/\b<↑w'))/\qZ P all K l C' own' E w'
section
variable {all:xD}{C C0:xz}{KF:xz->LN->Fr->O1->Prop}
theorem qZ.I (hK:∀C own f w w',KF C own f w->sW w w'->KF C own f w'):∀{l:xt}{C:xz}{own:LN}{f:Fr}{w w':O1},qZ P all KF l C own f w->sW w w'->qZ P all KF l C own f w'
 | [],_,_,_,_,_,h,E=>hK _ _ _ _ _ h E
 | (_,true)::_,_,_,_,_,_,h,E=>by
  obtain⟨G,v,I,hx⟩:=h;exact⟨G,v,I,qZ.I hK hx E⟩
 | (_,false)::_,_,_,_,_,_,h,E=>⟨h.1,λJ S T=>h.2 J (E.D S) T⟩
attribute [local semireducible] XA XO in
theorem XA.sub {C':xz}(hC:∀x,C' x->C x):∀(k:Nat) (ls:Array Bool) (f:Fr) (w:O1),XA P all C' K k ls f w->XA P all C K k ls f w
 | 0,_,_,_,h=>h
 | k+1,ls,f,w,h=>by
  refine⟨h.1,λi hi o I=>?_⟩;have E:=h.2 i hi o I;cases G:Z8 all f o with
  | false=>rw[G]at E;exact XA.sub hC k _ _ _ E
  | true =>
   rw[G]at E;exact XO.S (λJ w' hx=>⟨hx.1.imp id (Or.imp id (hC w')),XA.sub hC k _ _ _ hx.2⟩) E
structure Fl3 (P:O4)(all:xD)(C0:xz)(K:xx)(KF:xz->LN->Fr->O1->Prop)(i d:Nat)(rest:xt)(Φ:O2->O1->Prop)(Dc:xu)(f1:Fr):Prop where
 stab:∀v (own:LN) w w',Φ v w->O5 own w w'->(∀b∈ow v,b∉own)->Φ v w'
 spec:∀f w,(∀t,J0 Dc t=false->f t=f1 t)->C0 w->XO P (QT all i) f w λf' w'=>sW w w'/\C0 w'/\Φ (f' d) w'/\∀b∈ow (f' d),↑w<=b/\b<↑w'
 fin:∀C own f w,KF C own f w->∀v,C w->(∀x,C x->C0 x)->Φ v w->(∀b∈ow v,b∉own/\b<↑w)->XP P all C K rest (QP f (some d) v) w
 S:∀C own f w w',KF C own f w->sW w w'->KF C own f w'
theorem jE:∀(l:xD) (j:Nat),l[j]?=none->QT l j=default
 | [],_,_=>rfl
 | _::l,0,h=>by simp at h
 | _::l,j+1,h=>jE l j (ou h)
theorem Qcc (G:Region.noSelect all.toArray=true)(j:Nat):∀cs b,(QT all j).op≠.select cs b:=by
 intro cs b;cases E:all[j]? with
 | none=>rw[jE all j E];intro e;cases e
 | some o=>rw[ZJ E];exact Region.noSelect_spec G j o cs b (ou E)
theorem Qeu {i d:Nat}{rest:xt}{Φ:O2->O1->Prop}{Dc:xu}{f1:Fr}(hF:Fl3 P all C0 K KF i d rest Φ Dc f1)(I:Region.noSelect all.toArray=true){v:O2}:∀(l:xt) (C:xz) (own:LN) (ls:Array Bool) (f:Fr) (w:O1),(∀x,C x->C0 x)->(∀x x',C x->sW x x'->C x')->ls.size=all.length->XI all d l=true->qZ P all KF l C own f w->C w->Φ v w ->
  (∀b∈ow v,b∉own/\b<↑w)->Xk all.toArray (l++rest) ls=true->XA P all C K (l++rest).length ls (QP f (some d) v) w
 | [],C,own,ls,f,w,J,hh,S,_,h,hC,T,hb,G=>Yq I rest ls _ w S (.inl hC) G (hF.fin C own f w h v hC J T hb)
 | (j,true)::l,C,own,ls,f,w,J,hh,S,hfr,h,hC,T,hb,G=>by
  simp only[XI,Ob,oI,Oe,List.contains_eq_mem,decide_eq_false_iff_not,beq_eq_false_iff_ne,ne_eq]at hfr;obtain⟨⟨h1,h2⟩,hfr⟩:=hfr;have hn:XI all d l=true:=by simpa[XI]using hfr
  have hd:∀e,some d=some e->e∉(QT all j).looksAt all.toArray:=λe U=>by cases U;exact h1
  simp only[oZ,Xk,oI]at G;obtain⟨⟨V,hf⟩,hq⟩:=G;have hz:j∈Region.ready .any all.toArray ls:=by simpa using V
  obtain⟨hg,u,hu,hx⟩:=h;cases E:all[j]? with
  | none =>
   exfalso;obtain⟨_,o,h8,_⟩:=mem_ready.1 hz;simp[E]at h8
  | some o =>
   have h9:∀(j:Nat) (o:Oper) cs b,all[j]?=some o->o.op≠.select cs b:=λj o cs b hj=>Region.noSelect_spec I j o cs b (ou hj);have hA:=λk ok hk=>Region.free_spec (ops:=all.toArray) (md:=.any) (i:=j) (oi:=o) (listed:=ls) (ou E) hf k ok (ou hk);have ht:Z8 all (QP f (some d) v) o=true:=by
    have:=Uv (QT all j) f (some d) v hd;rw[ZJ E]at this hg;rw[this];exact hg
   have hB:∀w',(y9 o=true->C w')->(execOp (ev (QP f (some d) v)) o).run P w'=.ok (.value u) w':=λw' hc=>by
    have:=JP (all:=all) (Qcc I j) f (some d) v hd;rw[ZJ E]at this hu;rw[this];exact hu w' hc
   have h5:=Qeu hF I l C own (ls.setIfInBounds j true) _ w J hh (ou S) hn hx hC T hb hq;rw[<-U5 f v u (λe U=>by cases U;exact h2),ZJ E]at h5;exact Ko (v:=u) (D:=λw=>y9 o=true->C w) E (λ_ h=>h) h9 _ ls _ w (λ_=>hC) hA hz (.inl ⟨ht,hB⟩) h5
 | (j,false)::l,C,own,ls,f,w,J,hh,S,hfr,h,hC,T,hb,G=>by
  simp only[XI,Ob,oI,Oe,List.contains_eq_mem,decide_eq_false_iff_not,beq_eq_false_iff_ne,ne_eq]at hfr;obtain⟨⟨h1,h2⟩,hfr⟩:=hfr;have hn:XI all d l=true:=by simpa[XI]using hfr
  have hd:∀e,some d=some e->e∉(QT all j).looksAt all.toArray:=λe U=>by cases U;exact h1
  simp only[oZ,Xk,oI,beq_iff_eq]at G;obtain⟨V,hq⟩:=G;show XA P all C K ((l++rest).length+1) ls _ w;refine JU (λh0=>(by rw[h0]at V;cases V)) ?_;rw[V];intro k hk o E;have hD:k=j:=by simpa using hk
  subst hD;have hw:=ZJ E;have ht:Z8 all (QP f (some d) v) o=true:=by
   have:=Uv (QT all k) f (some d) v hd;rw[hw]at this;rw[this,<-hw];exact h.1
  rw[ht,cond_true];have Y:=h.2 w (O5.Y _ _) hC;have h4:XO P (QT all k) (QP f (some d) v) w λf' w'=>(K9 all k=true\/w'=w\/C w')/\XA P all C K (l++rest).length (ls.setIfInBounds k true) f' w':=by
   refine Qnp (all:=all) (Qcc I k) h1 h2 (λu w' hx=>?_) Y;obtain⟨C',hy,hE,h6,own',h7,hG,hx⟩:=hx;refine⟨.inr (.inr (hy _ h6)),XA.sub hy _ _ _ _ (Qeu hF I l C' own' _ _ w' (λx hx=>J x (hy x hx)) hE (ou S) hn hx h6 (hF.stab v own w w' T h7 (λb ha=>(hb b ha).1)) (λb ha=>⟨λhm=>?_,LR (hb b ha).2 h7.size⟩) hq)⟩;rcases hG b hm with Y|Y
   ·exact(hb b ha).1 Y
   exact Nat.lt_irrefl _ (LR (hb b ha).2 Y.1)
  rw[hw]at h4;exact h4
theorem Qes {i d:Nat}{rest:xt}{Φ:O2->O1->Prop}{Dc:xu}{f1:Fr}(S:Fl3 P all C0 K KF i d rest Φ Dc f1)(hs:Region.noSelect all.toArray=true)(hg:(QT all i).guard=none)(hd:(QT all i).dst=some d):∀(l:xt) (C:xz) (ls:Array Bool) (own:LN) (f:Fr) (w:O1),(∀x,C x->C0 x)->(∀x x',C x->sW x x'->C x')->ls.size=all.length->XI all d l=true->Xq all Dc l=true->(∀t,J0 Dc t=false->f t=f1 t) ->
  qZ P all KF l C own f w->C w->(∀b∈own,b<↑w)->Qd6 all.toArray i rest l ls=true->XA P all C K (l.length+1+rest.length) ls f w
 | [],C,ls,own,f,w,T,ha,he,hfr,U,hk1,h,hC,hc,E=>by
  simp only[Qd6,oI,beq_iff_eq]at E;obtain⟨Y,E⟩:=E;rw[show([]:xt).length+1+rest.length=rest.length+1 by simp;omega];refine JU (λh0=>(by rw[h0]at Y;cases Y)) ?_;rw[Y];intro k hk o G;have hn:k=i:=by simpa using hk
  subst hn;have hh:=ZJ G;have hx:=S.spec f w hk1 (T _ hC);rw[hh]at hg hd hx;rw[yj hg,cond_true];refine hx.S λv w' hx=>?_;rw[hd]at hx ⊢;obtain⟨V,_,I,h4⟩:=hx;simp only[QP,XY]at I h4;have J:=ha _ _ hC V;refine⟨.inr (.inr J),Yq hs rest _ _ _ (ou he) (.inl J) E (S.fin C own f w' (S.S C own f w w' h V) v J T I (λb hb=>⟨λhm=>Nat.lt_irrefl _ (LR (hc b hm) (h4 b hb).1),(h4 b hb).2⟩))⟩
 | (j,true)::l,C,ls,own,f,w,T,ha,he,hfr,U,hk1,h,hC,hc,E=>by
  simp only[Qd6,oI]at E;obtain⟨⟨Y,hf⟩,hq⟩:=E;have hy:j∈Region.ready .any all.toArray ls:=by simpa using Y
  have e:(oU ((j,true)::l))+1+rest.length=(l.length+1+rest.length)+1:=by simp;omega
  rw[e];have ht:XI all d l=true:=by simp only[XI,Ob,oI]at hfr;exact hfr.2
  simp only[Xq,Ob,oI]at U;have hu:Xq all Dc l=true:=U.2;cases G:all[j]? with
  | none =>
   exfalso;obtain⟨_,o,h8,_⟩:=mem_ready.1 hy;simp[G]at h8
  | some o =>
   obtain⟨hz,v,hv,hx⟩:=h;rw[ZJ G]at hz hv hx;have h9:∀(j:Nat) (o:Oper) cs b,all[j]?=some o->o.op≠.select cs b:=λj o cs b hj=>Region.noSelect_spec hs j o cs b (ou hj);have hA:=λk ok hk=>Region.free_spec (ops:=all.toArray) (md:=.any) (i:=j) (oi:=o) (listed:=ls) (ou G) hf k ok (ou hk);exact Ko (v:=v) (D:=λw=>y9 o=true->C w) G (λ_ h=>h) h9 _ ls f w (λ_=>hC) hA hy (.inl ⟨hz,hv⟩) (Qes S hs hg hd l C _ own _ w T ha (ou he) ht hu (by have:=ya (v:=v) U.1 hk1;rw[ZJ G]at this;exact this) hx hC hc hq)
 | (j,false)::l,C,ls,own,f,w,T,ha,he,hfr,U,hk1,h,hC,hc,E=>by
  simp only[Qd6,oI,Oj,Bool.or_eq_true,beq_iff_eq,Oe]at E;obtain⟨⟨⟨h5,Y⟩,hB⟩,hq⟩:=E;have e:(oU ((j,false)::l))+1+rest.length=(l.length+1+rest.length)+1:=by simp;omega
  rw[e];have ht:XI all d l=true:=by simp only[XI,Ob,oI]at hfr;exact hfr.2
  simp only[Xq,Ob,oI]at U;have hu:Xq all Dc l=true:=U.2;refine JU (λh0=>(by rw[h0]at h5;cases h5)) ?_;intro k hk o G;have hh:=ZJ G;have h6:(ls.setIfInBounds k true).size=all.length:=by simpa using he
  by_cases hn:k=i
  ·subst hn;have hx:=S.spec f w hk1 (T _ hC);rw[hh]at hg hd hx;rw[yj hg,cond_true];refine hx.S λv w' hx=>?_;rw[hd]at hx ⊢;obtain⟨V,_,I,h4⟩:=hx;simp only[QP,XY]at I h4;have J:=ha _ _ hC V;refine⟨.inr (.inr J),?_⟩;have hx:=Qeu S hs ((j,false)::l) C own (ls.setIfInBounds k true) f w' T ha h6 hfr (qZ.I S.S h V) J I (λb hb=>⟨λhm=>Nat.lt_irrefl _ (LR (hc b hm) (h4 b hb).1),(h4 b hb).2⟩) hB;rw[show((j,false)::l++rest).length=l.length+1+rest.length by simp;omega]at hx;exact hx
  have hD:k=j:=(Y k hk).resolve_right hn;subst hD;have V:=h.1;have J:=h.2 w (O5.Y _ _) hC;rw[hh]at V J;rw[V,cond_true];refine J.S λv w' hx=>?_;obtain⟨C',hw,hE,h7,own',hG,hH,hx⟩:=hx;refine⟨.inr (.inr (hw _ h7)),XA.sub hw _ _ _ _ (Qes S hs hg hd l C' _ own' _ w' (λx hx=>T x (hw x hx)) hE h6 ht hu (by have:=ya (v:=v) U.1 hk1;rw[hh]at this;exact this) hx h7 (λb hb=>?_) hq)⟩;rcases hH b hb with I|I
  ·exact LR (hc b I) hG.size
  exact I.2
theorem qZ.keeps {D:xu}{f0:Fr}:∀(l:xt) (C:xz) (own:LN) (f:Fr) (w:O1),Xq all D l=true->(∀t,J0 D t=false->f t=f0 t)->qZ P all KF l C own f w->qZ P all (λC' o G w'=>(∀t,J0 D t=false->G t=f0 t)/\KF C' o G w') l C own f w
 | [],C,own,f,w,_,E,h=>⟨E,h⟩
 | (j,true)::l,C,own,f,w,hd,E,h=>by
  simp only[Xq,Ob,oI]at hd;obtain⟨I,v,J,hx⟩:=h;exact⟨I,v,J,qZ.keeps l C own _ _ hd.2 (ya hd.1 E) hx⟩
 | (j,false)::l,C,own,f,w,hd,E,h=>by
  simp only[Xq,Ob,oI]at hd;refine⟨h.1,λS T U=>XO.S (λv w' hx=>?_) (h.2 S T U)⟩;obtain⟨C',V,Y,ha,own',he,hh,hx⟩:=hx;exact⟨C',V,Y,ha,own',he,hh,qZ.keeps l C' own' _ _ hd.2 (ya hd.1 E) hx⟩
theorem f3p {l:xt}{own:LN}{v:O2}(E:∀w',(execOp (ev f) (QT all j)).run P w'=.ok (.value v) w')(h:qZ P all KF l C own (QP f (QT all j).dst v) w)
  (G:Z8 all f (QT all j)=true:=by rfl):qZ P all KF ((j,true)::l) C own f w:=⟨G,v,λw' _=>E w',h⟩
theorem Qet (C:xz)(pre l:xt)(i d:Nat)(rest:xt)(own:LN)(D Dc:xu)(S:α->List (Nat×O2))(I:α->xz->LN->O1->Prop)(Φ:O2->O1->Prop)
  (V:QmH all pre l i rest=true) (T:(Xq all D pre && Xq all D l && Xq all Dc l)=true) (hd:(QT all i).dst=some d) (hC:C { w with drawn:=w.drawn+1 }) (ha:∀x x',C x->sW x x'->C x') (hc:∀b∈own,b<↑w)
  (stab:∀v (own:LN) w w',Φ v w->O5 own w w'->(∀b∈ow v,b∉own)->Φ v w') (mono:∀z C own w w',I z C own w->sW w w'->I z C own w')
  (fin:∀z g own w v (C':xz),I z C' own w->C' w->(∀x,C' x->C x)->Φ v w->(∀b∈ow v,b∉own/\b<↑w)->XP P all C' K rest (QP (VJ (S z) (mix D f g)) (some d) v) w)
  (h:XP P all C (λf1 _=>(∀g w,C w->XO P (QT all i) (mix Dc f1 g) w λE w'=>sW w w'/\C w'/\Φ (E d) w'/\∀b∈ow (E d),↑w<=b/\b<↑w')/\qZ P all (λC' o E w'=>∃z,Y7 E (S z)/\I z C' o w') l C own f1 { w with drawn:=w.drawn+1 }) pre f { w with drawn:=w.drawn+1 }):XA P all C K all.length (oP all.length false) f { w with drawn:=w.drawn+1 }:=by
 rw[LB,LB]at T;simp only[QmH,oI,beq_iff_eq,Option.isNone_iff_eq_none]at V;obtain⟨⟨⟨⟨⟨G,hl⟩,hq⟩,he⟩,hg⟩,hfr⟩:=V;rw[hd]at hfr;have Y:=YG (K:=K) (m:=l.length+1+rest.length) G pre (oP all.length false) f _ hC hq
  (B:=λf1 _=>Fl3 P all C K (λC' o E w'=>(∀t,J0 D t=false->E t=f t)/\∃z,Y7 E (S z)/\I z C' o w') i d rest Φ Dc f1/\qZ P all (λC' o E w'=>(∀t,J0 D t=false->E t=f t)/\∃z,Y7 E (S z)/\I z C' o w') l C own f1 { w with drawn:=w.drawn+1 })
  (λf1 hB=>Qes hB.1 G hg hd l C (ZS pre (oP all.length false)) own f1 _ (λ_ h=>h) ha (by rw[YK];simp) hfr T.2 (λ_ _=>rfl) hB.2 hC hc he)
  (XP.keeps_mono _ _ _ (XP.keeps pre f _ T.1.1 (λ_ _=>O) h) (λf1 w1 hx=>⟨⟨stab,?_,?_,?_⟩,qZ.keeps l C own _ _ T.1.2 hx.1 hx.2.2⟩))
 ·rw[hl]at Y;exact Y
 ·intro E w' J U;have:=hx.2.1 E w' U;rw[K5 J]at this;exact this
 ·rintro C' o E w' ⟨J,z,G,hi⟩ v U hf hv hb;have:=fin z E o w' v C' hi U hf hv hb;rw[K5 J,XD G]at this;exact this
 rintro C' o E w' hj ⟨J,z,G,hi⟩ hh;exact⟨J,z,G,mono z C' o _ _ hi hh⟩
theorem f2k {l:xt}{own:LN}(h:∀E,sW w E->C E->XO P (QT all j) f E λI w'=>C w'/\∃own',O5 own E w'/\(∀b∈own',b∈own\/(↑E<=b/\b<↑w'))/\qZ P all KF l C own' I w')
  (J:Z8 all f (QT all j)=true:=by rfl) (S:∀x x',C x->sW x x'->C x':=by exact λ_ _ G T=>G.D T):qZ P all KF ((j,false)::l) C own f w :=
 ⟨J,λE G U=>XO.S (λ_ _ hx=>⟨C,λ_ h=>h,S,hx⟩) (h E G U)⟩
theorem f2e {own:LN}{S:α->List (Nat×O2)}{I:α->LN->O1->Prop}(h:∃z,Y7 f (S z)/\I z own w):qZ P all (λC' o E w'=>∃z,Y7 E (S z)/\(C'=C/\I z o w')) [] C own f w :=
 let⟨z,a,b⟩:=h
 ⟨z,a,O,b⟩
theorem V0 (C:xz)(pre l:xt)(i d:Nat)(rest:xt)(own:LN)(D Dc:xu)(S:α->List (Nat×O2))(I:α->LN->O1->Prop)(Φ:O2->O1->Prop)
  (G:QmH all pre l i rest=true) (J:(Xq all D pre && Xq all D l && Xq all Dc l)=true) (hd:(QT all i).dst=some d) (hC:C { w with drawn:=w.drawn+1 }) (T:∀b∈own,b<↑w)
  (stab:∀v (own:LN) w w',Φ v w->O5 own w w'->(∀b∈ow v,b∉own)->Φ v w') (mono:∀z own w w',I z own w->sW w w'->I z own w')
  (fin:∀z g own w v,I z own w->C w->Φ v w->(∀b∈ow v,b∉own/\b<↑w)->XP P all C K rest (QP (VJ (S z) (mix D f g)) (some d) v) w)
  (h:XP P all C (λf1 _=>(∀g w,C w->XO P (QT all i) (mix Dc f1 g) w λE w'=>sW w w'/\C w'/\Φ (E d) w'/\∀b∈ow (E d),↑w<=b/\b<↑w')/\qZ P all (λC' o E w'=>∃z,Y7 E (S z)/\(C'=C/\I z o w')) l C own f1 { w with drawn:=w.drawn+1 }) pre f { w with drawn:=w.drawn+1 })
  (U:∀x x',C x->sW x x'->C x':=by exact λ_ _ V Y=>V.D Y):XA P all C K all.length (oP all.length false) f { w with drawn:=w.drawn+1 }:=
 Qet C pre l i d rest own D Dc S (λz C' o w=>C'=C/\I z o w) Φ G J hd hC U T stab (λz _ o w w' h hs=>⟨h.1,mono z o w w' h.2 hs⟩)
  (λz g o w v C' h ha _ hv hb=>by obtain⟨rfl,hi⟩:=h;exact fin z g o w v hi ha hv hb) h
theorem Qha {Q:Exit->Fr->O1->Prop}(C:xz)(pre l:xt)(i d:Nat)(rest:xt)(own:LN)(D Dc:xu)(S:α->List (Nat×O2))(I:α->LN->O1->Prop)(Φ:O2->O1->Prop)(G:P.follows .mixedOrders=true)(J:Xu n all=true)
  (T:QmH all pre l i rest=true) (U:(Xq all D pre && Xq all D l && Xq all Dc l)=true) (hd:(QT all i).dst=some d) (hC:C { w with drawn:=w.drawn+1 }) (V:∀b∈own,b<↑w)
  (stab:∀v (own:LN) w w',Φ v w->O5 own w w'->(∀b∈ow v,b∉own)->Φ v w') (mono:∀z own w w',I z own w->sW w w'->I z own w')
  (fin:∀z g own w v,I z own w->C w->Φ v w->(∀b∈ow v,b∉own/\b<↑w)->XP P all C (λf w=>Q .normal f w) rest (QP (VJ (S z) (mix D f g)) (some d) v) w)
  (h:XP P all C (λf1 _=>(∀g w,C w->XO P (QT all i) (mix Dc f1 g) w λE w'=>sW w w'/\C w'/\Φ (E d) w'/\∀b∈ow (E d),↑w<=b/\b<↑w')/\qZ P all (λC' o E w'=>∃z,Y7 E (S z)/\(C'=C/\I z o w')) l C own f1 { w with drawn:=w.drawn+1 }) pre f { w with drawn:=w.drawn+1 })
  (Y:∀x x',C x->sW x x'->C x':=by exact λ_ _ h1 h2=>h1.D h2):W P n (.region id all.toArray true) Q f w :=
 JB C G J (V0 C pre l i d rest own D Dc S I Φ T U hd hC V stab mono fin h Y)
end
attribute [irreducible] qZ
abbrev X3:LV:=[nS,nS,nS,nS,nS]
abbrev qU:LV:=[nS,sS 0,nS,nS]
theorem Jj {a:Array UInt8}(h:a.size<=100):(⟨a⟩:ByteArray).size<=9223372036854775807:=by
 show a.size<=_;omega
def rgB (N M:Nat):LN:=(oJ M).filter λb=>decide (N<=b)
theorem Uo {b:Nat}:b∈rgB N M↔N<=b/\b<M:=by
 unfold rgB;rw[LQ,MB,decide_eq_true_iff];exact And.comm
instance:Bw sV 89 [nS,sS 0,nS,nS,nS,nS,nS,nS] [(0,4),(4,1),(5,1),(6,1),(7,1)]:={}
def spF (c:Z2)(pl:Qz)(ps:List (LI))(l:List (LI)):List Rsn:=l.zipIdx.filterMap (λp=>rsn c pl (plx ps (p.1.take c.co.length)) p.2 p.1)
theorem Qh0 {c:Z2}{pl:Qz}{ps:List (LI)}{l:List (LI)}{k:Nat}(h:k<l.length):spF c pl ps (l.take (k+1))=spF c pl ps (l.take k)++(rsn c pl (plx ps ((l[k]'h).take c.co.length)) k (l[k]'h)).toList:=by
 unfold spF;rw[Lj h,List.zipIdx_append,List.filterMap_append];have e:0+(l.take k).length=k:=by rw[LC];omega
 rw[e];simp only[List.zipIdx_cons,List.zipIdx_nil,List.filterMap_cons,List.filterMap_nil];cases rsn c pl (plx ps ((l[k]'h).take c.co.length)) k (l[k]'h) <;> rfl
theorem QeX (c:Z2)(pl:Qz)(ps:List (LI))(l:List (LI)):(spF c pl ps l).length<=l.length:=by
 unfold spF;refine Lx (List.length_filterMap_le _ _) ?_;rw[List.length_zipIdx];exact Lp _
theorem Qar {c:Z2}{pl sa:Qz}{ps ts:List (LI)}(E:xo (O7 c.co)=some (pl,ps))(G:xo (O7 c.co++O7 c.rq)=some (sa,ts)):
  spc c=⟨sa,ts.map (·.take c.co.length),ts.map (·.drop c.co.length),ts.map (λt=>plx ps (t.take c.co.length)),spF c pl ps ts⟩:=by
 unfold spc JZ syQ;rw[E,G];simp only[];rw[jt];simp[spF]
theorem Qkr {s:List ByteArray}{x:X5}(h:Yx n u s x=0):x.a.st≠0:=by
 unfold Yx at h;split at h
 ·cases h
 split at h
 ·cases h
 split at h
 ·rename_i G E;exact OW h E
 split at h
 ·cases h
 split at h
 ·cases h
 assumption
theorem QcQ {n:Nat}{al:LI}:∀{l:List X5}{s:List ByteArray}{u:LI},(Yy n al s u l).1=0->∀x∈l,x.a.st≠0
 | [],_,_,_,x,hx=>by cases hx
 | y::l,s,u,h,x,hx=>by
  rw[VW]at h;by_cases E:Yx n al s y≠0
  ·rw[OU E]at h;exact OW h E
  rw[OT E]at h;have G:Yx n al s y=0:=Ls.1 E;rcases Ln.1 hx with rfl|hx
  ·exact Qkr G
  exact QcQ h x hx
theorem Qks {c:Z2}(h:Z0 c=0):∀x∈c.co,x.a.st≠0:=by
 unfold Z0 at h;by_cases E:XK c.ev≠0
 ·rw[OU E]at h;exact OW h E
 rw[OT E]at h;by_cases I:c.co.length=0
 ·rw[OU I]at h;cases h
 rw[OT I]at h;by_cases J:8<c.co.length\/12<c.co.length+c.rq.length
 ·rw[OU J]at h;cases h
 rw[OT J]at h;by_cases G:(Yy c.ev.length (VB c.ev.length) [] [] c.co).1≠0
 ·rw[OU G]at h;exact OW h G
 exact QcQ (Ls.1 G)
theorem Qb7 {c:Z2}(h:Z0 c=0){A:Qz}{Q:List (LI)}(S:xo (O7 c.co)=some (A,Q)):Q0 A/\A.st=(Q.length:Int)/\0<Q.length/\∀e∈A.al,0<=e/\e<(c.ev.length:Int):=by
 have hok:=YP h;have G:=YV hok.co;have hsp:=YQ G S;refine⟨hsp.1.okay G,hsp.1.st,?_,λe J=>?_⟩
 ·refine Nat.pos_of_ne_zero λT=>?_;obtain⟨a,I,E⟩:=hsp.2.1 T;obtain⟨x,hx,rfl⟩:=Ly.1 I;exact Qks h x hx E
 rw[hsp.1.al]at J;obtain⟨a,I,E⟩:=(zv G e).1 J;obtain⟨x,hx,rfl⟩:=Ly.1 I;exact⟨((hok.co x hx).al e E).1,hok.ce x hx e E⟩
theorem Qio {Q:List (LI)}(h:0<Q.length)(t:LI):0<=plx Q t/\plx Q t<(Q.length:Int):=by
 unfold plx;split
 ·rename_i E;have:=Me E;omega
 omega
theorem Vt.take {a b:List Qz}{t:LI}(h:Vt (a++b) t):Vt a (t.take a.length):=by
 have hl:=h.1;rw[Lc]at hl;refine⟨by rw[LC];omega,λi G E=>?_⟩;have:=h.2 i oa (by rw[Lc];omega);rw[Mt E]at this;rw[M6];exact this
theorem Vt.drop {a b:List Qz}{t:LI}(h:Vt (a++b) t):Vt b (t.drop a.length):=by
 have hl:=h.1;rw[Lc]at hl;refine⟨by rw[Mo];omega,λi E G=>?_⟩;have:=h.2 (a.length+i) oa (by rw[Lc];omega);rw[Ng oa]at this;rw[List.getElem_drop];simpa using this
theorem Vt.tpOk {l:List X5}{t:LI}(h:Vt (O7 l) t):Qnr (szs l) t:=by
 have hl:=h.1;unfold O7 at hl;rw[Ll]at hl;refine⟨by unfold szs;rw[Ll];exact hl,λi hi=>?_⟩;have E:=h.2 i hi (by unfold O7;rw[Ll];omega);have G:i<(szs l).length:=by unfold szs;rw[Ll];omega
 rw[<-ZA hi,<-ZA G];unfold O7 szs at *;simpa using E
theorem Kp.add {W I J S:O1}{U V Y E c0 c1 c2 c3:O2}{cos rqs:List TV}{pls:LI}{fbs:List Rsn}{q:Rsn}(hB:QL ↑W G T [c0,c1,c2,c3,U,V,Y,E])(hS:Kp base W U V Y E cos rqs pls fbs)(ha:G<base)(h1:sW W I)
  (ho:J.ownsRow base 173 4 v' (fbs.length+1) (fbs.flatMap Z4++Z4 q)) (h2:O5 (ob E) I J) (hn:∀b∈ob v',b∈ob E\/↑I<=b) (h3:O5 [G] J S):
  O5 (G::ob E) W S/\Kp base S U V Y v' cos rqs pls (fbs++[q])/\(∀x∈G::ob E,∃o:Obj,W.heap[x]?=some o/\o.isCells=true):=by
 refine⟨((h1.any).V (h2.S λx hx=>Lk _ hx)).V (h3.S λx hx=>?_),(hS.a4 h1 ho h2 hn).low h3 (λx hx=>?_),λx hx=>?_⟩
 ·simp only[oF]at hx;subst hx;exact Lm
 ·simp only[oF]at hx;subst hx;exact ha
 rcases Ln.1 hx with rfl|hx
 ·exact hB.cells
 exact Go.Lg.Zb hS.o4 x hx
theorem yN (h0:ZP L ↑w c)(mw:Kb w 4096):
  QR sV 31 [c.val] w λr w'=>sW w w'/\∃v,r=.tuple #[v,sS (YN c.C)]/\(∃us,v=sT us/\us.length=8/\Zv us)/\(YN c.C=0->Qsd ↑w ↑w' v (spc c.C)):=by
 have h:=h0.up (L':=[]) od;refine Zg (YN c.C) λE hE=>?_;refine QR.of_G 20 func31 O ntmps31 results31 od ?_;refine QS<|Qy oh oh<|Za c.cells λb1 w1 hI hb1 my=>QN [nS,sS 0,nS,nS,nS,nS,nS,nS] λb2 w2 hA hb2 gy=>Qb ?_;have kg:=hI.D hA;have mz:=my.lt;have kh:=gy.lt;have m0:=my.I hA;refine QS<|Qy oh oh<|QV m0 O O<|Qv<|(QcW (h.I kg) (mw.I kg)).S ?_;rintro r3 w3 ⟨h5,vp,rfl,z3,m1⟩;rw[hE]at z3 m1 ⊢;have m2:=kg.D h5;refine Qa<|QJ O O<|QJ O O<|x Qe<|Qb<|QS<|QS<|Qy oh oh<|Qa<|ZM O O<|xe<|Qnu O (λki=>?_) (λki=>?_)
 ·refine QS<|Qy oh oh<|x (Zu [] Z)<|Qa<|Q2 [nS,sS 0,nS,nS,nS,nS,nS,nS] (gy.I h5) ⟨O,O,O,O,O,O,O,O,Z⟩ λw4 hN z4=>Qb<|JW ⟨λ_ h=>(by cases h),Ms,[.agg #[nS,sS 0,nS,nS,nS,nS,nS,nS],sS E],λW' hO=>⟨⟨Jl (z4.I hO),rfl,Z⟩,(m2.Q hN oa).D hO,_,rfl,⟨_,rfl,rfl,rfl,rfl,rfl,rfl,rfl,rfl,rfl,rfl,Z⟩,λe=>OW e ki⟩⟩
 have m3:E=0:=Ls.1 ki;obtain⟨b,q,rfl,rfl,hQ,hr,z5⟩:=m1 m3;refine Yb<|QS<|Qy oh oh<|Qa<|Z6 O<|Zc O<|x (ZR (us:=ZB q.s) hr.B O O O)<|x (Zu [(0,ZB q.s)] ⟨O,O,Z⟩)<|QN [nS,sS 0,nS,nS,nS,nS,nS,nS] λI w5 hY kj h6 =>
  Q2 [q.s.va,sS q.s.a.st,q.s.vm,q.s.ve,nS,nS,nS,nS] h6 ⟨hr.s.al.one,O,hr.s.mr.one,hr.s.ed.one,O,O,O,O,Z⟩ λS gz h6=>xe ?_
 have m4:sW w3 S:=hY.Q gz kj;have kk:=h6.lt;have m5:=hr.I m4;have hz3:=h5.size;refine QS<|QS<|Qy oh oh<|Qa<|Z6 O<|Qq O m5.B O O<|QG m5.ts.arr O<|Qa<|xe ?_;have m6:=(zd (λa ha=>by
  rcases Lh.1 ha with ha|ha
  ·exact YV (YP hQ.ok).co a ha
  exact YV (YP hQ.ok).rq a ha) hQ.s)
 have kn:=m6.1;have m7:=m6.2;simp only[]at kn m7;have hok:=YP hQ.ok;have hckc:=hok.c8;have hZ:q.c.C.co.length=q.c.co.length:=Ll ..;have hrel:q.c.C.rq.length=q.c.rq.length:=Ll ..;have hcr:=hok.cr;have hal:(O7 q.c.C.co++O7 q.c.C.rq).length=q.c.co.length+q.c.rq.length:=by rw[Lc];unfold O7;rw[Ll,Ll,hZ,hrel]
 refine Zg (q.ts.map (·.2)) λT hT=>?_;rw[hT]at kn m7;have hTn:q.ts.length=T.length:=by rw[<-hT,Ll]
 refine ZO<|KG (α:=Nat×(O2×O2×O2×O2)×List TV×List TV×LI) [(7,17),(37,99),(100,118)] (λz=>[(37,sS z.1)]) (λz ds W'=>z.1<=q.ts.length/\O5 [I] S W'/\KI ↑S ↑W' ds W'/\QL ↑W' I 89 [q.s.va,sS q.s.a.st,q.s.vm,q.s.ve,z.2.1.1,z.2.1.2.1,z.2.1.2.2.1,z.2.1.2.2.2] /\
  Kp ↑S W' z.2.1.1 z.2.1.2.1 z.2.1.2.2.1 z.2.1.2.2.2 z.2.2.1 z.2.2.2.1 z.2.2.2.2 (spF q.c.C q.p.a (q.qs.map (·.2)) (T.take z.1))/\z.2.2.1.map (·.2)=(T.take z.1).map (·.take q.c.co.length)/\z.2.2.2.1.map (·.2)=(T.take z.1).map (·.drop q.c.co.length)/\z.2.2.2.2=(T.take z.1).map (λt=>plx (q.qs.map (·.2)) (t.take q.c.co.length)))
  (λz=>q.ts.length - z.1) oh (0,(nS,nS,nS,nS),[],[],[]) La
  ⟨Lo _,O5.Y _ _,⟨Ms,λD hD=>by cases hD⟩,h6,Kp.nil _ _,rfl,rfl,rfl⟩ ?_
 rintro⟨k,⟨v1,v2,v3,U⟩,cos,rqs,pls⟩ g ds w7 ⟨hk,ko,m8,kq,Y,gh,gi,gj⟩;simp only[]at hk kq Y gh gi gj;have gk:sW w3 w7:=m4.Q ko kj;have m9:=m2.D gk;have hz7:=ko.size;have g0:(T.take k).length=k:=by rw[LC];omega
 have hcosl:cos.length=k:=by have:=OV oU gh;rw[Ll,Ll,g0]at this;exact this
 have hrqsl:rqs.length=k:=by have:=OV oU gi;rw[Ll,Ll,g0]at this;exact this
 have hplsl:pls.length=k:=by rw[gj,Ll,g0]
 have pc:=QeX q.c.C q.p.a (q.qs.map (·.2)) (T.take k);rw[g0]at pc;refine Zg (spF q.c.C q.p.a (q.qs.map (·.2)) (T.take k)) λfbs g2=>?_;rw[g2]at Y pc;refine Zg (ob v1++(ob v2++(ob v3++ob U))) λav gl=>?_;have ga:∀x∈av,↑S<=x/\x<w7.heap.size:=λx hx=>by
  rw[<-gl]at hx;rcases Qcl hx with G|G|G|G
  ·exact Qj Y.o1 x G
  ·exact Qj Y.o2 x G
  ·exact Qj Y.o3 x G
  exact Qj Y.o4 x G
 have g3:I∉av:=λJ=>oo (ga I J).1
 have kr:∀x∈av,x∈I::av:=λx hx=>Lk _ hx;have g4:JJ (I::av) b ↑w7 q:=(hr.up (λx hx=>.inr (by
  rcases Ln.1 hx with rfl|hx
  ·exact kj
  have:=(ga x hx).1;omega))).I gk
 refine QS<|Qy oh oh<|ZX O O<|xe<|QS<|UO O (λpd=>?_) (λpd=>?_)
 ·refine JD ?_;rw[Lq oa]at gh gi gj g2;have hsp:=Qar hQ.p hQ.s;rw[hT,hZ,<-gh,<-gi,<-gj,g2]at hsp;have pf:=h5.D gk;refine QS<|Qy oh oh<|QV kq O O<|Q2 [q.s.va,sS q.s.a.st,q.s.vm,q.s.ve,v1,v2,v3,U] (gy.I pf) ⟨hr.s.al.one,O,hr.s.mr.one,hr.s.ed.one,QC Y.o1,QC Y.o2,QC Y.o3,QC Y.o4,Z⟩ λw8 g5 hB8=>Qb ?_;have hb2w:b2<S.heap.size:=oa
  have gm:KI ↑S ↑w7 ds w8:=m8.blk g5 (gy.I pf);have hb2d:b2∉ds:=λJ=>oo (gm.2 b2 J).1
  have hS8:=Y.low g5 (λx hx=>by simp only[oF]at hx;subst hx;exact hb2w);refine JW ⟨λD hD=>(gm.2 D hD).2.2,gm.1,[.agg #[q.s.va,sS q.s.a.st,q.s.vm,q.s.ve,v1,v2,v3,U],sS E],λW' hO=>?_⟩;have g6:Lg.JE [] w8 W':=Lg.JE.nonc hO (λD hD=>⟨_,(gm.2 D hD).2.2,O⟩);have gb:=hO.size;have h7:=hS8.cst g6 gb;refine⟨⟨Jl (hB8.J hO hb2d),OV sS m3.symm,Z⟩,(m9.Q g5 oa).O hO (λD hD=>.inr (oo (gm.2 D hD).1)),_,O,⟨_,O,O,hr.s.al.one,O,hr.s.mr.one,hr.s.ed.one,QC Y.o1,QC Y.o2,QC Y.o3,QC Y.o4,Z⟩,λ_=>?_⟩;have hl9:pls.length<=1099511627776:=oa
  have hl8:fbs.length<=1099511627776:=oa
  rw[hsp];refine⟨q.s.va,q.s.vm,q.s.ve,v1,v2,v3,U,cos,rqs,O,O,O,λL hL=>⟨?_,⟨QO h7.o1 oa (λx hx J=>?_),λp hp=>h7.e1 p hp L (λx hx=>?_)⟩,⟨QO h7.o2 oa (λx hx J=>?_),λp hp=>h7.e2 p hp L (λx hx=>?_)⟩,QO h7.o3 hl9 (λx hx J=>?_),QO h7.o4 hl8 (λx hx J=>?_)⟩⟩
  ·have G:=((z5 (b2::L) (λx hx=>by
    rcases Ln.1 hx with rfl|hx
    ·exact kh
    have:=hL x hx;omega)).1.I gk).st (g5.S (λx hx=>by simp only[oF]at hx;subst hx;exact Lm))
   have h2:=G.up (L':=L) (λx hx=>.inl (Lk _ hx));exact⟨h2.al.cst (g6.S od) gb,h2.mr.cst (g6.S od) gb,h2.ed.cst (g6.S od) gb⟩
  ·have:=(Qj h7.o1 x hx).1;have:=hL x J;omega
  ·exact .inl (oo (hL x hx))
  ·have:=(Qj h7.o2 x hx).1;have:=hL x J;omega
  ·exact .inl (oo (hL x hx))
  ·have:=(Qj h7.o3 x hx).1;have:=hL x J;omega
  have:=(Qj h7.o4 x hx).1;have:=hL x J;omega
 have gn:k<q.ts.length:=by have h39:(k:Int)<(q.ts.length:Int):=pd;omega
 have go:k<T.length:=oa
 have pg:=Le gn;have hTe:T[k]'go=(q.ts[k]'gn).2:=by subst hT;simp
 have hw:=Qh0 (c:=q.c.C) (pl:=q.p.a) (ps:=q.qs.map (·.2)) go;have gq:T.take (k+1)=T.take k++[T[k]'go]:=Lj go;have gc:=kn _ (Le go);rw[g2]at hw;rw[hTe]at hw gq gc;refine Yb<|Qf6 (α:=(O2×O2×O2×O2)×List TV×List TV×LI) [(7,17),(38,117)] (λz=>[(37,sS k)]) (λz hR W'=>O5 [I] S W'/\KI ↑S ↑W' hR W'/\QL ↑W' I 89 [q.s.va,sS q.s.a.st,q.s.vm,q.s.ve,z.1.1,z.1.2.1,z.1.2.2.1,z.1.2.2.2] /\
  Kp ↑S W' z.1.1 z.1.2.1 z.1.2.2.1 z.1.2.2.2 z.2.1 z.2.2.1 z.2.2.2 (spF q.c.C q.p.a (q.qs.map (·.2)) (T.take (k+1)))/\z.2.1.map (·.2)=(T.take (k+1)).map (·.take q.c.co.length)/\z.2.2.1.map (·.2)=(T.take (k+1)).map (·.drop q.c.co.length)/\z.2.2.2=(T.take (k+1)).map (λt=>plx (q.qs.map (·.2)) (t.take q.c.co.length))) oh ?_ ?_
 rotate_left
 ·rintro⟨⟨u1,u2,u3,u4⟩,cos',rqs',pls'⟩ g hR W ⟨hsW,hDW,hBW,hSW,G,h2,h3⟩;refine Qy oh oh<|QD O O<|Qa<|xe ?_;exact⟨(k+1,(u1,u2,u3,u4),cos',rqs',pls'),oe,La,gn,hsW,hDW,hBW,hSW,G,h2,h3⟩
 refine ZO<|QS<|Qy oh oh<|Qa<|O8 (g:=YI) Kv g4.ts.arr O O gn λa40 ph=>?_;refine Zg (q.ts[k]'gn) λt ht=>?_;rw[ht]at ph pg hw gq gc;have htl:t.2.length=q.c.co.length+q.c.rq.length:=by rw[gc.1,hal]
 refine x (Qr ph O)<|QN [sS 0] λb7 w9 hs9 hb7 hB9=>Qo<|Qw (j:=0) (u:=sS k) hB9 O O og O λw10 hs10 hB10 =>
  Qb ?_
 have kt:sW w7 w10:=hs9.Q hs10 hb7;refine QS<|Qy oh oh<|Qa<|Qa<|Qv<|(QbO (g4.I kt) ((g4.ts.each t pg).I kt) oa).S ?_;rintro r11 pj ⟨pn,v9,po,rfl,hJ,h8⟩;refine Qa<|QJ O O<|QJ O O<|x Qe<|Qb ?_;have ku:=kt.D pn;have kv:=g4.I ku;refine Zg (t.2.take q.c.co.length) λtc hU=>?_;refine Zg (t.2.drop q.c.co.length) λtr gr=>?_;rw[hZ]at hw;rw[hU]at hJ hw;rw[gr]at h8;have htcl:tc.length=q.c.co.length:=by rw[<-hU,LC];omega
 have htrl:tr.length=q.c.rq.length:=by rw[<-gr,Mo];omega
 have hbdt:=gc.bd (m:=4096) (λa ha=>by
  rcases Lh.1 ha with ha|ha
  ·exact(YV hok.co a ha).st1
  exact(YV hok.rq a ha).st1)
 have pp:∀x∈tc,0<=x/\x<4096:=λx hx=>hbdt x (L3 (by rw[hU];exact hx));refine QS<|V4 (sW pj) [oz 0,oz 1,oz 2,oz 3,oz 4,oA 5,oz 6,oz 7] mixed oh oh oc (O5.X _ _) ?_;refine p Qx<|p (YL O)<|p (QH O)<|pq (λ_ hc=>Ql (kv.B.I hc) O O)<|p Qx<|pk<|xg<|(Qbm (hJ.I (O5.X _ _)) ((mw.I (m9.D ku)).I (O5.X _ _)) pp oa).S ?_;rintro r12 hf ⟨rfl,hs12⟩;have ge:=(O5.X [] pj).D hs12;refine⟨ge,?_⟩;have pt:(match xd q.mm (KO tc) with|some u=>u|none=>sS 0)=sS (plx (q.qs.map (·.2)) tc):=by
  rw[hQ.m tc htcl (λx hx=>(pp x hx).1)];unfold plx;by_cases J:tc∈q.qs.map (·.2)
  ·rw[OU J,OU J]
  rw[OT J,OT J]
 refine Zg (plx (q.qs.map (·.2)) tc) λpi kw=>?_;rw[kw]at pt hw;refine pq (λ_ hc=>(Ji (k:=KO tc) (kv.m.I hc) O O).D (OV (λv=>Result.ok (Next.value v) _) pt))<|p ZN<|pe ?_;have gg:=ku.D ge;have hJ:=hJ.I ge;have h8:=h8.I ge;have h6:=kq.I gg;have gs:=Y.I gg;have hS12d:=gs.I (O5.X [] hf);have hz712:=gg.size;have hzd:({ hf with drawn:=hf.drawn+1 }:O1).heap.size=hf.heap.size:=rfl
 have hC0:O5 av hf { hf with drawn:=hf.drawn+1 }:=O5.X _ _
 have fin:∀{hg hh hq hj ho:O2} {wx wy:O1},O5 av hf wx->Kp ↑S wx hg hh hq U (cos++[(hj,tc)]) (rqs++[(ho,tr)]) (pls++[pi]) fbs->O5 [I] wx wy->QL ↑wy I 89 [q.s.va,sS q.s.a.st,q.s.vm,q.s.ve,hg,hh,hq,U] ->
   O5 (I::av) hf wy/\QL ↑wy I 89 [q.s.va,sS q.s.a.st,q.s.vm,q.s.ve,hg,hh,hq,U]/\Kp ↑S wy hg hh hq U (cos++[(hj,tc)]) (rqs++[(ho,tr)]) (pls++[pi]) fbs:=λhC hP hs hB =>
  ⟨(hC.S kr).V (hs.S (λx hx=>by simp only[oF]at hx;subst hx;exact Lm)),hB,hP.low hs (λx hx=>by simp only[oF]at hx;subst hx;exact kk)⟩
 have hkl:k<=4096:=oa
 have htr16:tr.length<=16:=oa
 have htc40:tc.length<=1099511627776:=oa
 have htr40:tr.length<=1099511627776:=oa
 have mz:cos.length+1<=1099511627776:=oa
 have kh:rqs.length+1<=1099511627776:=oa
 have hl3:pls.length+1<=1099511627776:=oa
 have gt:S.heap.size<=hf.heap.size:=oa
 refine Qf6 (α:=O2×O2×O2×O2×O2) [(55,74)] (λ_=>[]) (λz hR w'=>hR=ds/\O5 (I::av) hf w'/\QL ↑w' I 89 [q.s.va,sS q.s.a.st,q.s.vm,q.s.ve,z.1,z.2.1,z.2.2.1,U]/\Kp ↑S w' z.1 z.2.1 z.2.2.1 U (cos++[(z.2.2.2.1,tc)]) (rqs++[(z.2.2.2.2,tr)]) (pls++[pi]) fbs) oh ?_ ?_
 ·refine yU _ mixed oh oh (V0 (α:=O2×O2×O2×O2) (O5 av hf) [oz 0,oz 1,oz 2,oz 6,oz 7,oz 8,oz 12,oz 13,oz 14] [oA 3,oA 4,oA 5,oz 17,oA 9,oA 10,oA 11] 15 70
   [oA 16,oA 18,oz 19,oA 20,oz 21,oA 22] av [(55,74)] [(58,60),(64,66),(72,72)] (λz=>[(60,z.1),(66,z.2.1),(68,v3),(72,.pointer (some ⟨I,4,none⟩))]) (λz _ w'=>O5 av hf w'/\Kp ↑S w' z.1 z.2.1 v3 U (cos++[(z.2.2.1,tc)]) (rqs++[(z.2.2.2,tr)]) pls fbs)
   (λv w'=>∃b,v=sL b 1 1/\QL ↑w' b 3 [sS pi]) oc oh O hC0 (λx hx=>LR (ga x hx).2 hz712) ?_ ?_ ?_ ?_)
  ·rintro v own w w' ⟨b,rfl,hB⟩ hs hn;exact⟨b,O,hB.J hs (hn b (by simp[ow]))⟩
  ·rintro z own w w' ⟨G,h2⟩ hs;exact⟨G.D hs,h2.I hs⟩
  ·rintro⟨hg,hh,hj,ho⟩ g own wz v ⟨pu,hP⟩ _ ⟨b15,rfl,g7⟩ _;have hcz:=pu.size;refine pk<|Q8 (news:=[sS pi]) (L:=[]) hP.o3 O O O (g7.at od) om hl3 (Lx gt hcz) λhq y1 g8 hI hn1=>?_;have Q1:=Kp.a3 (q:=pi) hP (O5.Y [] _) g8 hI hn1;have kx:O5 av hf y1:=pu.V (hI.S (λb hb=>by rw[<-gl];exact yf (.inr (.inr (.inl hb)))));refine⟨kx,?_⟩;refine pkk<|Qw (j:=4) (u:=hg) (h6.J kx g3) O O od (QC Q1.o1) λy2 hA kz=>p (QH rfl) <|
    pkk<|Qw (j:=5) (u:=hh) kz O O od (QC Q1.o2) λy3 h5 hB3'=>p (QH rfl) <|
    pkk<|Qw (j:=6) (u:=hq) hB3' O O od (QC Q1.o3) λy4 hN hB4'=>pe ?_
   exact⟨(hg,hh,hq,hj,ho),Z,O,fin kx Q1 ((hA.V h5).V hN) hB4'⟩
  refine p (QH O)<|pq (λ_ hc=>Ql (h6.J hc g3) O O)<|p Qx<|p (QH O)<|pq (λ_ hc=>Ql (h6.J hc g3) O O)<|p Qx <|
   p (QH rfl)<|pq (λ_ hc=>Ql (h6.J hc g3) O O)<|p Qx<|pe ⟨λg wf hCf=>Q9 [[sS pi]] λb wf' pw hbf pz=>⟨pw,hCf.D pw,⟨b,O,pz⟩,λx hx=>?_⟩,?_⟩
  ·have hxe:x=b:=by
    have hx':x∈[b]:=hx;simpa using hx'
   subst hxe;exact⟨hbf,pz.lt⟩
  have p0:∀{X:LN},(∀x∈X,x∈ob v1\/x∈ob v2)->∀x∈X,x∈av:=λhX x hx=>by rw[<-gl];exact yf ((hX x hx).imp id .inl)
  refine f2k λx1 p1 c1=>xg<|(ZZ (hJ.J c1 kr)).S ?_;rintro hj y1 ⟨hI,g8⟩;have P1:=hS12d.I p1;refine⟨c1.D hI,av,hI.any,λb hb=>.inl hb,?_⟩;refine f2k λx2 p2 c2=>Yi (us:=[[hj]]) O O og od ⟨xM g8,rfl,Z⟩ λb2' y2 hA hb2' kz=>⟨c2.D hA,av,hA.any,λb hb=>.inl hb,?_⟩;refine f2k λx3 p3 c3=>?_;have p7:=((hI.D p2).D hA).D p3;have p8:=Qm g8 ((p2.D hA).D p3);refine Q8 (news:=[hj]) (L:=[]) (Qm P1.o1 p7) O O O ((kz.I p3).at od) (λu hu=>by rw[oF]at hu;subst hu;exact QC p8) mz (Lx gt c3.size) λhg y3 ho4 h5 hn3=>?_;have p9:O5 av x3 y3:=h5.S (p0 λx hx=>.inl hx);refine⟨c3.V p9,av,p9,λb hb=>.inl hb,?_⟩;refine f3p (QH O) ?_;refine f2k λx4 p4 c4=>xg<|(ZZ (h8.J c4 kr)).S ?_;rintro ho y4 ⟨hN,qa⟩;have P3:=(Kp.a1 (q:=(hj,tc)) P1 p7 p8 htc40 (Lp _) (Lx gt c1.size) ho4 h5 hn3).I p4;refine⟨c4.D hN,av,hN.any,λb hb=>.inl hb,?_⟩;refine f2k λx5 p5 c5=>Yi (us:=[[ho]]) O O og od ⟨xM qa,rfl,Z⟩ λb5' y5 hY hb5' hB5'=>⟨c5.D hY,av,hY.any,λb hb=>.inl hb,?_⟩;refine f2k λx6 p6 c6=>?_;have qe:=((hN.D p5).D hY).D p6;have qf:=Qm qa ((p5.D hY).D p6);refine Q8 (news:=[ho]) (L:=[]) (Qm P3.o2 qe) O O O ((hB5'.I p6).at od) (λu hu=>by rw[oF]at hu;subst hu;exact QC qf) kh (Lx gt c6.size) λhh y6 ho7 gz hn6=>?_;have k0:O5 av x6 y6:=gz.S (p0 λx hx=>.inr hx);refine⟨c6.V k0,av,k0,λb hb=>.inl hb,?_⟩;exact f2e ⟨(hg,hh,hj,ho),oy,c6.V k0,(Kp.a2 (q:=(ho,tr)) P3 qe qf htr40 (Lp _) (Lx gt c4.size) ho7 gz hn6)⟩
 rintro⟨hg,hh,hq,hj,ho⟩ g hR k4 ⟨rfl,hK,hB13,hS13⟩;have hz13:=hK.size;have qj:=(kv.I ge).st hK;have hJ:=hJ.st hK;have h8:=h8.st hK;have g9:JJ [] b ↑k4 q:=qj.up od;have hcell:∀x∈I::av,∃o:Obj,hf.heap[x]?=some o/\o.isCells=true:=λx hx=>by
  rcases Ln.1 hx with rfl|hx
  ·exact h6.cells
  rw[<-gl]at hx;rcases Qcl hx with G|G|G|G
  ·exact Go.Lg.Zb gs.o1 x G
  ·exact Go.Lg.Zb gs.o2 x G
  ·exact Go.Lg.Zb gs.o3 x G
  exact Go.Lg.Zb gs.o4 x G
 have hD13:KI ↑S ↑w7 hR k4:=((m8.up (Lp _)).I gg).J hK hcell;have hb7n:b7∉I::av:=λJ=>by
  rcases Ln.1 J with G|G
  ·omega
  have:=(ga _ G).2;omega
 have hb1n:b1∉I::av:=λJ=>by
  rcases Ln.1 J with G|G
  ·omega
  have:=(ga _ G).1;omega
 have ql:=((hB10.I pn).I ge).J hK hb7n;have hB1c:=((m0.I (h5.D gk)).I gg).J hK hb1n;have hs613:O5 [I] S k4:=(ko.D gg).O hK (λx hx=>by
  rcases Ln.1 hx with G|G
  ·subst G;exact .inl Lm
  exact .inr (ga x G).1)
 have k5:(cos++[(hj,tc)]).map (·.2)=(T.take (k+1)).map (·.take q.c.co.length):=by rw[gq,Lv,Lv,gh,Nt,Nt,hU]
 have k6:(rqs++[(ho,tr)]).map (·.2)=(T.take (k+1)).map (·.drop q.c.co.length):=by rw[gq,Lv,Lv,gi,Nt,Nt,gr]
 have k9:pls++[pi]=(T.take (k+1)).map (λt=>plx (q.qs.map (·.2)) (t.take q.c.co.length)):=by rw[gq,Lv,gj,Nt,hU,kw]
 have hVc:Vt (O7 q.c.C.co) tc:=by
  have G:=gc.take;rw[show(O7 q.c.C.co).length=q.c.co.length by unfold O7;rw[Ll];exact hZ,hU]at G;exact G
 have hVr:Vt (O7 q.c.C.rq) tr:=by
  have G:=gc.drop;rw[show(O7 q.c.C.co).length=q.c.co.length by unfold O7;rw[Ll];exact hZ,gr]at G;exact G
 have gu:=Qb7 hQ.ok hQ.p;have hpr:=Qio gu.2.2.1 tc;rw[kw,<-gu.2.1]at hpr;have hckp:cks q.p.a pi=0:=by
  unfold cks;rw[OT (by rw[(ZC q.p.a).2 gu.1];decide),OT oa]
 have hvo:=qJ g9.k1 g9.k2 g9.k3 (hJ.up (L':=[]) od) (by rw[hQ.ex,hQ.cs];exact hok.cd) hVc.tpOk;have hF:rsn q.c.C q.p.a pi k t.2=(match vio q.c.C tc with|some (kd,j)=>some ⟨k,kd,j,-1⟩|none=>match rfd q.c.C tr (QgQ q.p.a pi) with|some (j,v)=>some ⟨k,3,j,v⟩|none=>none):=by unfold rsn;rw[hZ,hU,gr];rfl
 rw[QhD]at hF;rw[hQ.ex,hQ.cs]at hvo;refine Zg (V7 q.c.C.ex q.c.C.cs tc) λV hV=>?_;rw[hV]at hvo hF;refine QS<|QS<|Qy oh oh<|Qa<|Z6 O<|Zc O<|x (ZR (us:=[q.vs,q.vx,q.vk]) g9.B O O O)<|Qa<|Qv<|hvo.S ?_;rintro r14 ma ⟨h9,rfl⟩;refine Qa<|QJ O O<|QJ O O<|QJ O O<|QJ O O<|x Qe<|x Qe<|x Qe<|Qb ?_;have ka:=hB13.I h9;have hM:=hS13.I h9;have qm:=hD13.I h9;have q0:=hs613.D h9;have hz14:=h9.size;have q4:fbs.length+1<=1099511627776:=oa
 have hb014:S.heap.size<=ma.heap.size:=oa
 have hz714:w7.heap.size<=ma.heap.size:=oa
 refine QS<|Qy oh oh<|Qa<|xe<|KH rfl (λmc=>?_) (λmc=>?_)
 ·rw[OU mc]at hF;rw[hF]at hw;refine QS<|Qy oh oh<|Qq O ka O O<|ZE (ql.I h9) O O<|Qa<|Qa<|x (QE ⟨O,O,O,O,Z⟩) <|
   Qo<|Q9 [Z4 ⟨k,V.1,V.2.1,-1⟩] λb93 y1 hG hb93 mf=>?_
  have q5:=hG.size;refine Qo<|Q8 (m:=1) (news:=Z4 ⟨k,V.1,V.2.1,-1⟩) (L:=[]) (Qm hM.o4 hG) O O O (mf.at od) om q4 (Lx hb014 q5) λu4 y2 gv gx mg=>?_;have mh:I∉ob U:=λJ=>oo (Qj hM.o4 _ J).1
  refine Zc O<|Qo<|Qw (j:=7) (u:=u4) ((ka.I hG).J gx mh) O O od (QC gv) λy3 mj mo=>xe ?_;have h4:=Kp.add (q:=⟨k,V.1,V.2.1,-1⟩) ka hM kk hG gv gx mg mj;refine JD<|⟨((hg,hh,hq,u4),cos++[(hj,tc)],rqs++[(ho,tr)],pls++[pi]),La,q0.O h4.1 (λx hx=>?_),((qm.J h4.1 h4.2.2).up (Lx hz714 h4.1.size)),mo,?_,k5,k6,k9⟩
  ·rcases Ln.1 hx with G|G
   ·subst G;exact .inl Lm
   exact .inr (Qj hM.o4 x G).1
  simp only[];rw[hw];exact h4.2.1
 rw[OT (by rw[mc];decide)]at hF;refine Yb ?_;have h8:=h8.I h9;refine QS<|Qy oh oh<|Qa<|Qa<|Qa<|Qv<|(qC (b:=b) (st:=pi) (vr:=po) h8.cells).S ?_;rintro r15 kb ⟨hH,c1,c2,c3,rfl,hc1,hc2,hc3,hR1,hR2,hR3⟩;refine xe ?_;have hz15:=hH.size;have g7:=ka.I hH;have j1:=hM.I hH;have j2:=qm.I hH;have j3:=q0.D hH;refine Zg (wrf q.c.C.rq tr (enb q.p.a pi)) λfl kc=>?_;have j4:∀x∈I::ob U,x∈I::av:=λx hx=>by
  rcases Ln.1 hx with rfl|hx
  ·exact Lm
  exact Lk _ (by rw[<-gl];exact yf (.inr (.inr (.inr hx))))
 have mq:∀x∈I::ob U,x<ma.heap.size:=λx hx=>by
  rcases Ln.1 hx with rfl|hx
  ·omega
  exact(Qj hM.o4 x hx).2
 have za:JJ (I::ob U) b ↑kb q:=((qj.I h9).I hH).up (λx hx=>.inl (j4 x hx));have hIr15:Qu (I::ob U) ↑kb po tr:=(h8.I hH).up (λx hx=>.inl (j4 x hx));have hEv:∀p∈fl,0<=p.1/\p.1<(q.c.ev.length:Int):=λp hp=>by
  rw[<-kc]at hp;have G:=(zc.1 hp).1;unfold enb at G;obtain⟨e,he,h2⟩:=Ly.1 G;have h3:=gu.2.2.2 _ (gu.1.ed e (ZH he).1).2.2.1;rw[h2]at h3;exact h3
 refine ZO<|Qdb (α:={ x:Int×Int // x∈fl }) (I::ob U) oa (capt:=[sP c1,sP c2,sP c3]) O (encs:=λx=>[sS x.1.1,sS x.1.2]) og (λ_=>O)
  (Ue hR1 hR2 hR3 (λJ=>oo (mq _ J)) (λJ=>oo (mq _ J)) (λx hx=>oo (mq _ hx)) za hIr15 (λx hx=>hok.rq x.it (LG hx)) hVr hckp O kc)
  (λpre W=>(∀y∈pre,(q.c.C.ev.getD y.1.1.toNat ⟨.empty,false,false,false,0⟩).co=true)/\sW kb W) (λpre=>(Ye.pure _).and (Ye.J (Lp _)))
  (λe pre W=>e=.exit 2/\(∃p y,pre=p++[y]/\(∀y∈p,(q.c.C.ev.getD y.1.1.toNat ⟨.empty,false,false,false,0⟩).co=true)/\(q.c.C.ev.getD y.1.1.toNat ⟨.empty,false,false,false,0⟩).co=false /\
   ∃u4,O5 (I::ob U) kb W/\QL ↑W I 89 [q.s.va,sS q.s.a.st,q.s.vm,q.s.ve,hg,hh,hq,u4]/\Kp ↑S W hg hh hq u4 (cos++[(hj,tc)]) (rqs++[(ho,tr)]) (pls++[pi]) (fbs++[⟨k,3,y.1.2,y.1.1⟩])/\KI ↑S ↑w7 hR W))
  (λe pre=>(Ye.pure _).and (Ye.ex λp=>Ye.ex λy=>(Ye.pure _).and ((Ye.pure _).and ((Ye.pure _).and (Ye.ex λu4=>(Ye.J (Lp _)).and (Ye.blk.and ((Ye.cst λW W' h hc hz=>h.cst hc hz).and (KI.stb oa))))))))
  ⟨λy hy=>(by cases hy),O5.Y _ _⟩
  (λf x f' W=>f'=upd (upd (upd (upd f 100 (sS x.1.1)) 101 (sS x.1.2)) 16 (sS x.1.1)) 17 (sS x.1.2)) (λx f'=>Ye.pure _) ?_ ?_ ?_ ?_
 ·rintro l pre ⟨⟨e,i⟩,he⟩ W hW;refine QS<|Qy oh oh<|Qb<|Qy oh oh<|Qb<|⟨O,XX.refl _ _ _,Lg.JE.refl _ _,hW,O⟩
 ·rintro l pre ⟨⟨e,i⟩,he⟩ f' W ⟨ke,hW⟩ rfl _;have hee:=hEv _ he;have hen:e=(e.toNat:Int):=oa
  have kf:e.toNat<q.c.ev.length:=oa
  refine ZO<|QS<|Qy oh oh<|Zc O<|x (Ql ((hB1c.I (h9.D hH)).I hW) O O)<|Qa<|O8 (g:=Zo) (i:=e.toNat) UB (za.I hW).c.ev.arr O (OV sS hen) kf λa105 z0=>?_;have hge:q.c.C.ev.getD e.toNat ⟨.empty,false,false,false,0⟩=q.c.ev[e.toNat]'kf:=by
   show q.c.ev.getD e.toNat _=_;simp[oO,kf]
  refine Zg (q.c.ev[e.toNat]'kf) λv hv=>?_;rw[hv]at z0 hge;refine x (ZI O)<|x (Qr (z0.fld 1 (.bool v.co) O) O)<|x (Zl O)<|xe<|KH O (λms=>?_) (λms=>?_)
  ·have mt:v.co=false:=by simpa using ms
   have hS:=j1.I hW;have hB:=g7.I hW;have gb:=hW.size;refine QS<|Qy oh oh<|Qq O hB O O<|x (Ql ((ql.I (h9.D hH)).I hW) O O)<|Qa<|Qa<|x (QE ⟨O,O,O,O,Z⟩) <|
    Qo<|Q9 [Z4 ⟨k,3,i,e⟩] λb93 y1 hG hb93 mf=>?_
   have q5:=hG.size;refine Qo<|Q8 (m:=1) (news:=Z4 ⟨k,3,i,e⟩) (L:=[]) (Qm hS.o4 hG) O O O (mf.at od) om q4 oa λu4 y2 gv gx mg=>?_;have mh:I∉ob U:=λJ=>oo (Qj hM.o4 _ J).1
   refine Zc O<|Qo<|Qw (j:=7) (u:=u4) ((hB.I hG).J gx mh) O O od (QC gv) λy3 mj mo=>xe ?_;have h4:=Kp.add (q:=⟨k,3,i,e⟩) hB hS kk hG gv gx mg mj;refine JD ?_;exact⟨XX.J h4.1 gb (λx hx=>⟨.inl hx,h4.2.2 x hx⟩),O,pre,_,O,ke,by simp only[];rw[hge];exact mt,u4,hW.any.V h4.1,mo,h4.2.1,(j2.I hW).J h4.1 h4.2.2⟩
  have mt:v.co=true:=by simpa using ms
  refine Yb<|⟨XX.refl _ _ _,Lg.JE.refl _ _,λy hy=>?_,hW⟩;rcases Lh.1 hy with G|G
  ·exact ke y G
  simp only[oF]at G;subst G;simp only[];rw[hge];exact mt
 ·rintro D xs W hD hxs ⟨ke,hW⟩ mu;have mv:rfd q.c.C tr (QgQ q.p.a pi)=none:=zL λx hx=>by
   rw[show wrf q.c.C.rq tr (QgQ q.p.a pi)=fl from kc,<-hxs]at hx;obtain⟨y,hy,rfl⟩:=Ly.1 hx;exact ke y hy
  rw[mv]at hF;rw[hF]at hw;refine⟨((hg,hh,hq,U),cos++[(hj,tc)],rqs++[(ho,tr)],pls++[pi]),La,j3.D hW,(j2.I hW).cons oa oa mu,g7.I hW,?_,k5,k6,k9⟩;simp only[];rw[hw];simpa using(j1.I hW)
 rintro D e pre W hD hSp ⟨rfl,p,y,rfl,hp,hy,u4,hst,hBu,hSu,hDu⟩ mu _;have mv:rfd q.c.C tr (QgQ q.p.a pi)=some (y.1.2,y.1.1):=by
  obtain⟨rs,z2⟩:=hSp;rw[Lv]at z2;refine zK (x:=y.1) (t:=rs) (p:=p.map (·.1)) ?_ (λz hz=>?_) hy
  ·exact(show wrf q.c.C.rq tr (QgQ q.p.a pi)=fl from kc).D (z2.symm.D od)
  obtain⟨z',hz',rfl⟩:=Ly.1 hz;exact hp z' hz'
 rw[mv]at hF;rw[hF]at hw;refine⟨((hg,hh,hq,u4),cos++[(hj,tc)],rqs++[(ho,tr)],pls++[pi]),La,j3.O hst (λx hx=>?_),hDu.cons oa oa mu,hBu,?_,k5,k6,k9⟩
 ·rcases Ln.1 hx with G|G
  ·subst G;exact .inl Lm
  exact .inr (Qj hM.o4 x G).1
 simp only[];rw[hw];exact hSu
section
theorem zU [h1:XN P t]{x:O3}{b:Nat}{l:List Bool}{u:Bool}(E:QL ↑w b T (l.map Value.bool))(hx:ev f x=.pointer (some ⟨b,0+i*1,none⟩))(G:ev f y=.bool u)(hi:i<l.length)
  (hK:∀w',O5 [b] w w'->QL ↑w' b T ((l.set i u).map Value.bool)->K (QP f d undef) w'):XO P ⟨d,.store t x y,ty,pS,af,gd⟩ f w K:=by
 refine Qw E hx G (ou hi) rfl λw' I J=>hK w' I ?_;rw[Ny];simpa using J
theorem JO [XN P t]{x:O3}{b:Nat}{l:List Bool}(h:QL ↑w b T (l.map Value.bool))(hx:ev f x=.pointer (some ⟨b,0+i*1,none⟩))(hi:i<l.length):
  (execOp (ev f) ⟨d,.load t x,ty,pS,af,gd⟩).run P w=.ok (.value (.bool (l[i]'hi))) w:=Ql h hx (by simp[hi])
variable {C:xz}{pl:xt}
theorem pqB {b:Bool}(E:∀w',C w'->(execOp (ev f) (QT ops i)).run P w'=.ok (.value (.bool b)) w')(I:b=true->XP P ops C K pl (QP f (QT ops i).dst (.bool true)) w)(J:b=false->XP P ops C K pl (QP f (QT ops i).dst (.bool false)) w)
  (hd:y9 (QT ops i)=true:=by rfl) (G:Z8 ops f (QT ops i)=true:=by rfl):XP P ops C K ((i,true)::pl) f w:=by
 cases hb:b with
 | true=>rw[hb]at E;exact pq E (I hb) hd G
 | false=>rw[hb]at E;exact pq E (J hb) hd G
end
def bA (n:Nat)(g:Nat->Bool):List Bool:=(oJ n).map g
theorem QpC (n:Nat)(g:Nat->Bool):(bA n g).length=n:=by simp[bA]
theorem QpB {g E:Nat->Bool}{u:Bool}(G:u=E i)(h:∀j,j<n->j≠i->E j=g j):(bA n g).set i u=bA n E:=by
 apply LX
 ·simp[bA]
 intro k S I;rw[M2];have J:k<n:=by simpa[bA]using I
 by_cases e:i=k
 ·rw[OU e,G,e];simp[bA]
 rw[OT e];have:=h k J (λe'=>e e'.symm);simp[bA,this]
theorem Qnj (n:Nat):(oG n (Value.bool false).cells.toList).flatten=(bA n (λi=>decide (i<0))).map Value.bool:=by
 apply LX
 ·simp[Value.cells,bA]
 intro i E G;simp[Value.cells,bA]
theorem qb {l:Lf}(h:s.toNat<l.length):l[s.toNat]'h=lft l s:=by unfold lft;simp[oO,h]
theorem Qme (n:Nat)(fb:LI):(lf0 n fb).length=n:=by unfold lf0;rw[yv];simp
instance:Bw sV 327 [nS,sS 0,nS,nS,nS,.map none,nS] [(0,4),(4,1),(5,1),(6,1)]:={}
structure Pz where
 va:O2
 vm:O2
 ve:O2
 a:Qz
 vu:O2
 unc:LI
 mb:Nat
 mm:List (Int×O2)
 bl:Nat
 n:Nat
 rv:Nat->O2
abbrev Pz.cells (p:Pz):LV:=[p.va,sS p.a.st,p.vm,p.ve,p.vu,.map (some p.mb),.slice (some ⟨p.bl,0,none⟩) p.n p.n]
structure PzA (L:LN)(H:xA)(bp:Nat)(p:Pz):Prop where
 B:QL H bp 327 p.cells
 bL:bp∉L
 a:Zp L H p.va p.vm p.ve p.a
 u:Qu L H p.vu p.unc
 M:ZU XG H p.mb p.mm
 mL:p.mb∉L
 g:∀s,s<p.n->(match xd p.mm ((s:Nat):Int) with|some u=>u|none=>nS)=p.rv s
 R:∀s,s<p.n->Qu L H (p.rv s) (Y1 p.a.ed s)
theorem PzA.I {L:LN}{w w':O1}{bp:Nat}{p:Pz}(h:PzA L ↑w bp p)(E:sW w w'):PzA L ↑w' bp p:=⟨h.B.I E,h.bL,h.a.I E,h.u.I E,h.M.I E,h.mL,h.g,λs G=>(h.R s G).I E⟩
theorem PzA.st {L:LN}{w w':O1}{bp:Nat}{p:Pz}(h:PzA L ↑w bp p)(E:O5 L w w'):PzA L ↑w' bp p:=⟨h.B.J E h.bL,h.bL,h.a.st E,h.u.st E,h.M.J E h.mL,h.mL,h.g,λs G=>(h.R s G).st E⟩
theorem PzA.up {L L':LN}{H:xA}{bp:Nat}{p:Pz}(h:PzA L H bp p)(E:∀b∈L',b∈L\/H.size<=b):PzA L' H bp p :=
 ⟨h.B,λI=>by rcases E _ I with G|G;exact h.bL G;have:=h.B.lt;omega,h.a.up E,h.u.up E,h.M,λI=>by rcases E _ I with G|G;exact h.mL G;have:=h.M.lt;omega,h.g,λs J=>(h.R s J).up E⟩
structure PzQ (p:Pz):Prop where
 ok:Q0 p.a
 n:p.a.st=(p.n:Int)
def stP (N n:Nat):Nat->O2->O1->Prop
 | 2,v,w=>∃b,v=.map (some b)/\N<=b/\ZU XG ↑w b []
 | _,v,w=>∃b,v=.slice (some ⟨b,0,none⟩) n n/\N<=b/\QL ↑w b 4 ((bA n (λi=>decide (i<0))).map Value.bool)
theorem Qlq {v:O2}:∀{i:Nat},stP N n i v w->sW w w'->stP N n i v w'
 | 0,⟨b,E,G,I⟩,J|1,⟨b,E,G,I⟩,J|_+3,⟨b,E,G,I⟩,J=>⟨b,E,G,I.I J⟩
 | 2,⟨b,E,G,I⟩,J=>⟨b,E,G,I.I J⟩
theorem QhW {rm unc:LI}(h:Zp [] ↑w va vm ve a)(hok:Q0 a)(hn:a.st=(n:Int))(hr:Qu [] ↑w vr rm)(gn:∀x∈rm,0<=x/\x<a.st)(hu:Qu [] ↑w vu unc):
  QR sV 222 [.agg #[va,sS a.st,vm,ve],vr,vu] w λr w'=>sW w w'/\∃bp p,r=sP bp/\p.a=a/\p.unc=unc/\p.n=n/\↑w<=p.bl/\PzA [p.bl] ↑w' bp p/\QL ↑w' p.bl 4 ((lf0 n rm).map Value.bool):=by
 have ko:=hok.st1;have kq:=hok.ed_le;have kr:=hr.le;refine Zm func222 ?_;refine Qc<|Za [va,sS a.st,vm,ve] λb3 I hf kt hy=>Qb ?_;have ku:=hy.lt;refine QX (α:=Nat×Nat×Nat) [(7,7),(13,20)] (λz=>[(7,.pointer (some ⟨z.1,0,none⟩))]) (λz w'=>sW I w'/\QL ↑w' z.1 327 [va,sS a.st,vm,ve,vu,.map (some z.2.1),.slice (some ⟨z.2.2,0,none⟩) n n] /\
  ZU XG ↑w' z.2.1 []/\QL ↑w' z.2.2 4 ((bA n (λi=>decide (i<0))).map Value.bool)/\↑I<=z.1/\↑I<=z.2.1/\↑I<=z.2.2/\z.1≠z.2.1/\z.1≠z.2.2/\z.2.1≠z.2.2) oh ?_ ?_
 ·have go:sW I { I with drawn:=I.drawn+1 }:=O5.X _ _
  refine Vh (α:=Nat×Nat) (sW I) [oz 0,oz 1,oz 3,oz 4] (λ_=>[]) [2,5] [oz 6,oA 7,oz 8] [(15,15),(18,18)] (stP ↑I n) (λz=>[(15,.map (some z.1)),(18,.slice (some ⟨z.2,0,none⟩) n n)])
   (λz w'=>ZU XG ↑w' z.1 []/\QL ↑w' z.2 4 ((bA n (λi=>decide (i<0))).map Value.bool)/\↑I<=z.1/\↑I<=z.2/\z.1≠z.2) mixed oh oc go (λ_ _ h1 h2=>h1.D h2) (λ_ _ _ _ h T=>Qlq h T) ?_ ?_
  ·rintro g w' ⟨⟨b,e1,h1,h2⟩,⟨c,e2,h3,h4⟩,_⟩ gq;have d1:=gq 2 od 5 od og;rw[e1,e2]at d1;simp only[ow,oF,forall_eq]at d1;exact⟨(b,c),⟨e1,e2,Z⟩,h2,h4,h1,h3,d1⟩
  refine pq (λ_ E=>Q7 (hy.I E) O O)<|p Qx<|p (QH O)<|pq (λ_ E=>Ql (hy.I E) O O)<|pe ⟨⟨λg w' E _=>?_,λg w' E _=>?_,Z⟩,?_⟩
  ·exact Z1 XG λbm w2 gr hg hQ=>⟨gr,⟨bm,O,Lx E.size hg,hQ⟩,λx hx=>by rw[Lb.1 (show x∈[bm] from hx)];exact⟨hg,hQ.lt⟩⟩
  ·exact YZ (n:=n) (OV sS hn) (OV sS hn) oa λbl w3 hq hh hB=>⟨hq,⟨bl,O,Lx E.size hh,by rw[Qnj]at hB;exact hB⟩,λx hx=>by rw[Lb.1 (show x∈[bl] from hx)];exact⟨hh,hB.lt⟩⟩
  rintro⟨bm,bl⟩ g w3 hq ⟨hM,hB,hg,hh,gs⟩;refine p (λ_=>Zu [(0,[va,sS a.st,vm,ve]),(1,[vu]),(2,[.map (some bm)]),(3,[sL bl n n])] ⟨O,O,hu.cells,O,O,O,O,O,Z⟩)<|pk <|
   qD (us:=[va,sS a.st,vm,ve,vu,.map (some bm),sL bl n n]) O λbp w4 J hD V=>⟨hq.D J,p ZN<|pe ?_⟩
  have hz:=hq.size;have h1:=hM.lt;have h2:=hB.lt;exact⟨(bp,bm,bl),La,hq.D J,V,hM.I J,hB.I J,Lx hz hD,hg,hh,oe,oe,gs⟩
 rintro⟨bp,bm,bl⟩ g w4 ⟨J,V,hE,hF,hD,hg,hh,hR,hS,hG⟩;simp only[]at V hE hF hD hg hh hR hS hG;have kv:=V.lt;have kw:=hE.lt;have gt:=hf.D J;have h0:bp∉[bl]:=by simpa using hS
 have hT:bm∉[bl]:=by simpa using hG
 refine Qd<|Qk<|Z6 O<|Qq O V O O<|QG (L:=[]) (hF.arr od (n:=n) (cap:=n) (sz:=1) (by simp[bA]) oa (Lp _)) rfl<|Qa<|xe<|QW (α:=Nat) [(8,8),(26,35)] (λz=>[(26,sS z)]) (λz w'=>z<=n/\O5 [bl] w4 w'/\QL ↑w' bl 4 ((bA n (λi=>decide (i<z))).map Value.bool)) (λz=>n - z) 0 La ⟨Lo _,O5.Y _ _,hF⟩ ?_;rintro k g w5 ⟨hk,h5,hH⟩;refine Zk rfl O (λhU=>?_) (λhU=>?_)
 ·refine Qt ?_;have gu:bA n (λi=>decide (i<k))=(rm.take 0).foldl cut (oG n true):=by
   apply LX
   ·simp[bA]
   intro i h1 h2;have:i<n:=by simpa[bA]using h1
   simp[bA];omega
  rw[gu]at hH;have hV:Qu [bl] ↑I vr rm:=(hr.I hf).up (λb hb=>.inr (by simp only[oF]at hb;omega));have gv:Zp [bl] ↑I va vm ve a:=(h.I hf).up (λb hb=>.inr (by simp only[oF]at hb;omega));refine Qd<|Qk<|QG ((hV.I J).st h5) O<|Qa<|xe<|QW (α:=Nat) [(10,10),(38,48)] (λz=>[(38,sS z)]) (λz w'=>z<=rm.length/\O5 [bl] w4 w'/\QL ↑w' bl 4 (((rm.take z).foldl cut (oG n true)).map Value.bool)) (λz=>rm.length - z) 0 La ⟨Lo _,h5,hH⟩ ?_;rintro j g w6 ⟨hj,G,Y⟩;refine Zk O O (λhI=>?_) (λhI=>?_)
  ·refine Qt ?_;have gx:rm.length<=j:=by have h6:¬(j:Int)<(rm.length:Int):=hI;omega
   rw[Lq gx]at Y;have hW:=V.J G h0;have gy:=hE.J G hT;have kx:=Y.lt;refine Qd<|Qc<|Qq O ((hy.I J).J G ol) O O<|QG ((gv.I J).st G).ed O<|Qa<|xe ?_;have kz:=G.size;refine QW (α:=Nat×(Nat->O2)×List (Int×O2)) [(12,12),(52,73)] (λz=>[(52,sS z.1)]) (λz w'=>z.1<=a.ed.length/\O5 [bm] w6 w'/\ZU XG ↑w' bm z.2.2/\VE ↑w6 w' n z.2.1 (Y1 (a.ed.take z.1))/\∀s,s<n->(match xd z.2.2 ((s:Nat):Int) with|some u=>u|none=>nS)=z.2.1 s) (λz=>a.ed.length - z.1) (0,λ_=>nS,[]) ⟨rfl,Z⟩
    ⟨Lo _,O5.Y _ _,gy,⟨λi _=>QM _ _ _ _,λi j _ _ _=>Dj.nil _⟩,λs _=>O⟩ ?_
   rintro⟨i,rv,m⟩ g w7 ⟨hi,S,hJ,ha,h7⟩;simp only[]at hi hJ ha h7;have k0:=S.size;have hX:bp∉[bm]:=by simpa using hR
   have gz:bl∉[bm]:=by simpa using Ne.symm hG
   refine Zk O O (λhK=>?_) (λhK=>?_)
   ·refine Qt ?_;have g0:a.ed.length<=i:=by have h8:¬(i:Int)<(a.ed.length:Int):=hK;omega
    rw[Lq g0]at ha;refine Qk<|Qb<|Qh ⟨[_],La,(gt.Q G oa).Q S oa,bp,⟨va,vm,ve,a,vu,unc,bm,m,bl,n,rv⟩,O,O,O,O,oe,⟨hW.J S hX,h0,?_,?_,hJ,hT,h7,λs T=>QO (ha.own s T) (Lx (qd a.ed s) oa) (λb hb hm=>?_)⟩,Y.J S gz⟩
    ·have h9:Zp [bl,bm] ↑w7 va vm ve a:=((((h.I hf).up (L':=[bl,bm]) (λb hb=>.inr (by simp only[oK,oH,or_false]at hb;omega))).I J).st (G.S od)).st (S.S od);exact h9.up od
    ·have h9:Qu [bl,bm] ↑w7 vu unc:=((((hu.I hf).up (L':=[bl,bm]) (λb hb=>.inr (by simp only[oK,oH,or_false]at hb;omega))).I J).st (G.S od)).st (S.S od);exact h9.up od
    have:=(Qj (ha.own s T) b hb).1;simp only[oF]at hm;omega
   refine Qf ?_;have U:i<a.ed.length:=by have h8:(i:Int)<(a.ed.length:Int):=hK;omega
   have ht:a.ed.take (i+1)=a.ed.take i++[a.ed[i]'U]:=Lj U;have hY:=hok.ed _ (Le U);refine Zg (a.ed[i]'U) λe he=>?_;rw[he]at ht hY;have hZ:e.2.2=(e.2.2.toNat:Int):=oa
   have hv:e.2.2.toNat<n:=oa
   have g2:=qd (a.ed.take i) e.2.2.toNat;rw[LC]at g2;have hL:=Qd0 (a.ed.take i) e hY.2.2.2.1;have g3:UP [bl,bm] ↑w7 ve a.ed:=((((h.ed.I hf).up (L':=[bl,bm]) (λb hb=>.inr (by simp only[oK,oH,or_false]at hb;omega))).I J).st (G.S od)).st (S.S od);refine Qd<|Qn<|Qc<|xie g3 O O U λk4 h8=>?_;rw[he]at h8;refine x (QA h8 O O)<|QN [sS 0,sS 0,sS 0] λg4 w8 g5 g6 g7=>Q2 (Qp e) g7 ox λw9 g8 hN=>xe ?_;have hw:sW w7 w9:=g5.Q g8 g6;have k5:=hw.size;have ga:=ha.I hw;have g9:=ga.own _ hv;have hA:∀b∈ob (rv e.2.2.toNat),↑w6<=b/\b<w7.heap.size:=λb hb=>⟨(Qj (ha.own _ hv) b hb).1,QU (ha.own _ hv) b hb⟩;have gb:bp∉ob (rv e.2.2.toNat):=λhb=>oo (hA _ hb)
   have gc:bm∉ob (rv e.2.2.toNat):=λhb=>oo (hA _ hb)
   have hO:g4∉ob (rv e.2.2.toNat):=λhb=>oo (hA _ hb)
   have ge:=((hW.J S hX).I hw);have gg:=hJ.I hw;have gh:=h7 e.2.2.toNat hv;rw[<-hZ]at gh;refine V3 (O5 (ob (rv e.2.2.toNat)) w9) [oz 0,oz 1,oz 2,oz 3,oz 4,oz 5,oz 6,oz 7,oz 8,oz 9,oz 10,oz 11,oz 12,oz 13,oz 14,oA 15,oA 16,oA 17] mixed oh oc (O5.X _ _) ?_;refine p Qx<|p (YL O)<|p (QH O)<|pq (λ_ E=>Ql (ge.J E gb) O O) <|
    p (QH rfl)<|pq (λ_ E=>Ql (hN.J E hO) O O)<|p Qx<|p (YL O)<|p (QH O) <|
    pq (λ_ E=>Ql (ge.J E gb) O O)<|p (QH O)<|pq (λ_ E=>Ql (hN.J E hO) O O) <|
    pq (λ_ E=>(Ji (k:=e.2.2) (gg.J E gc) O O).D (OV (λv=>Result.ok (Next.value v) _) gh))<|p (QH O)<|pq (λ_ E=>Ql (hN.J E hO) O O) <|
    pk<|Q9 [[sS e.1]] λk6 ka gi k9 kb=>⟨(O5.X _ _).D gi,?_⟩
   have ho:sW w9 ka:=(O5.X _ _).D gi;have ma:=ho.size;refine pk<|Q8 (m:=1) (news:=[sS e.1]) (Qm g9 ho) O O O (kb.at (L:=[]) od) om oa oa λhP mc kc hC ke=>⟨ho.any.V hC,?_⟩;have kf:=(gg.I ho).J hC gc;refine pkk<|YO (k:=e.2.2) kf O O λmf gj kg=>pe ?_;have kh:∀b∈ob hP,b∈ob (rv e.2.2.toNat)\/↑w9<=b:=λb hb=>(ke b hb).imp id (λh=>oa);have gk:=ga.app hv (Qi.snoc kc) (ho.any.V hC) kh;have gl:=gk.J gj (λi hi b hb=>by have:=(Qj (gk.own i hi) b hb).1;simp only[oF];omega);have ki:Xr (Y1 (a.ed.take i)) e.2.2.toNat (Y1 (a.ed.take i) e.2.2.toNat++[e.1])=Y1 (a.ed.take (i+1)):=by rw[ht];exact funext hL
   rw[ki]at gl;refine Qs<|QD O O<|Qa<|xe<|⟨(i+1,Xr rv e.2.2.toNat hP,xh m e.2.2 hP),oe,La,U,?_,kg,gl,λs T=>?_⟩
   ·exact(((S.D hw).D ho).O hC (λb hb=>.inr (hA b hb).1)).V gj
   simp only[];rw[Jk];by_cases gm:s=e.2.2.toNat
   ·subst gm;rw[OU hZ,Zy]
   rw[OT oa,ZQ _ _ gm];exact h7 s T
  refine Qf ?_;have hp:j<rm.length:=by have h6:(j:Int)<(rm.length:Int):=hI;omega
  have kj:=gn _ (Le hp);have ht:rm.take (j+1)=rm.take j++[rm[j]'hp]:=Lj hp;refine Zg (rm[j]'hp) λs T=>?_;rw[T]at kj ht;have hL:s=(s.toNat:Int):=oa
  have mg:((rm.take j).foldl cut (oG n true)).length=n:=by rw[yv];simp
  refine Qd<|Qn<|Qc<|xii (i:=j) ((hV.I J).st G) O O hp λmh h6=>?_;rw[T]at h6;refine x (Qr h6 O)<|Qb<|Qs<|Qa<|Z6 O<|Qq O (V.J G h0) O O<|Qa<|x (QF (i:=s.toNat) O (OV sS hL) oa) <|
   Qo<|zU (i:=s.toNat) Y O O oa λw7 S kk=>xe ?_
  refine Qs<|QD O O<|Qa<|xe<|⟨j+1,oa,La,hp,G.V S,?_⟩;rw[ht,Mj];exact kk
 refine Qf ?_;have U:k<n:=by have mj:(k:Int)<(n:Int):=hU;omega
 refine Qd<|Qn<|Qk<|Qb<|Qs<|Qa<|Z6 O<|Qq O (V.J h5 h0) O O<|Qa<|x (QF (i:=k) O O oa) <|
  Qo<|zU (i:=k) hH O O (by rw[QpC];exact U) λw6 G Y=>xe ?_
 have kn:(bA n (λi=>decide (i<k))).set k true=bA n (λi=>decide (i<k+1)):=QpB od (λi _ hi=>by
  by_cases e:i<k
  ·simp[e];omega
  simp[e];omega)
 rw[kn]at Y;refine Qs<|QD O O<|Qa<|xe ?_;exact⟨k+1,oa,La,U,h5.V G,Y⟩
theorem yH {r:LI}(h:i<l.length):O6 (l++r) i=O6 l i:=by
 unfold O6;simp[oO,Oa h]
theorem UD {q:Pz}(hA:PzA [] ↑w bp q)(hq:PzQ q)(hB:QL ↑w q.bl 4 (lf.map Value.bool))(hl:lf.length=q.n):
  QR sV 226 [sP bp] w λr w'=>sW w w'/\∃b,r=sL b q.n q.n/\↑w<=b/\QL ↑w' b 3 ((dsts q.a lf).map (Value.int .i64))/\(dsts q.a lf).length=q.n:=by
 have hn:=hq.n;have ku:=hq.ok.st1;have gb:=hq.ok.mr;have kv:=hq.ok.mr_le;have kw:=hq.ok.ed_le;have hM:q.a.st.toNat=q.n:=oa
 have gt:=Qpd (lf:=lf) hq.ok hn;have gc:(dsL q.a.ed lf q.n 0 (ds0 q.a lf)).1=dsts q.a lf:=by unfold dsts;rw[hM]
 refine Zg (dsts q.a lf) λDD gu=>?_;rw[gu]at gc ⊢;refine Zm func226 ?_;refine Qc<|Qb<|Qk<|Z6 O<|Zc O<|Qq O hA.B O O<|Qo<|YZ (n:=q.n) (OV sS hn) (OV sS hn) oa λbO w1 ge hC hN=>Qb ?_;rw[QgI]at hN;refine Qd<|Qk<|QG (L:=[]) (hN.arr od (n:=q.n) (cap:=q.n) (sz:=1) (by simp[gA]) oa (Lp _)) rfl<|Qa<|xe<|QW (α:=Nat) [(4,4),(19,25)] (λz=>[(19,sS z)]) (λz w'=>z<=q.n/\sW w w'/\QL ↑w' bO 3 ((gA q.n (λj=>if j<z then -1 else 0)).map (Value.int .i64))) (λz=>q.n - z) 0 La ⟨Lo _,ge,hN⟩ ?_
 rintro j g G ⟨hj,hh,h0⟩;refine Zk rfl O (λhO=>?_) (λhO=>?_)
 ·refine Qt ?_;have hP:j=q.n:=by have gv:¬(j:Int)<(q.n:Int):=hO;omega
  have gx:gA q.n (λi=>if i<j then -1 else 0)=((q.a.mr.take 0).foldl (ds1 lf) (oG q.n (-1),[])).1:=by
   apply LX
   ·simp[gA]
   intro i h1 h2;have:i<q.n:=by simpa[gA]using h1
   simp[gA];omega
  rw[gx]at h0;refine Qc<|Qb<|Qd<|Qk<|Z6 O<|Zc O<|Qq O (hA.I hh).B O O<|QG (hA.I hh).a.mr O<|Qa<|xe<|QW (α:=Nat×O2) [(5,5),(7,7),(32,50)] (λz=>[(5,z.2),(32,sS z.1)]) (λz w'=>z.1<=q.a.mr.length/\sW w w'/\G.heap.size<=↑w'/\QL ↑w' bO 3 (((q.a.mr.take z.1).foldl (ds1 lf) (oG q.n (-1),[])).1.map (Value.int .i64)) /\
   Qi 3 ↑G w' z.2 ((q.a.mr.take z.1).foldl (ds1 lf) (oG q.n (-1),[])).2) (λz=>q.a.mr.length - z.1) (0,nS) ov ⟨Lo _,hh,Lp _,h0,QM _ _ _ _⟩ ?_
  rintro⟨k,vl⟩ g w3 ⟨hk,h3,gg,ho,ha⟩;simp only[]at hk ho ha;have gh:=QcI (lf:=lf) (λx hx=>(gb x hx).1) k;rw[hM]at gh;refine Zk O O (λhQ=>?_) (λhQ=>?_)
  ·refine Qt ?_;have gy:q.a.mr.length<=k:=by have hD:¬(k:Int)<(q.a.mr.length:Int):=hQ;omega
   have e0:(q.a.mr.take k).foldl (ds1 lf) (oG q.n (-1),[])=ds0 q.a lf:=by rw[Lq gy];unfold ds0;rw[hM]
   rw[e0]at ho ha;have gz:bO<G.heap.size:=h0.lt;refine Qd<|Qc<|Qb<|QW (α:=Nat×Nat×O2×LI×LI) [(5,5),(8,8),(10,10),(51,100)] (λz=>[(5,z.2.2.1),(8,sS z.2.1)])
    (λz w'=>sW w w'/\G.heap.size<=↑w'/\QL ↑w' bO 3 (z.2.2.2.1.map (Value.int .i64))/\Qi 3 ↑G w' z.2.2.1 z.2.2.2.2/\DsI q.n z.2.2.2/\z.1+z.2.1=q.n/\(dsL q.a.ed lf z.1 z.2.1 z.2.2.2).1=DD) (λz=>q.n - z.2.1) (q.n,0,vl,(ds0 q.a lf).1,(ds0 q.a lf).2) ov
    ⟨h3,gg,ho,ha,gt,O,gc⟩ ?_
   rintro⟨f,i,vl,o,l⟩ g w4 ⟨hf,hR,h4,S,hp,g0,T⟩;simp only[]at hR h4 S hp g0 T;have g2:=hp.le;have gi:=hp.ok.len;simp only[]at g2 gi;have hF:=hA.I hf;refine Qd<|Qk<|Qa<|QG (L:=[]) (QO S oa od) rfl<|ZX rfl rfl<|xe<|Zr O (λhS=>?_) (λhS=>?_)
   ·refine Qt ?_;have g3:¬i<l.length:=by have g4:¬(i:Int)<(l.length:Int):=hS;omega
    rw[Qj4 g3]at T;simp only[]at T;subst T;refine Qk<|Qb<|Qh ⟨[sL bO q.n q.n],La,hf,bO,O,hC,h4,gi⟩
   refine Qf ?_;have hr:i<l.length:=by have g4:(i:Int)<(l.length:Int):=hS;omega
   refine Exists.elim (Nl (show f≠0 by omega)) λf' g5=>?_;subst g5;rw[dsL,OU hr]at T;have gj:=ZA hr;have hsr:=hp.ok.q _ (Xv hr);have hT:=hp.s0 _ (Xv hr);refine Zg (O6 l i) λs hs=>?_;rw[hs]at T hsr gj;simp only[]at hsr hT;rw[hs]at hT;have gk:s=(s.toNat:Int):=oa
   have gl:=hF.g s.toNat oa;rw[<-gk]at gl;have g6:=hF.R s.toNat oa;have kx:=qd q.a.ed s.toNat;refine Qd<|Qn<|Qd<|ZL [] (Xg 0 11 [])<|p Qx<|p (YL O)<|p (QH O)<|pq (λ_ U=>Ql (hF.B.I U) O O)<|p Qx<|p Qx <|
    pii (i:=i) O (QO (L:=[]) S oa od) rfl rfl hr λkz gm=>?_
   rw[gj]at gm;refine pq (λ_ U=>Qr (gm.I U) O)<|pq (λ_ U=>(Ji (k:=s) (hF.M.I U) O O).D (OV (λv=>Result.ok (Next.value v) _) gl))<|p (λ_=>YY g6 O)<|p Qx<|pe ?_;have hG:sW w4 { w4 with drawn:=w4.drawn+1 }:=O5.X _ _
   refine QW (α:=Nat×O2×LI×LI) [(5,5),(10,10),(67,100)] (λz=>[(5,z.2.1),(67,sS z.1)])
    (λz w'=>z.1<=(Y1 q.a.ed s.toNat).length/\sW w w'/\G.heap.size<=↑w'/\QL ↑w' bO 3 (z.2.2.1.map (Value.int .i64))/\Qi 3 ↑G w' z.2.1 z.2.2.2/\DsI q.n z.2.2/\0<=O6 z.2.2.1 s.toNat/\i<z.2.2.2.length/\O6 z.2.2.2 i=s /\
     ((Y1 q.a.ed s.toNat).drop z.1).foldl (dsE lf s) z.2.2=(Y1 q.a.ed s.toNat).foldl (dsE lf s) (o,l)) (λz=>(Y1 q.a.ed s.toNat).length - z.1) (0,vl,o,l) ov
    ⟨Lo _,hf.D hG,Lx hR hG.size,h4.I hG,Qm S hG,hp,hT,hr,hs,O⟩ ?_
   rintro⟨m,hH,o2,l2⟩ g w5 ⟨hm,E,hI,ht,hu,hg,hU,h5,hJ,I⟩;simp only[]at hm hI ht hu hg hU h5 hJ I;have gn:=hA.I E;have g7:=hg.le;have g8:=hg.ok.len;simp only[]at g7 g8;refine Zk O O (λhV=>?_) (λhV=>?_)
   ·refine Qt ?_;have g9:(Y1 q.a.ed s.toNat).length<=m:=by have hK:¬(m:Int)<((Y1 q.a.ed s.toNat).length:Int):=hV;omega
    rw[Lr g9]at I;simp only[List.foldl_nil]at I;rw[<-I]at T;refine Qs<|Qa<|QD O O<|Qb<|⟨(f',i+1,hH,o2,l2),oe,ov,E,hI,ht,hu,hg,oe,T⟩
   refine Qf ?_;have hv:m<(Y1 q.a.ed s.toNat).length:=by have hK:(m:Int)<((Y1 q.a.ed s.toNat).length:Int):=hV;omega
   have go:=QgJ (Le hv);have ka:=QY hv;rw[ka,LO]at I;refine Zg ((Y1 q.a.ed s.toNat)[m]'hv) λy hy=>?_;rw[hy]at go I;have kb:0<=y/\y<(q.n:Int):=by
    obtain⟨e,he,h1,_⟩:=go;have:=hq.ok.ed e he;omega
   have hw:y=(y.toNat:Int):=oa
   have h6:y.toNat<o2.length:=oa
   have hW:s.toNat<o2.length:=oa
   have kc:=hg.ok.le _ (Xv hW);simp only[]at kc;have hE:=Qj5 (lf:=lf) hg hsr hU kb;have ke:=qb (l:=lf) (s:=y) oa;refine Qd<|Qn<|Qc<|xii (i:=m) ((gn.R s.toNat oa)) O O hv λk0 hK=>?_;rw[hy]at hK;refine x (Qr hK O)<|Qb<|QX (α:=Bool) [(71,84)] (λz=>[(84,.bool z)]) (λz w'=>w'=w5/\z=(lft lf y && decide (O6 o2 y.toNat<0))) oh ?_ ?_
   ·refine Qs<|Qa<|Z6 O<|Qq O gn.B O O<|Qa<|x (QF (i:=y.toNat) O (OV sS hw) oa)<|x (JO (i:=y.toNat) (hB.I E) O oa)<|?_;rw[ke];cases lft lf y with
    | true =>
     refine Qa<|Qa<|Qa<|x (QF (i:=y.toNat) O (OV sS hw) oa)<|x (zh (i:=y.toNat) ht O h6)<|ZX O O<|QB O<|xe ?_;exact⟨_,La,O,by rw[ZA h6];rfl⟩
    | false =>
     refine Qa<|Zq<|Yf<|QB O<|xe ?_;exact⟨_,La,O,O⟩
   rintro z g k4 ⟨rfl,rfl⟩;refine Q6 O (λh7=>?_) (λh7=>?_)
   ·rw[LB,decide_eq_true_eq]at h7;have hX:dsE lf s (o2,l2) y=(o2.set y.toNat (O6 o2 s.toNat+1),l2++[y]):=by unfold dsE;rw[OU h7]
    rw[hX]at I hE;have kf:=ZA hW;have gq:=ZA h5;rw[hJ]at gq;refine Qk<|Qa<|Qa<|Qa<|Qa<|xii (i:=i) (QO (L:=[]) hu oa od) rfl rfl h5 λk5 gr=>?_;rw[gq]at gr;refine x (Qr gr O)<|x (QF (i:=s.toNat) O (OV sS gk) oa)<|x (zh (i:=s.toNat) ht O hW)<|x (Xp O O ⟨oa,oa⟩) <|
     x (QF (i:=y.toNat) O (OV sS hw) oa)<|Qo<|Ka (i:=y.toNat) ht O O h6 λw6 J hL=>xe ?_
    rw[kf]at hL;have kg:=J.size;have kh:∀b∈ob hH,b∉[bO]:=λb hb=>by have:=Qj hu b hb;simp only[oF];omega
    have h8:Qi 3 ↑G w6 hH l2:=Qg hu J kh;have ki:sW w w6:=E.Q J hC;refine Qs<|Qa<|Qa<|Qo<|Q9 [[sS y]] λk6 w7 h9 k9 kj=>Qo<|Q8 (m:=1) (news:=[sS y]) (Qm h8 h9) O O O (kj.at (L:=[]) od) om oa (oo h9.size) λhY w8 kk hZ ma =>
     Qb ?_
    have mc:=h9.size;have mf:=hZ.size;refine Qs<|QD O O<|Qa<|xe<|⟨(m+1,hY,_,l2++[y]),oe,ov,hv,(ki.D h9).O hZ (λb hb=>.inr (ot (Qj h8 b hb) ge.size hh.size)),oa,(hL.I h9).J hZ (λhb=>oo (Qj h8 _ hb)),Qi.snoc kk,hE.1,hE.2,by simp only[oM];omega,by rw[yH h5];exact hJ,I⟩
   have hX:dsE lf s (o2,l2) y=(o2,l2):=by
    unfold dsE;rw[OT];intro U;rw[U.1,OX U.2]at h7;cases h7
   rw[hX]at I;refine Qf<|Qs<|QD O O<|Qa<|xe ?_;exact⟨(m+1,hH,o2,l2),oe,ov,hv,E,hI,ht,hu,hg,hU,h5,hJ,I⟩
  refine Qf ?_;have V:k<q.a.mr.length:=by have hD:(k:Int)<(q.a.mr.length:Int):=hQ;omega
  have kn:=gb _ (Le V);have ko:q.a.mr.take (k+1)=q.a.mr.take k++[q.a.mr[k]'V]:=Lj V;have Y:(q.a.mr.take (k+1)).foldl (ds1 lf) (oG q.n (-1),[])=ds1 lf ((q.a.mr.take k).foldl (ds1 lf) (oG q.n (-1),[])) (q.a.mr[k]'V):=by rw[ko,Mj];rfl
  have kq:((q.a.mr.take k).foldl (ds1 lf) (oG q.n (-1),[])).1.length=q.n/\((q.a.mr.take k).foldl (ds1 lf) (oG q.n (-1),[])).2.length<=q.a.mr.length:=by
   rw[gh];exact⟨UJ _ _,Lx (LJ _ _) (by rw[LC];omega)⟩
  refine Zg ((q.a.mr.take k).foldl (ds1 lf) (oG q.n (-1),[])) λz hz=>?_;rw[hz]at ho ha Y kq;refine Zg (q.a.mr[k]'V) λy hy=>?_;rw[hy]at kn Y;have hw:y=(y.toNat:Int):=oa
  have h6:y.toNat<z.1.length:=oa
  have gs:=hA.I h3;refine Qd<|Qn<|Qc<|xii (i:=k) gs.a.mr O O V λmg hD=>?_;rw[hy]at hD;refine x (Qr hD O)<|Qb<|Qk<|Z6 O<|Qq O gs.B O O<|Qa<|x (QF (i:=y.toNat) O (OV sS hw) oa)<|x (JO (i:=y.toNat) (hB.I h3) O oa)<|xe ?_;rw[(qb (l:=lf) (s:=y) oa)];refine Q6 O (λga=>?_) (λga=>?_)
  ·have e1:ds1 lf z y=(z.1.set y.toNat 0,z.2++[y]):=by unfold ds1;rw[OU ga]
   rw[e1]at Y;refine Qk<|Qa<|x (QF (i:=y.toNat) O (OV sS hw) oa)<|Qo<|Ka (i:=y.toNat) ho O O h6 λw4 hf h4=>xe ?_;have hR:=hf.size;have gz:bO<G.heap.size:=h0.lt;have S:Qi 3 ↑G w4 vl z.2:=Qg ha hf (λb hb=>by have:=Qj ha b hb;simp only[oF];omega);refine Qs<|Qa<|Qa<|Qo<|Q9 [[sS y]] λmh w5 E mj kr=>Qo<|Q8 (m:=1) (news:=[sS y]) (Qm S E) O O O (kr.at (L:=[]) od) om oa (oo E.size) λhY w6 h8 J mo =>
    Qb ?_
   have hI:=E.size;have kg:=J.size;refine Qs<|QD O O<|Qa<|xe<|⟨(k+1,hY),oe,ov,V,((h3.Q hf hC).D E).O J (λb hb=>.inr (oq (Qj S b hb) hh.size)),oa,?_,?_⟩
   ·simp only[];rw[Y];exact(h4.I E).J J (λhb=>oo (Qj S _ hb))
   simp only[];rw[Y];exact Qi.snoc h8
  have e1:ds1 lf z y=z:=by unfold ds1;rw[OT (by rw[ga];decide)]
  rw[e1]at Y;refine Qf<|Qs<|QD O O<|Qa<|xe ?_;exact⟨(k+1,vl),oe,ov,V,h3,gg,by simp only[];rw[Y];exact ho,by simp only[];rw[Y];exact ha⟩
 refine Qf ?_;have hP:j<q.n:=by have gv:(j:Int)<(q.n:Int):=hO;omega
 refine Qd<|Qn<|Qk<|Qb<|Qs ?_;have kt:(gA q.n (λi=>if i<j then -1 else 0)).set j (-1)=gA q.n (λi=>if i<j+1 then -1 else 0):=Qd5 (by rw[OU oa]) (λi _ hi=>by
  by_cases e:i<j
  ·rw[OU e,OU oa]
  rw[OT e,OT oa])
 refine Qa<|Qa<|x (QF (i:=j) O O oa)<|Qo<|zV (i:=j) h0 O O hP kt λw6 J hL=>xe ?_;refine Qs<|QD O O<|Qa<|xe ?_;exact⟨j+1,oa,La,hP,hh.Q J hC,hL⟩
abbrev rmC (rk rs:Int)(x:Int×Int):LV:=[sS x.1,sS rk,sS rs,sS x.2]
theorem Qe2 (rk rs:Int)(x:Int×Int):(rmC rk rs x).length=4:=rfl
abbrev RmO (base:Nat)(w:O1)(v:O2)(rk rs:Int)(l:xw):Prop:=w.ownsRow base 323 4 v l.length (l.flatMap (rmC rk rs))
theorem RmO.snoc {v:O2}{rk rs:Int}{l:xw}{x:Int×Int}(h:w.ownsRow base 323 4 v (l.length+1) (l.flatMap (rmC rk rs)++rmC rk rs x)):RmO base w v rk rs (l++[x]):=by
 unfold RmO;rw[Lc,LD];simpa using h
theorem Qi5 {k:Nat}(h:k<a.ed.length):(a.ed.take (k+1)).foldl (K8 ul lf) []=K8 ul lf ((a.ed.take k).foldl (K8 ul lf) []) (a.ed[k]'h):=by
 rw[Lj h,Mj];rfl
theorem QiB {q:Pz}(hA:PzA [] ↑w bp q)(hq:PzQ q)(hB:QL ↑w q.bl 4 (lf.map Value.bool))(hl:lf.length=q.n)(rk:Int):
  QR sV 263 [sP bp,sS rk] w λr w'=>sW w w'/\RmO ↑w w' r rk 2 (lost q.a q.unc lf):=by
 have hn:=hq.n;have hQ:=hq.ok.ed_le;refine Zm func263 ?_;refine Qc<|Qb<|Qc<|Qb<|Qd<|Qk<|Z6 O<|Zc O<|Qq O hA.B O O<|QG hA.a.ed O<|Qa<|xe<|QW (α:=Nat×O2) [(5,5),(7,8),(15,72)] (λz=>[(5,z.2),(15,sS z.1)]) (λz w'=>z.1<=q.a.ed.length/\sW w w'/\RmO ↑w w' z.2 rk 2 ((q.a.ed.take z.1).foldl (K8 q.unc lf) [])) (λz=>q.a.ed.length - z.1) (0,nS) ov ⟨Lo _,O5.Y _ _,QM _ _ _ _⟩ ?_;rintro⟨k,vo⟩ g w1 ⟨hk,hh,T⟩;have hj:=(z1 (a:=q.a) (ul:=q.unc) (lf:=lf) (q.a.ed.take k) [] (λe U=>L3 U) (λp hp=>by cases hp)).2;rw[LC]at hj;refine Zk rfl O (λhm=>?_) (λhm=>?_)
 ·refine Qt ?_;have hD:q.a.ed.length<=k:=by have V:¬(k:Int)<(q.a.ed.length:Int):=hm;omega
  rw[Lq hD]at T;refine Qk<|Qb<|Qh ⟨[_],La,hh,T⟩
 refine Qf ?_;have I:k<q.a.ed.length:=by have V:(k:Int)<(q.a.ed.length:Int):=hm;omega
 have hE:=hq.ok.ed _ (Le I);have G:=Qi5 (ul:=q.unc) (lf:=lf) I;refine Zg ((q.a.ed.take k).foldl (K8 q.unc lf) []) λout hout=>?_;rw[hout]at T G hj;refine Zg (q.a.ed[k]'I) λe U=>?_;rw[U]at hE G;simp only[List.length_nil]at hj;have hF:e.1=(e.1.toNat:Int):=oa
 have hG:e.2.2=(e.2.2.toNat:Int):=oa
 refine Qd<|Qn<|Qc<|xie (hA.I hh).a.ed O O I λhR V=>?_;rw[U]at V;refine x (QA V O O)<|QN [sS 0,sS 0,sS 0] λb7 w2 hH hI J=>Q2 (Qp e) J ox λw3 hJ Y=>xe ?_;have h3:sW w1 w3:=hH.Q hJ hI;have ho:=hh.D h3;have ha:=hA.I ho;have h4:=hB.I ho;refine Qd<|QX (α:=Bool) [(19,47)] (λz=>[(47,.bool z)]) (λz w'=>sW w3 w'/\(z=true↔(lft lf e.1=false\/lft lf e.2.2=true\/e.2.1∉q.unc))) oh ?_ ?_
 ·refine ZL [] (Xg 0 29 [26])<|p Qx<|p (YL O)<|p (QH O)<|pq (λ_ E=>Ql (ha.B.I E) O O)<|p (QH O)<|pq (λ_ E=>Ql (Y.I E) O O) <|
   p (λ_=>QF (i:=e.1.toNat) O (OV sS hF) oa)<|pq (v:=.bool (lft lf e.1)) (λ_ E=>(JO (i:=e.1.toNat) (h4.I E) O oa).D (by rw[(qb (l:=lf) (s:=e.1) oa)]))<|pB (λ_=>Zl rfl) (λS=>?_) (λS=>?_)
  ·refine p Qx<|ps<|ps<|ps<|ps<|ps<|ps<|ps<|ps<|p (Ys O)<|p Qx<|ps<|ps<|ps<|ps<|ps<|ps<|ps<|ps<|p (Ys O)<|pe ?_;exact⟨_,La,O5.X _ _,by simp at S;simp[S]⟩
  refine p Qx<|p Qx<|p (YL O)<|p (QH O)<|pq (λ_ E=>Ql (ha.B.I E) O O)<|p (QH O)<|pq (λ_ E=>Ql (Y.I E) O O) <|
   p (λ_=>QF (i:=e.2.2.toNat) O (OV sS hG) oa)<|?_
  refine pqB (b:=lft lf e.2.2) (λ_ E=>(JO (i:=e.2.2.toNat) (h4.I E) O oa).D (by rw[(qb (l:=lf) (s:=e.2.2) oa)])) (λhr=>?_) (λhr=>?_)
  ·refine p (Ys O)<|p Qx<|ps<|ps<|ps<|ps<|ps<|ps<|ps<|ps<|p (Ys O)<|pe ?_;exact⟨_,La,O5.X _ _,by simp[hr]⟩
  refine p (Ys O)<|p Qx<|p Qx<|p (YL O)<|p (QH O)<|pq (λ_ E=>Ql (ha.B.I E) O O) <|
   p (QH rfl)<|pq (λ_ E=>Ql (Y.I E) O O)<|pk<|xg<|(ZK (ha.u.I (O5.X _ _)) e.2.1).S ?_
  rintro r4 w4 ⟨rfl,rfl⟩;refine⟨O5.X _ _,?_⟩;refine p (λ_=>zQ O)<|p (Ys O)<|pe ?_;exact⟨_,La,O5.X _ _,by simp at S;simp[S,hr]⟩
 rintro z g w4 ⟨hs,hz⟩;have h5:=ho.D hs;have ht:=Qm (Qm T h3) hs;have J:=Y.I hs;refine Q6 rfl (λhf=>?_) (λhf=>?_)
 ·refine Qt ?_;have e1:K8 q.unc lf out e=out:=by unfold K8;rw[OU (hz.1 hf)]
  rw[e1]at G;refine Qs<|QD O O<|Qa<|xe ?_;exact⟨(k+1,vo),oe,ov,I,h5,by simp only[];rw[G];exact ht⟩
 refine Qf ?_;have h6:¬(lft lf e.1=false\/lft lf e.2.2=true\/e.2.1∉q.unc):=λh=>by rw[hz.2 h]at hf;cases hf
 have h7:Zt [] ↑w4 vo out.length 4 (out.flatMap (rmC rk 2)):=QO ht oa od;refine Qd<|Qk<|QG h7 O<|Qb<|QX (α:=Bool) [(50,62)] (λz=>[(62,.bool z)]) (λz w'=>sW w4 w'/\(z=true↔out.getLast?.map (·.1)=some e.1)) oh ?_ ?_
 ·refine ZL [] (Xg 0 13 [])<|p Qx<|pb (λ_=>Ya O O) (λhu=>?_) (λhu=>?_)
  ·have hS:0<out.length:=by have hK:(0:Int)<(out.length:Int):=hu;omega
   have h8:out.getLast?=some (out[out.length - 1]'oa):=by rw[List.getLast?_eq_getElem?,LE]
   refine Zg (out[out.length - 1]'oa) λy hy=>?_;rw[hy]at h8;refine p Qx<|p Qx<|p Qx<|p (λ_=>Jq O O ⟨oa,oa⟩)<|Go.Lg.pig (g:=rmC rk 2) (i:=out.length - 1) O (Qe2 rk 2) h7 O (OV sS (show(out.length:Int) - 1=((out.length - 1:Nat):Int) by omega)) oa λhT h9=>?_;rw[hy]at h9;refine p (λ_=>ZI O)<|pq (λ_ E=>Qr ((h9.fld 0 (sS y.1) O).I E) O)<|p (QH O)<|pq (λ_ E=>Ql (J.I E) O O) <|
    p (λ_=>Zd O O)<|p (Ys O)<|pe ?_
   exact⟨_,La,O5.X _ _,by rw[h8];simp⟩
  have h0:out=[]:=Lt (by have hK:¬(0:Int)<(out.length:Int):=hu;omega);refine p Qx<|ps<|ps<|ps<|ps<|ps<|ps<|ps<|ps<|ps<|p (Ys O)<|pe ?_;exact⟨_,La,O5.X _ _,by simp[h0]⟩
 rintro z2 g w5 ⟨hv,hC⟩;have hw:=h5.D hv;have h1:=Qm ht hv;have J:=J.I hv;refine Q6 rfl (λhg=>?_) (λhg=>?_)
 ·refine Qt ?_;have e1:K8 q.unc lf out e=out:=by unfold K8;rw[OT h6,OU (hC.1 hg)]
  rw[e1]at G;refine Qs<|QD O O<|Qa<|xe ?_;exact⟨(k+1,vo),oe,ov,I,hw,by simp only[];rw[G];exact h1⟩
 refine Qf ?_;have hL:¬out.getLast?.map (·.1)=some e.1:=λh=>by rw[hC.2 h]at hg;cases hg
 have e1:K8 q.unc lf out e=out++[(e.1,e.2.1)]:=by unfold K8;rw[OT h6,OT hL]
 rw[e1]at G;refine Qs<|Qa<|Qq O J O O<|Qa<|Qq O J O O<|x (QE ⟨O,O,O,O,Z⟩) <|
  Qo<|Q9 [rmC rk 2 (e.1,e.2.1)] λhU w6 h2 hV hM =>
  Qo<|Q8 (m:=1) (news:=rmC rk 2 (e.1,e.2.1)) (Qm h1 h2) O O O (hM.at (L:=[]) od) om oa (oq hw.size h2.size) λhN w7 hO hP hW=>Qb<|Qs<|QD O O<|Qa<|xe ?_
 exact⟨(k+1,hN),oe,ov,I,(hw.D h2).O hP (λb hb=>.inr (Qj h1 b hb).1),by simp only[];rw[G];exact RmO.snoc hO⟩
theorem Qad (lf:Lf)(d:Int):∀(l:LI) (i:Nat),VA lf i (l++[d])=VA lf i l++if lf.getD (i+l.length) false=true/\d<0 then[((i+l.length:Nat):Int)]else[]
 | [],i=>by
  simp only[On,VA,List.length_nil,Ox]
 | a::l,i=>by
  have ih:=Qad lf d l (i+1);rw[show i+1+l.length=i+(a::l).length by simp;omega]at ih;simp only[oZ,VA,ih];by_cases h:lf.getD i false=true/\a<0
  ·rw[OU h,OU h,Mu]
  rw[OT h,OT h]
abbrev blP (l:LI):xw:=l.map λs=>(s,-1)
theorem Qca {q:Pz}(hA:PzA [] ↑w bp q)(T:PzQ q)(hB:QL ↑w q.bl 4 (lf.map Value.bool))(hl:lf.length=q.n)(rk:Int):
  QR sV 264 [sP bp,sS rk] w λr w'=>sW w w'/\RmO ↑w w' r rk 3 (blP (VA lf 0 (dsts q.a lf)))/\(VA lf 0 (dsts q.a lf)).length<=q.n:=by
 have hn:=T.n;have h0:=T.ok.st1;refine Zm func264 ?_;refine Qc<|Qb<|Qc<|Qb<|Qd<|Qk<|Qv<|(UD hA T hB hl).S ?_;rintro r1 U ⟨hg,b,rfl,hb,hh,V⟩;refine Zg (dsts q.a lf) λD hD=>?_;rw[hD]at hh V ⊢;have hj:Qu [] ↑U (sL b q.n q.n) D:=by
  have h:=hh.arr (L:=[]) od (n:=q.n) (cap:=q.n) (sz:=1) (by simp[V]) oa (Lp _);unfold Qu;rw[V];exact h
 refine QG hj O<|Qa<|xe<|QW (α:=Nat×O2) [(5,7),(11,33)] (λz=>[(5,z.2),(11,sS z.1)]) (λz w'=>z.1<=D.length/\sW U w'/\RmO ↑U w' z.2 rk 3 (blP (VA lf 0 (D.take z.1)))) (λz=>D.length - z.1) (0,nS) ov ⟨Lo _,O5.Y _ _,QM _ _ _ _⟩ ?_;rintro⟨k,vo⟩ g w2 ⟨hk,J,I⟩;have hm:=(UK lf (D.take k) 0).2;rw[LC]at hm;have Y:=hg.D J;refine Zk rfl O (λha=>?_) (λha=>?_)
 ·refine Qt ?_;have hp:D.length<=k:=by have hr:¬(k:Int)<(D.length:Int):=ha;omega
  rw[Lq hp]at I;refine Qk<|Qb<|Qh ⟨[_],La,Y,Zf I hg.size,oo (UK lf D 0).2⟩
 refine Qf ?_;have E:k<D.length:=by have hr:(k:Int)<(D.length:Int):=ha;omega
 have hs:D.take (k+1)=D.take k++[D[k]'E]:=Lj E;have G:=Qad lf (D[k]'E) (D.take k) 0;rw[<-hs,LC,LU,MZ oa]at G;refine Zg (D[k]'E) λd hd=>?_;rw[hd]at G;refine Zg (VA lf 0 (D.take k)) λout hout=>?_;rw[hout]at G I hm;have hc:k<lf.length:=oa
 have ht:lf[k]'hc=lf.getD k false:=by simp[oO,hc]
 refine Qd<|Qn<|Qk<|xii (i:=k) (hj.I J) O O E λh1 ho=>?_;rw[hd]at ho;refine x (Qr ho O)<|x Qe<|Qb<|QX (α:=Bool) [(16,26)] (λz=>[(26,.bool z)]) (λz w'=>w'=w2/\(z=true↔lf.getD k false=true/\d<0)) oh ?_ ?_
 ·refine Qs<|Qa<|Z6 O<|Qq O (hA.I Y).B O O<|Qa<|x (QF (i:=k) O O oa)<|xB (b:=lf.getD k false) ((JO (i:=k) (hB.I Y) O hc).D (by rw[ht])) (λhe=>?_) (λhe=>?_)
  ·refine Qa<|Qa<|ZX O O<|QB O<|xe ?_;exact⟨_,La,O,by rw[he];simp⟩
  refine Qa<|Yf<|QB O<|xe ?_;exact⟨_,La,O,by rw[he];simp⟩
 rintro z g w3 ⟨rfl,hz⟩;refine Q6 rfl (λS=>?_) (λS=>?_)
 ·rw[OU (hz.1 S)]at G;refine Qs<|Qa<|Qa<|Qa<|x (QE ⟨O,O,O,O,Z⟩)<|Qo<|Q9 [rmC rk 3 ((k:Int),-1)] λh2 w4 hf h3 hu =>
   Qo<|Q8 (m:=1) (news:=rmC rk 3 ((k:Int),-1)) (Qm I hf) O O O (hu.at (L:=[]) od) om (by rw[Ll];omega) (oq J.size hf.size) λhv w5 hw hy h4=>Qb<|Qs<|QD O O<|Qa<|xe ?_
  refine⟨(k+1,hv),oe,ov,E,(J.D hf).O hy (λb hb=>.inr (Qj I b hb).1),?_⟩;simp only[];rw[G,show blP (out++[(k:Int)])=blP out++[((k:Int),-1)] by simp];exact RmO.snoc hw
 rw[OT (λh=>by rw[hz.2 h]at S;cases S),LF]at G;refine Qf<|Qs<|QD O O<|Qa<|xe ?_;exact⟨(k+1,vo),oe,ov,E,J,by simp only[];rw[G];exact I⟩
def nxR (a:Qz)(ul:LI)(lf:Lf):Int×xw:=if(lost a ul lf).length≠0 then(2,lost a ul lf) else(3,blP (VA lf 0 (dsts a lf)))
theorem Ql0 (a:Qz)(ul:LI)(lf:Lf):(nxR a ul lf).2.map (·.1)=nxs a ul lf:=by
 unfold nxR nxs;split
 ·rfl
 rw[Mw];exact List.map_id _
theorem QiA {q:Pz}(hA:PzA [] ↑w bp q)(G:PzQ q)(U:QL ↑w q.bl 4 (lf.map Value.bool))(hl:lf.length=q.n)(rk:Int):
  QR sV 223 [sP bp,sS rk,.bool true] w λr w'=>sW w w'/\RmO ↑w w' r rk (nxR q.a q.unc lf).1 (nxR q.a q.unc lf).2/\(nxR q.a q.unc lf).2.length<=1000000:=by
 have ha:=(QaT q.a q.unc lf).2;have hh:=G.ok.ed_le;have hn:=G.n;have hj:=G.ok.st1;have E:nxR q.a q.unc lf=if(lost q.a q.unc lf).length≠0 then(2,lost q.a q.unc lf) else(3,blP (VA lf 0 (dsts q.a lf))):=rfl
 refine Zg (nxR q.a q.unc lf) λNR hc=>?_;rw[hc]at E ⊢;refine Zm func223 ?_;refine Qc<|Qb<|Qd<|Qk<|Qa<|Qv<|(QiB hA G U hl rk).S ?_;rintro r1 w1 ⟨I,S⟩;refine Zg (lost q.a q.unc lf) λL hL=>?_;rw[hL]at S E ha;refine Qb<|QX (α:=Bool) [(11,17)] (λz=>[(17,.bool z)]) (λz w'=>w'=w1/\(z=true↔L.length≠0)) oh ?_ ?_
 ·refine Qs<|Qa<|QG (L:=[]) (QO S oa od) rfl<|xb (Ya rfl rfl) (λT=>?_) (λT=>?_)
  ·refine Qa<|Yf<|QB O<|xe ?_;exact⟨_,La,O,by have V:(0:Int)<(L.length:Int):=T;simp;intro e;subst e;simp at V⟩
  refine Qa<|Qa<|x (Zl O)<|QB O<|xe ?_;have V:¬(0:Int)<(L.length:Int):=T;have he:L.length=0:=oa
  exact⟨_,La,O,by rw[he];simp⟩
 rintro z g w2 ⟨rfl,Y⟩;refine Q6 rfl (λJ=>?_) (λJ=>?_)
 ·rw[OU (Y.1 J)]at E;refine Qk<|Qb ?_;subst E;exact Qh ⟨[_],La,I,S,by show L.length<=_;omega⟩
 rw[OT (λh=>by rw[Y.2 h]at J;cases J)]at E;refine Qf<|Qk<|Qa<|Qv<|(Qca (hA.I I) G (U.I I) hl rk).S ?_;rintro r3 w3 ⟨hf,hg,hk⟩;refine Qb ?_;subst E;exact Qh ⟨[_],La,I.D hf,Zf hg I.size,by show(blP _).length<=_;rw[Ll];omega⟩
structure JC (base:Nat)(w:O1)(n:Nat)(f:Nat->O2)(g:Nat->List Ed):Prop where
 own:∀i,i<n->Yd 179 base w (f i) (g i)
 dj:∀i j,i<n->j<n->i≠j->Dj (f i) (f j)
theorem JC.app {f:Nat->O2}{g:Nat->List Ed}{l:List Ed}(h:JC base w n f g)(hi:i<n)(T:Yd 179 base w' v' l)(U:O5 (ob (f i)) w w')
  (V:∀b∈ob v',b∈ob (f i)\/↑w<=b):JC base w' n (Xr f i v') (Xr g i l):=by
 refine⟨λj E=>?_,λj k E I G=>?_⟩
 ·by_cases e:j=i
  ·subst e;rw[Zy,Zy];exact T
  rw[ZQ _ _ e,ZQ _ _ e];exact Qg (h.own j E) U (h.dj j i E hi e)
 have key:∀j,j<n->j≠i->Dj v' (f j):=λj E e b hb J=>by
  rcases V b hb with S|S
  ·exact h.dj i j hi E (Ne.symm e) b S J
  have:=QU (h.own j E) b J;omega
 by_cases e1:j=i
 ·subst e1;rw[Zy,ZQ _ _ (Ne.symm G)];exact key k I (Ne.symm G)
 rw[ZQ _ _ e1];by_cases e2:k=i
 ·subst e2;rw[Zy];exact(key j E e1).symm
 rw[ZQ _ _ e2];exact h.dj j k E I G
theorem JC.J {X:LN}{f:Nat->O2}{g:Nat->List Ed}(h:JC base w n f g)(E:O5 X w w')(hX:∀i,i<n->∀b∈ob (f i),b∉X):JC base w' n f g :=
 ⟨λi hi=>Qg (h.own i hi) E (hX i hi),h.dj⟩
theorem JC.I {f:Nat->O2}{g:Nat->List Ed}(h:JC base w n f g)(E:sW w w'):JC base w' n f g:=h.J E (λ_ _ _ _=>od)
def VL (es:List Ed)(s:Nat):List Ed:=QQ es (s:Int)
theorem UY (es:List Ed)(e:Ed)(E:0<=e.1):Xr (VL es) e.1.toNat (VL es e.1.toNat++[e])=VL (es++[e]):=by
 funext s;unfold VL QQ;rw[LT];by_cases h:s=e.1.toNat
 ·subst h;rw[Zy];have:e.1=(e.1.toNat:Int):=oa
  simp[<-this]
 rw[ZQ _ _ h];have:¬e.1=(s:Int):=oa
 simp[this]
theorem QbV (es:List Ed)(s:Nat):(VL es s).length<=es.length:=Yg es _
def QeD (num:LI)(m:List (Int×O2)):Prop:=∀s:Nat,s<num.length->xd m (s:Int)=if O6 num s<0 then none else some (sS (O6 num s))
theorem Vq (l:LI)(k:Int):Z9 l k=O6 l k.toNat:=rfl
structure KP (b4 mb:Nat)(r2:O2)(wS:O1)(c:Cs)(m:List (Int×O2))(vo vk ve:O2)(w:O1):Prop where
 st:O5 [b4,mb] wS w
 B4:QL ↑w b4 53 [r2,sS 0,vk,ve]
 M:ZU XG ↑w mb m
 nm:QeD c.num m
 o:Qi 3 ↑wS w vo c.ord
 k:Qi 3 ↑wS w vk c.mk'
 e:Yd 179 ↑wS w ve c.ed
 d1:Dj vo vk
 d2:Dj vo ve
 d3:Dj vk ve
section
variable {b4 mb:Nat}{r2:O2}{wS:O1}{c:Cs}{m:List (Int×O2)}{w'':O1}
theorem KP.I (h:KP b4 mb r2 wS c m vo vk ve w)(E:sW w w'):KP b4 mb r2 wS c m vo vk ve w' :=
 ⟨h.st.D E,h.B4.I E,h.M.I E,h.nm,Qm h.o E,Qm h.k E,Qm h.e E,h.d1,h.d2,h.d3⟩
theorem KP.setK (h:KP b4 mb r2 wS c m vo vk ve w)(U:b4<wS.heap.size)(lm:mb<↑wS)(ne:mb≠b4){G:O2}(I:O5 (ob vk) w w')(J:Qi 3 ↑wS w' G l)
  (S:∀b∈ob G,b∈ob vk\/↑w<=b) (E:O5 [b4] w' w'') (T:QL ↑w'' b4 53 [r2,sS 0,G,ve]):KP b4 mb r2 wS ⟨c.ord,c.num,l,c.ed⟩ m vo G ve w'' :=
 ⟨(h.st.O I (λb hb=>.inr (Qj h.k b hb).1)).O E (λb hb=>.inl (by simp at hb;simp[hb])),T,(h.M.J I (QK h.k lm)).J E (ou ne),h.nm,
  Qg (Qg h.o I h.d1) E (λb hb=>by have:=(Qj h.o b hb).1;simp;omega),Qg J E (λb hb=>by have:=(Qj J b hb).1;simp;omega),
  Qg (Qg h.e I h.d3.symm) E (λb hb=>by have:=(Qj h.e b hb).1;simp;omega),h.d1.grow S (QU h.o),h.d2,(h.d3.symm.grow S (QU h.e)).symm⟩
theorem KP.setE (h:KP b4 mb r2 wS c m vo vk ve w)(U:b4<wS.heap.size)(lm:mb<↑wS)(ne:mb≠b4){G:O2}{l:List Ed}(I:O5 (ob ve) w w')(J:Yd 179 ↑wS w' G l)
  (S:∀b∈ob G,b∈ob ve\/↑w<=b) (E:O5 [b4] w' w'') (T:QL ↑w'' b4 53 [r2,sS 0,vk,G]):KP b4 mb r2 wS ⟨c.ord,c.num,c.mk',l⟩ m vo vk G w'' :=
 ⟨(h.st.O I (λb hb=>.inr (Qj h.e b hb).1)).O E (λb hb=>.inl (by simp at hb;simp[hb])),T,(h.M.J I (QK h.e lm)).J E (ou ne),h.nm,
  Qg (Qg h.o I h.d2) E (λb hb=>by have:=(Qj h.o b hb).1;simp;omega),Qg (Qg h.k I h.d3) E (λb hb=>by have:=(Qj h.k b hb).1;simp;omega),
  Qg J E (λb hb=>by have:=(Qj J b hb).1;simp;omega),h.d1,h.d2.grow S (QU h.o),h.d3.grow S (QU h.k)⟩
theorem KP.setN (h:KP b4 mb r2 wS c m vo vk ve w)(lm:mb<↑wS)(ne:mb≠b4){G:List (Int×O2)}(E:O5 [mb] w w')(I:ZU XG ↑w' mb G)(J:QeD l G):KP b4 mb r2 wS ⟨c.ord,l,c.mk',c.ed⟩ G vo vk ve w' :=
 ⟨h.st.O E (λb hb=>.inl (by simp at hb;simp[hb])),h.B4.J E (ou ne.symm),I,J,Qg h.o E (λb hb=>by have:=(Qj h.o b hb).1;simp;omega),
  Qg h.k E (λb hb=>by have:=(Qj h.k b hb).1;simp;omega),Qg h.e E (λb hb=>by have:=(Qj h.e b hb).1;simp;omega),h.d1,h.d2,h.d3⟩
theorem KP.setO (h:KP b4 mb r2 wS c m vo vk ve w)(J:b4<wS.heap.size)(lm:mb<↑wS){G:O2}(E:O5 (ob vo) w w')(S:Qi 3 ↑wS w' G l)
  (I:∀b∈ob G,b∈ob vo\/↑w<=b):KP b4 mb r2 wS ⟨l,c.num,c.mk',c.ed⟩ m G vk ve w' :=
 ⟨h.st.O E (λb hb=>.inr (Qj h.o b hb).1),h.B4.J E (QK h.o J),h.M.J E (QK h.o lm),h.nm,S,Qg h.k E h.d1.symm,Qg h.e E h.d2.symm,
  (h.d1.symm.grow I (QU h.k)).symm,(h.d2.symm.grow I (QU h.e)).symm,h.d3⟩
end
theorem QeD.set {num:LI}{m:List (Int×O2)}(h:QeD num m){k:Nat}(G:k<num.length){v:Int}(I:0<=v):QeD (num.set k v) (xh m (k:Int) (sS v)):=by
 intro s E;rw[MX]at E;rw[Jk];by_cases e:s=k
 ·subst e;have:O6 (num.set s v) s=v:=by unfold O6;simp[oO,G]
  rw[OU rfl,this,OT oa]
 rw[OT oa];have:O6 (num.set k v) s=O6 num s:=by unfold O6;simp[oO,List.getElem?_set_ne (Ne.symm e)]
 rw[this];exact h s E
theorem QbL (i:Nat)(c:Cs)(m:LI)(e:Ed):Zx i ⟨c.ord,c.num,m,c.ed⟩ e=⟨(Zx i c e).ord,(Zx i c e).num,m,(Zx i c e).ed⟩/\(Zx i c e).mk'=c.mk':=by
 unfold Zx;split <;> exact⟨O,O⟩
theorem Qa7 (i:Nat):∀(l:List Ed) (c:Cs) (m:LI),l.foldl (Zx i) ⟨c.ord,c.num,m,c.ed⟩=⟨(l.foldl (Zx i) c).ord,(l.foldl (Zx i) c).num,m,(l.foldl (Zx i) c).ed⟩/\(l.foldl (Zx i) c).mk'=c.mk'
 | [],c,m=>⟨O,O⟩
 | e::l,c,m=>by
  have E:=QbL i c m e;have G:=Qa7 i l (Zx i c e) m;rw[LO,LO,E.1,G.1];exact⟨O,G.2.D E.2⟩
theorem js (i:Nat)(c:Cs)(e:Ed):∃r,(Zx i c e).ord=c.ord++r:=by
 unfold Zx;split
 ·exact⟨_,rfl⟩
 exact⟨[],od⟩
theorem Qcv (i:Nat):∀(l:List Ed) (c:Cs),∃r,(l.foldl (Zx i) c).ord=c.ord++r
 | [],c=>⟨[],od⟩
 | e::l,c=>by
  obtain⟨E,G⟩:=js i c e;obtain⟨r2,I⟩:=Qcv i l (Zx i c e);exact⟨E++r2,by rw[LO,I,G,LA]⟩
theorem Qgi {c:Cs}(hi:i<c.ord.length):qS a i c=Ym a i ((QQ a.ed (O6 c.ord i)).foldl (Zx i) c):=by
 unfold qS;rw[Vq,MO];obtain⟨r,E⟩:=Qcv i (QQ a.ed (O6 c.ord i)) c;unfold Ym;have G:Z9 ((QQ a.ed (O6 c.ord i)).foldl (Zx i) c).ord (i:Int)=Z9 c.ord (i:Int):=by
  rw[Vq,Vq,E];simp only[Oy];exact yH hi
 rw[G];split
 ·rw[(Qa7 i _ c _).1,((Qa7 i (QQ a.ed (O6 c.ord i)) c c.mk').2)]
 rfl
theorem zS {q:Pz}(hA:PzA [] ↑w bp q)(hq:PzQ q)(hB:QL ↑w q.bl 4 (lf.map Value.bool))(hl:lf.length=q.n):
  QR sV 227 [sP bp] w λr w'=>sW w w'/\∃v o,r=.tuple #[v,o]/\YT ↑w ↑w' v (QbI q.a lf)/\o.oneCell'=true:=by
 have hn:=hq.n;have hst1:=hq.ok.st1;have kf:=hq.ok.ed_le;have hf:QbI q.a lf=if q.a.st=0\/lft lf 0=false then⟨q.a.al,0,[],[]⟩else Xw (rstr q.a lf):=rfl
 refine Zg (QbI q.a lf) λSA pn=>?_;rw[pn]at hf ⊢;refine Zm func227 ?_;refine Qc<|QN [nS,sS 0,nS,nS] λb2 w1 kg hb2 h9=>Qb ?_;have hl2:=h9.lt;have kh:=hA.I kg;refine Qk<|Z6 O<|Zc O<|Qq O kh.B O O<|Qv<|(ZZ kh.a.al).S ?_;rintro r2 w2 ⟨hM,hv⟩;have hz2:=hM.size;have hN:=Qi.ints (L:=[]) hv hA.a.al.le od;refine x (QE ⟨hN.cells,Z⟩)<|QN [nS,sS 0,nS,nS] λb4 w3 po pp hC =>
  Q2 [r2,sS 0,nS,nS] hC ⟨hN.one,O,O,O,Z⟩ λw4 pt hC=>xe ?_
 have T:sW w2 w4:=po.Q pt pp;have U:=kg.D hM;have hD:=U.D T;have hl4:=hC.lt;have hz24:=T.size;have gj:=hA.I hD;have pu:∀b∈ob r2,b<w2.heap.size:=QU hv;refine Qd<|QX (α:=Bool) [(22,36)] (λz=>[(36,.bool z)]) (λz w'=>w'=w4/\(z=true↔(q.a.st=0\/lft lf 0=false))) oh ?_ ?_
 ·refine Qs<|Qa<|Z6 O<|Zc O<|Qq O gj.B O O<|xb (Zd O O) (λgk=>?_) (λgk=>?_)
  ·refine Qa<|Zq<|Zq<|Kt<|QB O<|xe ?_;exact⟨_,La,O,by simp[gk]⟩
  have gl:(0:Int).toNat<lf.length:=by
   have:0<q.n:=oa
   simp;omega
  have pw:=qb (l:=lf) (s:=0) gl;refine Qa<|Qa<|Z6 O<|Qq O gj.B O O<|x (QF (i:=0) O O (by simp at gl;omega))<|x (v:=.bool (lft lf 0)) ((JO (i:=0) (hB.I hD) O gl).D (by rw[<-pw];rfl))<|x (Zl O)<|QB O<|xe ?_;exact⟨_,La,O,by simp[gk]⟩
 rintro z g w4 ⟨rfl,hz⟩;refine Q6 rfl (λhO=>?_) (λhO=>?_)
 ·rw[OU (hz.1 hO)]at hf;subst hf;refine Qc<|QV hC O O<|Q2 [r2,sS 0,nS,nS] ((h9.I hM).I T) ⟨hN.one,O,O,O,Z⟩ λw6 hE h9=>Qb<|Qh ⟨[.agg #[r2,sS 0,nS,nS],nS],⟨Jl h9,O,Z⟩,hD.Q hE oa,_,_,O,?_,O⟩;exact⟨r2,_,_,O,λL' hF=>⟨Qi.ints (Qg (Qm hv T) hE (λb hb=>by have:=(Qj hv b hb).1;simp;omega)) hA.a.al.le (λb hb=>oo (hF b hb)),Zt.nil _ _ _,Zt.nil _ _ _⟩⟩
 have ki:¬(q.a.st=0\/lft lf 0=false):=λh=>by rw[hz.2 h]at hO;cases hO
 rw[OT ki]at hf;have pz:0<q.a.st:=by have:=hq.ok.st0;omega
 have kj:(rstr q.a lf).st.toNat=q.n:=by show q.a.st.toNat=q.n;omega
 unfold Xw at hf;rw[OT (show ¬(rstr q.a lf).st=0 from λh=>ki (.inl h)),kj]at hf;refine Qf<|Qk<|Z6 O<|Zc O<|Qq O gj.B O O<|Qo<|YZ (n:=q.n) (OV sS hn) (OV sS hn) oa λbE w6 hE p0 gm=>Qb ?_;rw[Ud]at gm;have hlE:=gm.lt;have kk:=hA.I (hD.D hE);refine Qd<|Qk<|Z6 O<|Zc O<|Qq O kk.B O O<|QG kk.a.ed O<|Qa<|xe<|QW (α:=Nat×(Nat->O2)) [(7,7),(50,74)] (λz=>[(50,sS z.1)]) (λz w'=>z.1<=q.a.ed.length/\O5 [bE] w6 w'/\QL ↑w' bE 51 ((oJ q.n).map z.2)/\JC ↑w6 w' q.n z.2 (VL ((q.a.ed.take z.1).filter λe=>lft lf e.2.2))) (λz=>q.a.ed.length - z.1) (0,λ_=>nS) La
  ⟨Lo _,O5.Y _ _,gm,⟨λi _=>QM _ _ _ _,λi j _ _ _=>Dj.nil _⟩⟩ ?_
 rintro⟨k,rv⟩ g w7 ⟨hk,hP,kn,V⟩;have hG:sW w4 w7:=hE.Q hP p0;have gn:=hD.D hG;have hz7:=hP.size;have ko:=hA.I gn;refine Zk rfl O (λgo=>?_) (λgo=>?_)
 ·refine Qt ?_;have p4:q.a.ed.length<=k:=by have hQ:¬(k:Int)<(q.a.ed.length:Int):=go;omega
  rw[Lq p4]at V;have V:JC ↑w6 w7 q.n rv (VL (rstr q.a lf).ed):=V;have kq:(rstr q.a lf).ed.length<=q.a.ed.length:=LJ _ _;refine Qc<|Qo<|Z1 XG λmb w8 gq p5 p6=>Qo<|Yv (k:=(0:Int)) p6 O O λG gr kr=>Qa<|Qb ?_;have J:sW w7 G:=gq.Q gr p5;have p7:=J.size;have hS:=kr.lt;refine Qc<|Qo<|Q9 [[sS 0]] λkt gs hw hb77 p8=>Qb<|Qd<|Qc<|Qb ?_;have gt:mb≠b4:=oa
  have hH:b4<G.heap.size:=oa
  have p9:=gn.D J;have gu:∀b∈[b4,mb],↑w2<=b:=λb hb=>by simp only[oK,oH,or_false]at hb;omega
  have qa:PzA [b4,mb] ↑G bp q:=((hA.I U).up (λb hb=>.inr (gu b hb))).I (T.D (hG.D J));have hlw:=hB.lt;have ku:∀s,s<q.n->UP [b4,mb] ↑G (rv s) (VL (rstr q.a lf).ed s):=λs hs=>QO (Qm (V.own s hs) J) (oo (QbV (rstr q.a lf).ed s)) (λb hb hm=>by
   have h1:=(Qj (V.own s hs) b hb).1;have h2:=QU (V.own s hs) b hb;simp only[oK,oH,or_false]at hm;omega)
  have hJ:=kn.I J;have kv:∀b,b<↑w2->b∉[b4,mb]:=λb hb hm=>oo (gu b hm)
  have qe:bE∉[b4,mb]:=by simp only[oK,oH,or_false];omega
  have qf:QL ↑G b4 53 [r2,sS 0,nS,nS]:=((hC.I hG)).I J;have qj:QL ↑G b2 53 [nS,sS 0,nS,nS]:=((h9.I hM).I T).I (hG.D J);have ql:=Qm hv (T.D (hG.D J));have qm:Qi 3 ↑G gs (sL kt 1 1) [0]:=p8.own (n:=1) (sz:=1) O oa oa;have kw:QeD (Z3 (rstr q.a lf)).num (xh [] (0:Int) (sS 0)):=by
   have h0:QeD (oG q.n (-1)) ([]:List (Int×O2)):=λs hs=>by
    have q0:s<q.n:=by simpa using hs
    have:O6 (oG q.n (-1)) s=-1:=by unfold O6;simp[oO,q0]
    rw[this];rfl
   have h1:=h0.set (k:=0) (by simp;omega) (v:=0) (Mx _);unfold Z3;rw[kj];exact h1
  have gv:∀e∈(rstr q.a lf).ed,0<=e.1/\e.1<q.a.st/\0<=e.2.2/\e.2.2<q.a.st:=λe Y=>by have:=(UX hq.ok lf).ed e Y;exact⟨this.1,this.2.1,this.2.2.2.1,this.2.2.2.2⟩
  have kx:V5 q.a.st (Z3 (rstr q.a lf)):=QfT (a:=rstr q.a lf) pz;have kz:(rstr q.a lf).mr=q.a.mr:=rfl;refine Zg (rstr q.a lf) λR hR=>?_;rw[hR]at hf ku kw gv kx kz kq;have q4:R.al=q.a.al:=by rw[<-hR];rfl
  have hnN:q.a.st.toNat=q.n:=oa
  refine QW (α:=Nat×Cs×List (Int×O2)×O2×O2×O2) [(9,10),(12,14),(78,142)] (λz=>[(9,z.2.2.2.1),(10,sS z.1)])
   (λz w'=>KP b4 mb r2 G z.2.1 z.2.2.1 z.2.2.2.1 z.2.2.2.2.1 z.2.2.2.2.2 w'/\z.1<=z.2.1.ord.length/\V5 q.a.st z.2.1/\z.2.1.mk'.length<=z.1/\z.2.1.ed.length<=z.1*131072/\Xd R (q.n - z.1) z.1 z.2.1=Xd R q.n 0 (Z3 R)) (λz=>q.n - z.1) (0,Z3 R,xh [] (0:Int) (sS 0),sL kt 1 1,nS,nS) ov
   ⟨⟨hw.any,qf.I hw,kr.I hw,kw,qm,QM _ _ _ _,QM _ _ _ _,Dj.nil' _,Dj.nil' _,Dj.nil' _⟩,Lo _,kx,Lo _,Lo _,O⟩ ?_
  rintro⟨i,c,m,vo,vk,ve⟩ g q5 ⟨hI,hi,E,j1,j2,gx⟩;simp only[]at hI hi E j1 j2 gx;have hcle:=E.le;have hT:=Qi.ints (L:=[]) hI.o oa od;refine Qd<|Qk<|Qa<|QG hT O<|ZX O O<|xe<|Zr O (λj3=>?_) (λj3=>?_)
  ·refine Qt ?_;have j4:c=Xd R q.n 0 (Z3 R):=by rw[<-gx,Qaa oa]
   refine Qk<|QG hT O<|Zc O<|Qo<|Qw hI.B4 O O od rfl λhy U hg=>xe ?_;have za:=Qi.ints (L:=[]) hI.k oa od;have z0:=Yd.eds (L:=[]) hI.e (oo E.el) od;refine Qc<|QV hg O O<|Qa<|Q2 [r2,sS c.ord.length,vk,ve] ((qj.J hI.st (kv _ oa)).J U (by simp;omega)) ⟨hN.one,O,za.one,z0.one,Z⟩ λz2 hU z3=>Qb ?_;have k0:O5 [b4,mb] G hy:=hI.st.O U (λb hb=>.inl (by simp at hb;simp[hb]));have z4:sW w z2:=(p9.O k0 (λb hb=>.inr (oo (gu b hb)))).Q hU oa;refine Qh ⟨[.agg #[r2,sS c.ord.length,vk,ve],vo],⟨Jl z3,O,Z⟩,z4,_,_,O,?_,hT.one⟩;rw[<-j4]at hf;subst hf;have k1:=Qg (Qg hI.k U (λb hb=>by have:=(Qj hI.k b hb).1;simp;omega)) hU (λb hb=>by have:=(Qj hI.k b hb).1;simp;omega);have k2:=Qg (Qg hI.e U (λb hb=>by have:=(Qj hI.e b hb).1;simp;omega)) hU (λb hb=>by have:=(Qj hI.e b hb).1;simp;omega);have k3:=Qg (Qg ql k0 (λb hb=>kv b (pu b hb))) hU (λb hb=>by have:=(Qj hv b hb).1;simp;omega);exact⟨r2,vk,ve,O,λL' hF=>⟨by rw[q4];exact Qi.ints k3 hA.a.al.le (λb hb=>oo (hF b hb)),Qi.ints k1 (by show c.mk'.length<=_;omega) (λb hb=>oo (hF b hb)),Yd.eds k2 (by show c.ed.length<=_;have:=E.el;omega) (λb hb=>oo (hF b hb))⟩⟩
  have I:i<c.ord.length:=oa
  refine Qf ?_;have k5:=ZA I;have hsr:=E.ord _ (Xv I);have hj:=Qgi (a:=R) I;refine Zg (O6 c.ord i) λs0 k6=>?_;rw[k6]at k5 hsr hj;have k9:s0=(s0.toNat:Int):=oa
  have gy:s0.toNat<q.n:=oa
  have hos0:VL R.ed s0.toNat=QQ R.ed s0:=by unfold VL;rw[<-k9]
  have hV:=ku s0.toNat gy;rw[hos0]at hV;have hosl:=Yg R.ed s0;have ma:∀e∈QQ R.ed s0,0<=e.2.2/\e.2.2<q.a.st:=λe Y=>⟨(gv e (ZH Y).1).2.2.1,(gv e (ZH Y).1).2.2.2⟩;refine Zg (QQ R.ed s0) λos hos=>?_;rw[hos]at hV hosl ma hj;refine Qd<|Qn<|Qd<|Qk<|Qa<|Qa<|xii (i:=i) hT O O I λa87 mc=>?_;rw[k5]at mc;refine x (Qr mc O)<|x (QF (i:=s0.toNat) O (OV sS k9) gy)<|ZE (u:=rv s0.toNat) (hJ.J hI.st qe) O (KY gy)<|QG (hV.st hI.st) O<|Qa<|xe<|QW (α:=Nat×Cs×List (Int×O2)×O2×O2) [(9,9),(12,14),(92,126)] (λz=>[(9,z.2.2.2.1),(92,sS z.1)])
   (λz w'=>KP b4 mb r2 G z.2.1 z.2.2.1 z.2.2.2.1 vk z.2.2.2.2 w'/\z.1<=os.length/\V5 q.a.st z.2.1/\z.2.1.mk'=c.mk'/\z.2.1.ed.length=c.ed.length+z.1/\(∃r,z.2.1.ord=c.ord++r)/\(os.drop z.1).foldl (Zx i) z.2.1=os.foldl (Zx i) c) (λz=>os.length - z.1) (0,c,m,vo,ve) ov
   ⟨hI,Lo _,E,O,O,⟨[],od⟩,rfl⟩ ?_
  rintro⟨k4,d,m4,hW,hX⟩ g hy ⟨hh,hk4,S,gz,mf,hY,h3⟩;simp only[]at hh hk4 S gz mf hY h3;have hcle4:=S.le;have hoA4:=Qi.ints (L:=[]) hh.o oa od;have g0:i<d.ord.length:=by obtain⟨r,hr⟩:=hY;rw[hr,Lc];omega
  have mg:O6 d.ord i=s0:=by obtain⟨r,hr⟩:=hY;rw[hr,yH I];exact k6
  refine Zk O O (λh93=>?_) (λh93=>?_)
  ·refine Qt ?_;rw[Lr oa,NE]at h3;rw[<-h3]at hj;have mh:=qa.st hh.st;have hg4:d.ord[i]'g0=s0:=by rw[ZA g0];exact mg
   have hmkC:Ym R i d=if s0∈q.a.mr then⟨d.ord,d.num,d.mk'++[(i:Int)],d.ed⟩else d:=by
    unfold Ym;rw[Vq,MO,mg,kz]
   rw[hmkC]at hj;have hZ:Xd R (q.n - (i+1)) (i+1) (qS R i c)=Xd R q.n 0 (Z3 R):=by
    rw[<-gx];obtain⟨t,ht⟩:∃t,q.n - i=t+1:=⟨q.n - i - 1,oa⟩;rw[ht,Xd,OU I,show q.n - (i+1)=t by omega]
   have hm4l:=OV oU gz;refine Qd<|ZL [] (Xg 0 10 [9])<|p Qx<|p (YL O)<|p (QH O)<|p (QH O)<|pq (λ_ E=>Ql (mh.B.I E) O O)<|p Qx <|
    p Qx<|pii (i:=i) O hoA4 O O g0 λa134 mj=>?_
   rw[hg4]at mj;refine pq (λ_ E=>Qr (mj.I E) O)<|pk<|xg<|(ZK (mh.a.mr.I (O5.X _ _)) s0).S ?_;rintro r16 w16 ⟨rfl,rfl⟩;refine⟨O5.X _ _,pe ?_⟩;have ha:=hh.I (O5.X [] hy);refine Zr O (λg2=>?_) (λg2=>?_)
   ·rw[OT g2]at hj;refine Qf<|Qs<|Qa<|QD O O<|Qb ?_;rw[hj]at hZ;exact⟨(i+1,d,m4,hW,vk,hX),oe,ov,ha,oe,S,oe,oe,hZ⟩
   rw[OU g2]at hj;refine Qs<|Qq O ha.B4 O O<|Qa<|Qo<|Q9 [[sS i]] λb140 w17 hs17 hb140 hB140=>?_;have hK:=ha.I hs17;refine Qo<|Q8 (news:=[sS i]) (L:=[]) hK.k O O O (hB140.at od) om oa hK.st.size λmo w18 mq ms hn18=>?_;have hk18:Qi 3 ↑G w18 mo (d.mk'++[(i:Int)]):=Qi.snoc mq;refine Zc O<|Qo<|Qw (hK.B4.J ms (QK hK.k hH)) O O od (QC mq) λw19 hs19 hB19=>xe ?_;have hI19:=hK.setK hH hS gt ms hk18 hn18 hs19 hB19;refine Qs<|Qa<|QD O O<|Qb ?_;rw[hj]at hZ;exact⟨(i+1,⟨d.ord,d.num,d.mk'++[(i:Int)],d.ed⟩,m4,hW,mo,hX),oe,ov,hI19,oe,⟨S.nl,S.sum,S.ord,S.num,S.el⟩,by simp only[oM,oL];omega,oe,hZ⟩
  refine Qf ?_;have ga:k4<os.length:=oa
  have hdr:=QY ga;rw[hdr,LO]at h3;have g3:=ma _ (Le ga);refine Zg (os[k4]'ga) λe Y=>?_;rw[Y]at h3 g3;have gb:e.2.2=(e.2.2.toNat:Int):=oa
  have gc:e.2.2.toNat<d.num.length:=by rw[S.nl];omega
  have mt:=hh.nm e.2.2.toNat gc;rw[<-gb]at mt;have mu:Z9 d.num e.2.2=O6 d.num e.2.2.toNat:=rfl;refine Qd<|Qn<|Qc<|xie (hV.st hh.st) O O ga λa94 mv=>?_;rw[Y]at mv;refine x (QA mv O O)<|QN [sS 0,sS 0,sS 0] λg4 w20 hs20 g5 hg=>Q2 (Qp e) hg ox λge hs21 hg=>xe ?_;have mw:sW hy ge:=hs20.Q hs21 g5;have ha:=hh.I mw;have hl12:=hg.lt;have hz21:=mw.size;have hIz:=hh.st.size;have hc5:V5 q.a.st (Zx i d e):=QbK S g3.1 g3.2 (oo S.el);have my:Zx i d e=⟨(Yw d e).ord,(Yw d e).num,(Yw d e).mk',(Yw d e).ed++[((i:Int),e.2.1,Z9 (Yw d e).num e.2.2)]⟩:=zE gc;refine QX (α:=O2) [(13,14),(96,102)] (λz=>[(13,sS (if O6 d.num e.2.2.toNat<0 then 0 else O6 d.num e.2.2.toNat)),(14,.bool (!decide (O6 d.num e.2.2.toNat<0)))]) (λz w'=>w'=ge) oh ?_ ?_
  ·refine Qs<|Qa<|Qq O hg O O<|x (v:=.tuple #[sS (if O6 d.num e.2.2.toNat<0 then 0 else O6 d.num e.2.2.toNat),.bool (!decide (O6 d.num e.2.2.toNat<0))]) ((K3 (k:=e.2.2) ha.M O O).D (OV (λv=>Result.ok (Next.value v) _) ?_))<|Qa<|QJ O O<|QJ O O<|x Qe<|Qb ?_
   ·rw[mt];by_cases ho:O6 d.num e.2.2.toNat<0
    ·simp[ho]
    simp[ho]
   exact⟨.bool true,ov,O⟩
  rintro z5 g ge rfl;refine QX (α:=O2×List (Int×O2)×Int) [(9,9),(13,13),(103,115)] (λz=>[(9,z.1),(13,sS z.2.2)]) (λz w'=>O6 (Yw d e).num e.2.2.toNat=z.2.2/\KP b4 mb r2 G (Yw d e) z.2.1 z.1 vk hX w'/\QL ↑w' g4 179 (Qp e)/\ge.heap.size<=↑w') oh ?_ ?_
  ·refine Qk<|x (Zl O)<|xe<|Q6 O (λg6=>?_) (λg6=>?_)
   ·have ho:O6 d.num e.2.2.toNat<0:=by simpa using g6
    have hL:Yw d e=⟨d.ord++[e.2.2],d.num.set e.2.2.toNat d.ord.length,d.mk',d.ed⟩:=by unfold Yw;rw[mu,OU ho]
    have hcg:O6 (Yw d e).num e.2.2.toNat=(d.ord.length:Int):=by rw[hL];unfold O6;simp[oO,gc]
    refine Qk<|QG (Qi.ints (L:=[]) ha.o oa od) rfl<|Qb<|Qk<|Qq rfl hg rfl rfl<|Qa<|Qo<|YO (k:=e.2.2) ha.M rfl rfl λw22 g7 hM22=>xe ?_;have mz:=ha.nm.set gc (v:=(d.ord.length:Int)) oa;rw[<-gb]at mz;have hI6:=ha.setN hS gt g7 hM22 mz;have gg:=hg.J g7 (by simp;omega);refine Qs<|Qa<|Qq O gg O O<|Qo<|Q9 [[sS e.2.2]] λb114 w23 g8 hb114 hB114=>?_;have g9:=hI6.I g8;refine Qo<|Q8 (news:=[sS e.2.2]) (L:=[]) g9.o O O O (hB114.at od) om (by show d.ord.length+1<=_;omega) g9.st.size λm0 w24 ho24 T hn24=>Qb ?_;have hk24:Qi 3 ↑G w24 m0 (d.ord++[e.2.2]):=Qi.snoc ho24;have hb12o:g4∉ob hW:=λhb=>oo (QU hh.o g4 hb)
    have h4:=g9.setO hH hS T hk24 hn24;have:=g7.size;have:=g8.size;have:=T.size;refine⟨(m0,xh m4 e.2.2 (sS d.ord.length),(d.ord.length:Int)),ov,hcg,?_,(gg.I g8).J T hb12o,oa⟩;simp only[];rw[hL];exact h4
   have ho:¬O6 d.num e.2.2.toNat<0:=by simpa using g6
   have hL:Yw d e=d:=by unfold Yw;rw[mu,OT ho]
   have kf:(if O6 d.num e.2.2.toNat<0 then 0 else O6 d.num e.2.2.toNat)=O6 (Yw d e).num e.2.2.toNat:=by rw[hL,OT ho]
   refine Qf<|⟨(hW,m4,if O6 d.num e.2.2.toNat<0 then 0 else O6 d.num e.2.2.toNat),ov,kf.symm,?_,hg,Lp _⟩
   rw[hL];exact ha
  rintro⟨vo5,m5,tn⟩ g w25 ⟨m1,h4,gg,hz25⟩;simp only[]at h4 m1;have m2:(Yw d e).ed=d.ed:=by unfold Yw;split <;> rfl
  have hgN:Z9 (Yw d e).num e.2.2=O6 (Yw d e).num e.2.2.toNat:=rfl;rw[hgN,m2,m1]at my;have heN:Yd 179 ↑G w25 hX d.ed:=by have:=h4.e;rw[m2]at this;exact this
  refine Qs<|Qq O h4.B4 O O<|Qa<|Qq O gg O O<|Qa<|x (QE ⟨O,O,O,Z⟩) <|
   Qo<|Q9 [Qp ((i:Int),e.2.1,tn)] λb123 w26 m3 hb123 hB123=>?_
  have gh:=h4.I m3;refine Qo<|Q8 (m:=1) (news:=Qp ((i:Int),e.2.1,tn)) (L:=[]) (Qm heN m3) O O O (hB123.at od) (λu hu=>by simp only[Qp,oK,oH,or_false]at hu;rcases hu with rfl|rfl|rfl <;> rfl) (oo S.el) gh.st.size λm6 w27 m7 m8 hn27=>?_
  have hk27:Yd 179 ↑G w27 m6 (d.ed++[((i:Int),e.2.1,tn)]):=Yd.snoc m7;refine Zc O<|Qo<|Qw (gh.B4.J m8 (QK gh.e hH)) O O od (QC m7) λw28 hs28 hB28=>xe ?_;have m9:=gh.setE hH hS gt m8 hk27 hn27 hs28 hB28;rw[<-my]at m9;refine Qs<|QD O O<|Qa<|xe<|⟨(k4+1,Zx i d e,m5,vo5,m6),oe,ov,m9,oe,hc5,?_,?_,?_,h3⟩
  ·simp only[];rw[<-gz];exact(QbL i d [] e).2
  ·simp only[];rw[QbM,mf];omega
  simp only[];obtain⟨r1,h1⟩:=js i d e;obtain⟨r2',h2⟩:=hY;exact⟨r2'++r1,by rw[h1,h2,LA]⟩
 refine Qf ?_;have I:k<q.a.ed.length:=by have hQ:(k:Int)<(q.a.ed.length:Int):=go;omega
 have pc:=hq.ok.ed _ (Le I);have htk:q.a.ed.take (k+1)=q.a.ed.take k++[q.a.ed[k]'I]:=Lj I;have h5:(q.a.ed.take (k+1)).filter (λe=>lft lf e.2.2)=(q.a.ed.take k).filter (λe=>lft lf e.2.2)++if lft lf (q.a.ed[k]'I).2.2=true then[q.a.ed[k]'I]else[]:=by
  rw[htk,LT];congr 1;by_cases h:lft lf (q.a.ed[k]'I).2.2=true
  ·simp[h]
  simp[h]
 have hfll:((q.a.ed.take k).filter (λe=>lft lf e.2.2)).length<=k:=Lx (LJ _ _) (by rw[LC];omega);refine Zg ((q.a.ed.take k).filter (λe=>lft lf e.2.2)) λkept hkept=>?_;rw[hkept]at h5 V hfll;refine Zg (q.a.ed[k]'I) λe Y=>?_;rw[Y]at pc h5;have pd:e.1=(e.1.toNat:Int):=oa
 have gb:e.2.2=(e.2.2.toNat:Int):=oa
 have hp:e.1.toNat<q.n:=oa
 refine Qd<|Qn<|Qc<|xie ko.a.ed O O I λa52 hQ=>?_;rw[Y]at hQ;refine x (QA hQ O O)<|QN [sS 0,sS 0,sS 0] λb7 w8 gq hb7 h6=>Q2 (Qp e) h6 ox λG gr h6=>xe ?_;have J:sW w7 G:=gq.Q gr hb7;have p7:=J.size;have ka:=V.I J;have hJ:=kn.I J;refine Qd<|ZL [] (Xg 0 8 [])<|p Qx<|p (YL O)<|p (QH O)<|pq (λ_ E=>Ql ((ko.I J).B.I E) O O)<|p (QH O)<|pq (λ_ E=>Ql (h6.I E) O O) <|
  p (λ_=>QF (i:=e.2.2.toNat) O (OV sS gb) oa)<|pq (v:=.bool (lft lf e.2.2)) (λ_ E=>(JO (i:=e.2.2.toNat) ((hB.I (gn.D J)).I E) O oa).D (by rw[(qb (l:=lf) (s:=e.2.2) oa)]))<|pe ?_
 have h7:sW G { G with drawn:=G.drawn+1 }:=O5.X _ _
 refine Q6 rfl (λkb=>?_) (λkb=>?_)
 ·rw[OU kb]at h5;have kc:∀b∈ob (rv e.1.toNat),↑w6<=b/\b<w7.heap.size:=λb hb=>⟨(Qj (V.own _ hp) b hb).1,QU (V.own _ hp) b hb⟩;have pf:bE∉ob (rv e.1.toNat):=λhb=>oo (kc _ hb)
  have ke:b7∉ob (rv e.1.toNat):=λhb=>oo (kc _ hb)
  have kq:=QbV kept e.1.toNat;refine V3 (O5 (ob (rv e.1.toNat)) G) [oz 0,oz 1,oz 2,oz 3,oz 4,oz 5,oz 6,oz 7,oz 8,oA 9,oA 10,oz 11,oA 12] mixed oh oc (h7.any.V (O5.X _ _)) ?_;refine p Qx<|p (QH O)<|pq (λ_ E=>Ql (h6.J E ke) O O)<|p Qx<|p (QH O) <|
   pq (λ_ E=>Ql (h6.J E ke) O O)<|p (λ_=>QF (i:=e.1.toNat) O (OV sS pd) hp)<|pq (λ_ E=>Ql (u:=rv e.1.toNat) (hJ.J E pf) O (KY hp)) <|
   pq (λ_ E=>Q7 (h6.J E ke) O O)<|pk<|Q9 [Qp e] λb71 gs hw hb71 hB71=>⟨(h7.any.V (O5.X _ _)).V hw.any,?_⟩
  have h8:sW G gs:=(h7.D (O5.X _ _)).D hw;have hz10:=h8.size;refine pk<|Q8 (m:=1) (news:=Qp e) (L:=[]) (Qm (ka.own _ hp) h8) O O O (hB71.at od) (λu hu=>by simp only[Qp,oK,oH,or_false]at hu;rcases hu with rfl|rfl|rfl <;> rfl) oa oa λvr q5 pg gi hn11=>⟨h8.any.V gi,?_⟩
  have hlen:((oJ q.n).map rv).length=q.n:=od
  refine p (λ_=>QF (i:=e.1.toNat) O (OV sS pd) hp)<|pkk<|Qw (j:=0+e.1.toNat*1) (u:=vr) ((hJ.I h8).J gi pf) O O (by rw[hlen];omega) (QC pg) λhy U hBE12=>pe ?_;have g5:QL ↑hy bE 51 ((oJ q.n).map (Xr rv e.1.toNat vr)):=by
   have e1:=J5 id q.n rv e.1.toNat vr;simp only[id]at e1;rw[<-e1];simpa using hBE12
  have hvn:∀b∈ob vr,b∈ob (rv e.1.toNat)\/↑G<=b:=λb hb=>(hn11 b hb).imp id (λh=>oa);have ph:=ka.app hp (Yd.snoc pg) (h8.any.V gi) hvn;have pj:=ph.J U (λi hi b hb=>by have:=(Qj (ph.own i hi) b hb).1;simp only[oF];omega);rw[UY kept e pc.1,<-h5]at pj;refine Qs<|QD O O<|Qa<|xe ?_;exact⟨(k+1,Xr rv e.1.toNat vr),oe,La,I,(((hP.D J).D h8).O gi (λb hb=>.inr (kc b hb).1)).V U,g5,pj⟩
 rw[OT (by rw[kb];decide),LF]at h5;refine Qf<|Qs<|QD O O<|Qa<|xe ?_;exact⟨(k+1,rv),oe,La,I,(hP.D J).D h7,(hJ.I h7),by simp only[];rw[h5];exact ka.I h7⟩
def EdR (L:LN)(H:xA)(v:O2)(n:Nat)(ed:List Ed):Prop :=
 ∃rv:Nat->O2,Zt L H v (oJ n).length 1 ((oJ n).flatMap λi=>[rv i])/\∀i:Nat,i<n->UP L H (rv i) (QQ ed i)
theorem EdR.I {L:LN}{w w':O1}{v:O2}{n:Nat}{ed:List Ed}(h:EdR L ↑w v n ed)(E:sW w w'):EdR L ↑w' v n ed :=
 let⟨rv,G,I⟩:=h;⟨rv,G.I E,λi hi=>(I i hi).I E⟩
theorem zO (n:Nat)(rv:Nat->O2):((oJ n).flatMap λi=>[rv i])=(oJ n).map rv:=by
 induction oJ n with
 | nil=>rfl
 | cons x l ih=>rw[LK,ih];rfl
theorem QL.ne {H:xA}{a b T':Nat}{G:LV}(h:QL H a T cs)(E:QL H b T' G)(hT:T≠T'):a≠b:=λe=>by
 subst e;unfold QL at h E;rw[h]at E;injection E with h1
 injection h1 with h2 h3
 exact hT h3
abbrev slN (b n:Nat):O2:=sL b n n
theorem JC.edr {b:Nat}{f:Nat->O2}(h:JC base w n f (VL ed))(E:QL ↑w b T ((oJ n).map f))(G:n<=4096)(hl:ed.length<=1000000):EdR [] ↑w (slN b n) n ed:=by
 refine⟨f,?_,λi hi=>QO (h.own i hi) (oo (Yg ed i)) od⟩;rw[zO];have:=E.arr (L:=[]) od (n:=(oJ n).length) (cap:=n) (sz:=1) od (by simp;omega) od;rw[L9]at this ⊢;exact this
structure ObA (H:xA)(vr vk vz vm:O2)(a:Qz)(o:LI):Prop where
 r:EdR [] H vr a.st.toNat a.ed
 k:Qu [] H vk (kpt a o)
 z:Qu [] H vz (ers a o)
 m:Qu [] H vm a.mr
theorem ObA.I {w w':O1}{vr vk vz vm:O2}{a:Qz}{o:LI}(h:ObA ↑w vr vk vz vm a o)(E:sW w w'):ObA ↑w' vr vk vz vm a o:=⟨h.r.I E,h.k.I E,h.z.I E,h.m.I E⟩
abbrev jH:LV:=[nS,nS,nS,nS]
instance:Bw sV 201 jH [(0,1),(1,1),(2,1),(3,1)]:={}
def obP (base n:Nat)(vm:O2)(i:Nat)(v:O2)(w:O1):Prop :=
 if i=2 then ∃b,v=slN b n/\base<=b/\QL ↑w b 51 ((oJ n).map λ_=>nS) else
 if i=5 then ∃b,v=.agg #[slN b n,ZT,ZT,vm]/\base<=b/\QL ↑w b 51 ((oJ n).map λ_=>nS) else
 ∃b,v=sP b/\base<=b/\QL ↑w b 201 jH
theorem QlW {v:O2}(h:obP base n vm i v w)(E:sW w w'):obP base n vm i v w':=by
 unfold obP at *
 repeat' split at h
 all_goals simp_all only[if_true,if_false]
 all_goals exact(let⟨b,G,I,J⟩:=h;⟨b,G,I,J.I E⟩)
theorem Qjd (o:LI){k:Nat}(h:k<a.al.length):((a.al.take (k+1)).filter λv=>decide (v∈o))=((a.al.take k).filter λv=>decide (v∈o))++if a.al[k]'h∈o then[a.al[k]'h]else[]:=by
 rw[Lj h,LT];congr 1;by_cases e:a.al[k]'h∈o <;> simp[e]
theorem QjZ (o:LI){k:Nat}(h:k<a.al.length):((a.al.take (k+1)).filter λv=>!decide (v∈o))=((a.al.take k).filter λv=>!decide (v∈o))++if a.al[k]'h∈o then[]else[a.al[k]'h]:=by
 rw[Lj h,LT];congr 1;by_cases e:a.al[k]'h∈o <;> simp[e]
theorem QdO (h:Zp [] ↑w va vm ve a)(hO:Qu [] ↑w vo o)(hok:Q0 a):
  QR sV 94 [.agg #[va,sS a.st,vm,ve],vo] w λr w'=>sW w w'/\∃vr vk vz,r=.agg #[vr,vk,vz,vm]/\ObA ↑w' vr vk vz vm a o/\Qi 3 ↑w w' vk (kpt a o):=by
 have kr:=hok.st0;have kt:=hok.st1;obtain⟨n,hn⟩:∃n:Nat,a.st=n:=⟨a.st.toNat,oa⟩;have gz:a.st.toNat=n:=oa
 have ku:=hok.ed_le;have kv:=h.al.le;have g0:=hok.ed;refine Zm func94 ?_;refine Qc<|Za [va,sS a.st,vm,ve] λb2 w1 hY kw h6=>QN jH λb4 w2 hy kx ga=>xe ?_;have hD:=hY.D hy;have kz:=ga.lt;have k0:=hY.size;refine Qd<|Vh (α:=Nat×Nat) (sW w2) [oz 0,oz 1,oz 3,oz 4] (λi=>if i=5 then[2]else[]) [2,5,6] [oA 7] [(12,12),(15,15),(5,5)] (obP ↑w2 n vm)
  (λz=>[(15,.agg #[slN z.1 n,ZT,ZT,vm]),(5,.pointer (some ⟨z.2,0,none⟩))]) (λz w'=>QL ↑w' z.1 51 ((oJ n).map λ_=>nS)/\QL ↑w' z.2 201 jH/\↑w2<=z.1/\↑w2<=z.2)
  mixed oh oc (O5.X _ _) (λ_ _ h1 h2=>h1.D h2) (λ_ _ _ _ h hs=>QlW h hs) ?_ ?_
 ·rintro g w' ⟨_,⟨b6,e1,g2,g3⟩,⟨b7,e2,g4,g5⟩,_⟩ _;exact⟨(b6,b7),⟨e1,e2,Z⟩,g3,g5,g2,g4⟩
 refine p (QH O)<|pq (λ_ G=>Ql ((h6.I hy).I G) O O)<|p (QH O)<|pq (λ_ G=>Ql ((h6.I hy).I G) O O)<|pe ⟨⟨?_,?_,?_,Z⟩,?_⟩
 ·intro g w' G _;refine YZ (n:=n) (OV sS hn) (OV sS hn) oa λb V Y hb hB=>⟨Y,⟨b,O,Lx G.size hb,?_⟩,λc hz=>by rw[Lb.1 (show c∈[b] from hz)];exact⟨hb,hB.lt⟩⟩;rw[<-Ud];exact hB
 ·rintro g w' G ⟨⟨b,e2,hb,hB⟩,_⟩;refine xv (Zu [(0,[slN b n]),(3,[vm])] ⟨OV Value.cells e2,O,h.mr.cells,O,Z⟩) ?_;exact⟨O5.Y _ _,⟨b,O,hb,hB⟩,λc hz=>by cases hz⟩
 ·intro g w' G _;exact YU (us:=jH) O λb V Y hb hB=>⟨Y,⟨b,O,Lx G.size hb,hB⟩,λc hz=>by rw[Lb.1 (show c∈[b] from hz)];exact⟨hb,hB.lt⟩⟩
 rintro⟨bI,b5⟩ g w3 gb ⟨hE,hF,gc,h7⟩;simp only[]at hE hF gc h7;have hG:=QL.ne hE hF og;refine pk<|Uk [slN bI n,ZT,ZT,vm] hF ⟨O,O,O,h.mr.one,Z⟩ λw4 hH ge=>⟨gb.Q hH h7,pe ?_⟩;have h8:sW w2 w4:=gb.Q hH h7;have gg:=hE.J hH (by simp only[oF];exact hG);have k4:=gg.lt;have k5:=ge.lt;have g6:=(h6.I hy).I h8;refine Qd<|Qc<|Qq O g6 O O<|QG (h.ed.I (hD.D h8)) O<|Qa<|xe<|QW (α:=Nat×(Nat->O2)) [(7,7),(19,37)] (λz=>[(19,sS z.1)]) (λz w'=>z.1<=a.ed.length/\O5 [bI] w4 w'/\QL ↑w' bI 51 ((oJ n).map z.2)/\JC ↑w4 w' n z.2 (VL (a.ed.take z.1))) (λz=>a.ed.length - z.1) (0,λ_=>nS) La
  ⟨Lo _,O5.Y _ _,gg,⟨λi _=>QM _ _ _ _,λi j _ _ _=>Dj.nil _⟩⟩ ?_
 rintro⟨k,rv⟩ g V ⟨hk,Y,hI,hh⟩;simp only[]at hk hI hh;have k6:=Y.size;have hJ:sW w2 V:=h8.Q Y gc;have hL:=hD.D hJ;have g7:=(h6.I hy).I hJ;have gh:=ge.J Y (by simp only[oF];exact hG.symm);refine Zk rfl O (λhM=>?_) (λhM=>?_)
 ·refine Qt ?_;have g8:a.ed.length<=k:=by have hN:¬(k:Int)<(a.ed.length:Int):=hM;omega
  rw[Lq g8]at hh;refine Qd<|Qc<|Qq O g7 O O<|QG (h.al.I hL) O<|Qa<|xe<|QW (α:=Nat×O2×O2) [(9,9),(41,60)] (λz=>[(41,sS z.1)]) (λz w'=>z.1<=a.al.length/\O5 [b5] V w'/\QL ↑w' b5 201 [slN bI n,z.2.1,z.2.2,vm]/\Qi 3 ↑V w' z.2.1 ((a.al.take z.1).filter λv=>decide (v∈o))/\Qi 3 ↑V w' z.2.2 ((a.al.take z.1).filter λv=>!decide (v∈o))/\Dj z.2.1 z.2.2) (λz=>a.al.length - z.1) (0,ZT,ZT) La
   ⟨Lo _,O5.Y _ _,gh,QM _ _ _ _,QM _ _ _ _,Dj.nil _⟩ ?_
  rintro⟨j,vk,vz⟩ g w6 ⟨hj,ha,hr,ho,hp,h0⟩;simp only[]at hj hr ho hp h0;have k9:=ha.size;have g9:sW w2 w6:=hJ.Q ha h7;have h9:=hD.D g9;have ht:=Qj ho;have h3:=Qj hp;have gi:((a.al.take j).filter λv=>decide (v∈o)).length<=j:=Lx (LJ _ _) (by rw[LC];omega);have gj:((a.al.take j).filter λv=>!decide (v∈o)).length<=j:=Lx (LJ _ _) (by rw[LC];omega);refine Zk O O (λhP=>?_) (λhP=>?_)
  ·refine Qt ?_;have ka:a.al.length<=j:=by have hN:¬(j:Int)<(a.al.length:Int):=hP;omega
   rw[Lq ka]at ho hp gi gj;have gk:(kpt a o).length<=1099511627776:=Lx gi oa;have gl:(ers a o).length<=1099511627776:=Lx gj oa;have hK:Qu [] ↑w6 vk (kpt a o):=Qi.ints ho gk od;have hZ:Qu [] ↑w6 vz (ers a o):=Qi.ints hp gl od;refine Qc<|QV hr O O<|Q2 [slN bI n,vk,vz,vm] ((ga.I h8).J Y ol |>.J ha ol) ⟨rfl,hK.one,hZ.one,h.mr.one,Z⟩ λw7 hf kb=>xe ?_;have hQ:∀v:O2,(∀b∈ob v,↑V<=b)->∀b∈ob v,b∉[b4]:=λv hv b hb E=>by have:=hv b hb;rw[Lb.1 E]at this;omega
   refine Qh ⟨[.agg #[slN bI n,vk,vz,vm]],⟨Jl kb,Z⟩,h9.Q hf oa,slN bI n,vk,vz,O,⟨?_,?_,?_,?_⟩,Zf (Qg ho hf (hQ vk λb hb=>(ht b hb).1)) hL.size⟩
   ·rw[gz];refine((hh.J ha λi hi b hb=>?_).J hf λi hi b hb=>?_).edr ((hI.J ha (by simp only[oF];exact hG)).J hf ol) oa oa
    ·have:=(Qj (hh.own i hi) b hb).1;simp only[oF];omega
    have:=(Qj (hh.own i hi) b hb).1;simp only[oF];omega
   ·exact Qi.ints (Qg ho hf (hQ vk λb hb=>(ht b hb).1)) gk od
   ·exact Qi.ints (Qg hp hf (hQ vz λb hb=>(h3 b hb).1)) gl od
   exact h.mr.I (h9.Q hf oa)
  have J:j<a.al.length:=by have hN:(j:Int)<(a.al.length:Int):=hP;omega
  have hg:=Qjd (a:=a) o J;have hu:=QjZ (a:=a) o J;refine Qf<|Qd<|Qn<|Qc<|xii (i:=j) (h.al.I h9) O O J λma gm=>?_;refine Zg (a.al[j]'J) λv hv=>?_;rw[hv]at gm hg hu;refine x (Qr gm O)<|Qb<|Qk<|Qa<|Qv<|(ZK (hO.I h9) v).S ?_;rintro r6 w7 ⟨rfl,rfl⟩;refine xe<|Q6 O (λhR=>?_) (λhR=>?_)
  ·have hvo:v∈o:=OY hR;rw[OU hvo]at hg hu;rw[LF]at hu;refine Qs<|Qq O hr O O<|Qa<|Qo<|Q9 [[sS v]] λmc w8 I mf kc =>
    Qo<|Q8 (m:=1) (news:=[sS v]) (L:=[]) (Qm ho I) O O O (kc.at od) om oa (oo I.size) λv8 w9 T S h4=>?_
   have ke:=I.size;have hS:b5∉ob vk:=λE=>oo (ht b5 E).1
   refine Zc O<|Qo<|Qw (u:=v8) ((hr.I I).J S hS) O O (L4 O) (QC T) λhT U hU=>xe ?_;refine Qs<|QD O O<|Qa<|xe ?_;have hV:∀b∈ob v8,b∉[b5]:=λb hb E=>by
    have:=(Qj T b hb).1;rw[Lb.1 E]at this;omega
   refine⟨(j+1,v8,vz),by show a.al.length - (j+1)<a.al.length - j;omega,La,J,((ha.D I).O S λb hb=>.inr (ht b hb).1).V U,hU,?_,?_,?_⟩
   ·simp only[];rw[hg];exact Qi.snoc (Qg T U hV)
   ·simp only[];rw[hu];exact Qg (Qg (Qm hp I) S λb hb E=>h0 b E hb) U λb hb E=>by
     have:=(h3 b hb).1;rw[Lb.1 E]at this;omega
   intro b hb E;rcases h4 b hb with h1|h1
   ·exact h0 b h1 E
   have:=(h3 b E).2;omega
  have hvo:v∉o:=O0 hR;rw[OT hvo]at hg hu;rw[LF]at hg;refine Qs<|Qq O hr O O<|Qa<|Qo<|Q9 [[sS v]] λmg w8 I mh hA =>
   Qo<|Q8 (m:=1) (news:=[sS v]) (L:=[]) (Qm hp I) O O O (hA.at od) om oa (oo I.size) λv8 w9 T S h4=>?_
  have ke:=I.size;have hS:b5∉ob vz:=λE=>oo (h3 b5 E).1
  refine Zc O<|Qo<|Qw (u:=v8) ((hr.I I).J S hS) O O (L4 O) (QC T) λhT U hU=>xe ?_;refine Qs<|QD O O<|Qa<|xe ?_;have hV:∀b∈ob v8,b∉[b5]:=λb hb E=>by
   have:=(Qj T b hb).1;rw[Lb.1 E]at this;omega
  refine⟨(j+1,vk,v8),by show a.al.length - (j+1)<a.al.length - j;omega,La,J,((ha.D I).O S λb hb=>.inr (h3 b hb).1).V U,hU,?_,?_,?_⟩
  ·simp only[];rw[hg];exact Qg (Qg (Qm ho I) S λb hb E=>h0 b hb E) U λb hb E=>by
    have:=(ht b hb).1;rw[Lb.1 E]at this;omega
  ·simp only[];rw[hu];exact Qi.snoc (Qg T U hV)
  intro b hb E;rcases h4 b E with h1|h1
  ·exact h0 b hb h1
  have:=(ht b hb).2;omega
 refine Qf ?_;have J:k<a.ed.length:=by have hN:(k:Int)<(a.ed.length:Int):=hM;omega
 have hg:a.ed.take (k+1)=a.ed.take k++[a.ed[k]'J]:=Lj J;have gn:=g0 _ (Le J);refine Zg (a.ed[k]'J) λe he=>?_;rw[he]at hg gn;have go:e.1=(e.1.toNat:Int):=oa
 have hq:e.1.toNat<n:=oa
 have kf:(VL (a.ed.take k) e.1.toNat).length<=(a.ed.take k).length:=Yg _ _;rw[LC]at kf;refine Qd<|Qn<|Qc<|xie (h.ed.I hL) O O J λmj gq=>?_;rw[he]at gq;refine x (QA gq O O)<|QN [sS 0,sS 0,sS 0] λb7 w6 ha kg kh=>Q2 (Qp e) kh ox λw7 hf hW=>xe ?_;have h5:sW V w7:=ha.Q hf kg;have mo:=h5.size;have gr:=hh.I h5;have hC:∀b∈ob (rv e.1.toNat),↑w4<=b/\b<V.heap.size:=λb hb=>⟨(Qj (hh.own _ hq) b hb).1,QU (hh.own _ hq) b hb⟩;have gs:bI∉ob (rv e.1.toNat):=λhb=>oo (hC _ hb)
 have gt:b5∉ob (rv e.1.toNat):=λhb=>oo (hC _ hb)
 have hX:b7∉ob (rv e.1.toNat):=λhb=>oo (hC _ hb)
 have gu:=hI.I h5;have hA:=gh.I h5;refine V3 (O5 (ob (rv e.1.toNat)) w7) [oz 0,oz 1,oz 2,oz 3,oz 4,oz 5,oz 6,oz 7,oz 8,oz 9,oz 10,oA 11,oA 12,oz 13,oA 14] mixed oh oc (O5.X _ _) ?_;refine p (QH O)<|pq (λ_ G=>Ql (hA.J G gt) O O)<|p (QH O)<|pq (λ_ G=>Ql (hW.J G hX) O O) <|
  p (QH rfl)<|pq (λ_ G=>Ql (hA.J G gt) O O)<|p (QH O)<|pq (λ_ G=>Ql (hW.J G hX) O O) <|
  p (λ_=>QF (i:=e.1.toNat) O (OV sS go) hq)<|pq (λ_ G=>Ql (u:=rv e.1.toNat) (gu.J G gs) O (KY hq))<|pq (λ_ G=>Q7 (hW.J G hX) O O) <|
  pk<|Q9 [Qp e] λmq w8 I ms ki=>⟨((O5.X _ _).D I).any,?_⟩
 have hw:sW w7 w8:=(O5.X _ _).D I;have mt:=hw.size;refine pk<|Q8 (m:=1) (news:=Qp e) (Qm (gr.own _ hq) hw) O O O (by have:=ki.at (L:=[]) od;simpa using this) (Zv.all (us:=Qp e) ⟨rfl,rfl,rfl,Z⟩) oa oa λvr w9 T S h4=>⟨hw.any.V S,?_⟩;have kj:((oJ n).map rv).length=n:=od
 have kk:=Yd.snoc T;refine p (λ_=>QF (i:=e.1.toNat) O (OV sS go) hq)<|pkk<|Qw (j:=0+e.1.toNat*1) (u:=vr) ((gu.I hw).J S gs) O O (by rw[kj];omega) (QC T) λhT U kn=>pe ?_;have ko:QL ↑hT bI 51 ((oJ n).map (Xr rv e.1.toNat vr)):=by
  have e1:=J5 id n rv e.1.toNat vr;simp only[id]at e1;rw[<-e1];simpa using kn
 have kq:∀b∈ob vr,b∈ob (rv e.1.toNat)\/↑w7<=b:=λb hb=>(h4 b hb).imp id (λh=>oa);have gv:=gr.app hq kk (hw.any.V S) kq;have gx:=gv.J U (λi hi b hb=>by have:=(Qj (gv.own i hi) b hb).1;simp only[oF];omega);have gy:=UY (a.ed.take k) e gn.1;rw[<-hg]at gy;rw[gy]at gx;refine Qs<|QD O O<|Qa<|xe<|⟨(k+1,Xr rv e.1.toNat vr),by show a.ed.length - (k+1)<a.ed.length - k;omega,La,J,?_,ko,gx⟩;exact(((Y.D h5).D hw).O S (λb hb=>.inr (hC b hb).1)).V U
end Go.Lg
namespace Go.Proofs
open Go.Proofs.Tryz
open Go.Shelf
def Tryz.sortI_ren:Go.Shelf.Ren:=⟨λ|5=>62|8=>141|7=>140|19=>220|20=>221|10=>211|11=>212|12=>213|13=>214|14=>215|15=>216|16=>217|17=>218|18=>219|30=>257|31=>258|32=>259|33=>260|34=>261|35=>262|40=>286|n=>n,λ|23=>47|25=>3|3=>3|32=>246|22=>47|0=>0|44=>317|46=>319|4=>4|36=>311|35=>310|41=>205|5=>5|9=>9|53=>363|57=>367|63=>389|64=>379|n=>n,λ|n=>n⟩
theorem Tryz.sortI:Go.Proofs.SlLaysM.n5 sV Tryz.sortI_ren:=lyS
def Tryz.cmpI_ren:Go.Shelf.Ren:=⟨λ|43=>161|n=>n,λ|22=>47|23=>3|3=>3|4=>4|0=>0|n=>n,λ|n=>n⟩
theorem Tryz.cmpI:Go.Proofs.SlLaysE.n43 sV Tryz.cmpI_ren:=lyS
def Tryz.delI_ren:Go.Shelf.Ren:=⟨λ|10=>63|6=>142|n=>n,λ|22=>47|23=>3|25=>141|3=>3|4=>4|0=>0|n=>n,λ|n=>n⟩
theorem Tryz.delI:Go.Proofs.SlLaysH.n10 sV Tryz.delI_ren:=lyS
end Go.Proofs
namespace Go.Lg
open Go.Lg Go.Sort Go.Lib
abbrev iC:Int->O2:=Value.int .i64
theorem J8 {e:Nat}{cur:Array O2}(G:w.heap[g]?=some (.cells cur e (0,0)))(J:cur.toList.take (l.length*1)=l.map iC):Holds iC w g 0 l.toArray:=by
 intro j E;rw[LW]at E;have S:cur.toList[j]?=some (iC l[j]):=by
  have I:(cur.toList.take (l.length*1))[j]?=(l.map iC)[j]?:=by rw[J]
  rw[L2,OU oa,MC,LE E]at I;exact I
 have T:l.toArray[j]! = l[j]:=by simp[E]
 constructor
 ·show(match w.heap[g]? with|some (.cells c _ _)=>if(none:Option _).isSome then none else c[0+j]?|_=>none)=_
  rw[G,T];simp only[oX,Option.isSome_none,Ok,if_false];rw[<-MM,S]
 show(match w.heap[g]? with|some (.cells _ _ (lo,hi))=>decide (lo<=0+j) && decide (0+j<hi)|_=>false)=false
 rw[G];simp
theorem Ui {e:Nat}{cap k:Nat}{cur:Array O2}{os:xA}{d:Array Int}(S:base<=g)(I:w.heap[g]?=some (.cells cur e (0,0)))(hc:d.size<=cap)(T:cap<=maxLen)(U:cur.size=cap*1)(hk:k<=d.size):
  O5 [g] w (grow (putRow iC (Sort.ahead w n) g 0 d) os)/\Qi e base (grow (putRow iC (Sort.ahead w n) g 0 d) os) (sL g k cap) (d.toList.take k):=by
 have V:g<w.heap.size:=(LH.1 I).1;have E:(grow (putRow iC (Sort.ahead w n) g 0 d) os).heap=w.heap.modify g (onCells (putCells iC 0 d))++os:=rfl;have Y:(d.toList.take k).length=k:=by simp;omega
 refine⟨⟨O,O,O,?_,λi hi hn=>?_⟩,?_⟩
 ·rw[E,Nw,MD];omega
 ·rw[E,Mz,MD,OU hi,MW,OT (λe=>hn (by simp[e]))]
 unfold Qi;rw[Y];refine⟨by simp;omega,.inr ⟨g,cap,putCells iC 0 d cur,O,S,?_,oa,T,by simp[putCells,U],?_⟩⟩
 ·rw[E,Mz,MD,OU V,MW,OU rfl,I];rfl
 apply Nn;intro j;rw[L2,MC,L2];by_cases J:j<k
 ·rw[OU oa,OU J];have ha:j<cur.size:=oa
  have G:j<d.size:=oa
  rw[MM,MM,MF G];simp only[putCells,Array.getElem?_mapIdx,Array.getElem?_eq_getElem ha,OD,Nat.zero_le,oX,true_and,OU G,ON];rw[getElem!_pos d j G]
 rw[OT oa,OT J];rfl
theorem J6 {v:O2}(h:Qi 3 base w v l)(hl:l.length<=1099511627776):
  QR sV 62 [v] w λ_ w'=>O5 (ob v) w w'/\Qi 3 base w' v (l.mergeSort λx y=>decide (x<=y)):=by
 unfold QR;rcases h.2 with⟨rfl,T⟩|⟨g,cap,cur,rfl,U,I,hj,V,Y,ha⟩
 ·have hf:l=[]:=Lt T;subst hf;have E:=AnyM.slices_Sort_int_none Tryz.sortI none 0 w;change Calls sV 62 _ _ _ at E;refine Calls.mono E λe w' J=>?_;obtain⟨rfl,rfl⟩:=J;exact⟨O5.Y _ _,by rw[List.mergeSort_nil];exact h⟩
 have hh:g<w.heap.size:=(LH.1 I).1;have E:=AnyM.slices_Sort_int Tryz.sortI g 0 cap l w (J8 I ha) hh oa;change Calls sV 62 _ _ _ at E;refine Calls.mono E λe w' J=>?_;obtain⟨rfl,n,os,rfl⟩:=J;have S:=(Nc l (λx y=>decide (x<=y))).length_eq;have:=Ui (e:=3) (n:=n) (k:=l.length) (os:=os) (d:=(l.mergeSort λx y=>decide (x<=y)).toArray) U I (by simp;omega) V Y od;refine⟨this.1,?_⟩;have G:=this.2;simp only[List.take_of_length_le (Nat.le_of_eq S)]at G;unfold Qi at G ⊢;rw[S]at G ⊢;exact G
theorem Qh1 {v:O2}(h:Qi 3 base w v l)(hl:l.length<=1099511627776):
  QR sV 62 [v] w λ_ w'=>O5 (ob v) w w'/\∃l',l'.length=l.length/\(∀x,x∈l'↔x∈l)/\Qi 3 base w' v l' :=
 (J6 h hl).S λ_ _ ⟨E,G⟩=>⟨E,_,(Nc l _).length_eq,λ_=>(Nc l _).mem_iff,G⟩
theorem zw (l:LI):∀m,m<=l.length->∀x,x∈compactUpTo l.toArray m↔x∈l.take m
 | 0,_,x=>by simp[compactUpTo]
 | m+1,h,x=>by
  have G:m<l.length:=oa
  have hx:l.toArray[m]! = l[m]:=by simp[G]
  rw[compactUpTo_succ,Lh,(zw l m oa x),Lj G,Lh,hx,Lb];by_cases E:keeps l.toArray m=true
  ·rw[OU E,Lb]
  rw[OT E];refine⟨λh=>.inl (h.resolve_right od),λh=>.inl (h.elim id λe=>?_)⟩;simp only[keeps,decide_eq_true_eq,not_or]at E;have S:m≠0:=by simpa using E.1
  have I:l.toArray[m]! = l.toArray[m - 1]!:=by simpa using E.2
  have J:l.toArray[m - 1]! = l[m - 1]:=by simp[show m - 1<l.length by omega]
  rw[e,<-hx,I,J];rw[List.mem_take_iff_getElem];exact⟨m - 1,oa,O⟩
theorem Qm9 {v:O2}(h:Qi 3 base w v l)(hl:l.length<=1099511627776):
  QR sV 161 [v] w λr w'=>O5 (ob v) w w'/\∃l',l'.length<=l.length/\(∀x,x∈l'↔x∈l)/\Qi 3 base w' r l':=by
 rcases h.2 with⟨rfl,S⟩|⟨g,cap,cur,rfl,T,G,U,V,Y,ha⟩
 ·have hf:l=[]:=Lt S;subst hf;refine Zm func161 ?_;refine Qc<|Qb<|Qd<|Qk<|x (jA O)<|ZX O O<|xe<|Zi O (λ_=>?_) (λh8=>OW og h8);refine Qk<|Qb<|Qh ⟨[nS],La,O5.Y _ _,[],Lp _,λx=>Iff.rfl,h⟩
 unfold QR;have E:=AnyE.slices_Compact Tryz.cmpI iC (λ_=>O) (.intD _ _ .i64) (.intD _ _ .i64) 0 (λw=>oc) g 0 cap l.toArray w (J8 G ha) (by simp;omega) (ou U);change Calls sV 161 _ _ _ at E;rw[LW]at E;refine Calls.mono E λe w' he=>?_;obtain⟨rfl,q,rfl⟩:=he;have I:=zw l l.length (Lp _);rw[OI]at I;have hh:(compactUpTo l.toArray l.length).length<=l.length:=by
  unfold compactUpTo;rw[Ll];exact Lx (LJ _ _) od
 generalize compactUpTo l.toArray l.length=u at *;have:=Ui (e:=3) (n:=q) (k:=u.length) (os:=#[]) (d:=(u++oG (l.length - u.length) 0).toArray) T G (by simp;omega) V Y od;rw[grow_empty]at this;refine⟨this.1,u,hh,I,?_⟩;have J:=this.2;have h3:(u++oG (l.length - u.length) 0).toArray.toList.take u.length=u:=od
 rw[h3]at J;exact J
structure VwV where
 b:Nat
 va:O2
 vm:O2
 ve:O2
 vo:O2
 vu:O2
 vr:O2
 a:Qz
 o:LI
 un:LI
abbrev Qlh (V:VwV):LV:=[V.va,sS V.a.st,V.vm,V.ve,V.vo,V.vu,V.vr]
structure VwA (H:xA)(V:VwV):Prop where
 blk:QL H V.b 236 (Qlh V)
 a:Zp [] H V.va V.vm V.ve V.a
 o:Qu [] H V.vo V.o
 u:Qu [] H V.vu V.un
 r:EdR [] H V.vr V.a.st.toNat V.a.ed
 ok:Q0 V.a
theorem VwA.I {w w':O1}{V:VwV}(h:VwA ↑w V)(E:sW w w'):VwA ↑w' V:=⟨h.blk.I E,h.a.I E,h.o.I E,h.u.I E,h.r.I E,h.ok⟩
abbrev Qqv:LV:=[nS,sS 0,nS,nS,nS,nS,nS]
instance:Bw sV 236 Qqv [(0,4),(4,1),(5,1),(6,1)]:={}
theorem Qoc (h:Zp [] ↑w va vm ve a)(hO:Qu [] ↑w vo o)(hU:Qu [] ↑w vu un)(hok:Q0 a):
  QR sV 131 [.agg #[va,sS a.st,vm,ve],vo,vu] w λr w'=>sW w w'/\∃V:VwV,r=.pointer (some ⟨V.b,0,none⟩)/\VwA ↑w' V/\V.a=a/\V.o=o/\V.un=un:=by
 have gh:=hok.st0;have gi:=hok.st1;obtain⟨n,hn⟩:∃n:Nat,a.st=n:=⟨a.st.toNat,oa⟩;have hF:a.st.toNat=n:=oa
 have gj:=hok.ed_le;have hG:=hok.ed;refine Zm func131 ?_;refine Qc<|Za [va,sS a.st,vm,ve] λb3 T ht gk hh=>Qb ?_;have hu:sW T { T with drawn:=T.drawn+1 }:=O5.X _ _
 refine Qd<|ZL [] (Xg 0 9 [5,7])<|pq (λ_ E=>Q7 (hh.I E) O O)<|p Qx<|p Qx<|p (QH O)<|pq (λ_ E=>Ql (hh.I E) O O) <|
  pk<|YZ (n:=n) (OV sS hn) (OV sS hn) oa λbI w2 hv hH hj=>⟨hu.D hv,?_⟩
 rw[Ud]at hj;have hw:=hu.D hv;refine p (λ_=>Zu [(0,[va,sS a.st,vm,ve]),(1,[vo]),(2,[vu]),(3,[slN bI n])] ⟨O,O,hO.cells,O,hU.cells,O,O,O,Z⟩)<|pk<|qD (us:=[va,sS a.st,vm,ve,vo,vu,slN bI n]) O λb7 w3 hm gl hy=>⟨hw.D hm,p ZN<|pe ?_⟩;have ho:=hw.D hm;have hI:=ht.D ho;have gm:=hj.lt;have hJ:↑T<=bI:=hH;have gn:=hy.lt;have hK:=hj.I hm;have hL:=hh.I ho;refine Qd<|Qc<|Qq O hL O O<|QG (h.ed.I hI) O<|Qa<|xe<|QW (α:=Nat×(Nat->O2)) [(9,9),(21,43)] (λz=>[(21,sS z.1)]) (λz w'=>z.1<=a.ed.length/\O5 [bI] w3 w'/\QL ↑w' bI 51 ((oJ n).map z.2)/\JC ↑w3 w' n z.2 (VL (a.ed.take z.1))) (λz=>a.ed.length - z.1) (0,λ_=>nS) La
  ⟨Lo _,O5.Y _ _,hK,⟨λi _=>QM _ _ _ _,λi j _ _ _=>Dj.nil _⟩⟩ ?_
 rintro⟨k,rv⟩ g w5 ⟨hk,ha,hp,I⟩;simp only[]at hk hp I;have go:=ha.size;have hM:sW T w5:=ho.Q ha hJ;have U:=ht.D hM;have hz:=hy.J ha ol;refine Zk rfl O (λhq=>?_) (λhq=>?_)
 ·refine Qt ?_;have hN:a.ed.length<=k:=by have hP:¬(k:Int)<(a.ed.length:Int):=hq;omega
  rw[Lq hN]at I;have hQ:EdR [] ↑w5 (slN bI n) n a.ed:=I.edr hp oa oa;refine Qk<|Qb<|Qh ⟨[sP b7],La,U,⟨b7,va,vm,ve,vo,vu,slN bI n,a,o,un⟩,O,⟨hz,h.I U,hO.I U,hU.I U,by rw[hF];exact hQ,hok⟩,O,O,O⟩
 refine Qf ?_;have J:k<a.ed.length:=by have hP:(k:Int)<(a.ed.length:Int):=hq;omega
 have h0:a.ed.take (k+1)=a.ed.take k++[a.ed[k]'J]:=Lj J;have h1:=hG _ (Le J);refine Zg (a.ed[k]'J) λe he=>?_;rw[he]at h0 h1;have h2:e.1=(e.1.toNat:Int):=oa
 have G:e.1.toNat<n:=oa
 have hR:(VL (a.ed.take k) e.1.toNat).length<=(a.ed.take k).length:=Yg _ _;rw[LC]at hR;refine Qd<|Qn<|Qc<|xie (h.ed.I U) O O J λgq h3=>?_;rw[he]at h3;refine x (QA h3 O O)<|QN [sS 0,sS 0,sS 0] λb9 w6 hS hT hV=>Q2 (Qp e) hV ox λw7 hW hr=>xe ?_;have Y:sW w5 w7:=hS.Q hW hT;have gr:=Y.size;have h4:=I.I Y;have hf:∀b∈ob (rv e.1.toNat),↑w3<=b/\b<w5.heap.size:=λb hb=>⟨(Qj (I.own _ G) b hb).1,QU (I.own _ G) b hb⟩;have h5:bI∉ob (rv e.1.toNat):=λhb=>oo (hf _ hb)
 have h6:b7∉ob (rv e.1.toNat):=λhb=>oo (hf _ hb)
 have hs:b9∉ob (rv e.1.toNat):=λhb=>oo (hf _ hb)
 have h7:=hp.I Y;have h8:=hz.I Y;refine V3 (O5 (ob (rv e.1.toNat)) w7) [oz 0,oz 1,oz 2,oz 3,oz 4,oz 5,oz 6,oz 7,oz 8,oz 9,oz 10,oz 11,oz 12,oz 13,oz 14,oA 15,oA 16,oz 17,oA 18] mixed oh oc (O5.X _ _) ?_;refine p Qx<|p (YL O)<|p (QH O)<|pq (λ_ E=>Ql (h8.J E h6) O O)<|p (QH O)<|pq (λ_ E=>Ql (hr.J E hs) O O) <|
  p Qx<|p (YL O)<|p (QH O)<|pq (λ_ E=>Ql (h8.J E h6) O O)<|p (QH O)<|pq (λ_ E=>Ql (hr.J E hs) O O) <|
  p (λ_=>QF (i:=e.1.toNat) O (OV sS h2) G)<|pq (λ_ E=>Ql (u:=rv e.1.toNat) (h7.J E h5) O (KY G))<|pq (λ_ E=>Q7 (hr.J E hs) O O) <|
  pk<|Q9 [Qp e] λgs w8 h9 gt hX=>⟨((O5.X _ _).D h9).any,?_⟩
 have S:sW w7 w8:=(O5.X _ _).D h9;have gu:=S.size;refine pk<|Q8 (m:=1) (news:=Qp e) (Qm (h4.own _ G) S) O O O (by have:=hX.at (L:=[]) od;simpa using this) (Zv.all (us:=Qp e) ⟨rfl,rfl,rfl,Z⟩) oa oa λvr w9 hA hg hY=>⟨S.any.V hg,?_⟩;have hZ:((oJ n).map rv).length=n:=od
 have ga:=Yd.snoc hA;refine p (λ_=>QF (i:=e.1.toNat) O (OV sS h2) G)<|pkk<|Qw (j:=0+e.1.toNat*1) (u:=vr) ((h7.I S).J hg h5) O O (by rw[hZ];omega) (QC hA) λgb hB gc=>pe ?_;have ge:QL ↑gb bI 51 ((oJ n).map (Xr rv e.1.toNat vr)):=by
  have e1:=J5 id n rv e.1.toNat vr;simp only[id]at e1;rw[<-e1];simpa using gc
 have gg:∀b∈ob vr,b∈ob (rv e.1.toNat)\/↑w7<=b:=λb hb=>(hY b hb).imp id (λh=>oa);have hC:=h4.app G ga (S.any.V hg) gg;have hD:=hC.J hB (λi hi b hb=>by have:=(Qj (hC.own i hi) b hb).1;simp only[oF];omega);have hE:=UY (a.ed.take k) e h1.1;rw[<-h0]at hE;rw[hE]at hD;refine Qs<|QD O O<|Qa<|xe<|⟨(k+1,Xr rv e.1.toNat vr),by show a.ed.length - (k+1)<a.ed.length - k;omega,La,J,?_,ge,hD⟩;exact(((ha.D Y).D S).O hg (λb hb=>.inr (hf b hb).1)).V hB
theorem Qis {v:O2}{n:Int}(h:Qu L ↑w v l)(T:∀x∈l,0<=x/\x<n)(hi:YA l):
  QR sV 167 [v,sS n] w λr w'=>r=sS 0/\w'=w:=by
 have he:=h.le;refine Zm func167 ?_;refine Qc<|Qb<|Qd<|Qk<|QG h O<|Qa<|xe<|QW (α:=Nat) [(4,6),(9,34)] (λz=>[(9,sS z)]) (λz w'=>z<=l.length/\w'=w) (λz=>l.length - z) 0 La ⟨Lo _,O⟩ ?_;rintro k g U ⟨hk,rfl⟩;refine Zk rfl O (λI=>?_) (λI=>?_)
 ·refine Qt<|Qc<|Qb<|Qh ⟨[_],La,O,O⟩
 have E:k<l.length:=by have G:(k:Int)<(l.length:Int):=I;omega
 have hf:=T _ (Le E);refine Qf<|Qd<|Qn<|Qk<|xii (i:=k) h O O E λhg V=>x (Qr V O)<|x Qe<|Qb<|Qn<|QX (α:=Unit) [(14,21)] (λ_=>[(14,.bool false)]) (λ_ w'=>w'=U) oh ?_ ?_
 ·refine Qs<|Qa<|xb (YC O O) (λG=>OW G oa) (λG=>?_);refine Qa<|Qa<|Qa<|x (Yl O O)<|QB O<|Qb<|⟨(),⟨OV Value.bool (OZ oa),Z⟩,O⟩
 rintro _ g2 Y rfl;refine ZD rfl<|QX (α:=Unit) [(22,33)] (λ_=>[(22,.bool false)]) (λ_ w'=>w'=Y) oh ?_ ?_
 ·refine Qs<|Qa<|xb (Ya O O) (λJ=>?_) (λJ=>?_)
  ·have hh:0<k:=by have hj:(0:Int)<(k:Int):=J;omega
   have S:k - 1<l.length:=oa
   have ha:((k:Int) - 1)=((k - 1:Nat):Int):=oa
   have hm:=Mi.1 hi (k - 1) k S E oa;refine Qa<|Qa<|Qa<|Qa<|x (Jq O O ⟨oa,oa⟩)<|xii (i:=k - 1) h O (show Go.Lg.ev _ _=_ from OV sS ha) S λhn hc =>
    x (Qr hc O)<|x (X6 O O)<|QB O<|Qb<|⟨(),⟨OV Value.bool (OZ oa),Z⟩,O⟩
  refine Qa<|Zq<|Zq<|Kt<|QB O<|Qb<|⟨(),La,O⟩
 rintro _ g3 w3 rfl;refine ZD rfl<|Qf<|Qs<|QD O O<|Qa<|xe ?_;exact⟨k+1,oa,La,E,O⟩
theorem QdL (h:Zp L ↑w va vm ve a)(I:Qu L ↑w vo o)(hok:Q0 a)(J:∀x∈o,0<=x/\x<32)(hi:YA o):
  QR sV 93 [.agg #[va,sS a.st,vm,ve],vo] w λr w'=>r=sS 0/\sW w w':=by
 refine Zm func93 ?_;refine Qc<|Za [va,sS a.st,vm,ve] λT U E V S=>Qb ?_;have hA:=Y5 (h.I E);rw[(ZC a).2 hok]at hA;refine Qd<|Qc<|QV S O O<|Qv<|hA.S ?_;rintro r2 Y ⟨rfl,G⟩;refine Qb<|Qk<|ZM O O<|xe<|ZD rfl<|Qf<|Qk<|Qv<|(Qis ((I.I E).I G) J hi).S ?_;rintro r3 w3 ⟨rfl,rfl⟩;refine Qb<|Qh ⟨[_],La,O,E.D G⟩
def pkB (l:LI):List UInt8:=l.map λx=>UInt8.ofNat (x.toNat+1)
def pkA (l:LI):ByteArray:=⟨(pkB l).toArray⟩
theorem QlJ {m:LI}(hl:∀x∈l,0<=x/\x<100)(I:∀x∈m,0<=x/\x<100)(h:pkA l=pkA m):l=m:=by
 have E:pkB l=pkB m:=by
  have:=OV (λb:ByteArray=>b.data.toList) h;simpa[pkA]using this
 clear h;induction l generalizing m with
 | nil =>
  cases m with
  | nil=>rfl
  | cons y m=>cases E
 | cons x l ih =>
  cases m with
  | nil=>cases E
  | cons y m =>
   obtain⟨J,S⟩:=List.cons.inj E;have T:=OV UInt8.toNat J;have U:=hl x Lm;have V:=I y Lm;rw[Xt oa,Xt oa]at T;rw[show x=y by omega,ih (λz G=>hl z (Lk _ G)) (λz G=>I z (Lk _ G)) S]
theorem Qer {v:O2}{r:Nat}(h:w.ownsRow base 5 1 v n cs)(U:r<128)(V:n+1<=1000000000)(hb:base<=↑w):
  QR sV 240 [v,.int .i32 (r:Int)] w λv' w'=>O5 (ob v) w w'/\w'.ownsRow base 5 1 v' (n+1) (cs++[.int .u8 (r:Int)]):=by
 refine Zm func240 ?_;refine Qc<|Qb<|Qd<|Qk<|x (Yh (n:=(r:Int)) O (show inK .u32 (r:Int) from⟨oa,oa⟩))<|x (X6 O O)<|xe<|Zi rfl (λG=>?_) (λG=>OW (show(r:Int)<=127 by omega) G);refine Qk<|Qa<|x (Yh (n:=(r:Int)) O (show inK .u8 (r:Int) from⟨oa,oa⟩))<|Qo<|Q9 [[.int .u8 (r:Int)]] λb11 Y E ha I =>
  Qo<|Q8 (m:=1) (news:=[.int .u8 (r:Int)]) (L:=[]) (Qm h E) O O O (I.at od) om oa (oo E.size) λJ w2 S T hc=>Qb<|Qh ⟨[J],La,E.any.V T,S⟩
theorem Qal {T:O1}{b:Nat}{E:List UInt8}{p:O2}(h0:sW T w)(hb:↑T<=b)(hp:p=.pointer none\/p=me b)(h:Bl p b E w){r:Nat}(hr:r<128)(hl:E.length+1<=1000000000):
  QR sV 169 [me b,.int .i32 (r:Int)] w λ_ w'=>sW T w'/\Bl (me b) b (E++[UInt8.ofNat r]) w':=by
 refine Zm func169 ?_;refine Qc<|x Qe<|Qb<|Qk<|Qv<|(KB h0 hb hp h).S ?_;rintro r1 w1 ⟨rfl,hg,v,I,J⟩;refine xe ?_;have hn:=I.lt;have hh:Zt [] ↑w1 v E.length 1 (Lib.byteCells E):=QO J oa od;refine Qk<|Z6 O<|Qq O I O O<|QG hh O<|Qb<|Qk<|Qa<|Z6 O<|Qq O I O O<|Qa<|Qv<|(Qer J hr hl oa).S ?_;rintro S V ⟨Y,hj⟩;have U:V.ownsRow (b+1) 5 1 S (E++[UInt8.ofNat r]).length (Lib.byteCells (E++[UInt8.ofNat r])):=by
  have e:(UInt8.ofNat r).toNat=r:=Xt oa;simpa[Lib.byteCells,e]using hj
 have hk:Zt [] ↑V S (E++[UInt8.ofNat r]).length 1 (Lib.byteCells (E++[UInt8.ofNat r])):=QO U (by simp;omega) od;refine Z6 rfl<|Zc O<|Qo<|Qw (I.J Y (λG=>oo (Qj J b G).1)) O O od hk.one λw4 ha he=>xe ?_;have hf:=Qg U ha (λc G=>by have:=(Qj U c G).1;simp;omega);have hm:Zt [] ↑w4 S (E++[UInt8.ofNat r]).length 1 (Lib.byteCells (E++[UInt8.ofNat r])):=QO hf (by simp;omega) od;have hq:(E++[UInt8.ofNat r]).length=E.length+1:=od
 refine Qk<|Z6 O<|Qq O he O O<|QG hm O<|Qa<|x (Jq O O ⟨oa,oa⟩)<|x Qe<|Qb<|Qh ⟨[_,.nilIface],ov,((hg.O Y (λc G=>.inr ?_)).Q ha hb),S,he,hf⟩;have:=(Qj J c G).1;omega
theorem QaG {v:O2}(h:Qu L ↑w v l)(hb:∀x∈l,0<=x/\x<100)(hl:l.length<=1000000):
  QR sV 96 [v] w λr w'=>r=.string (pkA l)/\sW w w':=by
 refine Zm func96 ?_;refine Qc<|Qb<|Qc<|QN [.pointer none,nS] λG w1 ha U hc=>xe ?_;refine Qd<|Qk<|QG h O<|Qa<|xe<|QW (α:=Nat×O2) [(5,5),(8,16)] (λz=>[(8,sS z.1)]) (λz w'=>z.1<=l.length/\sW w w'/\(z.2=.pointer none\/z.2=me G)/\Bl z.2 G (pkB (l.take z.1)) w') (λz=>l.length - z.1) (0,.pointer none) La
  ⟨Lo _,ha,.inl O,⟨_,hc,QM _ _ _ _⟩⟩ ?_
 rintro⟨k,p⟩ g w2 ⟨hk,J,S,I⟩;simp only[]at hk S I;refine Zk rfl O (λT=>?_) (λT=>?_)
 ·refine Qt ?_;have he:l.length<=k:=by have hf:¬(k:Int)<(l.length:Int):=T;omega
  rw[Lq he]at I;refine Qc<|KS<|(Vm J U S I).S ?_;rintro r3 w3 ⟨rfl,hg⟩;refine Qb<|Qh ⟨[_],La,O,hg⟩
 have E:k<l.length:=by have hf:(k:Int)<(l.length:Int):=T;omega
 have hh:=hb _ (Le E);have V:pkB (l.take (k+1))=pkB (l.take k)++[UInt8.ofNat ((l[k]'E).toNat+1)]:=by
  rw[Lj E];unfold pkB;rw[Lv];rfl
 refine Qf<|Qd<|Qn<|Qc<|xii (i:=k) (h.I J) O O E λho Y=>?_;refine Zg (l[k]'E) λs hs=>?_;rw[hs]at Y hh V;have hj:s+1=((s.toNat+1:Nat):Int):=oa
 have hq:(pkB (l.take k)).length<=1000000:=by unfold pkB;rw[Ll,LC];omega
 refine x (Qr Y O)<|Qb<|Qs<|Qa<|QD O O<|x (Yh (n:=s+1) O (show inK .i32 (s+1) from⟨oa,oa⟩))<|Qo<|xf ?_;refine(show QR _ _ [me G,.int .i32 (s+1)] _ _ by rw[hj];exact Qal J U S I oa oa).S ?_;rintro r4 w4 ⟨hm,hn⟩;refine xe<|Qs<|QD O O<|Qa<|xe<|⟨(k+1,me G),by show l.length - (k+1)<l.length - k;omega,La,E,hm,.inr O,?_⟩;simp only[];rw[V];exact hn
theorem Qbi {l:LI}(G:l.Pairwise (·<=·)):∀m,m<=l.length->YA (compactUpTo l.toArray m)
 | 0,_=>by simp[compactUpTo,YA]
 | m+1,h=>by
  have J:m<l.length:=oa
  have hx:l.toArray[m]! = l[m]:=by simp[J]
  rw[compactUpTo_succ];by_cases E:keeps l.toArray m=true
  ·rw[OU E];refine Mg.2 ⟨Qbi G m oa,od,λx S y T=>?_⟩;rw[Lb.1 T,hx];have U:=(zw l m oa x).1 S;obtain⟨i,hi,e⟩:=List.mem_take_iff_getElem.1 U;have Y:i<m:=oa
   have I:m - 1<l.length:=oa
   have h3:l[m - 1]≠l[m]:=by
    simp only[keeps,decide_eq_true_eq]at E;rcases E with E|E
    ·have:m=0:=by simpa using E
     omega
    intro e2;have V:l.toArray[m - 1]! = l[m - 1]:=by simp[I]
    exact E (by rw[hx,V,e2])
   have h5:l[i]<=l[m - 1]:=by
    by_cases e3:i=m - 1
    ·subst e3;exact Mx _
    exact Mi.1 G i (m - 1) oa I oa
   have h6:=Mi.1 G (m - 1) m I J oa;omega
  rw[OT E,LF];exact Qbi G m oa
theorem Qm8 {v:O2}(h:Qi 3 base w v l)(hl:l.length<=1099511627776)(S:l.Pairwise (·<=·)):
  QR sV 161 [v] w λr w'=>O5 (ob v) w w'/\∃l',YA l'/\(∀x,x∈l'↔x∈l)/\Qi 3 base w' r l':=by
 rcases h.2 with⟨rfl,T⟩|⟨g,cap,cur,rfl,U,G,V,Y,ha,hf⟩
 ·have hh:l=[]:=Lt T;subst hh;refine Zm func161 ?_;refine Qc<|Qb<|Qd<|Qk<|x (jA O)<|ZX O O<|xe<|Zi O (λ_=>?_) (λh8=>OW og h8);refine Qk<|Qb<|Qh ⟨[nS],La,O5.Y _ _,[],.nil,λx=>Iff.rfl,h⟩
 unfold QR;have E:=AnyE.slices_Compact Tryz.cmpI iC (λ_=>O) (.intD _ _ .i64) (.intD _ _ .i64) 0 (λw=>oc) g 0 cap l.toArray w (J8 G hf) (by simp;omega) (ou V);change Calls sV 161 _ _ _ at E;rw[LW]at E;refine Calls.mono E λe w' he=>?_;obtain⟨rfl,q,rfl⟩:=he;have I:=zw l l.length (Lp _);rw[OI]at I;have hi:=Qbi S l.length (Lp _);have hj:(compactUpTo l.toArray l.length).length<=l.length:=by
  unfold compactUpTo;rw[Ll];exact Lx (LJ _ _) od
 generalize compactUpTo l.toArray l.length=u at *;have:=Ui (e:=3) (n:=q) (k:=u.length) (os:=#[]) (d:=(u++oG (l.length - u.length) 0).toArray) U G (by simp;omega) Y ha od;rw[grow_empty]at this;refine⟨this.1,u,hi,I,?_⟩;have J:=this.2;have h3:(u++oG (l.length - u.length) 0).toArray.toList.take u.length=u:=od
 rw[h3]at J;exact J
theorem Qck (l:LI):(l.mergeSort λx y=>decide (x<=y)).Pairwise (·<=·):=
 (List.pairwise_mergeSort (λa b c E G=>by simp only[decide_eq_true_eq]at *;omega) (λa b=>by simp only[Bool.or_eq_true,decide_eq_true_eq];omega) l).imp λh=>ou h
theorem jK (hd:l.Nodup)(hb:∀x∈l,0<=x/\x<(n:Int)):(l.mergeSort λx y=>decide (x<=y))=srt n l:=by
 have E:=Nc l (λx y=>decide (x<=y));refine QhY ?_ (λx=>E.mem_iff) hb;have G:=Qck l;have I:(l.mergeSort λx y=>decide (x<=y)).Nodup:=E.nodup_iff.2 hd;exact(G.and I).imp λ⟨J,S⟩=>oa
theorem Qph (h:l.Nodup):(jd l s).Nodup:=by
 unfold jd;split
 ·rename_i E;rw[Mb];exact⟨h,od,λa G b hb e=>E (by rw[List.mem_singleton.1 hb]at e;exact e ▸ G)⟩
 exact h
theorem Qpi (h:∀x∈l,0<=x/\x<(n:Int))(E:0<=s/\s<(n:Int)):∀x∈jd l s,0<=x/\x<(n:Int):=by
 unfold jd;split
 ·intro x hx;rcases Lh.1 hx with hx|hx
  ·exact h x hx
  rw[Lb.1 hx];exact E
 exact h
theorem yX.nd {E:LI}(h:yX n E l)(G:E.Nodup):l.Nodup:=by
 obtain⟨m,rfl,I,_,J⟩:=h.ex;rw[Mb];exact⟨G,I,λa S b hb e=>J b hb (e ▸ S)⟩
structure RcI (base n b7 bs b8:Nat)(w0:O1)(vl:O2)(l:LI)(w:O1):Prop where
 st:sW w0 w
 k7:QL ↑w b7 301 [slN bs n]
 ks:QL ↑w bs 4 ((flg n l).map Value.bool)
 k8:QL ↑w b8 47 [vl]
 o:Qi 3 base w vl l
 z:base<=↑w
theorem RcI.I {base n G I J:Nat}{S w w':O1}{vl:O2}{l:LI}(h:RcI base n G I J S vl l w)(E:sW w w'):RcI base n G I J S vl l w' :=
 ⟨h.st.D E,h.k7.I E,h.ks.I E,h.k8.I E,Qm h.o E,Lx h.z E.size⟩
theorem jy {S:Nat}{w0:O1}(h:RcI base n S E G w0 vl l w)(hw:↑w0<=E/\↑w0<=G)(h7:S<base)(hk:E<base)(h8:G<base)(h0:0<=s)(h1:s<(n:Int))(hl:l.length<=100000):
  QR sV 239 [sS s,sP S,sP G] w λ_ w'=>∃vl',RcI base n S E G w0 vl' (jd l s) w'/\∀b T cs,b<base->b≠E->b≠G->QL ↑w b T cs->QL ↑w' b T cs:=by
 have hj:s=(s.toNat:Int):=oa
 have hc:=Qj h.o;refine Zm func239 ?_;refine Qc<|ZE h.k7 O O<|Qa<|x (QF (i:=s.toNat) O (OV sS hj) oa)<|ZE h.ks O (ym h0 h1)<|x (Zl O)<|xe<|Q6 rfl (λhf=>?_) (λhf=>?_)
 ·have hg:s∉l:=by simpa using hf
  have he:jd l s=l++[s]:=by unfold jd;rw[OU hg]
  refine Qc<|ZE h.k7 O O<|Qa<|x (QF (i:=s.toNat) O (OV sS hj) oa)<|Qo<|Qw (j:=0+s.toNat*1) (u:=.bool true) h.ks O O (by rw[Ll,Uz];omega) O λw1 J hn=>xe ?_;have ho:S≠E:=QL.ne h.k7 h.ks og;have n8s:G≠E:=QL.ne h.k8 h.ks og;have hp:S≠G:=QL.ne h.k7 h.k8 og;have hq:QL ↑w1 E 4 ((flg n (l++[s])).map Value.bool):=by
   rw[<-(zp (n:=n) (l:=l) h0),Ny];simpa using hn
  have hr:=Qg h.o J λb hb Y=>by have:=(hc b hb).1;rw[Lb.1 Y]at this;omega
  have hu:=J.size;have hz:=h.z;refine Qs<|ZE (h.k8.J J (by simp only[oF];exact n8s)) O O<|Qa<|Qo<|Q9 [[sS s]] λhv w2 I h2 hs =>
   Qo<|Q8 (m:=1) (news:=[sS s]) (L:=[]) (Qm hr I) O O O (hs.at od) om oa (oo I.size) λv3 w3 hh U h3=>?_
  have h4:=I.size;have ha:∀{y:Nat},y<base->y∉ob vl:=λhy Y=>oo (hc _ Y).1
  have g3:=Qj hh;refine Qo<|Qw (u:=v3) (((h.k8.J J (by simp only[oF];exact n8s)).I I).J U (ha h8)) O O (L4 O) (QC hh) λw4 V ht=>xe ?_;have h5:=U.size;have h6:=V.size;refine⟨[],Z,v3,?_,λb T cs y1 y2 y3 hB=>(((hB.J J (by simp only[oF];exact y2)).I I).J U (ha y1)).J V (by simp only[oF];exact y3)⟩;rw[he];refine⟨(((h.st.O J λb hb=>?_).D I).O U λb hb=>?_).O V λb hb=>?_,?_,?_,ht,?_,oa⟩
  ·rw[Lb.1 hb];exact .inr hw.1
  ·exact .inr (oo (hc b hb).1)
  ·rw[Lb.1 hb];exact .inr hw.2
  ·exact(((h.k7.J J (by simp only[oF];exact ho)).I I).J U (ha h7)).J V (by simp only[oF];exact hp)
  ·exact((hq.I I).J U (ha hk)).J V (by simp only[oF];exact n8s.symm)
  exact Qi.snoc (Qg hh V λb hb Y=>by have:=(g3 b hb).1;rw[Lb.1 Y]at this;omega)
 have hg:s∈l:=by simpa using hf
 have he:jd l s=l:=by unfold jd;rw[OT (not_not_intro hg)]
 refine Qf ?_;exact⟨[],Z,vl,by rw[he];exact h,λ_ _ _ _ _ _ hB=>hB⟩
theorem Qni {ev:LI}{e:Ed}:bfE (okR ev) l e=if e.2.1∈ev then jd l e.2.2 else l:=by
 unfold bfE jd okR;by_cases E:e.2.1∈ev
 ·rw[OU E];by_cases G:e.2.2∉l
  ·rw[OU G,OU ⟨OX E,G⟩]
  rw[OT G,OT λh=>G h.2]
 rw[OT E,OT λh=>E (OY h.1)]
theorem QbZ {vf vv:O2}{fr ev:LI}(hr:EdR [] ↑w vr a.st.toNat a.ed)(hok:Q0 a)(hF:Qu [] ↑w vf fr)(hG:∀x∈fr,0<=x/\x<a.st)(kg:fr.length<=1000000)(hV:Qu [] ↑w vv ev):
  QR sV 168 [.agg #[vr,vk,vz,vm],vf,vv] w λr w'=>sW w w'/\Qi 3 ↑w w' r (rch a fr ev):=by
 have kh:=hok.st0;have ki:=hok.st1;obtain⟨n,hn⟩:∃n:Nat,a.st.toNat=n:=⟨_,O⟩;have gj:a.st=(n:Int):=oa
 have kj:=hok.ed_le;obtain⟨rv,hz,hH⟩:=hr;rw[hn]at hz hH;have gk:rch a fr ev=srt n (bfs (okR ev) a.ed ((ddp fr).length+n) 0 (ddp fr)):=by unfold rch cls;rw[hn]
 rw[gk];have gl:=hok.ed;rw[gj]at hG;refine Zm func168 ?_;refine Qc<|Za [vr,vk,vz,vm] λb3 w1 gm kk h0=>Qb ?_;have kn:=h0.lt;refine Qc<|Qq O h0 O O<|QG hz O<|Qo<|YZ (n:=n) (OV (λk:Nat=>sS (k:Int)) L9) (OV (λk:Nat=>sS (k:Int)) L9) oa λS w2 gn ko go =>
  QN [ZT] λb7 w3 hI kq hJ=>Qo<|Qw (u:=slN S n) hJ O O (L4 O) O λw4 h3 gq=>xe ?_
 have hK:QL ↑w2 S 4 ((flg n []).map Value.bool):=by
  have e:(oG n (Value.bool false).cells.toList).flatten=(flg n []).map Value.bool:=by
   simp only[flg,oH,decide_false,List.map_map];apply LX
   ·simp[Value.cells]
   intro i h1 h2;simp[Value.cells]
  rw[<-e];exact go
 have kr:=h3.size;have kt:=hK.lt;have ku:=hJ.lt;refine Qc<|QN [ZT] λT U hp kv hL=>xe ?_;have kw:=hL.lt;have kx:=hp.size;have hM:sW w1 w4:=(gn.D hI).Q h3 oa;have h4:sW w U:=(gm.D hM).D hp;have gr:=(h0.I hM).I hp;have gs:RcI ↑U n b7 S T w ZT (ddp (fr.take 0)) U:=⟨h4,gq.I hp,((hK.I hI).J h3 ol).I hp,hL,QM _ _ _ _,Lp _⟩;have hb:↑w<=S/\↑w<=T:=⟨oa,oa⟩;have gt:w.heap.size<=U.heap.size:=h4.size;refine Qc<|x (Zn (l:=[]) (l':=[_,_]))<|Qb<|Qd<|Qk<|QG (hF.I h4) O<|Qa<|xe<|QW (α:=Nat×O2) [(11,11),(22,29)] (λz=>[(22,sS z.1)]) (λz w'=>z.1<=fr.length/\RcI ↑U n b7 S T w z.2 (ddp (fr.take z.1)) w'/\(ddp (fr.take z.1)).Nodup/\(∀x∈ddp (fr.take z.1),0<=x/\x<(n:Int))/\QL ↑w' b3 201 [vr,vk,vz,vm]) (λz=>fr.length - z.1) (0,ZT) La ⟨Lo _,gs,by simp[ddp],by simp[ddp],gr⟩ ?_;rintro⟨k,vl⟩ g w6 ⟨hk,ha,hf,hg,hN⟩;simp only[]at hk ha hf hg;have hO:(ddp (fr.take k)).length<=n:=xH n _ hf hg;refine Zk rfl O (λh5=>?_) (λh5=>?_)
 ·refine Qt ?_;have gu:fr.length<=k:=by have hq:¬(k:Int)<(fr.length:Int):=h5;omega
  rw[Lq gu]at ha hf hg hO;refine Zg (ddp fr) λG gv=>?_;rw[gv]at ha hf hg hO ⊢;refine Zg (bfs (okR ev) a.ed (G.length+n) 0 G) λR hR=>?_;rw[hR];refine Qd<|Qc<|Qb<|QW (α:=Nat×O2×LI) [(12,12),(14,14),(30,57)] (λz=>[(12,sS z.1)]) (λz w'=>z.1<=z.2.2.length/\RcI ↑U n b7 S T w z.2.1 z.2.2 w'/\yX n G z.2.2/\bfs (okR ev) a.ed (G.length+n - z.1) z.1 z.2.2=R/\QL ↑w' b3 201 [vr,vk,vz,vm]) (λz=>G.length+n+1 - z.1) (0,vl,G) La ⟨Lo _,ha,yX.zero _ _,hR,hN⟩ ?_;rintro⟨i,vi,l⟩ g w7 ⟨hi,E,ht,V,hP⟩;simp only[]at hi E ht V;have kz:=ht.len;have hQ:=ht.all hg;have hS:Qu [] ↑w7 vi l:=Qi.ints E.o oa od;refine Qd<|Qk<|ZE E.k8 O O<|QG hS O<|ZX O O<|xe<|Zr O (λh6=>?_) (λh6=>?_)
  ·refine Qt ?_;have gx:¬i<l.length:=by have hq:¬(i:Int)<(l.length:Int):=h6;omega
   rw[QcZ gx]at V;subst V;have hT:=Qj E.o;refine Qc<|ZE E.k8 O O<|Qv<|(J6 E.o oa).S ?_;rintro _ w8 ⟨hU,hW⟩;refine xe<|Qc<|ZE (E.k8.J hU λhm=>oo (hT _ hm).1) O O<|Qb<|Qh ⟨[vi],La,E.st.O hU λb hb=>.inr (oo (hT b hb).1),?_⟩;rw[jK (ht.nd hf) hQ]at hW;exact Zf hW gt
  have I:i<l.length:=by have hq:(i:Int)<(l.length:Int):=h6;omega
  have hh:=hQ _ (Xv I);have gy:G.length+n - i=(G.length+n - (i+1))+1:=oa
  rw[gy,bfs,OU I]at V;have hX:=ZA I;refine Zg (O6 l i) λs hs=>?_;rw[hs]at hh V hX;have hY:s=(s.toNat:Int):=oa
  have hZ:s.toNat<n:=oa
  have hE:=hH s.toNat hZ;have k0:=Yg a.ed s;have gz:QQ a.ed (s.toNat:Nat)=QQ a.ed s:=by rw[<-hY]
  rw[gz]at hE;have g0:s.toNat<(oJ n).length:=by rw[L9];exact hZ
  refine Qf<|Qd<|Qn<|Qd<|ZL [] (Xg 0 10 [])<|p (QH O)<|pq (λ_ Y=>Ql (hP.I Y) O O)<|pq (λ_ Y=>Ql (E.k8.I Y) O O)<|p Qx<|Lg.pii (i:=i) O hS O O I λk4 ga=>?_;rw[hX]at ga;refine pq (λ_ Y=>Qr (ga.I Y) O)<|Lg.pig (g:=λj:Nat=>[rv j]) (i:=s.toNat) O (λ_=>O) (hz.I E.st) O (show Go.Lg.ev _ _=_ from OV sS hY) g0 λk5 gb=>?_;rw[Mr]at gb;refine pq (λ_ Y=>Qr (u:=rv s.toNat) (gb.I Y) O)<|p (λ_=>YY hE O)<|p Qx<|pe ?_;have gc:sW w7 { w7 with drawn:=w7.drawn+1 }:=O5.X _ _
  refine QW (α:=Nat×O2×LI) [(14,14),(45,57)] (λz=>[(45,sS z.1)]) (λz w'=>z.1<=(QQ a.ed s).length/\RcI ↑U n b7 S T w z.2.1 z.2.2 w'/\yX n G z.2.2/\l.length<=z.2.2.length/\((QQ a.ed s).drop z.1).foldl (bfE (okR ev)) z.2.2=(QQ a.ed s).foldl (bfE (okR ev)) l/\QL ↑w' b3 201 [vr,vk,vz,vm]) (λz=>(QQ a.ed s).length - z.1) (0,vi,l) La ⟨Lo _,E.I gc,ht,Lp _,O,hP.I gc⟩ ?_;rintro⟨j,vj,lj⟩ g w8 ⟨hj,hv,hu,h7,J,h8⟩;simp only[]at hj hv hu h7 J;have k6:=hu.len;refine Zk O O (λh9=>?_) (λh9=>?_)
  ·refine Qt ?_;have g2:(QQ a.ed s).length<=j:=by have hq:¬(j:Int)<((QQ a.ed s).length:Int):=h9;omega
   rw[Lr g2]at J;have g3:lj=(QQ a.ed s).foldl (bfE (okR ev)) l:=J;rw[<-g3]at V;refine Qs<|Qa<|QD O O<|Qb<|⟨(i+1,vj,lj),by show G.length+n+1 - (i+1)<G.length+n+1 - i;omega,La,by show i+1<=lj.length;omega,hv,hu,V,h8⟩
  have ho:j<(QQ a.ed s).length:=by have hq:(j:Int)<((QQ a.ed s).length:Int):=h9;omega
  have g4:=ZH (Le ho);have hA:=gl _ g4.1;rw[QY ho,LO]at J;refine Zg ((QQ a.ed s)[j]'ho) λe he=>?_;rw[he]at hA J;refine Qf<|Qd<|Qn<|Qc<|xie (hE.I hv.st) O O ho λk9 ge=>?_;rw[he]at ge;refine x (QA ge O O)<|QN [sS 0,sS 0,sS 0] λma w9 g5 g6 g7=>Q2 (Qp e) g7 ox λg8 g9 gg=>xe ?_;have hB:sW w8 g8:=g5.Q g9 g6;have hC:=hv.I hB;have ka:=hu.edge (okR ev) (e:=e) ⟨hA.2.2.2.1,oa⟩;have kb:lj.length<=(bfE (okR ev) lj e).length:=by unfold bfE;split <;> simp
  have hw:=Qni (ev:=ev) (l:=lj) (e:=e);refine Qk<|Qq O gg O O<|Qv<|(ZK (hV.I hC.st) e.2.1).S ?_;rintro _ mc ⟨rfl,rfl⟩;refine xe<|Q6 O (λhD=>?_) (λhD=>?_)
  ·rw[OU (OY hD)]at hw;refine Qs<|Qa<|Qq O gg O O<|Qo<|xc (first:=[]) (capt:=[sP b7,sP T]) O<|(jy hC hb oa oa oa hA.2.2.2.1 (show e.2.2<(n:Int) by omega) oa).S ?_;rintro _ mf ⟨kc,gh,ke⟩;refine xe<|Qs<|QD O O<|Qa<|xe ?_;rw[<-hw]at gh;refine⟨(j+1,kc,bfE (okR ev) lj e),by show(QQ a.ed s).length - (j+1)<(QQ a.ed s).length - j;omega,La,ho,gh,ka,Lx h7 kb,J,?_⟩;exact ke b3 _ _ oa oa oa (h8.I hB)
  rw[OT (O0 hD)]at hw;rw[hw]at J;refine Qf<|Qs<|QD O O<|Qa<|xe ?_;exact⟨(j+1,vj,lj),by show(QQ a.ed s).length - (j+1)<(QQ a.ed s).length - j;omega,La,ho,hC,hu,h7,J,h8.I hB⟩
 have I:k<fr.length:=by have hq:(k:Int)<(fr.length:Int):=h5;omega
 have hy:ddp (fr.take (k+1))=jd (ddp (fr.take k)) (fr[k]'I):=by unfold ddp;rw[Lj I,Mj];rfl
 have hh:=hG _ (Le I);refine Qf<|Qd<|Qn<|Qc<|xii (i:=k) (hF.I ha.st) O O I λmg gi=>?_;refine Zg (fr[k]'I) λs hs=>?_;rw[hs]at gi hy hh;refine x (Qr gi O)<|Qb<|Qs<|Qa<|Qa<|Qo<|xc (first:=[]) (capt:=[sP b7,sP T]) O<|(jy ha hb oa oa oa hh.1 hh.2 oa).S ?_;rintro _ w7 ⟨v7,E,kf⟩;refine xe<|Qs<|QD O O<|Qa<|xe<|⟨(k+1,v7),by show fr.length - (k+1)<fr.length - k;omega,La,I,?_,?_,?_,?_⟩
 ·show RcI _ _ _ _ _ _ _ (ddp (fr.take (k+1))) _;rw[hy];exact E
 ·show(ddp (fr.take (k+1))).Nodup;rw[hy];exact Qph hf
 ·show ∀x∈ddp (fr.take (k+1)),_;rw[hy];exact Qpi hg hh
 exact kf b3 _ _ oa oa oa hN
theorem Qcq {k:Nat}(v:Int)(h:k<l.length):hop ed (l.take (k+1)) v=hop ed (l.take k) v++((QQ ed (l[k]'h)).filter λe=>decide (e.2.1=v)).map (·.2.2):=by
 unfold hop;rw[Lj h,LD,LK,OJ,LF]
theorem jT {k:Nat}(v:Int)(h:k<es.length):((es.take (k+1)).filter λe=>decide (e.2.1=v)).map (·.2.2)=((es.take k).filter λe=>decide (e.2.1=v)).map (·.2.2)++if(es[k]'h).2.1=v then[(es[k]'h).2.2]else[]:=by
 rw[Lj h,LT,Lv];congr 1;by_cases e:(es[k]'h).2.1=v <;> simp[e]
theorem Qjy (hok:Q0 a)(l:LI)(v:Int):∀x∈hop a.ed l v,0<=x/\x<a.st:=by
 intro x hx;obtain⟨s,_,hx⟩:=Md.1 hx;obtain⟨e,E,rfl⟩:=Ly.1 hx;have:=hok.ed e (ZH (LQ.1 E).1).1;omega
theorem Qa3 (ed:List Ed)(v:Int):∀(l:LI),(hop ed l v).length<=l.length*ed.length
 | []=>by simp[hop]
 | s::l=>by
  have E:=Qa3 ed v l;have G:(((QQ ed s).filter λe=>decide (e.2.1=v)).map (·.2.2)).length<=ed.length:=by
   rw[Ll];exact Lx (LJ _ _) (Yg ed s)
  unfold hop at *;rw[LK,Lc,LL,OO];omega
theorem QdI (h:ObA ↑w vr vk vz vm a o)(hok:Q0 a)(S:0<a.st):
  QR sV 95 [.agg #[vr,vk,vz,vm]] w λr w'=>sW w w'/\Qi 3 ↑w w' r (rch a [0] (ers a o)):=by
 obtain⟨rv,T,_⟩:=h.r;refine Zm func95 ?_;refine Qc<|Za [vr,vk,vz,vm] λb1 w1 U hf G=>Qb<|Qd<|Qc<|Qq O G O O<|QG T O<|x (Zd O O)<|xe<|Zi rfl (λI=>OW I (by rw[L9];omega)) (λI=>?_);refine Qf<|Qc<|QV G O O<|Qo<|Q9 [[sS 0]] λV Y J hg ha=>?_;have E:=U.D J;have hF:Qu [] ↑Y (sL V 1 1) [0]:=ha.arr od (n:=1) (cap:=1) (sz:=1) rfl og (Lp _);refine Qq rfl (G.I J) O O<|Qv<|(QbZ (h.r.I E) hok hF (λx hx=>by rw[Lb.1 hx];exact⟨Mx _,S⟩) od (h.z.I E)).S ?_;rintro r3 w3 ⟨hc,he⟩;refine Qb<|Qh ⟨[_],La,E.D hc,Zf he E.size⟩
theorem Qgr {est:LI}(h:ObA ↑w vr vk vz vm a o)(hok:Q0 a)(hE:Qu [] ↑w ve est)(h4:∀x∈est,0<=x/\x<a.st)(hP:est.length<=9)(h5:a.ed.length<=1000)(v:Int):
  QR sV 98 [.agg #[vr,vk,vz,vm],ve,sS v] w λr w'=>sW w w'/\Qi 3 ↑w w' r (pnx a (ers a o) est v):=by
 have hQ:=hok.st0;obtain⟨n,hn⟩:∃n:Nat,a.st.toNat=n:=⟨_,O⟩;have hR:a.st=(n:Int):=oa
 obtain⟨rv,hr,ht⟩:=h.r;rw[hn]at hr ht;have h6:∀k,k<=est.length->(hop a.ed (est.take k) v).length<=9000:=λk hk=>by
  have h1:=Qa3 a.ed v (est.take k);have h2:(est.take k).length<=9:=by rw[LC];omega
  have h3:(est.take k).length*a.ed.length<=9*1000:=M9 h2 h5;omega
 refine Zm func98 ?_;refine Qc<|Za [vr,vk,vz,vm] λb3 Y hc hS hf=>Qb<|Qc<|Qb<|Qd<|Qk<|QG (hE.I hc) O<|Qa<|xe<|QW (α:=Nat×O2) [(7,7),(9,9),(11,11),(14,38)] (λz=>[(7,z.2),(14,sS z.1)]) (λz w'=>z.1<=est.length/\sW Y w'/\Qi 3 ↑Y w' z.2 (hop a.ed (est.take z.1) v)) (λz=>est.length - z.1) (0,ZT) ov ⟨Lo _,O5.Y _ _,QM _ _ _ _⟩ ?_;rintro⟨k,vl⟩ g w2 ⟨hk,I,ha⟩;simp only[]at hk ha;have E:=hc.D I;have h7:=h6 k hk;refine Zk rfl O (λhg=>?_) (λhg=>?_)
 ·refine Qt ?_;have h8:est.length<=k:=by have hh:¬(k:Int)<(est.length:Int):=hg;omega
  rw[Lq h8]at ha h7;have hL:=Qi.ints (L:=[]) ha oa od;refine Qc<|QV (hf.I I) O O<|Qa<|Qq O (hf.I I) O O<|Qv<|(QbZ (h.r.I E) hok hL (Qjy hok est v) oa (h.z.I E)).S ?_;rintro r3 w3 ⟨h9,hA⟩;refine Qb<|Qh ⟨[_],La,E.D h9,Zf hA E.size⟩
 have J:k<est.length:=by have hh:(k:Int)<(est.length:Int):=hg;omega
 have hu:=Qcq (ed:=a.ed) v J;have hB:=h4 _ (Le J);refine Qf<|Qd<|Qn<|Qc<|xii (i:=k) (hE.I E) O O J λhT hv=>?_;refine Zg (est[k]'J) λs hs=>?_;rw[hs]at hv hu hB;have hC:s=(s.toNat:Int):=oa
 have hw:s.toNat<n:=oa
 have hm:=ht s.toNat hw;rw[show((s.toNat:Nat):Int)=s by omega]at hm;have hD:s.toNat<(oJ n).length:=by rw[L9];exact hw
 have hU:=Yg a.ed s;refine x (Qr hv O)<|Qb<|Qc<|Qq O (hf.I I) O O<|Qa<|O8 (g:=λj:Nat=>[rv j]) (i:=s.toNat) (λ_=>O) (hr.I E) O (OV sS hC) hD λhV hy=>?_;rw[Mr]at hy;refine x (Qr (u:=rv s.toNat) hy O)<|QG hm O<|Qa<|xe<|QW (α:=Nat×O2) [(7,7),(11,11),(24,37)] (λz=>[(7,z.2),(24,sS z.1)]) (λz w'=>z.1<=(QQ a.ed s).length/\sW Y w'/\Qi 3 ↑Y w' z.2 (hop a.ed (est.take k) v++(((QQ a.ed s).take z.1).filter λe=>decide (e.2.1=v)).map (·.2.2))) (λz=>(QQ a.ed s).length - z.1) (0,vl) ov ⟨Lo _,I,by simp only[List.take_zero,List.filter_nil,OC,Oo];exact ha⟩ ?_;rintro⟨j,vj⟩ g w4 ⟨hj,S,G⟩;simp only[]at hj G;have hF:=hc.D S;refine Zk rfl O (λho=>?_) (λho=>?_)
 ·refine Qt ?_;have hG:(QQ a.ed s).length<=j:=by have hh:¬(j:Int)<((QQ a.ed s).length:Int):=ho;omega
  rw[Lq hG,<-hu]at G;refine Qs<|QD O O<|Qa<|xe ?_;exact⟨(k+1,vj),by show est.length - (k+1)<est.length - k;omega,ov,J,S,G⟩
 have T:j<(QQ a.ed s).length:=by have hh:(j:Int)<((QQ a.ed s).length:Int):=ho;omega
 have U:=jT v T;have hW:(hop a.ed (est.take k) v++(((QQ a.ed s).take j).filter λe=>decide (e.2.1=v)).map (·.2.2)).length<=10000:=by
  rw[Lc,Ll];have h1:=LJ (λe:Ed=>decide (e.2.1=v)) ((QQ a.ed s).take j);rw[LC]at h1;omega
 refine Zg ((QQ a.ed s)[j]'T) λe he=>?_;rw[he]at U;refine Qf<|Qd<|Qn<|Qc<|xie (hm.I hF) O O T λhX hz=>?_;rw[he]at hz;refine x (QA hz O O)<|QN [sS 0,sS 0,sS 0] λb11 w5 hH hI hJ=>Q2 (Qp e) hJ ox λw6 hK h0=>xe ?_;have V:sW w4 w6:=hH.Q hK hI;have hY:=S.size;have hZ:=V.size;refine Qc<|Qq O h0 O O<|Qa<|x (Zd O O)<|xe<|Zr rfl (λhp=>?_) (λhp=>?_)
 ·rw[OT hp,LF]at U;refine Qf<|Qs<|QD O O<|Qa<|xe ?_;exact⟨(j+1,vj),by show(QQ a.ed s).length - (j+1)<(QQ a.ed s).length - j;omega,ov,T,S.D V,by simp only[];rw[U];exact Qm G V⟩
 rw[OU hp]at U;refine Qs<|Qa<|Qq O h0 O O<|Qo<|Q9 [[sS e.2.2]] λga w7 hq gb hM =>
  Qo<|Q8 (m:=1) (news:=[sS e.2.2]) (L:=[]) (Qm G (V.D hq)) O O O (hM.at od) om oa (oo hq.size) λv8 w8 hN hO gc=>Qb<|Qs<|QD O O<|Qa<|xe ?_
 refine⟨(j+1,v8),by show(QQ a.ed s).length - (j+1)<(QQ a.ed s).length - j;omega,ov,T,((S.D V).D hq).O hO λb hb=>.inr (Qj G b hb).1,?_⟩;simp only[];rw[U,<-LA];exact Qi.snoc hN
theorem QdJ {b:Nat}{mr:LI}(E:QL ↑w b 201 [vr,vk,vz,vm])(G:Qu [] ↑w vm mr)(s:Int):
  QR sV 171 [sS s,sP b] w λr w'=>r=.bool (decide (s∈mr))/\sW w w':=by
 refine Zm func171 ?_;refine Qc<|Qb<|Qc<|Qq O E O O<|Qa<|Qv<|(ZK G s).S ?_;rintro I J ⟨rfl,rfl⟩;refine Qb<|Qh ⟨[_],La,O,O5.Y _ _⟩
theorem Qgs {est:LI}(h:ObA ↑w vr vk vz vm a o)(hE:Qu [] ↑w ve est):
  QR sV 97 [.agg #[vr,vk,vz,vm],ve] w λr w'=>r=.bool (mkd a est)/\sW w w':=by
 refine Zm func97 ?_;refine Qc<|Za [vr,vk,vz,vm] λI T E U J=>Qb<|Qk<|x (Zn (l:=[]) (l':=[.tmp 2]))<|Qv<|(Qbg (q:=λs=>decide (s∈a.mr)) (cap:=[sP I]) (hE.I E) (λe V G=>QdJ (J.I G) ((h.m.I E).I G) e)).S ?_;rintro r2 Y ⟨rfl,S⟩;refine Qb<|Qh ⟨[_],La,O,E.D S⟩
abbrev Yt:LV:=[nS,sS 0,nS,nS]
def KnP (m:List (ByteArray×O2))(tup:List (LI)):Prop :=
 ∀u:LI,(∀x∈u,0<=x/\x<100)->xd m (pkA u)=if u∈tup then some (sS (tup.idxOf u:Int)) else none
theorem KnP.add {m:List (ByteArray×O2)}{tup:List (LI)}(h:KnP m tup)(I:u∉tup)(J:∀x∈u,0<=x/\x<100):KnP (xh m (pkA u) (sS (tup.length:Int))) (tup++[u]):=by
 intro v G;rw[Jk];by_cases e:u=v
 ·subst e;rw[OU rfl,OU od,L7,OT I];simp
 rw[OT (λS=>e (QlJ J G S)),h v G];by_cases E:v∈tup
 ·rw[OU E,OU (by simp[E]),L7,OU E]
 rw[OT E,OT (by simp[E,Ne.symm e])]
structure PjO (n:Nat)(s:Sy):Prop where
 v:∀t∈s.tup,Ss n t
 d:s.tup.Nodup
theorem PjO.le {s:Sy}(h:PjO n s):s.tup.length<=2 ^ n:=ze n _ h.d h.v
theorem PjO.add {s:Sy}(h:PjO n s)(G:Ss n u):PjO n (K4 s u):=by
 unfold K4;split
 ·exact h
 rename_i I;refine⟨λt E=>?_,?_⟩
 ·rcases Lh.1 E with E|E
  ·exact h.v t E
  rw[Lb.1 E];exact G
 rw[Mb];exact⟨h.d,od,λa J b hb e=>I (by rw[List.mem_singleton.1 hb]at e;exact e ▸ J)⟩
theorem QaF (a:Qz)(i:Nat)(t:LI)(s:Sy):(qT a i t s).tup=s.tup/\(qT a i t s).ed=s.ed/\(qT a i t s).mk'.length<=s.mk'.length+1:=by
 unfold qT;split
 ·exact⟨O,O,od⟩
 exact⟨O,O,oa⟩
theorem Qom (s:Sy)(u:LI):(K4 s u).mk'=s.mk'/\(K4 s u).ed=s.ed:=by unfold K4;split <;> exact⟨O,O⟩
theorem QrT (h:n<=9):2 ^ n<=512:=Nk og h
theorem KE (h:Zp [] ↑w va vm ve a)(hO:Qu [] ↑w vo o)(hok:Q0 a)(pd:∀x∈o,0<=x/\x<32)(pf:YA o)(h9:a.st<=9)(pg:a.ed.length<=1000):
  QR sV 40 [.agg #[va,sS a.st,vm,ve],vo] w λr w'=>sW w w'/\∃vp vt,r=.tuple #[vp,vt,sS 0]/\vt.oneCell'=true/\YT ↑w ↑w' vp (ZY a o):=by
 have hst0:=hok.st0;obtain⟨n,hn⟩:∃n:Nat,a.st.toNat=n:=⟨_,O⟩;have hna:a.st=(n:Int):=oa
 have hp9:=QrT (n:=n) oa;have hall:=hok.al_le;have hq:prj a o=if a.st=0 then⟨[],[],[]⟩else ja a (kpt a o) (ers a o) (2 ^ n) 0 (pj0 a (ers a o)):=by unfold prj;rw[hn]
 refine Zm func40 ?_;refine Qc<|Za [va,sS a.st,vm,ve] λb0 w1 ke hb0 gi=>QN Yt λb4 w2 hL hb4 kf=>x Qe<|Qb ?_;have gj:=ke.D hL;have hl4:=kf.lt;have hz1:=ke.size;refine Qd<|Qc<|QV (gi.I hL) O O<|Qa<|Qv<|(QdL (h.I gj) (hO.I gj) hok pd pf).S ?_;rintro r3 w3 ⟨rfl,hw⟩;have h3:=gj.D hw;refine Qb<|Qk<|ZM O O<|xe<|ZD rfl<|Qf<|Qc<|QV ((gi.I hL).I hw) O O<|Qa<|Qv<|(QdO (h.I h3) (hO.I h3) hok).S ?_;rintro r5 w5 ⟨hM,vr,G,vz,rfl,hh,h4⟩;have kg:(kpt a o).length<=1099511627776:=Lx (LJ _ _) oa;have ph:vr.oneCell'=true:=by obtain⟨rv,h1,_⟩:=hh.r;exact h1.one
 refine QN jH λb8 w6 pj pn po=>Q2 [vr,G,vz,vm] po ⟨ph,hh.k.one,hh.z.one,h.mr.one,Z⟩ λw7 pp hN=>xe ?_;have hz:sW w5 w7:=pj.Q pp pn;have pt:=(h3.D hM).D hz;have kh:=hh.I hz;have hl8:=hN.lt;have hz3:=hw.size;have hz5:=hM.size;refine Qc<|Qq O hN O O<|x (QE ⟨hh.k.cells,Z⟩)<|QN Yt λb2 w8 pu gk pw=>Q2 [G,sS 0,ZT,ZT] pw ⟨hh.k.one,O,O,O,Z⟩ λw9 pz gl=>xe ?_;have hk:sW w7 w9:=pu.Q pz gk;have ki:=pt.D hk;have p0:=kh.I hk;have hl2:=gl.lt;have kj:=(((kf.I hw).I hM).I hz).I hk;have p4:=hN.I hk;refine Qd<|Qc<|Zc O<|x (Ql ((((gi.I hL).I hw).I hM).I (hz.D hk)) O O)<|x (Zd O O)<|xe<|Zi rfl (λgm=>?_) (λgm=>?_)
 ·rw[OU gm]at hq;refine Qc<|QV gl O O<|Q2 [G,sS 0,ZT,ZT] kj ⟨hh.k.one,O,O,O,Z⟩ λw10 kk p5=>x Qe<|Qb<|Qh ⟨[.agg #[G,sS 0,ZT,ZT],ZT,sS 0],⟨Jl p5,O,O,Z⟩,ki.Q kk oa,_,ZT,O,O,?_⟩;have S:ZY a o=⟨kpt a o,0,[],[]⟩:=by unfold ZY;rw[hq];rfl
  rw[S];refine⟨G,ZT,ZT,O,λL' h5=>⟨?_,Zt.nil _ _ _,Zt.nil _ _ _⟩⟩;exact Qi.ints (Qg (Qm h4 (hz.D hk)) kk λb hb U=>by have:=(Qj h4 b hb).1;rw[Lb.1 U]at this;have:=hw.size;omega) kg λb hb=>oq (h5 b hb) h3.size
 have p6:a.st≠0:=gm;rw[OT p6]at hq;have hn0:0<n:=oa
 refine Qf<|Qc<|QV p4 O O<|Qv<|(QdI p0 hok oa).S ?_;rintro hP kn ⟨ko,hQ⟩;have hR:Ss n (rch a [0] (ers a o)):=by unfold rch cls;rw[hn];exact UV _ _
 have p7:(rch a [0] (ers a o)).length<=9:=by unfold rch cls;rw[hn];exact Lx (QeV _ _) oa
 have p8:pj0 a (ers a o)=⟨[rch a [0] (ers a o)],[],[]⟩:=rfl;rw[p8]at hq;refine Zg (rch a [0] (ers a o)) λt0 p9=>?_;rw[p9]at hQ hR p7 hq;have kq:=Qi.ints (L:=[]) hQ oa od;have hz11:=ko.size;refine Qo<|Yi (us:=[[hP]]) O O og od ⟨kq.cells,rfl,Z⟩ λV w12 kr hb37 gn=>Qb ?_;have hl37:=gn.lt;refine Qc<|Qo<|Z1 Xz λhe qa hS hb38 kt=>?_;have hl38:=kt.lt;have qe:Zt [] ↑qa (sL V 1 1) 1 1 [hP]:=(gn.I hS).arr od (n:=1) (cap:=1) (sz:=1) rfl og (Lp _);refine Qa<|xi (i:=0) qe O O og λa40 qf=>x (Qr (u:=hP) qf O)<|Qv<|(QaG ((kq.I kr).I hS) (λx hx=>oo (hR.2 x hx)) oa).S ?_;rintro r14 qj ⟨rfl,hU⟩;have hz14:=hU.size;refine Qo<|Yv (k:=pkA t0) (kt.I hU) O O λwS go ql=>Qa<|Qb ?_;have hzS:=go.size;have qm:sW kn qj:=(kr.D hS).D hU;have ku:sW kn wS:=qm.Q go oa;have h6:sW w9 wS:=ko.D ku;have q0:sW w wS:=ki.D h6;have hV:∀b∈[b2,he,V],b∈([]:LN)\/↑w7<=b:=λb hb=>by
  simp only[oK,oH,or_false]at hb;rcases hb with rfl|rfl|rfl
  ·exact .inr gk
  ·exact .inr oa
  exact .inr oa
 have kv:sW w7 wS:=hk.D h6;have hW:∀{w':O1},O5 [b2,he,V] wS w'->ObA ↑w' vr G vz vm a o:=λ{w'} hs=>kh.I (kv.O hs hV);have gq:∀{w':O1},O5 [b2,he,V] wS w'->QL ↑w' b8 201 [vr,G,vz,vm]:=λ{w'} hs=>hN.I (kv.O hs hV);have h7:SyN ↑w9 b2 he V wS:=⟨oa,oa,oa,oa,oa,oa⟩;have q4:q7 ↑w9 b2 he V G wS ⟨[t0],[],[]⟩ (xh [] (pkA t0) (sS 0)) [(hP,t0)] (sL V 1 1) ZT ZT wS:=by
  refine⟨O5.Y _ _,gl.I h6,ql,?_,λb hb=>by simp[ob]at hb;exact .inl hb,QM _ _ _ _,QM _ _ _ _,O,λp S=>?_,λp S b hb=>?_,Dj.nil' _,Dj.nil' _,Dj.nil' _⟩
  ·exact(((gn.I hS).I hU).J go (by simp;omega)).own (n:=1) (sz:=1) O oa oa
  ·simp only[oF]at S;subst S;exact Qm hQ ku
  simp only[oF]at S;subst S;have:=(Qj hQ) b hb;refine⟨oa,?_,by simp[ob],by simp[ob]⟩;simp[ob];omega
 have q5:KnP (xh [] (pkA t0) (sS 0)) [t0]:=by
  have j1:KnP [] []:=λu _=>O;have:=j1.add (u:=t0) od (λx hx=>oo (hR.2 x hx));simpa using this
 have j2:PjO n ⟨[t0],[],[]⟩:=⟨λt ht=>by rw[Lb.1 ht];exact hR,od⟩;generalize hT:ja a (kpt a o) (ers a o) (2 ^ n) 0 ⟨[t0],[],[]⟩=T at hq;have hkl:(kpt a o).length<=1000:=Lx (LJ _ _) oa;have hA:ZY a o=⟨kpt a o,T.tup.length,T.mk',T.ed⟩:=by unfold ZY;rw[hq]
 rw[hA];refine Qd<|Qc<|Qb<|QW (α:=Nat×Sy×List (ByteArray×O2)×List TV×O2×O2×O2) [(5,6),(10,10),(12,12),(14,17),(44,111)] (λz=>[(10,z.2.2.2.2.1),(12,sS z.1)])
  (λz w'=>q7 ↑w9 b2 he V G wS z.2.1 z.2.2.1 z.2.2.2.1 z.2.2.2.2.1 z.2.2.2.2.2.1 z.2.2.2.2.2.2 w'/\PjO n z.2.1/\KnP z.2.2.1 z.2.1.tup/\z.1<=z.2.1.tup.length/\z.2.1.mk'.length<=z.1/\z.2.1.ed.length<=z.1*1000/\ja a (kpt a o) (ers a o) (2 ^ n - z.1) z.1 z.2.1=T)
  (λz=>2 ^ n - z.1) (0,⟨[t0],[],[]⟩,_,_,_,ZT,ZT) ov ⟨q4,j2,q5,Lo _,Lo _,Lo _,hT⟩ ?_
 rintro⟨i,s,m,qs,vt,vk,vd⟩ g kw ⟨hI,h8,kx,hi,j3,kz,gr⟩;simp only[]at hI h8 kx hi j3 kz gr;have hle:=h8.le;have j4:qs.length=s.tup.length:=by rw[<-hI.q];simp
 have gs:∀p∈qs,Ss n p.2:=λp S=>h8.v p.2 (by rw[<-hI.q];exact LG S);have za:∀p∈qs,p.2.length<=9:=λp S=>oo (XH p.2 0 n (gs p S).1 (gs p S).2)
 have jc:=QO (L:=[]) hI.t oa od;refine Qd<|Qk<|Qa<|QG jc O<|ZX O O<|xe<|Zr rfl (λz0=>?_) (λz0=>?_)
 ·have z2:s=T:=by rw[<-gr,Qit oa]
  refine Qt ?_;have z3:=Qi.ints (L:=[]) hI.k oa od;have z4:=Yd.eds (L:=[]) hI.e oa od;refine Qk<|QG jc O<|Zc O<|Qo<|Qw hI.A O O od rfl λgt hr z5=>xe ?_;have hB4':QL ↑gt b4 53 Yt:=((kj.I h6).J hI.st (by simp;omega)).J hr (by simp;omega);refine Qc<|QV z5 O O<|Qa<|Q2 [G,sS qs.length,vk,vd] hB4' ⟨hh.k.one,O,z3.one,z4.one,Z⟩ λk0 h0 hB418=>x Qe<|Qb ?_;have hfin17:sW w gt:=(q0.O hI.st (λb hb=>by rcases hV b hb with h1|h1;cases h1;exact .inr oa)).Q hr oa
  have hfin:sW w k0:=hfin17.Q h0 oa;refine Qh ⟨[.agg #[G,sS qs.length,vk,vd],vt,sS 0],⟨Jl hB418,O,O,Z⟩,hfin,_,vt,O,QC hI.t,?_⟩;rw[<-z2];have e1:(qs.length:Int)=s.tup.length:=by rw[j4]
  have k1:=Qg (Qg hI.k hr (λb hb=>by have:=(Qj hI.k b hb).1;simp;omega)) h0 (λb hb=>by have:=(Qj hI.k b hb).1;simp;omega);have k2:=Qg (Qg hI.e hr (λb hb=>by have:=(Qj hI.e b hb).1;simp;omega)) h0 (λb hb=>by have:=(Qj hI.e b hb).1;simp;omega);refine⟨G,vk,vd,by rw[e1],λL' h5=>⟨?_,Qi.ints k1 (by show s.mk'.length<=_;omega) (λb hb=>oo (h5 b hb)),Yd.eds k2 (by show s.ed.length<=_;omega) (λb hb=>oo (h5 b hb))⟩⟩;have k4:∀{c:Nat},↑w7<=c->c∉ob G:=λhc U=>oo (Qj h4 _ U).2
  have hn4:b4∉ob G:=λU=>oo (Qj h4 _ U).1
  exact Qi.ints (Qg (Qg (Qg (Qm h4 (hz.D (hk.D h6))) hI.st λb hb U=>by
   rcases hV b U with h1|h1
   ·cases h1
   exact k4 h1 hb) hr λb hb U=>k4 gk ((Lb.1 U) ▸ hb)) h0 λb hb U=>hn4 ((Lb.1 U) ▸ hb)) kg λb hb=>oq (h5 b hb) h3.size
 have hlt:i<s.tup.length:=oa
 have ha:i<qs.length:=oa
 have k5:=Qnz hI.q ha;have k6:=gs (qs[i]'ha) (Le ha);obtain⟨t,hB⟩:∃t,(qs[i]'ha).2=t:=⟨_,O⟩;rw[hB]at k5 k6;have htb:∀x∈t,0<=x/\x<a.st:=λx hx=>oo (k6.2 x hx)
 have htl:t.length<=9:=by have:=za _ (Le ha);rw[hB]at this;exact this
 refine Qf ?_;have k9:ja a (kpt a o) (ers a o) (2 ^ n - (i+1)) (i+1) ((kpt a o).foldl (Jt a (ers a o) i t) (qT a i t s))=T:=by
  rw[<-gr];obtain⟨f,hf⟩:∃f,2 ^ n - i=f+1:=⟨2 ^ n - i - 1,oa⟩;rw[hf,ja,OU hlt,k5,show 2 ^ n - (i+1)=f by omega]
 have htI:Qu [] ↑kw (qs[i]'ha).1 t:=by rw[<-hB];exact Qi.ints (hI.el (qs[i]'ha) (Le ha)) (by rw[hB];omega) od
 refine Qd<|Qn<|QX (α:=O2) [(50,61)] (λz=>[]) (λz w'=>q7 ↑w9 b2 he V G wS (qT a i t s) m qs vt z vd w') oh ?_ ?_
 ·refine Qd<|ZL [] (Xg 0 6 [5])<|pq (λ_ hc=>Q7 ((gq hI.st).I hc) O O)<|p Qx<|p Qx<|Lg.pig O Kv jc O O ha λa53 h53 =>
   pq (λ_ hc=>Qr (h53.I hc) O)<|pk<|xg<|(Qgs ((hW hI.st).I (O5.X _ _)) (htI.I (O5.X _ _))).S ?_
  rintro r17 gt ⟨rfl,hr⟩;have ma:=(O5.X [] kw).D hr;refine⟨ma,?_⟩;refine pe ?_;have gu:=hI.I ma;refine Q6 O (λgv=>?_) (λgv=>?_)
  rotate_left
  ·refine Qf<|⟨vk,Z,?_⟩;unfold qT;rw[OT (by rw[gv];simp)];exact gu
  refine Qs<|Qq O gu.A O O<|Qa<|Qo<|Q9 [[sS i]] λb59 k0 h0 hb59 hB59=>?_;have hC:=gu.I h0;refine Qo<|Q8 (news:=[sS i]) (L:=[]) hC.k O O O (hB59.at od) om oa hC.st.size λmc w19 ho19 mf hn19=>?_;have mg:Qi 3 ↑wS w19 mc (s.mk'++[(i:Int)]):=Qi.snoc ho19;refine Zc O<|Qo<|Qw (hC.A.J mf (QK hC.k oa)) O O od (Qi.ints (L:=[]) mg (by simp;omega) od).one λw20 hs20 hB20=>xe ?_;refine⟨mc,Z,?_⟩;unfold qT;rw[OU gv];exact hC.setK h7 mf mg hn19 hs20 hB20
 rintro hX g3 w21 gx;obtain⟨hY,hed2,hmk2⟩:=QaF a i t s;have hsk2:PjO n (qT a i t s):=⟨by rw[hY];exact h8.v,by rw[hY];exact h8.d⟩;have hveI:=(hW gx.st).k;refine Qd<|Qc<|Qq O (gq gx.st) O O<|QG hveI O<|Qa<|xe<|QW (α:=Nat×Sy×List (ByteArray×O2)×List TV×O2×O2) [(10,10),(14,17),(65,107)] (λz=>[(10,z.2.2.2.2.1),(65,sS z.1)])
  (λz w'=>q7 ↑w9 b2 he V G wS z.2.1 z.2.2.1 z.2.2.2.1 z.2.2.2.2.1 hX z.2.2.2.2.2 w'/\PjO n z.2.1/\KnP z.2.2.1 z.2.1.tup/\z.1<=(kpt a o).length/\z.2.1.mk'=(qT a i t s).mk'/\z.2.1.ed.length<=i*1000+z.1/\s.tup.length<=z.2.1.tup.length /\
   (∃h:i<z.2.2.2.1.length,(z.2.2.2.1[i]'h).2=t)/\((kpt a o).drop z.1).foldl (Jt a (ers a o) i t) z.2.1=(kpt a o).foldl (Jt a (ers a o) i t) (qT a i t s))
  (λz=>(kpt a o).length - z.1) (0,qT a i t s,m,qs,vt,vd) ov
  ⟨gx,hsk2,by rw[hY];exact kx,Lo _,O,by rw[hed2];simpa using kz,by rw[hY];exact Lp _,⟨ha,hB⟩,O⟩ ?_
 rintro⟨j,E,m4,Y,hZ,ga⟩ g4 hD ⟨I,hE,hv,hj,gb,mh,gy,⟨ho,h2⟩,hg⟩;simp only[]at I hE hv hj gb mh gy hg ho h2;have mj:Y.length=E.tup.length:=by rw[<-I.q];simp
 have hle4:=hE.le;have mo:=QO (L:=[]) I.t oa od;refine Zk rfl O (λgz=>?_) (λgz=>?_)
 ·have hje:(kpt a o).length<=j:=by have h18:¬(j:Int)<((kpt a o).length:Int):=gz;omega
  rw[Lr hje]at hg;have hrun4':E=(kpt a o).foldl (Jt a (ers a o) i t) (qT a i t s):=hg;rw[<-hrun4']at k9;refine Qt<|Qk<|QG mo O<|x (Ya O O)<|xe<|Zi O (λmq=>OW (show(4096:Int)<(Y.length:Int) from mq) oa) (λmq=>?_);refine Qf<|Qs<|Qa<|QD O O<|Qb<|⟨(i+1,E,m4,Y,hZ,hX,ga),by show 2 ^ n - (i+1)<2 ^ n - i;omega,ov,I,hE,hv,by show i+1<=E.tup.length;omega,by show E.mk'.length<=i+1;rw[gb];omega,by show E.ed.length<=(i+1)*1000;omega,k9⟩
 have gc:j<(kpt a o).length:=by have h18:(j:Int)<((kpt a o).length:Int):=gz;omega
 rw[QY gc,LO]at hg;obtain⟨v,ms⟩:∃v,(kpt a o)[j]=v:=⟨_,O⟩;rw[ms]at hg;refine Qf<|Qd<|Qn<|Qc<|xii ((hW I.st).k) O O gc λa67 mt=>?_;rw[ms]at mt;refine x (Qr mt O)<|Qb ?_;have htI4:Qu [] ↑hD (Y[i]'ho).1 t:=by rw[<-h2];exact Qi.ints (I.el (Y[i]'ho) (Le ho)) (by rw[h2];omega) od
 refine Qd<|ZL [] (Xg 0 8 [6])<|pq (λ_ hc=>Q7 ((gq I.st).I hc) O O)<|p Qx<|p Qx<|Lg.pig O Kv mo O O ho λa72 h72 =>
  pq (λ_ hc=>Qr (h72.I hc) O)<|p Qx<|pk<|xg<|(Qgr ((hW I.st).I (O5.X _ _)) hok (htI4.I (O5.X _ _)) htb htl pg v).S ?_
 rintro vx w23 ⟨hs23,ge⟩;have mu:=(O5.X [] hD).D hs23;refine⟨mu,p ZN<|pe ?_⟩;have gg:=I.I mu;have hz22:=I.st.size;have g0:Ss n (pnx a (ers a o) t v):=by unfold pnx rch cls;rw[hn];exact UV _ _
 have hul:(pnx a (ers a o) t v).length<=9:=by unfold pnx rch cls;rw[hn];exact Lx (QeV _ _) oa
 have hF:Jt a (ers a o) i t E v=if(pnx a (ers a o) t v).length=0 then E else⟨(K4 E (pnx a (ers a o) t v)).tup,(K4 E (pnx a (ers a o) t v)).mk',(K4 E (pnx a (ers a o) t v)).ed++[((i:Int),v,((K4 E (pnx a (ers a o) t v)).tup.idxOf (pnx a (ers a o) t v):Int))]⟩:=rfl
 refine Zg (pnx a (ers a o) t v) λu hu0=>?_;rw[hu0]at ge g0 hul hF;have hG:=Qi.ints (L:=[]) ge oa od;have hH:∀x∈u,0<=x/\x<100:=λx hx=>oo (g0.2 x hx)
 refine Qd<|Qk<|QG hG O<|x (Zd O O)<|xe<|Zi rfl (λg2=>?_) (λg2=>?_)
 ·have g5:u.length=0:=by have h79:(u.length:Int)=0:=g2;omega
  rw[OU g5]at hF;rw[hF]at hg;refine Qt<|Qs<|QD O O<|Qa<|xe ?_;exact⟨(j+1,E,m4,Y,hZ,ga),by show(kpt a o).length - (j+1)<(kpt a o).length - j;omega,ov,gg,hE,hv,gc,gb,by show E.ed.length<=i*1000+(j+1);omega,gy,⟨ho,h2⟩,hg⟩
 have g5:¬u.length=0:=λe=>g2 (by show(u.length:Int)=0;omega);rw[OT g5]at hF;rw[hF]at hg;have mv:=Qj ge;refine Qf<|QX (α:=Unit) [(16,17),(79,85)] (λz=>[(16,sS (if u∈E.tup then(E.tup.idxOf u:Int) else 0)),(17,.bool (decide (u∈E.tup)))]) (λz w'=>sW w23 w') oh ?_ ?_
 ·refine Qs<|Qa<|Qa<|Qv<|(QaG hG hH oa).S ?_;rintro r24 w24 ⟨rfl,gh⟩;by_cases J:u∈E.tup
  ·refine x (U1 (k:=pkA u) ((gg.I gh).M) O O (by rw[hv u hH,OU J]))<|Qa<|QJ rfl rfl<|QJ rfl rfl<|x Qe<|Qb<|⟨(),⟨OV sS (OU J).symm,OV Value.bool (OX J).symm,Z⟩,gh⟩
  refine x (jz (k:=pkA u) ((gg.I gh).M) O O (by rw[hv u hH,OT J]))<|Qa<|QJ rfl rfl<|QJ rfl rfl<|x Qe<|Qb<|⟨(),⟨OV sS (OT J).symm,OV Value.bool (OZ J).symm,Z⟩,gh⟩
 rintro _ g6 w25 g8;have g9:=gg.I g8;have hxA25:=hG.I g8;have hadd:∀b∈ob vx,b∉ob hZ/\b∉ob hX/\b∉ob ga:=λb hb=>by
  have h1:=(mv b hb).1;have h1':↑hD<=b:=h1;exact⟨λhJ=>oo (QU I.t b hJ),λhJ=>oo (QU I.k b hJ),λhJ=>oo (QU I.e b hJ)⟩
 refine QX (α:=List (ByteArray×O2)×List TV×O2) [(10,10),(16,16),(86,97)] (λz=>[(10,z.2.2),(16,sS ((K4 E u).tup.idxOf u:Int))])
  (λz w'=>q7 ↑w9 b2 he V G wS (K4 E u) z.1 z.2.1 z.2.2 hX ga w'/\KnP z.1 (K4 E u).tup/\∃h:i<z.2.1.length,(z.2.1[i]'h).2=t) oh ?_ ?_
 ·refine Qk<|x (Zl O)<|xe<|Q6 O (λka=>?_) (λka=>?_)
  rotate_left
  ·have J:u∈E.tup:=by simpa using ka
   refine Qf ?_;have e1:K4 E u=E:=by unfold K4;rw[OU J]
   have e2:(if u∈E.tup then(E.tup.idxOf u:Int) else 0)=((K4 E u).tup.idxOf u:Int):=by rw[e1,OU J]
   refine⟨(m4,Y,hZ),⟨O,OV sS e2,Z⟩,?_,?_,ho,h2⟩
   ·rw[e1];exact g9
   rw[e1];exact hv
  have J:u∉E.tup:=by simpa using ka
  have htA6:=QO (L:=[]) g9.t oa od;refine Qk<|QG htA6 O<|Qb<|Qk<|Qa<|Qv<|(QaG hxA25 hH oa).S ?_;rintro r26 w26 ⟨rfl,mw⟩;have my:=g9.I mw;refine Qa<|Qo<|YO (k:=pkA u) my.M O O λw27 mz hm27=>xe ?_;have hx27:=Qg (Qm (Qm ge g8) mw) mz (λb hb=>by have:=(mv b hb).1;have h1':↑hD<=b:=this;simp;omega);refine Qs<|Qa<|Qa<|Qo<|Yi (us:=[[vx]]) O O og od ⟨hG.cells,rfl,Z⟩ λb96 w28 m0 hb96 hB96=>?_;have kb:=(my.setM h7 mz hm27).I m0;refine Qo<|Q8 (news:=[vx]) (L:=[]) kb.t O O O (hB96.at od) (λy hy=>by simp only[oF]at hy;subst hy;exact hG.one) oa (oq kb.st.size h7.nS) λm1 w29 ho29 hs29 hn29=>Qb ?_;have hk29:q6 47 ↑w9 w29 m1 (Y++[(vx,u)]):=q6.snoc ho29;have hIA:=kb.setT h7 (u:=u) (Zf (Qm hx27 m0) (by show wS.heap.size<=↑hD;omega)) hadd hs29 hk29 hn29;have e1:K4 E u=⟨E.tup++[u],E.mk',E.ed⟩:=by unfold K4;rw[OT J]
  have e2:(Y.length:Int)=((K4 E u).tup.idxOf u:Int):=by
   rw[e1];simp only[];rw[L7,OT J,<-mj];simp
  refine⟨(xh m4 (pkA u) (sS (Y.length:Int)),Y++[(vx,u)],m1),⟨O,OV sS e2,Z⟩,?_,?_,by simp;omega,?_⟩
  ·rw[e1];exact hIA
  ·rw[e1];simp only[];rw[mj];exact hv.add J hH
  simp only[];rw[Mt ho];exact h2
 rintro⟨m5,qs5,vt5⟩ g7 w30 ⟨kc,m2,m3,m6⟩;simp only[]at kc m2 m3 m6;obtain⟨hmk5,hedA⟩:=Qom E u;have hed5:(K4 E u).ed.length<=i*1000+j:=by rw[hedA];exact mh
 have m7:=hE.add g0;have hlA:E.tup.length<=(K4 E u).tup.length:=by unfold K4;split <;> simp
 refine Qs<|Qq O kc.A O O<|Qa<|Qa<|Qa<|x (QE ⟨O,O,O,Z⟩)<|Qo<|Q9 [Qp ((i:Int),v,((K4 E u).tup.idxOf u:Int))] λb104 w31 hs31 hb104 hB104=>?_;have hK:=kc.I hs31;refine Qo<|Q8 (news:=Qp ((i:Int),v,((K4 E u).tup.idxOf u:Int))) (L:=[]) hK.e O O O (hB104.at od) (Zv.all (us:=Qp _) ⟨rfl,rfl,rfl,Z⟩) oa hK.st.size λm8 w32 ho32 m9 hn32=>?_;have pc:Yd 179 ↑wS w32 m8 ((K4 E u).ed++[((i:Int),v,((K4 E u).tup.idxOf u:Int))]):=Yd.snoc ho32;refine Zc rfl<|Qo<|Qw (hK.A.J m9 (QK hK.e oa)) O O od (Yd.eds (L:=[]) pc (by simp;omega) od).one λw33 hs33 hB33=>xe ?_;refine Qs<|QD O O<|Qa<|xe<|⟨(j+1,_,m5,qs5,vt5,m8),by show(kpt a o).length - (j+1)<(kpt a o).length - j;omega,ov,(hK.setE h7 m9 pc hn32 hs33 hB33),⟨m7.v,m7.d⟩,m2,gc,?_,?_,Lx gy hlA,⟨m3,m6⟩,hg⟩
 ·simp only[];rw[hmk5];exact gb
 simp only[oM,oL];omega
theorem zo {V:VwV}(h:VwA ↑w V)(e:Int):
  QR sV 135 [.pointer (some ⟨V.b,0,none⟩),sS e] w λr w'=>r=.bool (decide (e∈V.o))/\w'=w:=by
 refine Zm func135 ?_;refine Qc<|Qb<|Qk<|Z6 O<|Qq O h.blk O O<|Qa<|Qv<|(ZK h.o e).S ?_;rintro E G ⟨rfl,rfl⟩;refine Qb<|Qh ⟨[_],La,O,O⟩
theorem Qdn {V:VwV}{b:Nat}(h:VwA ↑w V)(E:QL ↑w b 128 [.pointer (some ⟨V.b,0,none⟩)])(e:Int):
  QR sV 256 [sS e,sP b] w λr w'=>r=.bool (decide (e∈V.a.mr))/\sW w w':=by
 refine Zm func256 ?_;refine Qc<|Qb<|Qc<|ZE E O O<|Z6 O<|Zc O<|Qq O h.blk O O<|Qa<|Qv<|(ZK h.a.mr e).S ?_;rintro G I ⟨rfl,rfl⟩;refine Qb<|Qh ⟨[_],La,O,O5.Y _ _⟩
theorem jl {V:VwV}(h:VwA ↑w V)(hl:Qu [] ↑w vl l):
  QR sV 206 [.pointer (some ⟨V.b,0,none⟩),vl] w λr w'=>r=.bool (mkd V.a l)/\sW w w':=by
 refine Zm func206 ?_;refine Qc<|Za [.pointer (some ⟨V.b,0,none⟩)] λI T E U J=>Qb<|Qk<|x (Zn (l:=[]) (l':=[.tmp 2]))<|Qv<|(Qbg (q:=λs=>decide (s∈V.a.mr)) (cap:=[sP I]) (hl.I E) (λe Y G=>Qdn ((h.I E).I G) (J.I G) e)).S ?_;rintro r2 w2 ⟨rfl,S⟩;refine Qb<|Qh ⟨[_],La,O,E.D S⟩
theorem Qdo {V:VwV}{b:Nat}(h:VwA ↑w V)(E:QL ↑w b 128 [.pointer (some ⟨V.b,0,none⟩)])(e:Int):
  QR sV 138 [sS e,sP b] w λr w'=>r=.bool (!decide (e∈V.o))/\w'=w:=by
 refine Zm func138 ?_;refine Qc<|Qb<|Qc<|ZE E O O<|Qa<|Qv<|(zo h e).S ?_;rintro G I ⟨rfl,rfl⟩;refine x (Zl O)<|Qb<|Qh ⟨[_],La,O,O⟩
theorem Ua (m:Nat)(U:m<256)(w:O1):QR sV 83 [.int .u8 m] w λr w'=>sW w w'/\Qi 3 ↑w w' r (setK m 5):=by
 refine Zm func83 ?_;refine Qc<|Qb<|Qc<|Qb<|Qd<|Qc<|Qb<|QW (α:=Nat×O2) [(3,17)] (λz=>[(3,z.2),(4,sS z.1)]) (λz w'=>z.1<=5/\sW w w'/\Qi 3 ↑w w' z.2 (setK m z.1)) (λz=>5 - z.1) (0,nS) ov
  ⟨Lo _,O5.Y _ _,QM _ _ _ _⟩ ?_
 rintro⟨k,v⟩ g w1 ⟨V,G,E⟩;simp only[]at V E;have hj:=V9 m k;have hn:=G.size;refine Qd<|Qk<|ZX O O<|xe<|Zr rfl (λY=>?_) (λY=>?_)
 ·refine Qt<|Qk<|Qb ?_;have ha:k=5:=oa
  rw[ha]at E;exact Qh ⟨[v],La,G,E⟩
 have S:k<5:=oa
 have hc:m / 2 ^ k<256:=Nat.lt_of_le_of_lt (Nat.div_le_self _ _) U;have I:=jw m k;refine Qf<|Qd<|Qn<|Qk<|Qa<|x (Qb0 (n:=k) O O (by show k<=8;omega))<|x (U4 (a:=m / 2 ^ k) (b:=1) (OV (Value.int .u8) (Qat m k)) O hc og)<|x (Zd O O)<|xe<|Zr rfl (λT=>?_) (λT=>?_)
 ·rw[OT (λe=>T (by rw[e];rfl))]at I;refine Qf<|Qs<|Qa<|QD O O<|Qb<|⟨(k+1,v),oe,ov,S,G,by simp only[];rw[I];exact E⟩
 rw[OU oa]at I;refine Qs<|Qa<|Qa<|Qo<|Q9 [[sS k]] λb15 w2 J ho he=>?_;have hf:=Qm E J;have hp:=J.size;refine Qo<|Q8 (news:=[sS k]) (L:=[]) hf O O O (he.at od) om oa oa λv3 w3 hg hh hq =>
  Qb<|Qs<|Qa<|QD O O<|Qb<|⟨(k+1,v3),oe,ov,S,(G.D J).O hh (λb hb=>.inr ((Qj E) b hb).1),?_⟩
 simp only[];rw[I];exact Qi.snoc hg
theorem At.from {H:xA}{a:Addr}(h:At L H a us)(j:Nat):At L H (a.add j) (us.drop j):=
 ⟨λu E=>by rw[YE];exact h.out u (MS E),λu E=>by rw[YE];exact h.lt u (MS E),λi v G=>by
  rw[Addr.add_add];exact h.cell (j+i) v (by rw[<-MG];exact G)⟩
theorem yy {v:O2}{l:List Ed}(h:Zt L ↑w v l.length 3 (l.flatMap Qp)):
  QR sV 238 [v] w λr w'=>sW w w'/\w'.ownsRow ↑w 179 3 r l.length (l.flatMap Qp):=
 yx ⟨_,O,func238⟩ h (Qfe (c:=Qp) (λ_=>ox) l)
theorem Qeh {v:O2}{l:List KN}(h:Zt L ↑w v l.length 5 (l.flatMap Zo)):
  QR sV 165 [v] w λr w'=>sW w w'/\w'.ownsRow ↑w 94 5 r l.length (l.flatMap Zo):=
 yx ⟨_,O,func165⟩ h (Qfe (c:=Zo) (λ_=>⟨O,O,O,O,O,Z⟩) l)
structure Vi {α:Type}(g:α->LV)(sz T:Nat)(ps:α->List (O2×Nat×Nat×LV))(base:Nat)(w:O1)(v:O2)(l:List α):Prop where
 own:w.ownsRow base T sz v l.length (l.flatMap g)
 each:∀q∈l,∀t∈ps q,YF base (ob v) ↑w t.1 t.2.1 t.2.2.1 t.2.2.2
section
variable {g:α->LV}{ps:α->List (O2×Nat×Nat×LV)}{v:O2}{l:List α}
theorem Vi.nil:Vi g sz T ps base w (nS) []:=⟨QM _ _ _ _,λq E=>by cases E⟩
theorem Vi.I (h:Vi g sz T ps base w v l)(E:sW w w'):Vi g sz T ps base w' v l:=⟨Qm h.own E,λq G t I=>(h.each q G t I).I E⟩
theorem Vi.low {X:LN}(h:Vi g sz T ps base w v l)(E:O5 X w w')(hX:∀b∈X,b<base):Vi g sz T ps base w' v l :=
 ⟨Qg h.own E (λb hb G=>oq (Qj h.own b hb).1 (hX b G)),λq I t J=>(h.each q I t J).low E hX⟩
theorem Vi.app {E G:O1}{I:O2}{q:α}(h:Vi g sz T ps base w v l)(V:sW w E)
  (Y:∀t∈ps q,∃N e,E.ownsRow N e t.2.2.1 t.1 t.2.1 t.2.2.2/\t.2.1<=1099511627776/\↑w<=N) (hb:base<=↑w)
  (ho:G.ownsRow base T sz I (l.length+1) (l.flatMap g++g q)) (J:O5 (ob v) E G) (S:∀b∈ob I,b∈ob v\/↑E<=b):Vi g sz T ps base G I (l++[q]):=by
 refine⟨?_,λd hd t U=>?_⟩
 ·rw[Lc,LD];simpa using ho
 rcases Lh.1 hd with hd|hd
 ·exact((h.each d hd t U).I V).app J S
 simp only[oF]at hd;subst hd;obtain⟨N,e,h1,h2,h3⟩:=Y t U;exact(YF.of_own h1 h2 oa (λb hb=>oo ((QU h.own) b hb))).app J S
end
abbrev QgG (q:IV):List (O2×Nat×Nat×LV):=[(q.p.va,q.p.a.al.length,1,q.p.a.al.map (.int .i64)),(q.p.vm,q.p.a.mr.length,1,q.p.a.mr.map (.int .i64)),(q.p.ve,q.p.a.ed.length,3,q.p.a.ed.flatMap Qp)]
abbrev IvP (base:Nat)(w:O1)(v:O2)(l:List IV):Prop:=Vi QZ 5 81 QgG base w v l
theorem IvP.itms {v:O2}{l:List IV}(h:IvP base w v l)(I:l.length<=1099511627776)(J:∀q∈l,yY q.nm)(E:∀b∈L,b<base):Vk L ↑w v l :=
 ⟨QO h.own I (λb hb S=>oq (Qj h.own b hb).1 (E b S)),λq G=>⟨h.each q G (q.p.va,q.p.a.al.length,1,q.p.a.al.map (.int .i64)) od L (λb hb=>.inl (E b hb)),h.each q G (q.p.vm,q.p.a.mr.length,1,q.p.a.mr.map (.int .i64)) od L (λb hb=>.inl (E b hb)),h.each q G (q.p.ve,q.p.a.ed.length,3,q.p.a.ed.flatMap Qp) od L (λb hb=>.inl (E b hb))⟩,J⟩
instance:Bw sV 81 [.string .empty,nS,sS 0,nS,nS] [(0,1),(1,4)]:={}
theorem YF.of_lt {H:xA}{v:O2}(h:∀L:LN,(∀b∈L,b<N)->Zt L H v n sz cs)(hb:base<=N)(E:∀b∈av,b<N):YF base av H v n sz cs:=λL G =>
 h L (λb I=>(G b I).elim (λh=>oa) (E b))
theorem QaP (L:LN)(H:xA):Qu L H (nS) []:=Zt.nil L H 1
theorem Qoi {e bys:Nat}[h:Sl P t e 1 bys z][he:Ik P e .u8][hd:St P E]{x:O3}{b cap:Nat}(G:QL ↑w b T [.int .u8 (n:Int)])(V:n<256)(hx:ev f x=sL b 1 cap):
  (execOp (ev f) ⟨d,.convert t E x,ty,pS,af,gd⟩).run P w=.ok (.value (.string ⟨#[UInt8.ofNat n]⟩)) w:=by
 refine zi hx ?_;refine run_convert_bytes_back (P:=P) w t E e ⟨b,0,none⟩ cap [UInt8.ofNat n] h.u he.u hd.u (λj I=>?_);have J:j=0:=by simp at I;omega
 subst J;rw[Kl];have S:(⟨b,0,none⟩:Addr).add 0=⟨b,0,none⟩:=rfl;rw[S,G.cell];have U:(UInt8.ofNat n).toNat=n:=by simp[UInt8.toNat_ofNat'];omega
 simp[U]
theorem Qcz (e:KN):∀u∈Zo e,u.oneCell'=true:=by
 intro y E;simp only[Zo,oK,oH,or_false]at E;rcases E with rfl|rfl|rfl|rfl|rfl <;> rfl
theorem Qa0 (G:q.p.va.oneCell'=true)(I:q.p.vm.oneCell'=true)(J:q.p.ve.oneCell'=true):∀u∈QZ q,u.oneCell'=true:=by
 intro y E;simp only[QZ,oK,oH,or_false]at E;rcases E with rfl|rfl|rfl|rfl|rfl
 ·rfl
 ·exact G
 ·rfl
 ·exact I
 exact J
theorem yc {H:xA}(h:∀L:LN,(∀b∈L,b<N)->Zp L H q.p.va q.p.vm q.p.ve q.p.a)(hb:base<=N)(G:∀b∈av,b<N):∀t∈QgG q,YF base av H t.1 t.2.1 t.2.2.1 t.2.2.2:=by
 intro t I;simp only[oK,oH,or_false]at I;rcases I with rfl|rfl|rfl
 ·exact YF.of_lt (λL E=>(h L E).al) hb G
 ·exact YF.of_lt (λL E=>(h L E).mr) hb G
 exact YF.of_lt (λL E=>(h L E).ed) hb G
structure q8 (base:Nat)(w:O1)(vc va:O2)(co:List IV)(al:LI):Prop where
 c:w.ownsRow base 81 5 vc co.length (co.flatMap QZ)
 a:Qi 3 base w va al
 dj:Dj vc va
 each:∀q∈co,∀t∈QgG q,YF base (ob vc++ob va) ↑w t.1 t.2.1 t.2.2.1 t.2.2.2
section
variable {vc vc' va':O2}{co:List IV}{al:LI}
theorem q8.nil:q8 base w (nS) (nS) [] []:=⟨QM _ _ _ _,QM _ _ _ _,Dj.nil _,λq E=>by cases E⟩
theorem q8.I (h:q8 base w vc va co al)(E:sW w w'):q8 base w' vc va co al:=⟨Qm h.c E,Qm h.a E,h.dj,λq G t I=>(h.each q G t I).I E⟩
theorem q8.low {X:LN}(h:q8 base w vc va co al)(E:O5 X w w')(hX:∀b∈X,b<base):q8 base w' vc va co al :=
 ⟨Qg h.c E (λb hb G=>oq (Qj h.c b hb).1 (hX b G)),Qg h.a E (λb hb G=>oq (Qj h.a b hb).1 (hX b G)),h.dj,λq I t J=>(h.each q I t J).low E hX⟩
theorem q8.avlt (h:q8 base w vc va co al):∀b∈ob vc++ob va,b<w.heap.size:=λb hb=>(Lh.1 hb).elim (QU h.c b) (QU h.a b)
theorem q8.setC (h:q8 base w vc va co al)(V:∀t∈QgG q,YF base (ob vc++ob va) ↑w t.1 t.2.1 t.2.2.1 t.2.2.2)(Y:w'.ownsRow base 81 5 vc' (co.length+1) (co.flatMap QZ++QZ q))
  (E:O5 (ob vc) w w') (G:∀b∈ob vc',b∈ob vc\/↑w<=b):q8 base w' vc' va (co++[q]) al:=by
 have I:O5 (ob vc++ob va) w w':=E.S (λb hb=>Lh.2 (.inl hb));have J:∀b∈ob vc'++ob va,b∈ob vc++ob va\/↑w<=b:=λb hb=>by
  rcases Lh.1 hb with hb|hb
  ·exact(G b hb).imp (λh=>Lh.2 (.inl h)) id
  exact .inl (Lh.2 (.inr hb))
 refine⟨?_,Qg h.a E (λb hb ha=>h.dj b ha hb),λb hb S=>?_,λd hd t T=>?_⟩
 ·rw[Lc,LD];simpa using Y
 ·rcases G b hb with U|U
  ·exact h.dj b U S
  have:=QU h.a b S;omega
 rcases Lh.1 hd with hd|hd
 ·exact(h.each d hd t T).app I J
 simp only[oF]at hd;subst hd;exact(V t T).app I J
theorem q8.setA {G:LI}(h:q8 base w vc va co al)(T:Qi 3 base w' va' G)(I:O5 (ob va) w w')(J:∀b∈ob va',b∈ob va\/↑w<=b):q8 base w' vc va' co G:=by
 have U:O5 (ob vc++ob va) w w':=I.S (λb hb=>Lh.2 (.inr hb));have V:∀b∈ob vc++ob va',b∈ob vc++ob va\/↑w<=b:=λb hb=>by
  rcases Lh.1 hb with hb|hb
  ·exact .inl (Lh.2 (.inl hb))
  exact(J b hb).imp (λh=>Lh.2 (.inr h)) id
 refine⟨Qg h.c I (λb hb E=>h.dj b hb E),T,λb hb E=>?_,λd hd t Y=>(h.each d hd t Y).app U V⟩;rcases J b E with S|S
 ·exact h.dj b hb S
 have:=QU h.c b hb;omega
theorem q8.itms (h:q8 base w vc va co al)(I:co.length<=1099511627776)(J:∀q∈co,yY q.nm)(E:∀b∈L,b<base):Vk L ↑w vc co :=
 ⟨QO h.c I (λb hb S=>oq (Qj h.c b hb).1 (E b S)),λq G=>⟨h.each q G (q.p.va,q.p.a.al.length,1,q.p.a.al.map (.int .i64)) od L (λb hb=>.inl (E b hb)),h.each q G (q.p.vm,q.p.a.mr.length,1,q.p.a.mr.map (.int .i64)) od L (λb hb=>.inl (E b hb)),h.each q G (q.p.ve,q.p.a.ed.length,3,q.p.a.ed.flatMap Qp) od L (λb hb=>.inl (E b hb))⟩,J⟩
end
theorem Xx (ns:LN):(bys ns).length=ns.length:=by rw[bys,Ll]
def grN (ns:LN)(o:Nat):LN:=(ns.drop o).take 27
theorem QjB {o:Nat}(h:o+27<=ns.length):(grN ns o).length=27:=by unfold grN;simp;omega
theorem QnL {o:Nat}(h:∀n∈ns,n<256):∀n∈grN ns o,n<256:=Qne h o 27
theorem Qkz (ns:LN)(n:Nat):(bys ns).set 0 (.int .u8 (n:Int))=bys (ns.set 0 n):=by
 unfold bys;rw[Ny]
theorem Qlv (h:∀m∈ns,m<256)(E:n<256):∀m∈ns.set 0 n,m<256:=λm G=>by
 rcases Nv G with I|rfl
 ·exact h m I
 exact E
theorem Qh3 (h:0<ns.length):(ns.set 0 n).getD 0 0=n:=by simp[oO,h]
structure GdA (a:Qz):Prop where
 ok:Q0 a
 p:0<a.st
 s:a.st<=3
 c:∃a0:Qz,Q0 a0/\0<a0.st/\a=Y6 a0
theorem QcT (G:Q0 a)(h:0<a.st):0<(Y6 a).st:=by
 show 0<((xp a).length:Int);have E:(0:Int)∈xp a:=by
  have key:∀(f i:Nat) (out:LI),(0:Int)∈out->(0:Int)∈zr a f i out:=by
   intro f;induction f with
   | zero=>intro i out h;exact h
   | succ f ih =>
    intro i out h;rw[zr];split
    ·exact ih _ _ (Qba _ _ _ h)
    exact h
  refine key _ _ _ ?_;unfold fd0;rw[OU h];simp
 have:=List.length_pos_of_mem E;omega
theorem GdA.of {E:Qz}(G:Q0 E)(I:0<E.st)(T:E.st<=((1+n % 5:Nat):Int))(S:a=Y6 E)(U:n<3):GdA a:=by
 have J:=Qbl G;subst S;exact⟨J.1,QcT G I,oo J.2.2,E,G,I,O⟩
def nmI (c k:Nat):ByteArray:=⟨#[UInt8.ofNat c]⟩++⟨#[UInt8.ofNat (48+k)]⟩
theorem U8 (c k:Nat):yY (nmI c k):=by
 show(ByteArray.mk _++ByteArray.mk _).size<=_;rw[ByteArray.size_append];show 1+1<=_;omega
end Go.Lg
