/- Merged out of 28 texts. -/
import Derived.Test.YtpfnhheoeaiomaaGreatDoorPgb
import Derived.Shelf.SortM.Plain
import Derived.Shelf.SortM.SortNone
import Derived.Shelf.SlicesE.Compact
import Derived.Shelf.SlicesE.DeleteFunc
import Derived.Ground.SlgmProg
import Derived.Ground.SlgnProg
import Derived.Ground.SlgfProg
set_option maxHeartbeats 40000000
set_option maxRecDepth 100000
set_option linter.all false
open Go Go.Lg
open Go.Value renaming int->oB
open Go.IntKind renaming i64->oC
open _root_.List renaming mem_singleton->oF,replicate->oG,not_mem_nil->oH,range->oJ,mem_cons->oK,length_singleton->oL,length_append->oM,getD->oN,length_cons->oQ,map_cons->oS,length->oV,cons_append->oZ,getElem?_append_left->Oa,all_cons->Ob,append_assoc->Of,append_nil->Oi,all_eq_true->Ok,nil_append->Oo,length_map->Ow,map_nil->OC,take_length->OI
open _root_.Bool renaming and_eq_true->oI,or_eq_false_iff->oY,not_eq_true'->Oe,false_eq_true->Ol,true_and->OK
open _root_.Array renaming replicate->oP
open _root_.Nat renaming zero_add->oX,add_zero->Ox,sub_zero->ON,succ_mul->OO,mul_one->OR
open _root_.Int renaming toNat_natCast->Oy
open _root_.Option renaming map_some->OD
open Go renaming World->O2,Value->O3,Operand->O4,Program->O5
open Go.Proofs Go.Proofs.Tryz
open Go.Proofs.Tryz renaming prog->sV
variable {w w' W':O2}{L L' ds av:LN}{n i t sz base T j N E m g id B kt ty G gp U bp:Nat}{a A:Qz}{l o u ul un hi r est q rs out:LI}{cs us cap capt:LV}{α β:Type}{y:O4}{va ve vm z vt vs vk vx v' vr vo vu vz:O3}{f:Fr}{aa:List Qz}{P:O5}{s:Int}{c:CL}{fn:Func}{lf:Lf}{es ed:List Ed}{K:xz}{d:xF}{pS:String}{af:xD}{gd:xt}{k':IntKind}{at_:Array Nat}{ops:xE}{qx:List XV}{ks:List KV}
namespace Go.Lg
theorem QeE {α:Type}(q:α->Bool):∀(l:List α) (i:Nat),fix q i l=-1\/((i:Int)<=fix q i l/\fix q i l<(i:Int)+l.length)
 | [],i=>.inl O
 | a::l,i=>by
  rw[YC];split
  ·right;simp only[oQ];omega
  rcases QeE q l (i+1) with h|h
  ·exact .inl h
  right;simp only[oQ];omega
theorem yH {α:Type}(q:α->Bool)(m:List α):∀(l:List α) (i:Nat),fix q i (l++m)=if 0<=fix q i l then fix q i l else fix q (i+l.length) m
 | [],i=>by
  show fix q i m=if(0:Int)<=-1 then(-1) else fix q i m
  rw[OU og]
 | a::l,i=>by
  rw[Mq,YC,YC];by_cases h:q a=true
  ·rw[OV h,OV h,OV oa]
  rw[OU h,OU h,yH q m l (i+1),LP];rw[show i+1+l.length=i+(l.length+1) by omega]
theorem Qam {α:Type}(q:α->Bool)(d:Nat):∀(l:List α) (i:Nat),fix q (i+d) l=if 0<=fix q i l then fix q i l+d else -1
 | [],i=>rfl
 | a::l,i=>by
  rw[YC,YC];by_cases h:q a=true
  ·rw[OV h,OV h,OV oa];omega
  rw[OU h,OU h,show i+d+1=(i+1)+d by omega,Qam q d l (i+1)]
theorem Vz {α β:Type}(q:β->Bool)(g:α->β):∀(l:List α) (i:Nat),fix q i (l.map g)=fix (λa=>q (g a)) i l
 | [],i=>rfl
 | a::l,i=>by rw[LS,YC,YC,Vz q g l (i+1)]
theorem QpC [Fu sV gp fn]{q:(Int×Int)->Bool}{v:O3}{l:xx}(h:Zu L ↑w v l.length 2 (l.flatMap Zh))
  (G:∀e∈l,∀(E:O2),sW w E->QU sV gp ([sT (Zh e)]++cap) E λr w'=>r=.bool (q e)/\sW E w'):
  QU sV 299 [v,.func (.func gp) #[] cap.toArray] w λr w'=>r=sS (fix q 0 l)/\sW w w' :=
 ixG ⟨_,O,func299⟩ X9 (ldA X9) h G
theorem Qp4 [Fu sV gp fn]{q:(Int×Int)->Bool}{v:O3}{l:xx}(h:Zu L ↑w v l.length 2 (l.flatMap Zh))
  (G:∀e∈l,∀(E:O2),sW w E->QU sV gp ([sT (Zh e)]++cap) E λr w'=>r=.bool (q e)/\sW E w'):
  QU sV 269 [v,.func (.func gp) #[] cap.toArray] w λr w'=>r=.bool (l.any q)/\sW w w':=by
 refine Zm func269 ?_;refine Qc<|Qb<|Ql<|Qa<|KX<|(QpC h G).S ?_;rintro J E ⟨rfl,I⟩;refine x (Yf O O)<|Qb<|Qj ⟨[_],La,OW Value.bool (UQ q l 0),I⟩
theorem yW (sz:LI):∀(ls:xx) (pr:Option Int),XC sz pr ls=0->(∀p∈ls,0<=p.1/\p.1<(sz.length:Int))/\Ys (ls.map (·.1))/\∀y,pr=some y->∀p∈ls,y<p.1
 | [],pr,_=>⟨λp E=>(by cases E),List.Pairwise.nil,λy _ p E=>(by cases E)⟩
 | l::ls,pr,h=>by
  unfold XC at h;split at h
  ·cases h
  rename_i Y;split at h
  ·cases h
  rename_i I;split at h
  ·cases h
  obtain⟨J,T,U⟩:=yW sz ls (some l.1) h;have G:=U l.1 O;refine⟨λp E=>?_,L5.2 ⟨λx hx=>?_,T⟩,λy V p E=>?_⟩
  ·rcases Lk.1 E with rfl|E
   ·omega
   exact J p E
  ·obtain⟨p,E,rfl⟩:=Lx.1 hx;exact G p E
  subst V;have h8:¬l.1<=y:=λe=>I (OY e);rcases Lk.1 E with rfl|E
  ·omega
  have:=G p E;omega
theorem yU (sz:LI):∀(ls:xx) (pr:Option Int),JZ sz pr ls=0->(∀p∈ls,0<=p.1/\p.1<(sz.length:Int)/\-65536<=p.2/\p.2<=65536)/\Ys (ls.map (·.1))/\∀y,pr=some y->∀p∈ls,y<p.1
 | [],pr,_=>⟨λp E=>(by cases E),List.Pairwise.nil,λy _ p E=>(by cases E)⟩
 | l::ls,pr,h=>by
  unfold JZ at h;split at h
  ·cases h
  rename_i h1;split at h
  ·cases h
  rename_i J;split at h
  ·cases h
  rename_i T;obtain⟨U,V,Y⟩:=yU sz ls (some l.1) h;have G:=Y l.1 O;have I:grt l.2=false:=by cases hg:grt l.2 with|true=>exact OX (.inr hg) T|false=>rfl
  unfold grt at I;simp only[oY,decide_eq_false_iff_not]at I;refine⟨λp E=>?_,L5.2 ⟨λx hx=>?_,V⟩,λy hy p E=>?_⟩
  ·rcases Lk.1 E with rfl|E
   ·omega
   exact U p E
  ·obtain⟨p,E,rfl⟩:=Lx.1 hx;exact G p E
  subst hy;have h8:¬l.1<=y:=λe=>J (OY e);rcases Lk.1 E with rfl|E
  ·omega
  have:=G p E;omega
theorem qS (sz:LI):∀(l:List Exc) (sn:List ByteArray),YO sz sn l=0->∀x∈l,J0 sz x.ls=0
 | [],_,_,x,hx=>by cases hx
 | a::l,sn,h,x,hx=>by
  unfold YO at h;split at h
  ·rename_i E;exact OX h E
  split at h
  ·rename_i E;exact OX h E
  rename_i E;rcases Lk.1 hx with rfl|hx
  ·exact Lt.1 E
  exact qS sz l _ h x hx
theorem qU (sz:LI):∀(l:List xM) (sn:List ByteArray),Xq sz sn l=0->∀x∈l,XD sz x=0
 | [],_,_,x,hx=>by cases hx
 | a::l,sn,h,x,hx=>by
  unfold Xq at h;split at h
  ·rename_i E;exact OX h E
  split at h
  ·rename_i E;exact OX h E
  rename_i E;rcases Lk.1 hx with rfl|hx
  ·exact Lt.1 E
  exact qU sz l _ h x hx
structure Qs6 (sz:LI)(ex:List Exc)(cs:List xM):Prop where
 s8:sz.length<=8
 s:∀n∈sz,1<=n/\n<=4096
 xl:ex.length<=32
 kl:cs.length<=32
 x:∀e∈ex,∀p∈e.ls,0<=p.1/\p.1<(sz.length:Int)
 k:∀e∈cs,(∀p∈e.ts,0<=p.1/\p.1<(sz.length:Int)/\-65536<=p.2/\p.2<=65536)/\e.ts.length<=8
theorem Qdn {sz:LI}{ex:List Exc}{cs:List xM}(h:Y7 sz ex cs=0):Qs6 sz ex cs:=by
 unfold Y7 at h;split at h
 ·cases h
 rename_i h8;split at h
 ·cases h
 rename_i U;split at h
 ·cases h
 rename_i ha;split at h
 ·rename_i hx;exact OX h hx
 rename_i hx;refine⟨oa,λn V=>?_,oa,oa,λe I p G=>?_,λe I=>?_⟩
 ·have E:Jf n=false:=by
   cases hb:Jf n with
   | false=>rfl
   | true=>exact OX (Nk.2 ⟨n,V,hb⟩) U
  unfold Jf at E;simp only[oY,decide_eq_false_iff_not]at E;omega
 ·have E:=qS sz ex [] (Lt.1 hx) e I;unfold J0 at E;split at E
  ·cases E
  exact(yW sz e.ls none E).1 p G
 have E:=qU sz cs [] h e I;unfold XD at E;split at E
 ·cases E
 split at E
 ·rename_i J;exact OX E J
 rename_i J;obtain⟨T,Y,_⟩:=yU sz e.ts none (Lt.1 J);refine⟨T,?_⟩;have:=xI sz.length (e.ts.map (·.1)) (List.Pairwise.imp (λ{a b} (h:a<b)=>(by omega:a≠b)) Y) (λx hx=>by
  obtain⟨p,G,rfl⟩:=Lx.1 hx;exact⟨(T p G).1,(T p G).2.1⟩)
 rw[Ln]at this;omega
def QnZ (sz t:LI):Prop:=t.length=sz.length/\∀i,i<t.length->0<=O7 t i/\O7 t i<O7 sz i
theorem QgV (t:LI)(p:Int×Int)(l:xx)(s:Int):(l++[p]).foldl (λs p=>s+p.2*t.getD p.1.toNat 0) s=l.foldl (λs p=>s+p.2*t.getD p.1.toNat 0) s+p.2*O7 t p.1.toNat:=by
 rw[Mn];rfl
theorem Qim {vl:O3}{nm:ByteArray}{ts:xx}{bd:Int}{t:LI}(hl:P2s [] ↑w vl ts)(ht:Qu [] ↑w vt t)
  (hj:∀p∈ts,0<=p.1/\p.1<(t.length:Int)/\-65536<=p.2/\p.2<=65536) (h8:ts.length<=8) (hm:∀i,i<t.length->0<=O7 t i/\O7 t i<=4096):
  QU sV 272 [.agg #[.string nm,vl,sS bd],vt] w λr w'=>r=sS (QqR t ⟨nm,ts,bd⟩)/\sW w w':=by
 refine Zm func272 ?_;refine Qc<|Zf [.string nm,vl,sS bd] λb2 w1 Y hw hn=>Qb<|Qc<|Qb<|Qd<|Qc<|Qs O hn O O<|QG (hl.I Y) O<|Qa<|xe<|QX (α:=Nat×Int) [(5,5),(7,7),(11,25)] (λz=>[(5,sS z.2),(11,sS z.1)]) (λz w'=>z.1<=ts.length/\sW w w'/\z.2=(ts.take z.1).foldl (λs p=>s+p.2*t.getD p.1.toNat 0) 0/\-(268435456*(z.1:Int))<=z.2/\z.2<=268435456*(z.1:Int)) (λz=>ts.length - z.1) (0,0) ov
  ⟨Lo _,Y,O,oe,oe⟩ ?_
 rintro⟨k,s⟩ g w2 ⟨hk,J,T,hy,hz⟩;refine Zk rfl O (λU=>?_) (λU=>?_)
 ·refine Qt ?_;have ho:ts.length<=k:=by have G:¬(k:Int)<(ts.length:Int):=U;omega
  rw[Lr ho]at T;refine Ql<|Qb<|Qj ⟨[_],La,by rw[T];rfl,J⟩
 have E:k<ts.length:=by have G:(k:Int)<(ts.length:Int):=U;omega
 have V:=hj _ (Lm E);have ha:ts.take (k+1)=ts.take k++[ts[k]'E]:=Ll E;refine Qf<|Qd<|Qn<|Qc<|O9 X9 (hl.I J) O O E λh0 G=>?_;refine Zd (ts[k]'E) λe he=>?_;rw[he]at G V ha;refine x (QF G O O)<|QT [sS 0,sS 0] λb7 w3 hp hq I=>Q5 (Zh e) I ov λw4 hr I=>xe ?_;have hs:sW w2 w4:=hp.Q hr hq;have hf:=J.D hs;have hu:e.1=((e.1.toNat:Nat):Int):=oa
 have hg:e.1.toNat<t.length:=oa
 have hh:=hm _ hg;have h3:-268435456<=e.2*O7 t e.1.toNat/\e.2*O7 t e.1.toNat<=268435456:=by
  have h1:(-65536)*O7 t e.1.toNat<=e.2*O7 t e.1.toNat:=Int.mul_le_mul_of_nonneg_right V.2.2.1 hh.1;have h2:e.2*O7 t e.1.toNat<=65536*O7 t e.1.toNat:=Int.mul_le_mul_of_nonneg_right V.2.2.2 hh.1;omega
 refine Zd (e.2*O7 t e.1.toNat) λpr h4=>?_;refine ZK [] (Xj 0 11 [])<|p Qy<|p (QH O)<|pq (λ_ hc=>Qk (I.I hc) O O)<|p Qy<|p (QH O) <|
  pq (λ_ hc=>Qk (I.I hc) O O)<|pic (i:=e.1.toNat) O (ht.I hf) O (OW sS hu) hg λh5 hv=>pq (λ_ hc=>Qq (hv.I hc) O) <|
  p (λ_=>QfO O O ⟨oa,oa⟩)<|p (λ_=>Xt O O ⟨oa,oa⟩)<|p ZI<|pe ?_
 refine Qr<|QB O O<|Qa<|xe<|⟨(k+1,s+e.2*O7 t e.1.toNat),oe,ov,E,hf.D (O6.X _ _),?_,oe,oe⟩;simp only[];rw[ha,QgV,<-T]
theorem Qku {bt:Nat}{t:LI}(I:QK ↑w bt 47 [vt])(ht:Qu [] ↑w vt t)(e:Int×Int)(V:0<=e.1/\e.1<(t.length:Int)):
  QU sV 270 ([sT (Zh e)]++[sP bt]) w λr w'=>r=.bool (!decide (t.getD e.1.toNat 0=e.2))/\sW w w':=by
 refine Zm func270 ?_;refine Qc<|Zf (Zh e) λY w1 E ha G=>Qb ?_;have J:e.1=((e.1.toNat:Nat):Int):=oa
 have T:e.1.toNat<t.length:=oa
 refine Qd<|ZK [] (Xj 0 9 [])<|pq (λ_ hc=>Qk ((I.I E).I hc) O O)<|p (QH O)<|pq (λ_ hc=>Qk (G.I hc) O O)<|pic (i:=e.1.toNat) O (ht.I E) O (OW sS J) T λa7 U =>
  pq (λ_ hc=>Qq (U.I hc) O)<|p (QH O)<|pq (λ_ hc=>Qk (G.I hc) O O)<|p (λ_=>Jd O O) <|
  p ZI<|pe ?_
 refine Qj ⟨[_],La,?_,E.D (O6.X _ _)⟩;show Value.bool (decide (¬O7 t e.1.toNat=e.2))=_;unfold O7;simp
theorem Qij (t:LI)(x:Exc):(!(x.ls.any λl=>!decide (t.getD l.1.toNat 0=l.2)))=VQ t x:=by
 unfold VQ;induction x.ls with
 | nil=>rfl
 | cons a l ih=>rw[List.any_cons,ML,<-ih];cases decide (t.getD a.1.toNat 0=a.2) <;> simp
theorem Qns {b:Nat}{q:XV}{t:LI}(I:QK ↑w b 186 (Z4 q))(J:P2s [] ↑w q.v q.ls)(ht:Qu [] ↑w vt t)(T:∀p∈q.ls,0<=p.1/\p.1<(t.length:Int)):
  QU sV 268 ([vt]++[sP b]) w λr w'=>r=.bool (VQ t q.x)/\sW w w':=by
 refine Zm func268 ?_;refine Qc<|Qo<|qP (us:=[vt]) ht.cells λU w1 E ha V=>Qb<|Qc<|Qs O (I.I E) O O<|x Zl<|Qw<|(Qp4 (q:=λl=>!decide (t.getD l.1.toNat 0=l.2)) (cap:=[sP U]) (J.I E) (λe Y w2 G=>Qku (V.I G) ((ht.I E).I G) e (T e Y))).S ?_;rintro r2 w2 ⟨rfl,G⟩;refine x (Zj O)<|Qb<|Qj ⟨[_],La,OW Value.bool (Qij t q.x),E.D G⟩
theorem Qnr {b:Nat}{q:KV}{t:LI}(E:QK ↑w b 191 (Yj q))(I:P2s [] ↑w q.v q.ts)(ht:Qu [] ↑w vt t)
  (J:∀p∈q.ts,0<=p.1/\p.1<(t.length:Int)/\-65536<=p.2/\p.2<=65536) (T:q.ts.length<=8) (U:∀i,i<t.length->0<=O7 t i/\O7 t i<=4096):
  QU sV 271 ([vt]++[sP b]) w λr w'=>r=.bool (U8 t q.k)/\sW w w':=by
 refine Zm func271 ?_;refine Qc<|Qb ?_;have hd:sW w { w with drawn:=w.drawn+1 }:=O6.X _ _
 refine Qd<|V9 (sW { w with drawn:=w.drawn+1 }) [oz 0,oz 1,oz 3,oz 4,oA 2,oz 5,oz 6] mixed oh oc (O6.Y _ _) ?_
 refine pq (λ_ hc=>Zi ((E.I hd).I hc) O O)<|p Qy<|p (QH O)<|pq (λ_ hc=>Qk ((E.I hd).I hc) O O)<|pk<|xg<|(Qim (I.I hd) (ht.I hd) J T U).S ?_;rintro V Y ⟨rfl,G⟩;refine⟨G,?_⟩;refine p (λ_=>Z8 O O)<|p ZI<|pe ?_;exact Qj ⟨[_],La,O,hd.D G⟩
inductive Cd where
 | ex (b:Nat) (q:XV)
 | co (b:Nat) (q:KV)
def Cd.val:Cd->O3
 | .ex b _=>.func (.func 268) #[] #[.pointer (some ⟨b,0,none⟩)]
 | .co b _=>.func (.func 271) #[] #[.pointer (some ⟨b,0,none⟩)]
def Cd.src:Cd->Sum XV KV
 | .ex _ q=>.inl q
 | .co _ q=>.inr q
def QgW (t:LI):Sum XV KV->Bool
 | .inl q=>VQ t q.x
 | .inr q=>U8 t q.k
def Cd.vio (t:LI)(c:Cd):Bool:=QgW t c.src
abbrev UY (c:Cd):LV:=[c.val]
theorem Qp6 (c:Cd):(UY c).length=1:=rfl
def CdA (H:xC):Cd->Prop
 | .ex b q=>QK H b 186 (Z4 q)/\P2s [] H q.v q.ls
 | .co b q=>QK H b 191 (Yj q)/\P2s [] H q.v q.ts
theorem CdA.I {w w':O2}{c:Cd}(h:CdA ↑w c)(E:sW w w'):CdA ↑w' c:=by
 cases c with
 | ex b q=>exact⟨h.1.I E,h.2.I E⟩
 | co b q=>exact⟨h.1.I E,h.2.I E⟩
def Cd.rg (n:Nat):Cd->Prop
 | .ex _ q=>∀p∈q.ls,0<=p.1/\p.1<(n:Int)
 | .co _ q=>(∀p∈q.ts,0<=p.1/\p.1<(n:Int)/\-65536<=p.2/\p.2<=65536)/\q.ts.length<=8
theorem Qc4 {q:XV}(w:O2):QU sV 233 [sT (Z4 q)] w λr w'=>sW w w'/\∃b,r=(Cd.ex b q).val/\↑w<=b/\QK ↑w' b 186 (Z4 q):=by
 refine Zm func233 ?_;refine Qc<|Zf (Z4 q) λE T G I J=>Qb<|Qc<|x Zl<|Qb<|Qj ⟨[_],La,G,E,O,I,J⟩
theorem QeH {q:KV}(w:O2):QU sV 234 [sT (Yj q)] w λr w'=>sW w w'/\∃b,r=(Cd.co b q).val/\↑w<=b/\QK ↑w' b 191 (Yj q):=by
 refine Zm func234 ?_;refine Qc<|Zf (Yj q) λE T G I J=>Qb<|Qc<|x Zl<|Qb<|Qj ⟨[_],La,G,E,O,I,J⟩
def CdB (H:xC):Cd->Prop
 | .ex b q=>QK H b 186 (Z4 q)
 | .co b q=>QK H b 191 (Yj q)
def Cd.blk:Cd->Nat
 | .ex b _=>b
 | .co b _=>b
theorem CdB.lt {H:xC}{c:Cd}(h:CdB H c):c.blk<H.size:=by cases c <;> exact QK.lt h
theorem CdB.J {X:LN}{w w':O2}{c:Cd}(h:CdB ↑w c)(E:O6 X w w')(hX:c.blk∉X):CdB ↑w' c:=by
 cases c <;> exact QK.J h E hX
structure CdL (base:Nat)(w:O2)(v:O3)(cds:List Cd):Prop where
 own:w.ownsRow base 334 1 v cds.length (cds.flatMap UY)
 bx:∀c∈cds,CdB ↑w c/\c.blk∉ob v
theorem CdL.add {E G:O2}{v I:O3}{cds:List Cd}{c:Cd}(h:CdL base w v cds)(U:sW w E)(hc:CdB ↑E c)(hb:↑w<=c.blk)
  (V:G.ownsRow base 334 1 I (cds.length+1) (cds.flatMap UY++[c.val])) (Y:O6 (ob v) E G) (hn:∀b∈ob I,b∈ob v\/↑E<=b):CdL base G I (cds++[c]):=by
 have ha:c.blk∉ob v:=λJ=>oo ((QV h.own) _ J)
 refine⟨?_,λd hd=>?_⟩
 ·rw[Lc,LF];simpa using V
 have key:CdB ↑E d/\d.blk∉ob v:=by
  rcases Le.1 hd with hd|hd
  ·exact⟨(h.bx d hd).1.J U od,(h.bx d hd).2⟩
  simp only[oF]at hd;subst hd;exact⟨hc,ha⟩
 refine⟨key.1.J Y key.2,λJ=>?_⟩;rcases hn _ J with T|T
 ·exact key.2 T
 have:=key.1.lt;omega
theorem QkQ (hX:jy [] ↑w vx qx)(hK:jm [] ↑w vk ks)(hJ:qx.length<=32)(hM:ks.length<=32):
  QU sV 153 [.agg #[vs,vx,vk]] w λr w'=>sW w w'/\∃cds,CdL ↑w w' r cds/\cds.map Cd.src=qx.map Sum.inl++ks.map Sum.inr:=by
 refine Zm func153 ?_;refine Qc<|Zf [vs,vx,vk] λb1 T I hN h5=>Qb<|Qc<|Qb<|Qd<|Qc<|Qs O h5 O O<|QG (hX.I I).arr O<|Qa<|xe<|QX (α:=Nat×O3×List Cd) [(3,3),(5,5),(11,20)] (λz=>[(3,z.2.1),(11,sS z.1)]) (λz w'=>z.1<=qx.length/\sW T w'/\CdL ↑T w' z.2.1 z.2.2/\z.2.2.map Cd.src=(qx.take z.1).map Sum.inl) (λz=>qx.length - z.1) (0,nS,[]) ov
  ⟨Lo _,O6.Y _ _,⟨QL _ _ _ _,λc hc=>(by cases hc)⟩,rfl⟩ ?_
 rintro⟨k,vo,cds⟩ g wA ⟨hk,J,hL,ha⟩;simp only[]at hk hL ha;have hO:cds.length=k:=by have:=OW oV ha;simp at this;omega
 refine Zk rfl O (λhn=>?_) (λhn=>?_)
 ·refine Qt ?_;have hB:qx.length<=k:=by have ho:¬(k:Int)<(qx.length:Int):=hn;omega
  rw[Lr hB]at ha;refine Qd<|Qc<|Qs O (h5.I J) O O<|QG ((hK.I I).I J).arr O<|Qa<|xe<|QX (α:=Nat×O3×List Cd) [(3,3),(7,7),(24,33)] (λz=>[(3,z.2.1),(24,sS z.1)]) (λz w'=>z.1<=ks.length/\sW T w'/\CdL ↑T w' z.2.1 z.2.2/\z.2.2.map Cd.src=qx.map Sum.inl++(ks.take z.1).map Sum.inr) (λz=>ks.length - z.1) (0,vo,cds) ov
   ⟨Lo _,J,hL,by simp only[];rw[ha];simp⟩ ?_
  rintro⟨j,vp,cdt⟩ g wB ⟨hj,he,U,hf⟩;simp only[]at hj U hf;have hP:cdt.length=qx.length+j:=by have:=OW oV hf;simp at this;omega
  refine Zk O O (λhp=>?_) (λhp=>?_)
  ·refine Qt ?_;have hC:ks.length<=j:=by have ho:¬(j:Int)<(ks.length:Int):=hp;omega
   rw[Lr hC]at hf;refine Ql<|Qb<|Qj ⟨[_],La,I.D he,cdt,⟨Za U.own I.size,U.bx⟩,hf⟩
  have V:j<ks.length:=by have ho:(j:Int)<(ks.length:Int):=hp;omega
  have h6:=Lm V;have h7:ks.take (j+1)=ks.take j++[ks[j]'V]:=Ll V;refine Qf<|Qd<|Qn<|Qc<|O9 yt ((hK.I I).I he).arr O O V λaA hA=>?_;refine Zd (ks[j]'V) λq hq=>?_;rw[hq]at hA h6 h7;have hr:=((hK.I I).I he).each q h6;refine x (QF hA O O)<|QT [.string .empty,nS,sS 0] λb7 w4 hs hu hv=>Q5 (Yj q) hv ⟨O,hr.one,O,Z⟩ λw5 hw hy=>xe ?_;have hg:sW wB w5:=hs.Q hw hu;refine Qr<|Qa<|Q3 hy O O<|Qw<|(QeH w5).S ?_;rintro r6 w6 ⟨hz,E,rfl,hD,h0⟩;refine Qo<|Q8 [[(Cd.co E q).val]] λhE w7 hh hF h1=>?_;have G:=(hg.D hz).D hh;have hG:=(he.D G).size;have hH:=hg.size;refine Qo<|Q2 (news:=[(Cd.co E q).val]) (L:=[]) (Qm U.own G) O O O (h1.at od) (by simp[Cd.val,Value.oneCell']) oa oa λv8 w8 h2 hm h3 =>
   Qb ?_
  have hge:=Qi U.own;have hI:=U.add (c:=Cd.co E q) G (QK.I h0 hh) (by show _<=E;omega) h2 hm h3;have h4:sW T w8:=(he.D G).O hm (λb hb=>.inr (hge b hb).1);refine Qr<|QB O O<|Qa<|xe ?_;exact⟨(j+1,v8,cdt++[Cd.co E q]),oe,ov,V,h4,hI,by simp only[];rw[Ly,hf,h7];simp[Cd.src]⟩
 have Y:k<qx.length:=by have ho:(k:Int)<(qx.length:Int):=hn;omega
 have h8:=Lm Y;have h9:qx.take (k+1)=qx.take k++[qx[k]'Y]:=Ll Y;refine Qf<|Qd<|Qn<|Qc<|O9 zO ((hX.I I).I J).arr O O Y λaA hA=>?_;refine Zd (qx[k]'Y) λq hq=>?_;rw[hq]at hA h8 h9;have hr:=((hX.I I).I J).each q h8;refine x (QF hA O O)<|QT [.string .empty,nS] λb7 w4 hs hu hv=>Q5 (Z4 q) hv ⟨O,hr.one,Z⟩ λw5 hw hy=>xe ?_;have hg:sW wA w5:=hs.Q hw hu;refine Qr<|Qa<|Q3 hy O O<|Qw<|(Qc4 w5).S ?_;rintro r6 w6 ⟨hz,E,rfl,hD,h0⟩;refine Qo<|Q8 [[(Cd.ex E q).val]] λhE w7 hh hF h1=>?_;have G:=(hg.D hz).D hh;have hG:=(J.D G).size;have hH:=hg.size;refine Qo<|Q2 (news:=[(Cd.ex E q).val]) (L:=[]) (Qm hL.own G) O O O (h1.at od) (by simp[Cd.val,Value.oneCell']) oa oa λv8 w8 h2 hm h3 =>
  Qb ?_
 have h4:sW T w8:=(J.D G).O hm (λb hb=>.inr ((Qi hL.own) b hb).1);refine Qr<|QB O O<|Qa<|xe ?_;exact⟨(k+1,v8,cds++[Cd.ex E q]),oe,ov,Y,h4,(hL.add (c:=Cd.ex E q) G (QK.I h0 hh) (by show _<=E;omega) h2 hm h3),by simp only[];rw[Ly,ha,h9];simp[Cd.src]⟩
theorem QpD [Fu sV gp fn]{q:Cd->Bool}{v:O3}{l:List Cd}(h:Zu L ↑w v l.length 1 (l.flatMap UY))
  (G:∀e∈l,∀(E:O2),sW w E->QU sV gp ([e.val]++cap) E λr w'=>r=.bool (q e)/\sW E w'):
  QU sV 231 [v,.func (.func gp) #[] cap.toArray] w λr w'=>r=sS (fix q 0 l)/\sW w w' :=
 ixG ⟨_,O,func231⟩ Qp6 (ld1 λ_=>O) h G
theorem QnB {c:Cd}{t:LI}(hc:CdA ↑w c)(ht:Qu [] ↑w vt t)(E:c.rg t.length)(G:∀i,i<t.length->0<=O7 t i/\O7 t i<=4096):
  ∃g fn cap,c.val=.func (.func g) #[] #[cap]/\Fu sV g fn/\QU sV g ([vt]++[cap]) w λr w'=>r=.bool (c.vio t)/\sW w w':=by
 cases c with
 | ex b q=>exact⟨_,_,_,O,inferInstance,Qns hc.1 hc.2 ht E⟩
 | co b q=>exact⟨_,_,_,O,inferInstance,Qnr hc.1 hc.2 ht E.1 E.2 G⟩
theorem Qih {bt:Nat}{c:Cd}{t:LI}(E:QK ↑w bt 47 [vt])(hc:CdA ↑w c)(ht:Qu [] ↑w vt t)(G:c.rg t.length)(I:∀i,i<t.length->0<=O7 t i/\O7 t i<=4096):
  QU sV 232 ([c.val]++[sP bt]) w λr w'=>r=.bool (c.vio t)/\sW w w':=by
 obtain⟨gq,fn,cap,J,U,hcall⟩:=QnB hc ht G I;rw[J];refine Zm func232 ?_;refine Qc<|Qb<|Ql<|ZD E O O<|Qo<|xc (g:=gq) (fn:=fn) (first:=[]) (capt:=[cap]) O<|hcall.S ?_;rintro V Y ⟨rfl,T⟩;refine Qb<|Qj ⟨[_],La,O,T⟩
theorem QbZ {v:O3}{cds:List Cd}{t:LI}(h:Zu L ↑w v cds.length 1 (cds.flatMap UY))(hc:∀c∈cds,CdA ↑w c)(ht:Qu [] ↑w vt t)(J:∀c∈cds,c.rg t.length)(T:∀i,i<t.length->0<=O7 t i/\O7 t i<=4096):
  QU sV 152 [v,vt] w λr w'=>r=sS (fix (Cd.vio t) 0 cds)/\sW w w':=by
 refine Zm func152 ?_;refine Qc<|Qo<|qP (us:=[vt]) ht.cells λU w1 G ha V=>Qb<|Ql<|x Zl<|Qw<|(QpD (q:=Cd.vio t) (cap:=[sP U]) (h.I G) (λc I Y E=>Qih (V.I E) (((hc c I).I G).I E) ((ht.I G).I E) (J c I) T)).S ?_;rintro r2 Y ⟨rfl,E⟩;refine Qb<|Qj ⟨[_],La,O,G.D E⟩
theorem Qk1 {sz t:LI}(hS:Qu [] ↑w vs sz)(ht:Qu [] ↑w vt t)(h:QnZ sz t):
  QU sV 230 [.agg #[vs,vx,vk],vt] w λr w'=>r=sS 0/\sW w w':=by
 have hf:=ht.le;have h0:=h.1;refine Zm func230 ?_;refine Qc<|Zf [vs,vx,vk] λb2 U E hg I=>Qb<|Qd<|Ql<|QG (ht.I E) O<|Qs O I O O<|QG (hS.I E) O<|x (Jd O O) <|
  xe ?_
 refine Zp rfl (λJ=>?_) (λJ=>?_)
 ·refine Qf<|Qd<|Ql<|QG (ht.I E) O<|Qa<|xe<|QX (α:=Nat) [(4,6),(15,31)] (λz=>[(15,sS z)]) (λz w'=>z<=t.length/\w'=U) (λz=>t.length - z) 0 La ⟨Lo _,O⟩ ?_;rintro k g V ⟨hk,rfl⟩;refine Zk O O (λT=>?_) (λT=>?_)
  ·refine Qt<|Qc<|Qb<|Qj ⟨[_],La,O,E⟩
  have G:k<t.length:=by have hh:(k:Int)<(t.length:Int):=T;omega
  have hb:=h.2 k G;refine Qf<|Qd<|Qn<|Ql<|xic (i:=k) (ht.I E) O O G λhj Y=>x (Qq Y O)<|x Qe<|Qb<|QW (α:=Unit) [(20,30)] (λz=>[(30,.bool false)]) (λz w'=>w'=V) oh ?_ ?_
  ·refine Qr<|Qa<|xb (YB O O) (λha=>oa) (λha=>?_);refine Qa<|Qa<|Qs O I O O<|Qa<|xic (i:=k) (hS.I E) O O oa λhm he=>x (Qq he O) <|
    x (Yf rfl O)<|QC O<|xe ?_
   exact⟨(),⟨OW Value.bool (O0 oa),Z⟩,O⟩
  rintro _ g w3 rfl;refine Zw O<|Qf<|Qr<|QB O O<|Qa<|xe ?_;exact⟨k+1,oa,La,G,O⟩
 exact OX (show(t.length:Int)=(sz.length:Int) by omega) J
theorem jA {sz t:LI}(hS:Qu [] ↑w vs sz)(hX:jy [] ↑w vx qx)(hK:jm [] ↑w vk ks)(ht:Qu [] ↑w vt t)(hc:Y7 sz (qx.map (·.x)) (ks.map (·.k))=0)(h:QnZ sz t):
  QU sV 151 [.agg #[vs,vx,vk],vt] w λr w'=>r=sS 0/\sW w w':=by
 refine Zm func151 ?_;refine Qc<|Zf [vs,vx,vk] λV Y E ha I=>Qb<|Qd<|Qc<|Q3 I O O<|Qw<|(yK (hS.I E) (hX.I E) (hK.I E)).S ?_;rintro r2 w2 ⟨J,T⟩;rw[hc]at J;subst J;refine Qb<|Ql<|ZN O O<|xe<|Zw rfl<|Qf ?_;have G:=E.D T;refine Qc<|Q3 (I.I T) O O<|Qa<|Qw<|(Qk1 (hS.I G) (ht.I G) h).S ?_;rintro r3 w3 ⟨rfl,U⟩;refine Qb<|Qj ⟨[_],La,O,G.D U⟩
def Uh (qx:List Exc)(ks:List xM)(t:LI):Int×Int×Bool :=
 if 0<=fix (VQ t) 0 qx then(1,fix (VQ t) 0 qx,true) else if 0<=fix (U8 t) 0 ks then(2,fix (U8 t) 0 ks,true) else(0,0,false)
theorem Qnm {cds:List Cd}(t:LI)(h:cds.map Cd.src=qx.map Sum.inl++ks.map Sum.inr):
  fix (Cd.vio t) 0 cds=if 0<=fix (VQ t) 0 (qx.map (·.x)) then fix (VQ t) 0 (qx.map (·.x)) else if 0<=fix (U8 t) 0 (ks.map (·.k)) then fix (U8 t) 0 (ks.map (·.k))+qx.length else -1:=by
 have E:fix (Cd.vio t) 0 cds=fix (QgW t) 0 (cds.map Cd.src):=(Vz (QgW t) Cd.src cds 0).symm;rw[E,h,yH,Vz,Ln,Qam,Vz (QgW t) Sum.inr ks 0];have e1:fix (λa=>QgW t (Sum.inl a)) 0 qx=fix (VQ t) 0 (qx.map (·.x)):=(Vz (VQ t) XV.x qx 0).symm;have e2:fix (λa=>QgW t (Sum.inr a)) 0 ks=fix (U8 t) 0 (ks.map (·.k)):=(Vz (U8 t) KV.k ks 0).symm;rw[e1,e2]
theorem QoF {P:Int×Int×Bool}{a b:Int}{c:Bool}(h:P=(a,b,c)):(Value.tuple #[sS a,sS b,.bool c,sS 0])=.tuple #[sS P.1,sS P.2.1,.bool P.2.2,sS 0]:=by rw[h]
theorem qW {sz t:LI}(hS:Qu [] ↑w vs sz)(hX:jy [] ↑w vx qx)(hK:jm [] ↑w vk ks)(ht:Qu [] ↑w vt t)(hc:Y7 sz (qx.map (·.x)) (ks.map (·.k))=0)(h:QnZ sz t):
  QU sV 77 [.agg #[vs,vx,vk],vt] w λr w'=>sW w w'/\r=.tuple #[sS (Uh (qx.map (·.x)) (ks.map (·.k)) t).1,sS (Uh (qx.map (·.x)) (ks.map (·.k)) t).2.1,.bool (Uh (qx.map (·.x)) (ks.map (·.k)) t).2.2,sS 0]:=by
 have hok:=Qdn hc;have hw:qx.length<=32:=by have:=hok.xl;simpa using this
 have hy:ks.length<=32:=by have:=hok.kl;simpa using this
 refine Zm func77 ?_;refine Qc<|Zf [vs,vx,vk] λb2 w1 Y h7 hk=>x Qe<|x Qe<|x Qe<|Qb<|Qd<|Qc<|Q3 hk O O<|Qa<|Qw<|(jA (hS.I Y) (hX.I Y) (hK.I Y) (ht.I Y) hc h).S ?_;rintro r2 w2 ⟨rfl,hn⟩;refine Qb<|Ql<|ZN O O<|xe<|Zw rfl<|Qf ?_;have hf:=Y.D hn;have ho:=hk.I hn;refine Qc<|Q3 ho O O<|Qw<|(QkQ (hX.I hf) (hK.I hf) hw hy).S ?_;rintro r3 w3 ⟨hp,cds,hL,hg⟩;have he:=hf.D hp;have h8:cds.length=qx.length+ks.length:=by have:=OW oV hg;simpa using this
 have hz:∀i,i<t.length->0<=O7 t i/\O7 t i<=4096:=λi hi=>by
  have J:=h.2 i hi;have h2:i<sz.length:=by rw[<-h.1];exact hi
  have h3:=hok.s _ (Lm h2);rw[Zo h2]at h3;omega
 have hs:∀c∈cds,c.src∈qx.map Sum.inl++ks.map Sum.inr:=λc T=>by rw[<-hg];exact LL T
 have h0:∀c∈cds,CdA ↑w3 c:=λc T=>by
  have J:=hs c T;have h2:=(hL.bx c T).1;cases c with
  | ex b q =>
   have I:q∈qx:=by simpa[Cd.src]using J
   exact⟨h2,(hX.each q I).I he⟩
  | co b q =>
   have I:q∈ks:=by simpa[Cd.src]using J
   exact⟨h2,(hK.each q I).I he⟩
 have h4:∀c∈cds,c.rg t.length:=λc T=>by
  have J:=hs c T;rw[h.1];cases c with
  | ex b q =>
   have I:q∈qx:=by simpa[Cd.src]using J
   exact hok.x q.x (LL I)
  | co b q =>
   have I:q∈ks:=by simpa[Cd.src]using J
   exact hok.k q.k (LL I)
 have g1:=QeE (VQ t) (qx.map (·.x)) 0;have g2:=QeE (U8 t) (ks.map (·.k)) 0;simp only[Ow]at g1 g2;refine Qa<|Qw<|(QbZ (QN (L:=[]) hL.own oa od) h0 (ht.I he) h4 hz).S ?_;rintro r4 w4 ⟨rfl,hu⟩;rw[(Qnm t hg)];have ha:=he.D hu;refine Zd (Uh (qx.map (·.x)) (ks.map (·.k)) t) λP U=>?_;rw[U];unfold Uh at U;refine Zd (fix (VQ t) 0 (qx.map (·.x))) λV hh=>?_;refine Zd (fix (U8 t) 0 (ks.map (·.k))) λi2 hj=>?_;rw[hh,hj]at U;rw[hh]at g1;rw[hj]at g2;refine Zd (if 0<=V then V else if 0<=i2 then i2+(qx.length:Int) else -1) λr E=>?_
 rw[hh,hj,E];refine Qb<|Qn<|Ql<|ZW O O<|Qb<|Zg O (λh5=>?_) (λh5=>?_)
 ·have G:¬0<=V:=λh=>by rw[OV h]at E;omega
  have n2:¬0<=i2:=λh=>by rw[OU G,OV h]at E;omega
  refine Qc<|x Qe<|x Qe<|x Qe<|Qb<|Qj ⟨[_,_,_,_],oy,ha,QoF (by rw[<-U,OU G,OU n2])⟩
 have hv:=(ho.I hp).I hu;refine Ql<|Qs O hv O O<|QG (hX.I ha).arr O<|ZW O O<|Qb<|Zg O (λh6=>?_) (λh6=>?_)
 ·have p1:0<=V:=by
   refine Lt.1 λG=>?_;by_cases h:0<=i2
   ·rw[OU G,OV h]at E;omega
   rw[OU G,OU h]at E;omega
  have e:r=V:=by rw[OV p1]at E;exact E.symm
  refine Ql<|x Qe<|x Qe<|x Qe<|Qb<|Qj ⟨[_,_,_,_],oy,ha,QoF (by rw[<-U,OV p1,e])⟩
 have G:¬0<=V:=λh=>by rw[OV h]at E;omega
 have p2:0<=i2:=by
  refine Lt.1 λn2=>?_;rw[OU G,OU n2]at E;omega
 have e:r - (qx.length:Int)=i2:=by rw[OU G,OV p2]at E;omega
 refine Qd<|ZK [] (Xj 0 9 [])<|p Qy<|p (QH O)<|pq (λ_ hc=>Qk (hv.I hc) O O)<|p (λ_=>Y1 (hX.I ha).arr O) <|
  p (λ_=>JB O O ⟨oa,oa⟩)<|p ZI<|p ZI<|p ZI<|p ZI <|
  pe ?_
 exact Qj ⟨[_,_,_,_],oy,ha.D (O6.X _ _),QoF (by rw[<-U,OU G,OV p2,<-e])⟩
def YH (base:Nat)(av:LN)(H:xC)(v:O3)(n sz:Nat)(cs:LV):Prop:=∀L:LN,(∀b∈L,b<base\/b∈av)->Zu L H v n sz cs
theorem YH.I {base:Nat}{av:LN}{w w':O2}{v:O3}{n sz:Nat}{cs:LV}(h:YH base av ↑w v n sz cs)(E:sW w w'):YH base av ↑w' v n sz cs:=λL G=>(h L G).I E
theorem YH.app {I:LN}{v:O3}(h:YH base av ↑w v n sz cs)(J:O6 av w w')(T:∀b∈I,b∈av\/↑w<=b):YH base I ↑w' v n sz cs:=by
 intro L U;have V:Zu (av++L.filter λb=>decide (b<base)) ↑w v n sz cs:=h _ (λb hb=>by
  rcases Le.1 hb with hb|hb
  ·exact .inr hb
  exact .inl (by simpa using(LJ.1 hb).2))
 refine V.grow J (λb hb=>Le.2 (.inl hb)) λb hb=>?_;rcases U b hb with E|E
 ·exact .inl (Le.2 (.inr (LJ.2 ⟨hb,ou E⟩)))
 rcases T b E with G|G
 ·exact .inl (Le.2 (.inl G))
 exact .inr G
theorem YH.of_own {v:O3}{e:Nat}(h:w.ownsRow N e sz v n cs)(G:n<=1099511627776)(hb:base<=N)(I:∀b∈av,b<N):YH base av ↑w v n sz cs:=λL J =>
 QN h G λb hb T=>by
  have U:=(Qi h b hb).1;rcases J b T with E|E
  ·omega
  have:=I b E;omega
structure Kx {α:Type}(g:α->LV)(sz T:Nat)(p:α->O3×Nat×Nat×LV)(base:Nat)(w:O2)(v:O3)(l:List α):Prop where
 own:w.ownsRow base T sz v l.length (l.flatMap g)
 each:∀q∈l,YH base (ob v) ↑w (p q).1 (p q).2.1 (p q).2.2.1 (p q).2.2.2
theorem Kx.nil {g:α->LV}{p:α->O3×Nat×Nat×LV}:Kx g sz T p base w (nS) []:=⟨QL _ _ _ _,λq E=>by cases E⟩
theorem Kx.app {α:Type}{g:α->LV}{sz T:Nat}{p:α->O3×Nat×Nat×LV}{base N e:Nat}{w E G:O2}{v I:O3}{l:List α}{q:α}(h:Kx g sz T p base w v l)(V:sW w E)
  (Y:E.ownsRow N e (p q).2.2.1 (p q).1 (p q).2.1 (p q).2.2.2) (ha:(p q).2.1<=1099511627776) (hN:↑w<=N) (hb:base<=↑w)
  (ho:G.ownsRow base T sz I (l.length+1) (l.flatMap g++g q)) (J:O6 (ob v) E G) (U:∀b∈ob I,b∈ob v\/↑E<=b):Kx g sz T p base G I (l++[q]):=by
 refine⟨?_,λd hd=>?_⟩
 ·rw[Lc,LF];simpa using ho
 rcases Le.1 hd with hd|hd
 ·exact((h.each d hd).I V).app J U
 simp only[oF]at hd;subst hd;exact(YH.of_own Y ha oa (λb hb=>oo ((QV h.own) b hb))).app J U
theorem QlE {hf hg hh:O3}{b:Qz}(h:Zr L ↑w va vm ve a)(h':Zr L' ↑w hf hg hh b):
  QU sV 41 [.agg #[va,sS a.st,vm,ve],.agg #[hf,sS b.st,hg,hh]] w λr w'=>r=.bool (decide (a.st=b.st/\a.al=b.al/\a.mr=b.mr/\a.ed=b.ed))/\sW w w':=by
 refine Zm func41 ?_;refine Qc<|Zf [va,sS a.st,vm,ve] λb2 w1 hn hr ho=>Zf [hf,sS b.st,hg,hh] λb3 w2 hj E I=>Qb ?_;have J:=hn.D hj;have T:=ho.I hj;refine QW (α:=Bool) [(4,30)] (λz=>[(4,.bool z)]) (λz w'=>sW w w'/\z=decide (a.st=b.st/\a.al=b.al/\a.mr=b.mr/\a.ed=b.ed)) oh ?_ ?_
 ·refine Qr<|Qs O T O O<|Qs O I O O<|xb (Zc O O) (λh9=>?_) (λh9=>?_)
  ·refine Qa<|Qs O T O O<|Qs O I O O<|Qw<|(qy (h.al.I J) (h'.al.I J)).S ?_;rintro r3 w3 ⟨U,V⟩;have Y:=J.D V;refine QeI (decide (a.al=b.al)) (λE=>?_) (λE=>?_)
   ·rw[E]at U;subst U;refine QC O<|Qa<|Qs O (T.I V) O O<|Qs O (I.I V) O O<|Qw<|(qy (h.mr.I Y) (h'.mr.I Y)).S ?_;rintro r4 w4 ⟨ha,hk⟩;have he:=Y.D hk;have hm:=V.D hk;refine QeI (decide (a.mr=b.mr)) (λG=>?_) (λG=>?_)
    ·rw[G]at ha;subst ha;refine QC O<|Qa<|Qs O (T.I hm) O O<|Qs O (I.I hm) O O<|Qw<|(QhC (h.ed.I he) (h'.ed.I he)).S ?_;rintro r5 w5 ⟨rfl,hp⟩;refine QC O<|Qb<|⟨_,La,he.D hp,bD ⟨λe=>⟨h9,OZ E,OZ G,e⟩,λe=>e.2.2.2⟩⟩
    rw[G]at ha;subst ha;refine QC O<|Qa<|ZA<|YP<|QC O<|Qb<|⟨_,La,he,bF (λe=>O1 G e.2.2.1)⟩
   rw[E]at U;subst U;refine QC O<|Qa<|ZA<|YP<|QC O<|Qa<|ZA<|YP<|x (VV O) <|
    Qb<|⟨_,La,Y,bF (λe=>O1 E e.2.1)⟩
  refine Qa<|ZA<|YP<|QC O<|Qa<|ZA<|YP<|x (VV O) <|
   Qa<|ZA<|YP<|QC O<|Qb<|⟨_,La,J,bF (λe=>h9 e.1)⟩
 rintro z g w6 ⟨hq,rfl⟩;exact Qj ⟨[_],La,O,hq⟩
theorem QlA (h:Zr L ↑w va vm ve a):
  QU sV 173 [.agg #[va,sS a.st,vm,ve]] w λr w'=>r=.bool (Kp a)/\sW w w':=by
 refine Zm func173 ?_;refine Qc<|Zf [va,sS a.st,vm,ve] λb1 U hf hj E=>Qb<|QW (α:=Bool) [(2,11)] (λz=>[(2,.bool z)]) (λz w'=>sW w w'/\z=Kp a) oh ?_ ?_
 ·refine ZK [] (Xj 0 10 [1,6,7]) ?_;have V:=hf.D (O6.X [] U);refine pq (λ_ hc=>Zi (E.J hc od) rfl rfl)<|pk<|xg<|(Y8 (h.I V)).S ?_;rintro r2 w2 ⟨rfl,Y⟩;have G:=V.D Y;have I:=(O6.X [] U).D Y;refine⟨I,?_⟩;refine pb (λ_=>Zc O O) (λJ=>?_) (λJ=>?_)
  ·have hc:Jc a=0:=J;refine p Qy<|pq (λ_ hc=>Zi (E.J hc od) rfl rfl)<|pq (λ_ hc=>Zi (E.J hc od) rfl rfl) <|
    pk<|xg<|(KJ (h.I G) ((Zz a).1 hc)).S ?_
   rintro r3 w3 ⟨T,hk,hm,hn,rfl,hg⟩;have ha:=G.D T;refine⟨I.D T,?_⟩;refine pk<|xg<|(QlE (h.I ha) (hg [] od)).S ?_;rintro r4 w4 ⟨rfl,he⟩;refine⟨(I.D T).D he,?_⟩;refine p (YU O)<|p ZI<|pe ?_;refine⟨_,La,ha.D he,?_⟩;unfold Kp;rw[OY hc,OK];exact bD ⟨λe=>⟨e.1.symm,e.2.1.symm,e.2.2.1.symm,e.2.2.2.symm⟩,λe=>⟨e.1.symm,e.2.1.symm,e.2.2.1.symm,e.2.2.2.symm⟩⟩
  have hc:¬Jc a=0:=J;refine p Qy<|ps<|ps<|ps<|ps<|p (YU O)<|p ZI<|pe ?_;exact⟨_,La,G,by unfold Kp;rw[O0 hc];rfl⟩
 rintro z g w5 ⟨hh,rfl⟩;exact Qj ⟨[_],La,O,hh⟩
theorem ZR [Ag P t sz]{x:O4}{b o:Nat}(h:QK ↑w b T cs)(hx:ev f x=.pointer (some ⟨b,o,none⟩))(hl:us.length=sz)(G:(cs.drop o).take sz=us):
  (execOp (ev f) ⟨d,.load t x,ty,pS,af,gd⟩).run P w=.ok (.value (sT us)) w:=zv hx hl λj v E=>by
 rw[X5,Ju,h.cell];rw[<-G,LZ]at E;split at E
 ·simpa using E
 cases E
theorem Qet {v:O3}{qs:List IV}(h:Vo L ↑w v qs):
  QU sV 50 [v] w λr w'=>sW w w'/\w'.ownsRow ↑w 53 4 r (qs.map (·.p)).length ((qs.map (·.p)).flatMap ZJ):=by
 have hw:=h.arr.le;refine Zm func50 ?_;refine Qc<|Qb<|Qc<|Qb<|Qd<|Ql<|QG h.arr O<|Qa<|xe<|QX (α:=Nat×O3) [(3,3),(5,5),(8,17)] (λz=>[(3,z.2),(8,sS z.1)]) (λz w'=>z.1<=qs.length/\sW w w'/\w'.ownsRow ↑w 53 4 z.2 z.1 (((qs.take z.1).map (·.p)).flatMap ZJ)) (λz=>qs.length - z.1) (0,nS) ov
  ⟨Lo _,O6.Y _ _,QL _ _ _ _⟩ ?_
 rintro⟨k,vo⟩ g w1 ⟨hk,I,T⟩;refine Zk rfl O (λU=>?_) (λU=>?_)
 ·refine Qt ?_;have hg:k=qs.length:=by have J:¬(k:Int)<(qs.length:Int):=U;omega
  subst hg;rw[Lr (Lp _)]at T;refine Ql<|Qb<|Qj ⟨[_],La,I,by rw[Ln];exact T⟩
 have E:k<qs.length:=by have J:(k:Int)<(qs.length:Int):=U;omega
 have ha:=Lm E;have he:qs.take (k+1)=qs.take k++[qs[k]'E]:=Ll E;refine Qf<|Qd<|Qn<|Qc<|O9 qu (h.arr.I I) O O E λhy J=>?_;refine Zd (qs[k]'E) λq hq=>?_;rw[hq]at J ha he;have G:=h.each q ha;refine x (QF J O O)<|QT [.string .empty,nS,sS 0,nS,nS] λb5 w2 hh hj V=>Q5 (Zn q) V ⟨O,G.al.one,O,G.mr.one,G.ed.one,Z⟩ λw3 hm V =>
  xe ?_
 have hn:sW w1 w3:=hh.Q hm hj;refine Qr<|Qa<|Q9 O<|x (ZR (us:=ZJ q.p) V O O O)<|Qo<|Q8 [ZJ q.p] λb15 w4 ho hz hp=>?_;have Y:=hn.D ho;have hf:=Qm T Y;have h0:=(I.D Y).size;have hr:∀u∈ZJ q.p,u.oneCell'=true:=by
  intro u hu;simp only[oK,oH,or_false]at hu;rcases hu with rfl|rfl|rfl|rfl
  ·exact G.al.one
  ·rfl
  ·exact G.mr.one
  exact G.ed.one
 refine Qo<|Q2 (news:=ZJ q.p) (L:=[]) hf O O O (hp.at od) hr oa oa λv5 w5 hs hv h1=>Qb<|Qr<|QB rfl rfl<|Qa<|xe<|⟨(k+1,v5),oe,ov,E,(I.D Y).O hv (λb hb=>.inr ((Qi hf) b hb).1),?_⟩;simp only[];rw[he,Ly,LF];simpa using hs
theorem Qj4 {r:O3}{e:Nat}{ps:List AV}(h:w.ownsRow base e 4 r ps.length (ps.flatMap ZJ))(E:ps.length<=1099511627776)(G:∀b∈L,b<base)(I:∀p∈ps,Zr L ↑w p.va p.vm p.ve p.a):X7 L ↑w r ps :=
 ⟨QN h E (λb hb J=>oq (Qi h b hb).1 (G b J)),I⟩
theorem Qj3 {b:Nat}{n m:Int}(E:QK ↑w b 3 [sS m]):
  QU sV 174 ([sS n]++[sP b]) w λr w'=>r=.bool (decide (m<=n))/\sW w w':=by
 refine Zm func174 ?_;refine Qc<|Qb<|Ql<|ZD E O O<|x (Yf O O)<|Qb<|Qj ⟨[_],La,O,O6.Y _ _⟩
theorem Qgd {q:IV}{nev:Nat}{vg:O3}{amg:LI}{bm:Nat}{seen:List ByteArray}(hA:Zr L ↑w q.p.va q.p.vm q.p.ve q.p.a)(h6:jp q.nm)(hg:Qu L' ↑w vg amg)(hG:amg.length<=4096)(hm:ZU XB ↑w bm (nmM seen))(h7:bm∈L)(h8:bm∈L'):
  QU sV 111 [sT (Zn q),sS nev,vg,.map (some bm)] w λr w'=>r=sS (Yw nev amg seen q.it)/\O6 [bm] w w'/\(Yw nev amg seen q.it=0->ZU XB ↑w' bm (nmM (seen++[q.nm]))):=by
 have E:Yw nev amg seen q.it=(if Xp q.nm=false then 7 else if q.nm∈seen then 8 else if Jc q.p.a≠0 then Jc q.p.a else if Kp q.p.a=false then 6 else if q.p.a.st=0 then 12 else
  if(q.p.a.al.any λe=>decide ((nev:Int)<=e))=true then 2 else if(mns q.p.a.al amg).length≠0 then 9 else 0):=rfl
 refine Zd (Yw nev amg seen q.it) λR hR=>?_;rw[hR]at E ⊢;refine Zm func111 ?_;refine Qc<|Zf (Zn q) λb4 w1 hz hH h9=>Zf [sS nev] λb5 w2 V hI hB=>Qb ?_;have Y:=hz.D V;have ha:=h9.I V;refine Qd<|Qn<|Qc<|Qs O ha O O<|Qw<|(qJ q.nm h6 w2).S ?_;rintro r3 w3 ⟨rfl,rfl⟩;refine x (Zj O)<|Qb<|Q6 O (λho=>?_) (λho=>?_)
 ·have G:Xp q.nm=false:=by simpa using ho
  rw[OV G]at E;subst E;refine Qc<|Qb<|Qj ⟨[_],La,O,Y.any,λe=>OX e og⟩
 have G:¬Xp q.nm=false:=by simpa using ho
 rw[OU G]at E;have h0:=hm.I Y;refine Ql<|Qs O ha O O<|x (Qct h0 O O)<|Qb<|Zg O (λhf=>?_) (λhf=>?_)
 ·rw[OV hf]at E;subst E;refine Qc<|Qb<|Qj ⟨[_],La,O,Y.any,λe=>OX e og⟩
 rw[OU hf]at E;refine Qf ?_;have hJ:=hm.lt;refine Ql<|Qs O ha O O<|Qo<|YR (k:=q.nm) h0 O O λw4 hp h1=>xe ?_;rw[show ev _ _=Value.bool true from rfl,Qf2 hf]at h1;have I:O6 [bm] w w4:=Y.any.V hp;have hK:=hz.size;have hh:=ha.J hp (by simp;omega);have hj:Zr L ↑w4 q.p.va q.p.vm q.p.ve q.p.a:=hA.st (I.S (λb hb=>by simp at hb;subst hb;exact h7));have hC:Qu L' ↑w4 vg amg:=hg.st (I.S (λb hb=>by simp at hb;subst hb;exact h8));refine Qd<|Qc<|Q9 O<|x (ZR (us:=ZJ q.p) hh O O O)<|Qw<|(Y8 hj).S ?_;rintro r5 w5 ⟨rfl,hk⟩;refine Qb<|Ql<|ZN O O<|xe<|Zg rfl (λJ=>?_) (λJ=>?_)
 ·rw[OV J]at E;subst E;refine Ql<|Qb<|Qj ⟨[_],La,O,I.D hk,λe=>OX e J⟩
 rw[OU J]at E;refine Qf<|Qd<|Qn<|Qc<|Q9 O<|x (ZR (us:=ZJ q.p) (hh.I hk) O O O)<|Qw<|(QlA (hj.I hk)).S ?_;rintro r6 w6 ⟨rfl,hD⟩;have T:=hk.D hD;have h2:=I.D T;have h3:=hh.I T;refine x (Zj O)<|Qb<|Q6 O (λhq=>?_) (λhq=>?_)
 ·have G:Kp q.p.a=false:=by simpa using hq
  rw[OV G]at E;subst E;refine Qc<|Qb<|Qj ⟨[_],La,O,h2,λe=>OX e og⟩
 have G:¬Kp q.p.a=false:=by simpa using hq
 rw[OU G]at E;refine Qc<|Q9 O<|Qs O h3 O O<|x (Zc O O)<|Qb<|Zg O (λhs=>?_) (λhs=>?_)
 ·have hu:q.p.a.st=0:=hs;rw[OV hu]at E;subst E;refine Qc<|Qb<|Qj ⟨[_],La,O,h2,λe=>OX e og⟩
 have hu:¬q.p.a.st=0:=hs;rw[OU hu]at E;refine Qc<|Q9 O<|Qs O h3 O O<|x Zl<|Qw<|(QeX (q:=λe=>decide ((nev:Int)<=e)) (cap:=[sP b5]) (Qu.fl (hj.al.I T)) (λe he w2 V=>Qj3 (((hB.J hp (by simp;omega)).I T).I V))).S ?_;rintro r7 w7 ⟨rfl,hE⟩;have U:=T.D hE;refine Qb<|Q6 O (λhv=>?_) (λhv=>?_)
 ·rw[OV hv]at E;subst E;refine Qc<|Qb<|Qj ⟨[_],La,O,(I.D U),λe=>OX e og⟩
 rw[OU (by rw[hv];decide)]at E;have hL:=((Zz q.p.a).1 (Lt.1 J)).al_le;refine Qc<|Q9 O<|Qs O (hh.I U) O O<|Qa<|Qw<|(Qay (hj.al.I U) (hC.I U) oa).S ?_;rintro r8 w8 ⟨hF,rfl⟩;have h4:=U.D hF;have h5:=I.D h4;refine x (yb O)<|Qb<|Zg O (λhw=>?_) (λhw=>?_)
 ·have hy:(mns q.p.a.al amg).length≠0:=λe=>hw (Ls e);rw[OV hy]at E;subst E;refine Qc<|Qb<|Qj ⟨[_],La,O,h5,λe=>OX e og⟩
 have hy:¬(mns q.p.a.al amg).length≠0:=λe=>hw (λh=>e (by rw[show mns q.p.a.al amg=[] from h];rfl));rw[OU hy]at E;subst E;refine Qf<|Qc<|Qb<|Qj ⟨[_],La,O,h5,λ_=>h1.I h4⟩
theorem QhG {v:O3}{l:xx}(h:P2s L ↑w v l):
  QU sV 180 [v] w λr w'=>sW w w'/\w'.ownsRow ↑w 188 2 r l.length (l.flatMap Zh):=
 yS ⟨_,O,func180⟩ h (QfY (c:=Zh) (λ_=>ov) l)
theorem QhF {v:O3}{l:xx}(h:P2s L ↑w v l):
  QU sV 181 [v] w λr w'=>sW w w'/\w'.ownsRow ↑w 193 2 r l.length (l.flatMap Zh):=
 yS ⟨_,O,func181⟩ h (QfY (c:=Zh) (λ_=>ov) l)
theorem YH.low {X:LN}{v:O3}(h:YH base av ↑w v n sz cs)(E:O6 X w w')(hX:∀b∈X,b<base):YH base av ↑w' v n sz cs:=by
 intro L G;have I:Zu (X++L) ↑w v n sz cs:=h _ (λb hb=>by
  rcases Le.1 hb with hb|hb
  ·exact .inl (hX b hb)
  exact G b hb)
 exact(I.J E (λb hb=>Le.2 (.inl hb))).up (λb hb=>.inl (Le.2 (.inr hb)))
theorem Kx.low {α:Type}{g:α->LV}{sz T:Nat}{p:α->O3×Nat×Nat×LV}{base:Nat}{X:LN}{w w':O2}{v:O3}{l:List α}(h:Kx g sz T p base w v l)(E:O6 X w w')(hX:∀b∈X,b<base):Kx g sz T p base w' v l :=
 ⟨Qg h.own E (λb hb G=>oq (Qi h.own b hb).1 (hX b G)),λq I=>(h.each q I).low E hX⟩
theorem Kx.arr {g:α->LV}{p:α->O3×Nat×Nat×LV}{v:O3}{l:List α}(h:Kx g sz T p base w v l)(E:l.length<=1099511627776)(G:∀b∈L,b<base):Zu L ↑w v l.length sz (l.flatMap g):=
 QN h.own E (λb hb I=>oq (Qi h.own b hb).1 (G b I))
abbrev xvP (q:XV):O3×Nat×Nat×LV:=(q.v,q.ls.length,2,q.ls.flatMap Zh)
abbrev kvP (q:KV):O3×Nat×Nat×LV:=(q.v,q.ts.length,2,q.ts.flatMap Zh)
abbrev XvN (base:Nat)(w:O2)(v:O3)(l:List XV):Prop:=Kx Z4 2 186 xvP base w v l
abbrev KvN (base:Nat)(w:O2)(v:O3)(l:List KV):Prop:=Kx Yj 3 191 kvP base w v l
theorem XvN.xcs {v:O3}{l:List XV}{qs:List XV}(h:XvN base w v l)(T:l.map (·.x)=qs.map (·.x))(E:∀q∈qs,jp q.nm)(U:l.length<=1099511627776)(G:∀b∈L,b<base):jy L ↑w v l:=by
 refine⟨h.arr U G,λq E=>h.each q E L (λb hb=>.inl (G b hb)),λq V=>?_⟩;have Y:q.x∈qs.map (·.x):=by rw[<-T];exact LL V
 obtain⟨I,ha,e⟩:=Lx.1 Y;have J:=E I ha;have h3:I.nm=q.nm:=OW Exc.nm e;rw[h3]at J;exact J
theorem KvN.kcs {v:O3}{l:List KV}{qs:List KV}(h:KvN base w v l)(T:l.map (·.k)=qs.map (·.k))(E:∀q∈qs,jp q.nm)(U:l.length<=1099511627776)(G:∀b∈L,b<base):jm L ↑w v l:=by
 refine⟨h.arr U G,λq E=>h.each q E L (λb hb=>.inl (G b hb)),λq V=>?_⟩;have Y:q.k∈qs.map (·.k):=by rw[<-T];exact LL V
 obtain⟨I,ha,e⟩:=Lx.1 Y;have J:=E I ha;have h3:I.nm=q.nm:=OW xM.nm e;rw[h3]at J;exact J
theorem QA {e:Nat}{v:O3}(h:w.ownsRow base e sz v n cs):v.oneCell'=true:=by
 rcases h.2 with⟨E,_⟩|⟨g,cap,cur,E,_⟩ <;> subst E <;> rfl
theorem xN {e:Nat}{v:O3}(h:w.ownsRow base e sz v n cs):v.cells=#[v]:=by
 rcases h.2 with⟨E,_⟩|⟨g,cap,cur,E,_⟩ <;> subst E <;> rfl
theorem Qfk {q:XV}(h:q.v.oneCell'=true):∀u∈Z4 q,u.oneCell'=true:=by
 intro u E;simp only[oK,oH,or_false]at E;rcases E with rfl|rfl
 ·rfl
 exact h
theorem QmY {q:KV}(h:q.v.oneCell'=true):∀u∈Yj q,u.oneCell'=true:=by
 intro u E;simp only[oK,oH,or_false]at E;rcases E with rfl|rfl|rfl
 ·rfl
 ·exact h
 rfl
def Qs5 (N:Nat)(w:O2)(r:O3)(sz:LI)(ex:List Exc)(cs:List xM):Prop:=∃vs vx vk qx ks,r=.agg #[vs,vx,vk]/\qx.map (·.x)=ex/\ks.map (·.k)=cs/\∀L:LN,(∀b∈L,b<N)->Qu L ↑w vs sz/\jy L ↑w vx qx/\jm L ↑w vk ks
theorem Qas (h:Ya L ↑w c):
  QU sV 113 [c.val] w λr w'=>sW w w'/\Qs5 ↑w w' r (szs c.C.co) c.C.ex c.C.cs:=by
 have pf:=h.co.arr.le;have pg:=h.ex.arr.le;have ph:=h.cs.arr.le;refine Zm func113 ?_;refine Qc<|Zf c.cells λb1 w1 gb pn gc=>QT [nS,nS,nS] λb2 w2 ge po gg=>xe ?_;have pp:=gb.size;have pt:=gc.lt;have pu:=gg.lt;refine Qc<|x (QD Z)<|QT [nS,nS,nS] λE w3 kc ke h9=>Q5 [nS,nS,nS] h9 ox λw4 kf h9 =>
  xe ?_
 have pw:=h9.lt;have V:sW w2 w4:=kc.Q kf ke;have gh:sW w w4:=(gb.D ge).D V;have gi:=(gc.I ge).I V;have kg:=gg.I V;have h4:=h.I gh;have pz:b1<E:=oa
 have p0:b2<E:=oa
 have kh:↑w<=E:=oa
 have hK:∀{wa wb:O2},O6 [E] wa wb->sW w wa->sW w wb:=λha hb=>hb.Q ha kh;refine Qd<|Qc<|Qs O gi O O<|QG h4.co.arr O<|Qa<|xe<|QX (α:=Nat×O3) [(5,5),(14,26)] (λz=>[(14,sS z.1)]) (λz w'=>z.1<=c.co.length/\O6 [E] w4 w'/\QK ↑w' E 163 [z.2,nS,nS]/\Qh 3 ↑w4 w' z.2 ((c.co.take z.1).map (·.p.a.st))) (λz=>c.co.length - z.1) (0,nS) La
  ⟨Lo _,O6.Y _ _,h9,QL _ _ _ _⟩ ?_
 rintro⟨k,vs⟩ g w5 ⟨hk,hw,hA,J⟩;simp only[]at hk hA J;have gj:=hK hw gh;have h5:=h.I gj;have gk:=gi.J hw (by simp;omega);have ki:=kg.J hw (by simp;omega);have p4:=hw.size;refine Zk rfl O (λhM=>?_) (λhM=>?_)
 ·refine Qt ?_;have kj:c.co.length<=k:=by have U:¬(k:Int)<(c.co.length:Int):=hM;omega
  rw[Lr kj]at J;refine Qd<|Qc<|Qs O gk O O<|QG h5.ex.arr O<|Qa<|xe<|QX (α:=Nat×O3×List XV) [(7,7),(30,45)] (λz=>[(30,sS z.1)]) (λz w'=>z.1<=c.ex.length/\O6 [E] w5 w'/\QK ↑w' E 163 [vs,z.2.1,nS]/\XvN ↑w5 w' z.2.1 z.2.2/\z.2.2.map (·.x)=(c.ex.take z.1).map (·.x)) (λz=>c.ex.length - z.1) (0,nS,[]) La
   ⟨Lo _,O6.Y _ _,hA,Kx.nil,O⟩ ?_
  rintro⟨j,vx,qx⟩ g w6 ⟨hj,Y,hN,hf,hg⟩;simp only[]at hj hN hf hg;have gl:=hK Y gj;have h6:=h.I gl;have kk:=gk.J Y (by simp;omega);have kn:=ki.J Y (by simp;omega);have p5:=Y.size;have p6:qx.length=j:=by have:=OW oV hg;simp at this;omega
  refine Zk O O (λhO=>?_) (λhO=>?_)
  ·refine Qt ?_;have ko:c.ex.length<=j:=by have U:¬(j:Int)<(c.ex.length:Int):=hO;omega
   rw[Lr ko]at hg;refine Qd<|Qc<|Qs O kk O O<|QG h6.cs.arr O<|Qa<|xe<|QX (α:=Nat×O3×List KV) [(9,9),(49,66)] (λz=>[(49,sS z.1)]) (λz w'=>z.1<=c.cs.length/\O6 [E] w6 w'/\QK ↑w' E 163 [vs,vx,z.2.1]/\KvN ↑w6 w' z.2.1 z.2.2/\z.2.2.map (·.k)=(c.cs.take z.1).map (·.k)) (λz=>c.cs.length - z.1) (0,nS,[]) La
    ⟨Lo _,O6.Y _ _,hN,Kx.nil,O⟩ ?_
   rintro⟨i,vk,ks⟩ g w7 ⟨hi,hh,hP,hn,ho⟩;simp only[]at hi hP hn ho;have gm:=hK hh gl;have h7:=h.I gm;have kq:=kn.J hh (by simp;omega);have p7:=hh.size;have p8:ks.length=i:=by have:=OW oV ho;simp at this;omega
   refine Zk O O (λhQ=>?_) (λhQ=>?_)
   ·refine Qt ?_;have kr:c.cs.length<=i:=by have U:¬(i:Int)<(c.cs.length:Int):=hQ;omega
    rw[Lr kr]at ho;have kt:ZL [vs,vx,vk]:=⟨QA J,QA hf.own,QA hn.own,Z⟩;refine Qc<|Q3 hP O O<|Q5 [vs,vx,vk] kq kt λw8 hB ku=>xe ?_;refine Qj ⟨[.agg #[vs,vx,vk]],⟨JN ku,Z⟩,gm.Q hB oa,?_⟩;have kv:=Qg ((Qg J Y (λb hb G=>by have:=(Qi J b hb).1;simp at G;omega))) hh (λb hb G=>by have:=(Qi J b hb).1;simp at G;omega);have kw:=Qg kv hB (λb hb G=>by have:=(Qi J b hb).1;simp at G;omega);have kx:=(Kx.low hf hh (by simp;omega)).low hB (by simp;omega);have kz:=Kx.low hn hB (by simp;omega);refine⟨vs,vx,vk,qx,ks,O,hg,ho,λL hL=>⟨?_,XvN.xcs kx hg h.ex.nm oa (λb hb=>oo (hL b hb)),KvN.kcs kz ho h.cs.nm oa (λb hb=>oo (hL b hb))⟩⟩;have he:szs c.C.co=c.co.map (·.p.a.st):=by show((c.co.map IV.it).map _)=_;rw[MB];rfl
    rw[he];exact Qh.ints kw (by rw[Ln];omega) (λb hb=>oo (hL b hb))
   have hp:i<c.cs.length:=by have U:(i:Int)<(c.cs.length:Int):=hQ;omega
   have gn:=Lm hp;have gq:c.cs.take (i+1)=c.cs.take i++[c.cs[i]'hp]:=Ll hp;refine Qf<|Qd<|Qn<|Qc<|O9 yt h7.cs.arr O O hp λp9 gr=>?_;refine Zd (c.cs[i]'hp) λq hq=>?_;rw[hq]at gr gn gq;have I:=h7.cs.each q gn;refine x (QF gr O O)<|QT [.string .empty,nS,sS 0] λb9 w9 k0 k4 hy=>Q5 (Yj q) hy ⟨O,I.one,O,Z⟩ λhr k5 hy =>
    xe ?_
   have hC:sW w7 hr:=k0.Q k5 k4;have gs:=hP.I hC;have hR:=Qi hn.own;have T:E∉ob vk:=λG=>oo (hR E G).1
   have hS:b9∉ob vk:=λG=>oo (hR b9 G).2
   refine ZK (ob vk) [oz 0,oz 1,oz 2,oz 3,oz 4,oz 5,oz 7,oz 8,oA 6,oz 9,oA 10,oA 11,oz 12,oA 13] ?_;have k6:=hC.D (O6.X [] hr);refine p (QH O)<|pq (λ_ hc=>Qk (gs.J hc T) O O)<|p (QH O)<|pq (λ_ hc=>Qk (hy.J hc hS) O O) <|
    p (QH rfl)<|pq (λ_ hc=>Qk (hy.J hc hS) O O)<|p (QH O)<|pq (λ_ hc=>Qk (hy.J hc hS) O O) <|
    pk<|xg<|(QhF (I.I k6)).S ?_
   rintro hz qf ⟨k9,hT⟩;have h0:=(O6.X [] hr).D k9;refine⟨h0.any,?_⟩;refine p (λ_=>QD ⟨O,xN hT,O,Z⟩)<|pk<|Q8 [Yj ⟨q.nm,hz,q.ts,q.bd⟩] λqj ql h1 q4 ma=>⟨(h0.D h1).any,?_⟩;have hD:=(hC.D h0).D h1;have hU:↑hr=({ hr with drawn:=hr.drawn+1 }:O2).heap.size:=rfl
   have q5:=hC.size;have j1:=hD.size;refine pk<|Q2 (news:=Yj ⟨q.nm,hz,q.ts,q.bd⟩) (L:=[]) (Qm hn.own hD) O O O (ma.at od) (QmY (q:=⟨q.nm,hz,q.ts,q.bd⟩) (QA hT)) oa oa λhV gt gu hE mc=>⟨((h0.D h1).any (L:=ob vk)).V hE,?_⟩;have mf:KvN ↑w6 gt hV (ks++[⟨q.nm,hz,q.ts,q.bd⟩]):=Kx.app hn hD (Qm hT h1) I.le (by rw[<-hU];omega) oa gu hE mc;have mg:=(gs.J ((h0.D h1).any (L:=ob vk)) T).J hE T;refine p (QH O)<|pkk<|Qv (j:=2) (u:=hV) mg O O od (QA gu) λj2 gv mh=>pe ?_;have mj:O6 [E] w6 gt:=(hh.D hD).O hE (λb hb=>.inr (hR b hb).1);refine Qr<|QB O O<|Qa<|xe<|⟨(i+1,hV,ks++[⟨q.nm,hz,q.ts,q.bd⟩]),oe,La,hp,?_,mh,Kx.low mf gv (by simp;omega),?_⟩
   ·exact mj.V gv
   simp only[];rw[Ly,ho,gq,Ly];rfl
  have hs:j<c.ex.length:=by have U:(j:Int)<(c.ex.length:Int):=hO;omega
  have gx:=Lm hs;have gy:c.ex.take (j+1)=c.ex.take j++[c.ex[j]'hs]:=Ll hs;refine Qf<|Qd<|Qn<|Qc<|O9 zO h6.ex.arr O O hs λj3 gz=>?_;refine Zd (c.ex[j]'hs) λq hq=>?_;rw[hq]at gz gx gy;have I:=h6.ex.each q gx;refine x (QF gz O O)<|QT [.string .empty,nS] λb7 j4 mo mq hF=>Q5 (Z4 q) hF ⟨O,I.one,Z⟩ λhu ms hF =>
   xe ?_
  have hG:sW w6 hu:=mo.Q ms mq;have g0:=hN.I hG;have hW:=Qi hf.own;have T:E∉ob vx:=λG=>oo (hW E G).1
  have g2:b7∉ob vx:=λG=>oo (hW b7 G).2
  refine ZK (ob vx) (Xj 0 12 [6,8,9,11]) ?_;have mt:=hG.D (O6.X [] hu);refine p (QH O)<|pq (λ_ hc=>Qk (g0.J hc T) O O)<|p (QH O)<|pq (λ_ hc=>Qk (hF.J hc g2) O O) <|
   p (QH rfl)<|pq (λ_ hc=>Qk (hF.J hc g2) O O)<|pk<|xg<|(QhG (I.I mt)).S ?_
  rintro h2 za ⟨mu,hX⟩;have h3:=(O6.X [] hu).D mu;refine⟨h3.any,?_⟩;refine p (λ_=>QD ⟨O,xN hX,Z⟩)<|pk<|Q8 [Z4 ⟨q.nm,h2,q.ls⟩] λz0 z1 h8 z2 mv=>⟨(h3.D h8).any,?_⟩;have hH:=(hG.D h3).D h8;have hU:↑hu=({ hu with drawn:=hu.drawn+1 }:O2).heap.size:=rfl
  have z3:=hG.size;have z4:=hH.size;refine pk<|Q2 (news:=Z4 ⟨q.nm,h2,q.ls⟩) (L:=[]) (Qm hf.own hH) O O O (mv.at od) (Qfk (q:=⟨q.nm,h2,q.ls⟩) (QA hX)) oa oa λhY g3 g4 hI mw=>⟨((h3.D h8).any (L:=ob vx)).V hI,?_⟩;have my:XvN ↑w5 g3 hY (qx++[⟨q.nm,h2,q.ls⟩]):=Kx.app hf hH (Qm hX h8) I.le (by rw[<-hU];omega) oa g4 hI mw;have mz:=(g0.J ((h3.D h8).any (L:=ob vx)) T).J hI T;have m0:O6 [E] w5 g3:=(Y.D hH).O hI (λb hb=>.inr (hW b hb).1);refine p (QH O)<|pkk<|Qv (j:=1) (u:=hY) mz O O od (QA g4) λz5 g5 m1=>pe ?_;refine Qr<|QB O O<|Qa<|xe<|⟨(j+1,hY,qx++[⟨q.nm,h2,q.ls⟩]),oe,La,hs,?_,m1,Kx.low my g5 (by simp;omega),?_⟩
  ·exact m0.V g5
  simp only[];rw[Ly,hg,gy,Ly];rfl
 have hv:k<c.co.length:=by have U:(k:Int)<(c.co.length:Int):=hM;omega
 have g6:=Lm hv;have g7:c.co.take (k+1)=c.co.take k++[c.co[k]'hv]:=Ll hv;have htl:((c.co.take k).map (·.p.a.st)).length=k:=by simp;omega
 refine Qf<|Qd<|Qn<|Qc<|O9 qu h5.co.arr O O hv λa16 U=>?_;refine Zd (c.co[k]'hv) λq hq=>?_;rw[hq]at U g6 g7;have I:=h5.co.each q g6;refine x (QF U O O)<|QT [.string .empty,nS,sS 0,nS,nS] λb5 w21 m2 m3 hZ=>Q5 (Zn q) hZ ⟨O,I.al.one,O,I.mr.one,I.ed.one,Z⟩ λm4 m5 hZ =>
  xe ?_
 have g8:sW w5 m4:=m2.Q m5 m3;have m6:=hA.I g8;refine Qr<|Qs O m6 O O<|Q9 O<|Qs O hZ O O<|Qo<|Q8 [[sS q.p.a.st]] λb23 w23 m7 hb23 m8=>?_;have hJ:=g8.D m7;have hz523:=hJ.size;have g9:=Qi J;have T:E∉ob vs:=λG=>oo (g9 E G).1
 refine Qo<|Q2 (news:=[sS q.p.a.st]) (L:=[]) (Qm J hJ) O O O (m8.at od) om oa oa λka m9 ga V hn24=>?_;have pc:O6 [E] w4 m9:=(hw.D hJ).O V (λb hb=>.inr (g9 b hb).1);refine Q9 rfl<|Qo<|Qv (j:=0) (u:=ka) ((hA.I hJ).J V T) O O od (QA ga) λw25 kb pd =>
  xe ?_
 refine Qr<|QB O O<|Qa<|xe<|⟨(k+1,ka),oe,La,hv,pc.V kb,pd,?_⟩;simp only[];rw[g7,Ly];exact Qh.snoc (n:=q.p.a.st) (Qg ga kb (λb hb G=>by have:=(Qi ga b hb).1;simp at G;omega))
theorem Qin (n:Nat):VJ (n+1)=VJ n++[(n:Int)]:=by unfold VJ;rw[Nh,Ly];rfl
theorem QlV (n:Nat):(VJ n).length=n:=by unfold VJ;simp
theorem Vc {k:Nat}{l:List IV}(h:k<l.length):(l.drop k).map (·.it)=(l[k]'h).it::(l.drop (k+1)).map (·.it):=by rw[QY h];rfl
theorem yX {s:List ByteArray}{x:Jp}(h:Yw n u s x=0):QS x.a:=by
 unfold Yw at h;split at h
 ·cases h
 split at h
 ·cases h
 split at h
 ·rename_i E G;exact OX h G
 rename_i E;exact(Zz _).1 (Lt.1 E)
theorem V4 {al:LI}{s:List ByteArray}{x:Jp}{l:List Jp}:Yx n al s u (x::l)=if Yw n al s x≠0 then(Yw n al s x,s,u) else Yx n al (s++[x.nm]) (mrg (· || ·) u x.a.al) l:=rfl
theorem yV {s:List ByteArray}{x:Jp}{l:List Jp}:Ks n u s (x::l)=if Yw n u s x≠0 then Yw n u s x else Ks n u (s++[x.nm]) l:=rfl
theorem Qat (h:Ya L ↑w c):
  QU sV 45 [c.val] w λr w'=>r=sS (Z2 c.C)/\sW w w':=by
 have kn:=h.co.arr.le;have ko:=h.rq.arr.le;have E:Z2 c.C=(if XQ c.ev≠0 then XQ c.ev else if c.co.length=0 then 12 else if 8<c.co.length\/12<c.co.length+c.rq.length then 3 else
  if(Yx c.ev.length (VJ c.ev.length) [] [] (c.co.map (·.it))).1≠0 then(Yx c.ev.length (VJ c.ev.length) [] [] (c.co.map (·.it))).1 else
  if Ks c.ev.length (Yx c.ev.length (VJ c.ev.length) [] [] (c.co.map (·.it))).2.2 (Yx c.ev.length (VJ c.ev.length) [] [] (c.co.map (·.it))).2.1 (c.rq.map (·.it))≠0 then Ks c.ev.length (Yx c.ev.length (VJ c.ev.length) [] [] (c.co.map (·.it))).2.2 (Yx c.ev.length (VJ c.ev.length) [] [] (c.co.map (·.it))).2.1 (c.rq.map (·.it)) else
  Y7 (szs c.C.co) c.C.ex c.C.cs):=by
  unfold Z2;rw[show c.C.co.length=c.co.length from Ln ..,show c.C.rq.length=c.rq.length from Ln ..];rfl
 refine Zd (Z2 c.C) λR hR=>?_;rw[hR]at E ⊢;refine Zd (Yx c.ev.length (VJ c.ev.length) [] [] (c.co.map (·.it))) λCO hC=>?_;rw[hC]at E;refine Zm func45 ?_;refine Qc<|Zf c.cells λb1 w1 hD kq hE=>Qb<|Qd<|Qc<|Qs O hE O O<|Qw<|(yM (h.ev.I hD)).S ?_;rintro r2 w2 ⟨rfl,hG⟩;refine Qb ?_;have he:=hD.D hG;have hu:=hE.I hG;have h2:=h.I he;refine Ql<|ZN O O<|xe<|Zg rfl (λhv=>?_) (λhv=>?_)
 ·rw[OV hv]at E;subst E;refine Ql<|Qb<|Qj ⟨[_],La,O,he⟩
 rw[OU hv]at E;have hev:c.ev.length<=32:=by
  refine Lt.1 λhn=>?_;apply hv;unfold XQ;rw[OV oa];decide
 refine Qf<|Qd<|Qc<|Qs O hu O O<|QG h2.co.arr O<|Qb<|Qn<|Ql<|x (Zc O O)<|Qb<|Zg O (λh1=>?_) (λh1=>?_)
 ·have h3:c.co.length=0:=by have ge:(c.co.length:Int)=0:=h1;omega
  rw[OV h3]at E;subst E;refine Qc<|Qb<|Qj ⟨[_],La,O,he⟩
 have h3:¬c.co.length=0:=by have ge:¬(c.co.length:Int)=0:=h1;omega
 rw[OU h3]at E;refine QW (α:=Bool) [(27,37)] (λz=>[(27,.bool z)]) (λz w'=>w'=w2/\z=decide (8<c.co.length\/12<c.co.length+c.rq.length)) oh ?_ ?_
 ·refine Qr<|Qa<|xb (Z8 O O) (λgg=>?_) (λgg=>?_)
  ·refine Qa<|ZA<|ZA<|QC O<|Qb<|⟨_,La,O,bT (.inl oa)⟩
  refine Qa<|Qa<|Qs O hu O O<|QG h2.rq.arr O<|x (Xt O O ⟨oa,oa⟩) <|
   x (Z8 rfl O)<|QC O<|Qb<|⟨_,La,O,bD oa⟩
 rintro z g w3 ⟨rfl,rfl⟩;refine Zg rfl (λh4=>?_) (λh4=>?_)
 ·rw[OV h4]at E;subst E;refine Qc<|Qb<|Qj ⟨[_],La,O,he⟩
 rw[OU h4]at E;refine Qf<|Qc<|Qo<|Z1 XB λbm w4 hH kr hI=>Qb ?_;have kt:=hI.lt;have ku:=hu.lt;have hJ:=he.D hH;have hK:=hu.I hH;have hL:b1≠bm:=oa
 have hge:↑w<=bm:=oa
 have hM:Ya [bm] ↑w c:=h.up (λb hb=>.inr (by simp at hb;omega));have hN:=hM.I hJ;refine Qc<|x Qe<|Qb<|Qd<|Qc<|Qs O hK O O<|QG hN.ev.arr O<|Qa<|xe<|QX (α:=Nat×O3) [(6,6),(8,8),(42,49)] (λz=>[(6,z.2),(42,sS z.1)]) (λz w'=>z.1<=c.ev.length/\sW w4 w'/\Qh 3 ↑w4 w' z.2 (VJ z.1)) (λz=>c.ev.length - z.1) (0,nS) ov
  ⟨Lo _,O6.Y _ _,QL _ _ _ _⟩ ?_
 rintro⟨k,vg⟩ g w5 ⟨hk,hf,hw⟩;simp only[]at hk hw;have kv:=QlV k;refine Zk rfl O (λh5=>?_) (λh5=>?_)
 ·refine Qt ?_;have hg:k=c.ev.length:=by have hh:¬(k:Int)<(c.ev.length:Int):=h5;omega
  subst hg;have gh:Qu [bm] ↑w5 vg (VJ c.ev.length):=Qh.ints hw oa (by simp;omega);have gi:=hI.I hf;have hO:=hK.I hf;have hP:=hN.I hf;have gj:=hJ.D hf;refine Qd<|Qc<|Qs O hO O O<|QG hP.co.arr O<|Qa<|xe<|QX (α:=Nat×O3×List ByteArray×LI) [(2,2),(7,7),(10,11),(53,72)] (λz=>[(7,z.2.1),(53,sS z.1)]) (λz w'=>z.1<=c.co.length/\O6 [bm] w5 w'/\ZU XB ↑w' bm (nmM z.2.2.1)/\Qu [bm] ↑w' z.2.1 z.2.2.2/\z.2.2.2.length<=32*z.1/\Yx c.ev.length (VJ c.ev.length) z.2.2.1 z.2.2.2 ((c.co.drop z.1).map (·.it))=CO) (λz=>c.co.length - z.1) (0,nS,[],[]) ov
   ⟨Lo _,O6.Y _ _,gi,Zu.nil _ _ _,od,hC⟩ ?_
  rintro⟨k,vu,sn,u⟩ g w6 ⟨hk,hj,hy,h6,gk,I⟩;simp only[]at hk hy h6 gk I;have hQ:sW w w6:=gj.Q hj hge;have h7:=hO.J hj (ou hL);have V:=hP.st hj;refine Zk O O (λh8=>?_) (λh8=>?_)
  ·refine Qt ?_;have hg:k=c.co.length:=by have hh:¬(k:Int)<(c.co.length:Int):=h8;omega
   subst hg;rw[Lu (Lp _)]at I;have gl:CO=(0,sn,u):=I.symm;subst gl;rw[OU od]at E;simp only[]at E;refine Zd (Ks c.ev.length u sn (c.rq.map (·.it))) λRQ hS=>?_;rw[hS]at E;refine Qd<|Qc<|Qs O h7 O O<|QG V.rq.arr O<|Qa<|xe<|QX (α:=Nat×List ByteArray) [(2,2),(13,14),(76,90)] (λz=>[(76,sS z.1)]) (λz w'=>z.1<=c.rq.length/\O6 [bm] w6 w'/\ZU XB ↑w' bm (nmM z.2)/\Ks c.ev.length u z.2 ((c.rq.drop z.1).map (·.it))=RQ) (λz=>c.rq.length - z.1) (0,sn) La
    ⟨Lo _,O6.Y _ _,hy,hS⟩ ?_
   rintro⟨k,sm⟩ g w7 ⟨hk,hm,hT,J⟩;simp only[]at hk hT J;have hU:sW w w7:=hQ.Q hm hge;have hV:=h7.J hm (ou hL);have ho:=V.st hm;have gm:=h6.st hm;refine Zk O O (λh9=>?_) (λh9=>?_)
   ·refine Qt ?_;have hg:c.rq.length<=k:=by have hh:¬(k:Int)<(c.rq.length:Int):=h9;omega
    rw[Lu hg]at J;have gn:RQ=0:=J.symm;rw[OU (by rw[gn];decide)]at E;refine Qc<|Q3 hV O O<|Qw<|(Qas ho).S ?_;rintro r8 w8 ⟨gq,vs,vx,vk,qx,ks,rfl,gr,gs,hF⟩;obtain⟨gt,gu,gv⟩:=hF [] od;refine Qw<|(yK gt gu gv).S ?_;rintro r9 w9 ⟨rfl,gx⟩;rw[gr,gs,<-E];refine Qb<|Qj ⟨[_],La,O,(hU.D gq).D gx⟩
   have G:k<c.rq.length:=by have hh:(k:Int)<(c.rq.length:Int):=h9;omega
   have U:=Lm G;rw[Vc G,yV]at J;refine Qf<|Qd<|Qn<|Qc<|O9 qu ho.rq.arr O O G λkw hW=>?_;refine Zd (c.rq[k]'G) λq hq=>?_;rw[hq]at hW U J;have T:=ho.rq.each q U;refine x (QF hW O O)<|QT [.string .empty,nS,sS 0,nS,nS] λkx kz gy gz hA=>Q5 (Zn q) hA ⟨O,T.al.one,O,T.mr.one,T.ed.one,Z⟩ λg0 g2 hA =>
    xe ?_
   have Y:sW w7 g0:=gy.Q g2 gz;refine Qc<|Q3 hA O O<|Qs O (hV.I Y) O O<|QG (ho.ev.I Y).arr O<|Qa<|Qa<|Qw<|(Qgd (T.I Y) (ho.rq.nm q U) (gm.I Y) oa (hT.I Y) od od).S ?_;rintro k0 k4 ⟨rfl,hX,g3⟩;refine Qb<|Ql<|ZN O O<|xe<|Zg O (λhp=>?_) (λhp=>?_)
   ·rw[OV hp]at J;rw[OV (by rw[<-J];exact hp)]at E;refine Ql<|Qb<|Qj ⟨[_],La,by rw[E,<-J];rfl,(hU.D Y).Q hX hge⟩
   rw[OU hp]at J;refine Qf<|Qr<|QB O O<|Qa<|xe ?_;exact⟨(k+1,sm++[q.nm]),oe,La,G,(hm.D Y).V hX,g3 (Lt.1 hp),J⟩
  have G:k<c.co.length:=by have hh:(k:Int)<(c.co.length:Int):=h8;omega
  have U:=Lm G;rw[Vc G,V4]at I;refine Qf<|Qd<|Qn<|Qc<|O9 qu V.co.arr O O G λk5 hY=>?_;refine Zd (c.co[k]'G) λq hq=>?_;rw[hq]at hY U I;have T:=V.co.each q U;have g4:=gh.st hj;refine x (QF hY O O)<|QT [.string .empty,nS,sS 0,nS,nS] λb10 k6 g5 g6 hz=>Q5 (Zn q) hz ⟨O,T.al.one,O,T.mr.one,T.ed.one,Z⟩ λg7 g8 hz =>
   xe ?_
  have ha:sW w6 g7:=g5.Q g8 g6;have k9:=hy.lt;refine Qd<|Qc<|Q3 hz O O<|Qs O (h7.I ha) O O<|QG (V.ev.I ha).arr O<|Qa<|Qa<|Qw<|(Qgd (T.I ha) (V.co.nm q U) (g4.I ha) oa (hy.I ha) od od).S ?_;rintro ma g9 ⟨rfl,hB,ka⟩;refine Qb<|Ql<|ZN O O<|xe<|Zg O (λhs=>?_) (λhs=>?_)
  ·rw[OV hs]at I;rw[OV (by rw[<-I];exact hs)]at E;refine Ql<|Qb<|Qj ⟨[_],La,by rw[E,<-I];rfl,(hQ.D ha).Q hB hge⟩
  rw[OU hs]at I;have hZ:Yw c.ev.length (VJ c.ev.length) sn q.it=0:=Lt.1 hs;have kb:=(yX hZ).al_le;have mc:q.p.a.al.length<=32:=kb;refine Qf ?_;have h0:O6 [bm] w6 g9:=ha.any.V hB;have kc:=h6.st h0;have mf:=h0.size;refine Qr<|Qa<|Q9 O<|Qs O (hz.J hB (by simp;omega)) O O<|Qw<|(jf kc (V.st h0 |>.co.each q U |>.al) oa).S ?_;rintro ke mg ⟨ga,kf⟩;refine Qb ?_;have mh:=zC (· || ·) u q.p.a.al;refine Qr<|QB O O<|Qa<|xe ?_;exact⟨(k+1,ke,sn++[q.nm],mrg (· || ·) u q.p.a.al),oe,ov,G,(hj.V h0).D ga,(ka hZ).I ga,Qh.ints kf (by show(mrg _ _ _).length<=_;omega) (by simp;omega),oe,I⟩
 have G:k<c.ev.length:=by have hh:(k:Int)<(c.ev.length:Int):=h5;omega
 refine Qf<|Qd<|Qn<|Ql<|Qb<|Qr<|Qa<|Qa<|Qo<|Q8 [[sS k]] λmj mo gb mq kg=>?_;have gc:=hf.D gb;have ms:=gc.size;have kh:=Qi hw;refine Qo<|Q2 (news:=[sS k]) (L:=[]) (Qm hw gb) O O O (kg.at od) om oa oa λki mt kj kk mu =>
  Qb<|Qr<|QB O O<|Qa<|xe ?_
 refine⟨(k+1,ki),oe,ov,G,gc.O kk (λb hb=>.inr (kh b hb).1),?_⟩;simp only[];rw[Qin];exact Qh.snoc (n:=(k:Int)) kj
theorem QsD {C:xA}{pl:xu}
  {e bys:Nat}  {x G I:O4}  {v:O3}   {H:xC} {k:IntKind} {hi:Nat} [h:Sl P t e sz bys z]
  (J:QR ops E=⟨d,.slice t x none (some G) (some I),ty,pS,af,gd⟩) (hA:Zu L H v n sz cs) (hx:ev f x=v) (T:ev f G=.int k hi) (U:ev f I=.int k' hi) (V:hi<=n)
  (hK:∀v',Zu L H v' hi sz (cs.take (hi*sz))->XP P ops C K pl (QP f d v') w)
  (Y:Z9 ops f (QR ops E)=true:=by rfl):XP P ops C K ((E,true)::pl) f w:=by
 obtain⟨v',h3,h4⟩:=QiU (P:=P) (d:=d) (ty:=ty) (pS:=pS) (af:=af) (gd:=gd) (t:=t) hA hx T U V;exact Lg.p (λw'=>by rw[J];exact h4 w') (by rw[J];exact hK v' h3) Y
structure QrW (c:ZS):Prop where
 ev:c.ev.length<=32
 c0:c.co.length≠0
 c8:c.co.length<=8
 cr:c.co.length+c.rq.length<=12
 co:∀x∈c.co,QS x.a
 rq:∀x∈c.rq,QS x.a
 ce:∀x∈c.co,∀e∈x.a.al,e<(c.ev.length:Int)
 re:∀x∈c.rq,∀e∈x.a.al,e<(c.ev.length:Int)
 cd:Y7 (szs c.co) c.ex c.cs=0
 e0:XQ c.ev=0
theorem Qdj {s:List ByteArray}{x:Jp}(h:Yw n u s x=0):∀e∈x.a.al,e<(n:Int):=by
 unfold Yw at h;split at h
 ·cases h
 split at h
 ·cases h
 split at h
 ·rename_i E G;exact OX h G
 split at h
 ·cases h
 split at h
 ·cases h
 split at h
 ·cases h
 rename_i E;intro e I;refine Lt.1 λJ=>E ?_;rw[Nk];exact⟨e,I,OY oa⟩
theorem Qdm {n:Nat}{al:LI}:∀{l:List Jp}{s:List ByteArray}{u:LI},(Yx n al s u l).1=0->∀x∈l,QS x.a/\∀e∈x.a.al,e<(n:Int)
 | [],_,_,_,x,hx=>by cases hx
 | y::l,s,u,h,x,hx=>by
  rw[V4]at h;by_cases E:Yw n al s y≠0
  ·rw[OV E]at h;exact OX h E
  rw[OU E]at h;have G:Yw n al s y=0:=Lt.1 E;rcases Lk.1 hx with rfl|hx
  ·exact⟨yX G,Qdj G⟩
  exact Qdm h x hx
theorem Qdi {n:Nat}{u:LI}:∀{l:List Jp}{s:List ByteArray},Ks n u s l=0->∀x∈l,QS x.a/\∀e∈x.a.al,e<(n:Int)
 | [],_,_,x,hx=>by cases hx
 | y::l,s,h,x,hx=>by
  rw[yV]at h;by_cases E:Yw n u s y≠0
  ·rw[OV E]at h;exact OX h E
  rw[OU E]at h;have G:Yw n u s y=0:=Lt.1 E;rcases Lk.1 hx with rfl|hx
  ·exact⟨yX G,Qdj G⟩
  exact Qdi h x hx
theorem YT {c:ZS}(h:Z2 c=0):QrW c:=by
 unfold Z2 at h;by_cases E:XQ c.ev≠0
 ·rw[OV E]at h;exact OX h E
 rw[OU E]at h;by_cases J:c.co.length=0
 ·rw[OV J]at h;cases h
 rw[OU J]at h;by_cases T:8<c.co.length\/12<c.co.length+c.rq.length
 ·rw[OV T]at h;cases h
 rw[OU T]at h;by_cases G:(Yx c.ev.length (VJ c.ev.length) [] [] c.co).1≠0
 ·rw[OV G]at h;exact OX h G
 rw[OU G]at h;by_cases I:Ks c.ev.length (Yx c.ev.length (VJ c.ev.length) [] [] c.co).2.2 (Yx c.ev.length (VJ c.ev.length) [] [] c.co).2.1 c.rq≠0
 ·rw[OV I]at h;exact OX h I
 rw[OU I]at h;have a4:=Qdm (Lt.1 G);have U:=Qdi (Lt.1 I);have hev:c.ev.length<=32:=by
  refine Lt.1 λV=>?_;apply E;unfold XQ;rw[OV oa];decide
 exact⟨hev,J,oa,oa,λx hx=>(a4 x hx).1,λx hx=>(U x hx).1,λx hx=>(a4 x hx).2,λx hx=>(U x hx).2,h,Lt.1 E⟩
theorem Yy.e {H:xC}{c:Int}(h:Yy N H aa va vt c):c=KC aa:=by
 unfold Yy at h;unfold KC;by_cases E:KT aa≠0
 ·rw[OV E]at h ⊢;exact h.1
 rw[OU E]at h ⊢;cases G:xp aa with
 | none=>rw[G]at h;exact h.1
 | some z=>rw[G]at h;exact h.1
theorem Yy.bad {H:xC}{c:Int}(h:Yy N H aa va vt c)(hc:c≠0):va=zA/\vt=Zq:=by
 unfold Yy at h;by_cases E:KT aa≠0
 ·rw[OV E]at h;exact h.2
 rw[OU E]at h;cases G:xp aa with
 | none=>rw[G]at h;exact h.2
 | some z=>rw[G]at h;exact OX h.1 hc
theorem Yy.good {H:xC}{c:Int}(h:Yy N H aa va vt c)(hc:c=0):Xb N H va (J7 aa)/\QdB N H vt (syQ aa)/\xp aa=some (J7 aa,syQ aa)/\KT aa=0:=by
 unfold Yy at h;unfold J7 syQ;by_cases E:KT aa≠0
 ·rw[OV E]at h;exact OX (h.1.symm.D hc) E
 rw[OU E]at h;cases G:xp aa with
 | none=>rw[G]at h;rw[h.1]at hc;cases hc
 | some z=>rw[G]at h;exact⟨h.2.1,h.2.2,O,Lt.1 E⟩
theorem Yy.st1 {b:Nat}{c:Int}(h:Yy N ↑w aa va vt c)(hb:b<N)(G:O6 [b] w w'):Yy N ↑w' aa va vt c:=by
 unfold Yy at *;split
 ·rename_i E;rw[OV E]at h;exact h
 rename_i E;rw[OU E]at h;cases I:xp aa with
 | none=>rw[I]at h;exact h
 | some z=>rw[I]at h;exact⟨h.1,Xl h.2.1 hb G,Qlp h.2.2 hb G⟩
theorem Yy.S {N M:Nat}{H:xC}{aa:List Qz}{va vt:O3}{c:Int}(h:Yy N H aa va vt c)(G:M<=N):Yy M H aa va vt c:=by
 unfold Yy at *;split
 ·rename_i E;rw[OV E]at h;exact h
 rename_i E;rw[OU E]at h;cases I:xp aa with
 | none=>rw[I]at h;exact h
 | some z=>rw[I]at h;exact⟨h.1,h.2.1.S G,h.2.2.S G⟩
theorem Ql7 (c:ZS):YQ c=if Z2 c≠0 then Z2 c else if KC (O8 c.co)≠0 then KC (O8 c.co) else KC (O8 c.co++O8 c.rq):=by
 unfold YQ;split
 ·rfl
 have e:KC (O8 c.co)=if KT (O8 c.co)≠0 then KT (O8 c.co) else match xp (O8 c.co) with|none=>3|some _=>0:=rfl
 by_cases E:KT (O8 c.co)≠0
 ·rw[OV E]at e;rw[OV E,e,OV E]
 rw[OU E]at e;rw[OU E];cases G:xp (O8 c.co) with
 | none=>rw[G]at e;simp only[]at e;rw[e];rfl
 | some z=>rw[G]at e;simp only[]at e;rw[e];rfl
theorem QgH (c:CL):(c.co.map (·.p)).map (·.a)=O8 c.C.co:=by unfold O8;show _=(c.co.map IV.it).map _;rw[MB,MB];rfl
theorem QnT (c:CL):(c.rq.map (·.p)).map (·.a)=O8 c.C.rq:=by unfold O8;show _=(c.rq.map IV.it).map _;rw[MB,MB];rfl
theorem Qa2 {ps:List AV}(h:∀p∈ps,QS p.a):∀p∈ps,p.a.st<=4096:=λp E=>(h p E).st1
def qX (N:Nat)(H:xC)(c:ZS)(va vt:O3)(e:Int):Prop:=if Z2 c≠0 then e=Z2 c/\va=zA/\vt=Zq else Yy N H (O8 c.co) va vt e
theorem jj (h:Ya L ↑w c)(hm:Kb w 4096):
  QU sV 14 [c.val] w λr w'=>sW w w'/\∃va vt e,r=.tuple #[va,vt,sS e]/\qX ↑w ↑w' c.C va vt e:=by
 refine Zm func14 ?_;refine Qc<|Zf c.cells λb1 w1 ha hz hn=>QT [nS,sS 0,nS,nS] λb2 w2 hf h0 T=>x Qe<|Qb ?_;have hg:=ha.D hf;have h1:=ha.size;have hh:=hn.I hf;refine Qd<|Qc<|Q3 hh O O<|Qw<|(Qat (h.I hg)).S ?_;rintro r3 w3 ⟨rfl,E⟩;refine Qb ?_;have U:=hg.D E;have h2:=T.lt;refine Ql<|ZN O O<|xe<|Zg rfl (λI=>?_) (λI=>?_)
 ·refine Qc<|x (QD Z)<|Qa<|Q5 [nS,sS 0,nS,nS] (T.I E) oy λw4 ho hr=>x Qe<|Qb<|Qj ⟨[zA,Zq,sS (Z2 c.C)],⟨JN hr,O,O,Z⟩,U.Q ho oa,zA,Zq,_,O,by unfold qX;rw[OV I];exact⟨O,O,O⟩⟩
 refine Qf<|Qc<|Qs O (hh.I E) O O<|Qw<|(Qet (h.I U).co).S ?_;rintro r5 w5 ⟨V,hs⟩;have J:=U.D V;have hu:∀p∈c.co.map (·.p),QS p.a:=λp Y=>by
  obtain⟨q,hq,rfl⟩:=Lx.1 Y;exact(YT (Lt.1 I)).co q.it (LL hq)
 have h3:=h.co.arr.le;have hv:X7 [] ↑w5 r5 (c.co.map (·.p)):=Qj4 hs (by rw[Ln];omega) od (λp Y=>by
  obtain⟨q,hq,rfl⟩:=Lx.1 Y;exact(((h.co.each q hq).up (L':=[]) od).I J))
 refine Qw<|(U1 (km:=4096) hv (hm.I J) og (Qa2 hu)).S ?_;rintro r6 w6 ⟨hj,va,vt,e,rfl,hR⟩;rw[QgH]at hR;have hw:∃us,va=sT us/\us.length=4/\ZL us:=by
  by_cases he:e=0
  ·exact XW (hR.good he).1
  exact⟨[nS,sS 0,nS,nS],(hR.bad he).1,O,O,O,O,O,Z⟩
 refine Exists.elim hw λus G=>?_;refine QO rfl O<|QO O O<|QO O O<|Qo<|Zx (us:=us) ((T.I E).I (V.D hj)) O G.1 G.2.1 O G.2.2 λw7 hk hy =>
  x Qe<|Qb<|Qj ⟨[sT us,vt,sS e],⟨⟨_,O,ZQ G.2.1 (hy.at (L:=[]) od).cells⟩,rfl,rfl,Z⟩,(J.D hj).Q hk oa,va,vt,e,by rw[G.1];rfl,?_⟩
 unfold qX;rw[OU I];exact(hR.st1 (oq V.size E.size) hk).S J.size
theorem QbJ {v:O3}{m:Int}(h:Qu L ↑w v l)(U:Kb w m)(hb:∀n∈l,0<=n/\n<m)(hl:l.length<=1000000):
  QU sV 76 [v] w λr w'=>r=.string ⟨(YV l).toArray⟩/\sW w w':=by
 refine Zm func76 ?_;refine Qc<|Qb<|Qc<|QT [.pointer none,nS] λI w1 hf V hg=>xe ?_;refine Qd<|Ql<|QG h O<|Qa<|xe<|QX (α:=Nat×O3) [(5,5),(8,16)] (λz=>[(8,sS z.1)]) (λz w'=>z.1<=l.length/\sW w w'/\(z.2=.pointer none\/z.2=me I)/\Bl z.2 I (YV (l.take z.1)) w'/\(YV (l.take z.1)).length<=8*z.1) (λz=>l.length - z.1) (0,.pointer none) La
  ⟨Lo _,hf,.inl O,⟨_,hg,QL _ _ _ _⟩,Lp _⟩ ?_
 rintro⟨k,p⟩ g w2 ⟨hk,E,J,G,hh⟩;simp only[]at hk J G hh;refine Zk rfl O (λh9=>?_) (λh9=>?_)
 ·refine Qt<|Qc ?_;rw[Lr oa]at G;refine KX<|(Vp E V J G).S ?_;rintro r3 w3 ⟨rfl,hj⟩;refine Qb<|Qj ⟨[.string ⟨(YV l).toArray⟩],La,O,hj⟩
 have T:k<l.length:=oa
 have hs:=hb l[k] (Lm T);obtain⟨q,hq⟩:∃q:Nat,l[k]=q:=⟨l[k].toNat,oa⟩;have hm:l[k].toNat=q:=oa
 have hu:=Kr 7 q (oo U.le);have Y:YV (l.take (k+1))=YV (l.take k)++(Lib.decDigits q++[32]):=by
  rw[Ll T];unfold YV;rw[LF,Na,hm]
 refine Qf<|Qd<|Qn<|Qc<|xii (h.I E) O O T λhv hn=>x (Qq hn O)<|Qb<|Qr<|Qa<|Qo<|xf ?_;refine(show QU _ _ [sS l[k]] _ _ by rw[hq];exact(Qbk q oa w2 (U.I E))).S ?_;rintro r4 w4 ⟨rfl,ha⟩;have ho:(⟨(Lib.decDigits q).toArray⟩:ByteArray).size+(⟨#[32]⟩:ByteArray).size<=1000000000:=by show(Lib.decDigits q).toArray.size+1<=_;simp;omega
 refine x (YL O O ho)<|KX<|(Jy (E.D ha) V J (G.I ha) ((⟨(Lib.decDigits q).toArray⟩:ByteArray)++(⟨#[32]⟩:ByteArray)) (by rw[ByteArray.size_append];show _+((Lib.decDigits q).toArray.size+1)<=_;simp;omega)).S ?_;rintro r5 w5 ⟨hr,he⟩;refine xe<|Qr<|QB O O<|Qa<|xe<|⟨(k+1,me I),oe,La,oe,hr,.inr O,?_,?_⟩
 ·simp only[];rw[Y];have e:((⟨(Lib.decDigits q).toArray⟩++⟨#[32]⟩:ByteArray)).data.toList=Lib.decDigits q++[32]:=by rw[ByteArray.data_append];simp
  rw[e]at he;exact he
 simp only[];rw[Y];simp;omega
structure Sty where
 c:CL
 p:AV
 vq:O3
 qs:List TV
 s:AV
 vt:O3
 ts:List TV
 vs:O3
 vx:O3
 vk:O3
 qx:List XV
 ks:List KV
 bm:Nat
 mm:List (ByteArray×O3)
abbrev Sty.cells (q:Sty):LV:=[q.c.ve,q.c.vc,q.c.vr,q.c.vx,q.c.vk,q.p.va,sS q.p.a.st,q.p.vm,q.p.ve,q.vq,q.s.va,sS q.s.a.st,q.s.vm,q.s.ve,q.vt,q.vs,q.vx,q.vk,.map (some q.bm)]
structure JR (L:LN)(b:Nat)(H:xC)(q:Sty):Prop where
 B:QK H b 166 q.cells
 bL:b∉L
 c:Ya L H q.c
 p:Zr L H q.p.va q.p.vm q.p.ve q.p.a
 s:Zr L H q.s.va q.s.vm q.s.ve q.s.a
 qs:JQ L H q.vq q.qs
 ts:JQ L H q.vt q.ts
 k1:Qu L H q.vs (szs q.c.C.co)
 k2:jy L H q.vx q.qx
 k3:jm L H q.vk q.ks
 mL:q.bm∉L
 m:ZU XB H q.bm q.mm
theorem JR.I {L:LN}{b:Nat}{w w':O2}{q:Sty}(h:JR L b ↑w q)(E:sW w w'):JR L b ↑w' q:=⟨h.B.I E,h.bL,h.c.I E,h.p.I E,h.s.I E,h.qs.I E,h.ts.I E,h.k1.I E,h.k2.I E,h.k3.I E,h.mL,h.m.I E⟩
theorem JR.st {L:LN}{b:Nat}{w w':O2}{q:Sty}(h:JR L b ↑w q)(E:O6 L w w'):JR L b ↑w' q:=⟨h.B.J E h.bL,h.bL,h.c.st E,h.p.st E,h.s.st E,h.qs.st E,h.ts.st E,h.k1.st E,h.k2.st E,h.k3.st E,h.mL,h.m.J E h.mL⟩
theorem JR.up {L L':LN}{b:Nat}{H:xC}{q:Sty}(h:JR L b H q)(E:∀b∈L',b∈L\/H.size<=b):JR L' b H q :=
 ⟨h.B,λI=>by rcases E _ I with G|G;exact h.bL G;have:=h.B.lt;omega,h.c.up E,h.p.up E,h.s.up E,h.qs.up E,h.ts.up E,h.k1.up E,h.k2.up E,h.k3.up E,λI=>by rcases E _ I with G|G;exact h.mL G;have:=h.m.lt;omega,h.m⟩
structure QsY (q:Sty):Prop where
 ok:Z2 q.c.C=0
 p:xp (O8 q.c.C.co)=some (q.p.a,q.qs.map (·.2))
 s:xp (O8 q.c.C.co++O8 q.c.C.rq)=some (q.s.a,q.ts.map (·.2))
 ex:q.qx.map (·.x)=q.c.C.ex
 cs:q.ks.map (·.k)=q.c.C.cs
 m:qI q.c.co.length q.mm (q.qs.map (·.2))
theorem YX {l:List Jp}(h:∀x∈l,QS x.a):∀a∈O8 l,QS a:=λa E=>by
 obtain⟨x,hx,rfl⟩:=Lx.1 E;exact h x hx
def stp (a:Qz)(s v:Int):Int×Bool×Int:=if cks a s≠0 then(0,false,cks a s) else if v∉a.al then(0,false,9) else if 0<=nxt a.ed s v then(nxt a.ed s v,true,0) else(0,false,0)
theorem jc (h:Zr L ↑w va vm ve a)(s v:Int):
  QU sV 33 [.agg #[va,sS a.st,vm,ve],sS s,sS v] w λr w'=>r=.tuple #[sS (stp a s v).1,.bool (stp a s v).2.1,sS (stp a s v).2.2]/\sW w w':=by
 have E:stp a s v=(if cks a s≠0 then(0,false,cks a s) else if v∉a.al then(0,false,9) else if 0<=nxt a.ed s v then(nxt a.ed s v,true,0) else(0,false,0)):=rfl
 refine Zd (stp a s v) λR hR=>?_;rw[hR]at E ⊢;refine Zm func33 ?_;refine Qc<|Zf [va,sS a.st,vm,ve] λb3 w1 ha hf J=>x Qe<|x Qe<|Qb<|Qd<|Qc<|Q3 J O O<|Qa<|Qw<|(Ka (h.I ha) s).S ?_;rintro r2 w2 ⟨rfl,T⟩;refine Qb ?_;have G:=ha.D T;refine Ql<|ZN O O<|xe<|Zg rfl (λI=>?_) (λI=>?_)
 ·rw[OV I]at E;subst E;refine Ql<|x Qe<|x Qe<|Qb<|Qj ⟨[_,_,_],ox,O,G⟩
 rw[OU I]at E;refine Qf<|Qd<|Qc<|Qs O (J.I T) O O<|Qa<|Qw<|(ZH (h.al.I G) v).S ?_;rintro r3 w3 ⟨rfl,rfl⟩;refine x (yb O)<|xe<|Zg rfl (λU=>?_) (λU=>?_)
 ·rw[OV U]at E;subst E;refine Qc<|x Qe<|x Qe<|Qb<|Qj ⟨[_,_,_],ox,O,G⟩
 rw[OU U]at E;refine Qf ?_;have hc:cks a s=0:=Lt.1 I;have hck:Jc a=0:=by
  unfold cks at hc;refine Lt.1 λV=>?_;rw[OV V]at hc;exact V hc
 have hsr:0<=s/\s<a.st:=by
  unfold cks at hc;rw[OU (by rw[hck];decide)]at hc;refine Lt.1 λV=>?_;rw[OV oa]at hc;cases hc
 refine Qd<|Qc<|Q3 (J.I T) O O<|Qa<|Qa<|Qw<|(Qdv (h.ed.I G) ((Zz a).1 hck) s v hsr.1 hsr.2).S ?_;rintro r4 w4 ⟨rfl,he⟩;refine Qb<|Ql<|x (Yf O O)<|xe<|Zg rfl (λY=>?_) (λY=>?_)
 ·rw[OV Y]at E;subst E;refine Ql<|x Qe<|x Qe<|Qb<|Qj ⟨[_,_,_],ox,O,G.D he⟩
 rw[OU Y]at E;subst E;refine Qf<|Qc<|x Qe<|x Qe<|Qb<|Qj ⟨[_,_,_],ox,O,G.D he⟩
theorem Qjw (es:List Ed)(s v:Int):nxt es s v=(xo es s v).getD (-1):=by
 induction es with
 | nil=>rfl
 | cons e es ih =>
  rw[nxt,xo];by_cases h:e.1=s/\e.2.1=v
  ·rw[OV h,OV h];rfl
  rw[OU h,OU h];exact ih
theorem QoK (h:QS a){v:Int}(I:0<=s)(J:s<a.st)(E:v∈a.al):(stp a s v).2.1=(xo a.ed s v).isSome:=by
 have hc:cks a s=0:=by unfold cks;rw[OU (by rw[(Zz a).2 h];decide),OU oa]
 unfold stp;rw[OU (by rw[hc];decide),OU (ou E),Qjw];cases G:xo a.ed s v with
 | none=>rfl
 | some t =>
  have:=(h.ed _ (YS G)).2.2.2.1;rw[Option.getD_some,OV (ou this)];rfl
theorem Qce {b:Nat}{q:Sty}{t:LI}(hS:JR L b ↑w q)(ht:Qu L' ↑w vt t)(I:q.c.co.length<=t.length):
  QU sV 75 [sP b,vt] w λr w'=>sW w w'/\∃E G,r=.tuple #[E,G]/\Qu L' ↑w' E (t.take q.c.co.length)/\Qu L' ↑w' G (t.drop q.c.co.length):=by
 refine Zm func75 ?_;refine Qc<|x Qe<|Qb<|Ql<|Z7 O<|Q9 O<|Qs O hS.B O O<|QG hS.c.co.arr O<|Qb<|Qd<|ZK [] (Xj 0 9 [])<|p Qy<|p Qy<|p Qy<|QsD (hi:=q.c.co.length) O ht O O O I λE J=>p Qy<|p Qy<|QoX (lo:=q.c.co.length) O ht O O I λG T =>
  p ZI<|p ZI<|pe ?_
 refine Qj ⟨[_,_],ov,O6.X _ _,E,G,O,?_,?_⟩
 ·rw[OR,<-List.map_take]at J;have e:(t.take q.c.co.length).length=q.c.co.length:=by rw[LC];omega
  unfold Qu;rw[e];exact J
 exact Qu.drop T
theorem Qcn {v:Int}{y:Jp}{l:List Jp}{ss:LI}:rfr v i (y::l) (s::ss)=if v∈y.a.al/\(xo y.a.ed s v).isSome=false then(i:Int) else rfr v (i+1) l ss:=rfl
theorem Qd6 {b:Nat}{q:Sty}{v:Int}(hS:JR L b ↑w q)(hr:Qu L' ↑w vr rs)(hok:∀x∈q.c.rq,QS x.p.a)(hv:Vt (O8 q.c.C.rq) rs):
  QU sV 155 [sP b,vr,sS v] w λr w'=>r=sS (rfr v 0 q.c.C.rq rs)/\sW w w':=by
 have h7:=hS.c.rq.arr.le;have h8:rs.length=q.c.rq.length:=by rw[hv.1];unfold O8;show((q.c.rq.map IV.it).map _).length=_;simp
 refine Zd (rfr v 0 q.c.C.rq rs) λR hR=>?_;rw[hR];refine Zm func155 ?_;refine Qc<|Qb<|Qd<|Ql<|Z7 O<|Q9 O<|Qs O hS.B O O<|QG hS.c.rq.arr O<|Qa<|xe<|QX (α:=Nat) [(6,11),(18,44)] (λz=>[(18,sS z)]) (λz w'=>z<=q.c.rq.length/\sW w w'/\rfr v z ((q.c.rq.drop z).map (·.it)) (rs.drop z)=R) (λz=>q.c.rq.length - z) 0 La
  ⟨Lo _,O6.Y _ _,hR⟩ ?_
 rintro k g w1 ⟨hk,J,E⟩;refine Zk rfl O (λha=>?_) (λha=>?_)
 ·refine Qt ?_;have hu:q.c.rq.length<=k:=by have hw:¬(k:Int)<(q.c.rq.length:Int):=ha;omega
  rw[Lu hu]at E;have h0:R=-1:=E.symm;refine Qc<|Qb<|Qj ⟨[_],La,by rw[h0];rfl,J⟩
 have G:k<q.c.rq.length:=by have hw:(k:Int)<(q.c.rq.length:Int):=ha;omega
 have I:k<rs.length:=oa
 have he:=Lm G;rw[Vc G,QY I,Qcn]at E;have T:∀hz:k<(O8 q.c.C.rq).length,0<=rs[k]'I/\rs[k]'I<((O8 q.c.C.rq)[k]'hz).st:=λhz=>hv.2 k I hz;have hj:k<(O8 q.c.C.rq).length:=by unfold O8;show k<((q.c.rq.map IV.it).map _).length;simpa using G
 have T:=T hj;have h1:(O8 q.c.C.rq)[k]'hj=(q.c.rq[k]'G).p.a:=by unfold O8;show((q.c.rq.map IV.it).map _)[k]'_=_;simp[IV.it]
 rw[h1,Zo I]at T;rw[Zo I]at E;refine Qf<|Qd<|Qn<|Ql<|O9 qu (hS.c.rq.arr.I J) O O G λh9 hm=>?_;refine Zd (q.c.rq[k]'G) λy hy=>?_;rw[hy]at hm he E T;have U:=(hS.c.rq.each y he).I J;have hn:=hok y he;refine x (QF hm O O)<|QT [.string .empty,nS,sS 0,nS,nS] λb8 w2 h2 h3 Y=>x Qe <|
  Q5 (Zn y) Y ⟨O,U.al.one,O,U.mr.one,U.ed.one,Z⟩ λw3 h4 Y=>xe ?_
 have V:sW w1 w3:=h2.Q h4 h3;refine Qd<|Qc<|Q9 O<|Qs O Y O O<|Qa<|Qw<|(Kc (U.al.I V) hn.ali v).S ?_;rintro r4 w4 ⟨rfl,rfl⟩;refine x (yb O)<|xe<|Zg rfl (λhf=>?_) (λhf=>?_)
 ·rw[OU (λe=>hf e.1)]at E;refine Qt<|Qr<|QB O O<|Qa<|xe ?_;exact⟨k+1,oa,La,G,J.D V,E⟩
 have ho:v∈y.p.a.al:=Lt.1 hf;have hp:=QoK hn T.1 T.2 ho;refine Qf<|Qd<|ZK [] (Xj 0 15 [7])<|p (QH O)<|pq (λ_ hc=>ZR (us:=ZJ y.p) (Y.J hc od) rfl rfl rfl)<|p Qy<|p Qy<|pic (i:=k) rfl ((hr.I J).I V) rfl rfl I λhA h5 =>
  pq (λ_ hc=>Qq (h5.I hc) O)<|p Qy<|pk<|xg<|(jc ((U.I V).I (O6.X _ _)) (O7 rs k) v).S ?_
 rintro r5 w5 ⟨rfl,h6⟩;have hq:=(O6.X [] w4).D h6;refine⟨hq,?_⟩;refine p Qy<|p (λ_=>Q0 O O)<|p (λ_=>Q0 O O)<|p (λ_=>Q0 O O)<|p ZI <|
  p ZI<|p ZI<|pe ?_
 have hs:=(J.D V).D hq;refine Ql<|x (Zj O)<|xe<|Q6 rfl (λhg=>?_) (λhg=>?_)
 ·have hh:(xo y.p.a.ed (O7 rs k) v).isSome=false:=by rw[<-hp];simpa using hg
  rw[OV ⟨ho,hh⟩]at E;refine Ql<|Qb<|Qj ⟨[_],La,by rw[<-E];rfl,hs⟩
 have hh:¬(xo y.p.a.ed (O7 rs k) v).isSome=false:=by rw[<-hp];simpa using hg
 rw[OU (λe=>hh e.2)]at E;refine Qf<|Qr<|QB O O<|Qa<|xe ?_;exact⟨k+1,oa,La,G,hs,E⟩
open Go.RowKit
def JS (L:LN)(W W':O2):Prop:=∀(k:Nat) (o:Obj),k∉L->W.heap[k]?=some o->o.isCells=true->W'.heap[k]?=some o
theorem JS.refl (L:LN)(W:O2):JS L W W:=λ_ _ _ h _=>h
theorem JS.D {A B C:O2}(h:JS L A B)(k:JS L B C):JS L A C:=λi o E G hc=>k i o E (h i o E G hc) hc
theorem JS.J {W:O2}(h:O6 L W W'):JS L W W':=λk _ G E _=>(h.block k (LO.1 E).1 G).D E
theorem At.cst {W:O2}{a:Addr}(h:At L ↑W a us)(hc:JS L W W')(J:W.heap.size<=↑W'):At L ↑W' a us:=by
 refine⟨h.out,λu G=>LU (h.lt u G) J,λj u G=>?_⟩;have E:=h.cell j u G;unfold cel at E ⊢;rw[YE]at E ⊢;cases I:W.heap[a.block]? with
 | none=>rw[I]at E;cases E
 | some o =>
  rw[I]at E;cases o with
  | cells c t m=>rw[hc a.block _ (h.out u (Mt G)) I rfl];exact E
  | _=>cases E
theorem Zu.cst {L:LN}{W W':O2}{v:O3}{n sz:Nat}{cs:LV}(h:Zu L ↑W v n sz cs)(hc:JS L W W')(E:W.heap.size<=↑W'):Zu L ↑W' v n sz cs :=
 ⟨h.1,h.2.1,h.2.2.imp id λ⟨a,cap,G,I,J⟩=>⟨a,cap,G,I,J.cst hc E⟩⟩
structure LwC (B:Nat)(L:LN)(W W':O2):Prop where
 lw:Lw B L W W'
 cst:JS L W W'
theorem LwC.D {B:Nat}{L:LN}{E w w':O2}(h:LwC B L E w)(k:LwC B L w w'):LwC B L E w':=⟨h.lw.D k.lw,h.cst.D k.cst⟩
def rdC {α:Type}(B:Nat)(L:LN)(I:List α->O2->Prop)(X:Exit->List α->O2->Prop)(xs:List α)(W:O2):Exit->LN->Fr->O2->Prop
 | .normal,_,_,W'=>X0 B L W W'/\JS L W W'/\I xs W'
 | .ret,_,_,W'=>X0 B L W W'/\X .ret xs W'
 | .exit i,_,_,W'=>X0 B L W W'/\X (.exit i) xs W'
 | _,_,_,_=>False
theorem QdF {Q:Exit->LN->Fr->O2->Prop}{g:O4}{ps:LN}{assign body:Code}(L:LN)(h1:1<=m)
  {gf:Nat}  [hF:Fu P gf fn]  (hg:ev f g=.func (.func gf) #[] capt.toArray) {encs:α->LV} {S Sp:List α->Prop}  (hp:∀p∈ps,p<n) (hn:∀x,(encs x).length=ps.length)
  (hq:SeqStopsK (fen none) (m - 1) P gf capt.toArray (λx=>(encs x).toArray) (LwC ↑w L) S Sp N w)
  (I:List α->O2->Prop) (hI:∀s,Ye ↑w (I s)) (X:Exit->List α->O2->Prop) (hX:∀e s,Ye ↑w (X e s)) (h0:I [] w) (A:Fr->α->Fr->O2->Prop) (hA:∀x E,Ye ↑w (A f x E))
  (hf:∀l pre x W,I pre W->WG (some l) (m - 1 - 1) P n assign (QdX (λhe E W'=>he=[]/\X0 ↑w L W W'/\JS L W W'/\I pre W'/\A f x E W') (λ_ _ _ _=>False)) [] (QdU f ps (encs x)) W)
  (hh:∀l pre x E W,I pre W->A f x E W->pre.length<N->WG (some l) (m - 1 - 1) P n body (rdC ↑w L I X (pre++[x]) W) [] E W)
  (hs:∀D xs W,↑w<=D->S xs->I xs W->W.heap[D]?=some (.deferred (some []))->Q .normal (D::ds) f W)
  (hj:∀D e pre W,↑w<=D->Sp pre->X e pre W->W.heap[D]?=some (.deferred (some []))->(e=.ret\/∃i,e=.exit i)->Q e (D::ds) f W):
  WG none m P n (.rangeFunc g ps.toArray assign body) Q ds f w:=by
 unfold WG at hf hh ⊢;intro a T;have eg:∀args w,(callFunc gf args).run P w=.ok (.enter gf args) w:=by
  intro args w;have h1:¬fn.name = "runtime.NumGoroutine" := by simpa using hF.nm
  have U:¬fn.body=none:=by have:=hF.b;intro e;rw[e]at this;cases this
  simp[callFunc,hF.f,h1,U]
 have keep:∀{W W':O2},X0 ↑w L W W'->KeepsFrom ↑w W W':=λh=>⟨h.lw.size,λk o _ V ho=>h.other k o V ho⟩;refine wpIn_rangeFunc_ownH (F:=fen none) O h1 (gf:=gf) (lb:=capt.toArray) (by rw[T.eval];exact hg) Z eg hq (λh k=>h.D k)
  (λW l o o' hl ho hu _=>⟨⟨O,O,O,od,λk V _=>World.putObj_heap_other oa⟩,λk o2 _ V hc=>by
   have hv:k≠l:=λe=>by subst e;rw[ho]at V;cases V;rw[hu]at hc;cases hc
   rw[World.putObj_heap_other hv];exact V⟩) (Below.refl _ _) (λx=>by simp[hn x]) I
  (λc pre W=>match c with| .ret=>X .ret pre W| .exit i=>X (.exit i) pre W|_=>False) (Ye.own hI) (λc=>Ye.own λs=>?_) h0
  (λx Y W=>∃E,Xi n [] Y E/\A f x E W) (λx Y=>Ye.own λ_=>Ye.ex λE=>Ye.and (Ye.pure _) (hA x E)) ?_ ?_ ?_ ?_
 ·cases c <;> first|exact hX _ s|exact Ye.pure _
 ·intro l pre x W K hi hK;have hr:Xi n [] { tmps:=(ps.toArray.zip (encs x).toArray).foldl (λt (p,v)=>t.setIfInBounds p v) a.tmps,defers:=[] } (QdU f ps (encs x)):=by
   have U:Xi n [] { a with defers:=[] } f:=⟨T.size,O,T.get⟩
   have J:=qd ps (encs x) _ _ U hp;have e:(ps.toArray.zip (encs x).toArray).foldl (λt (p,v)=>t.setIfInBounds p v) a.tmps=(ps.zip (encs x)).foldl (λt (x:Nat×O3)=>t.setIfInBounds x.1 x.2) a.tmps:=od
   rw[e];exact J
  refine wpIn_mono (hf l pre x W hi _ hr) ?_;rintro e Y W' ⟨he,E,U,_,J⟩;cases e with
  | normal=>obtain⟨rfl,h4,hw,G,h6⟩:=J;exact hK Y W' (keep h4) ⟨h4.lw,hw⟩ G ⟨E,U,h6⟩
  | exit id=>exact J.elim
  | goto l=>exact J.elim
  | ret=>exact J.elim
  | panic ch=>exact J.elim
  | outgrown=>exact J.elim
 ·rintro l pre x Y W _ _ hi ⟨E,U,J⟩ hy;refine wpIn_mono (hh l pre x E W hi J hy Y U) ?_;rintro e hz W' ⟨he,h7,h4,_,G⟩;cases e with
  | normal=>exact⟨keep G.1,⟨G.1.lw,G.2.1⟩,G.2.2⟩
  | exit id=>exact⟨keep G.1,G.2⟩
  | goto l=>exact G.elim
  | ret=>exact⟨keep G.1,G.2⟩
  | panic ch=>exact G.elim
  | outgrown=>exact G.elim
 ·intro D xs W hD hS hi hd;exact⟨D::ds,f,⟨T.size,by rw[show coll (D::ds)={ target:=.collected D,args:=#[] }::coll ds from rfl,T.defers],T.get⟩,λ_ _=>rfl,hs D xs W hD hS hi hd⟩
 intro D c pre W hD hS hx hd;have hm:Xi n (D::ds) { a with defers:={ target:=.collected D,args:=#[] }::a.defers } f:=⟨T.size,by rw[show coll (D::ds)={ target:=.collected D,args:=#[] }::coll ds from rfl,T.defers],T.get⟩
 cases c with
 | ret=>exact wpIn_ret ⟨_,f,hm,λ_ _=>O,hj D .ret pre W hD hS hx hd (.inl O)⟩
 | exit i=>exact wpIn_exit ⟨_,f,hm,λ_ _=>O,hj D (.exit i) pre W hD hS hx hd (.inr ⟨i,O⟩)⟩
 | _=>exact hx.elim
theorem xy2 {rest:xE}{x z:O4}{l:Nat}{R:Ending->O2->Prop}
  (hx:ev f x=.func (.yield l) #[] #[]) (E:YieldAt (fen none) (m - 1) P l #[ev f y,ev f z] w R) (hK:∀e w',R e w'->∃v,e=.returned v/\Jv P m ops K rest (QP f d v) w')
  (G:Z9 ops f ⟨d,.call ⟨.value x,#[y,z],at_⟩,ty,pS,af,gd⟩=true:=by rfl):
  Jv P m ops K (⟨d,.call ⟨.value x,#[y,z],at_⟩,ty,pS,af,gd⟩::rest) f w:=by
 obtain⟨fn,tmps,assign,body,I,J⟩:=E;have T:(execOp (ev f) ⟨d,.call ⟨.value x,#[y,z],at_⟩,ty,pS,af,gd⟩).run P w=.ok (.round l fn tmps assign body) w:=by
  simp[execOp,resolve,hx,Deferred.ofValue,invoke,I]
 unfold Jv;rw[G];simp only[XOY,T,upY,cond_true];exact J.mono λe w' h=>by obtain⟨v,rfl,U⟩:=hK e w' h;exact U
def wrf (rq:List Jp)(rs:LI):LI->List (Int×Int)
 | []=>[]
 | v::l=>if 0<=rfr v 0 rq rs then(v,rfr v 0 rq rs)::wrf rq rs l else wrf rq rs l
theorem QbV (rq:List Jp)(rs:LI)(v:Int):∀l,wrf rq rs (l++[v])=wrf rq rs l++if 0<=rfr v 0 rq rs then[(v,rfr v 0 rq rs)]else[]
 | []=>by simp only[Oo,wrf]
 | a::l=>by
  simp only[oZ,wrf,QbV rq rs v l];by_cases h:0<=rfr a 0 rq rs
  ·rw[OV h,OV h];rfl
  rw[OU h,OU h]
theorem VO (rq:List Jp)(rs:LI)(b:LI):∀a,wrf rq rs (a++b)=wrf rq rs a++wrf rq rs b
 | []=>rfl
 | x::a=>by
  simp only[oZ,wrf,VO rq rs b a];by_cases h:0<=rfr x 0 rq rs
  ·rw[OV h,OV h];rfl
  rw[OU h,OU h]
theorem QlT (rq:List Jp)(rs:LI)(l:LI)(k:Nat):(wrf rq rs (l.take k)).length<=(wrf rq rs l).length:=by
 have h:=VO rq rs (l.drop k) (l.take k);rw[MH]at h;rw[h,Lc];omega
theorem Qh9 {rq:List Jp}{k:Nat}(h:k<l.length):wrf rq rs (l.take (k+1))=wrf rq rs (l.take k)++if 0<=rfr (O7 l k) 0 rq rs then[(O7 l k,rfr (O7 l k) 0 rq rs)]else[]:=by
 rw[Ll h,QbV,Zo h]
theorem zp {rq:List Jp}{rs:LI}{x:Int×Int}:∀{l:LI},x∈wrf rq rs l↔x.1∈l/\0<=x.2/\x.2=rfr x.1 0 rq rs
 | []=>by simp[wrf]
 | v::l=>by
  rw[wrf];have ih:=zp (rq:=rq) (rs:=rs) (x:=x) (l:=l);by_cases h:0<=rfr v 0 rq rs
  ·rw[OV h,Lk,ih,Lk];constructor
   ·rintro(rfl|⟨E,G⟩)
    ·exact⟨.inl O,h,O⟩
    exact⟨.inr E,G⟩
   rintro⟨E|E,G,I⟩
   ·exact .inl (by rw[<-E];exact Prod.ext_iff.2 ⟨O,I⟩)
   exact .inr ⟨E,G,I⟩
  rw[OU h,ih,Lk];constructor
  ·rintro⟨E,G⟩;exact⟨.inr E,G⟩
  rintro⟨E|E,G,I⟩
  ·exact OX (by rw[<-E,<-I];exact G) h
  exact⟨E,G,I⟩
theorem qN {b:Nat}{st:Int}(T:vr.cells=#[vr]):
  QU sV 78 [sP b,sS st,vr] w λr w'=>sW w w'/\∃b1 b2 E,r=.func (.func 154) #[] #[sP b1,sP b2,sP E] /\
   ↑w<=b1/\↑w<=b2/\↑w<=E/\QK ↑w' b1 159 [sP b]/\QK ↑w' b2 3 [sS st]/\QK ↑w' E 47 [vr]:=by
 refine Zm func78 ?_;refine Qc<|Zf [sP b] λE w1 J U V=>Zf [sS st] λY w2 G hf ha=>Qo<|qP (us:=[vr]) T λb5 w3 I hg he=>x Qe <|
  xe ?_
 have hh:=J.size;have hj:=G.size;refine Qc<|x Zl<|Qb<|Qj ⟨[_],La,(J.D G).D I,E,Y,b5,O,U,oa,oa,(V.I G).I I,ha.I I,he⟩
theorem Uq {b2 b:Nat}{q:Sty}{es:LI}{st:Int}{fl:xx}(h3:QK ↑w T 159 [sP b])(hC:QK ↑w b2 3 [sS st])(hD:QK ↑w U 47 [vr])
  (hE:T∉L) (hF:U∉L) (hG:∀x∈L,x<↑w) (hS:JR L b ↑w q) (hr:Qu L ↑w vr rs) (hok:∀x∈q.c.rq,QS x.p.a) (hv:Vt (O8 q.c.C.rq) rs) (hc:cks q.p.a st=0) (h4:enb q.p.a st=es) (hn:wrf q.c.C.rq rs es=fl):
  SeqStopsK (fen none) m sV 154 #[sP T,sP b2,sP U] (λx:{ x:Int×Int // x∈fl }=>[sS x.1.1,sS x.1.2].toArray) (LwC ↑w L)
   (λys=>ys.map (·.1)=fl) (λpre=>pre.map (·.1) <+: fl) fl.length w:=by
 intro l J Jx W hH hJ hI hY h0;have hf:sW w W:=O6.of_below hH;have ab:∀{ys:List { x:Int×Int // x∈fl }} {W1 W2:O2},J ys W1->sW W1 W2->J ys W2:=λ{ys W1 W2} hj hg=>hJ ys W1 W2 none hj ⟨hg.os,hg.tape,hg.output,hg.size,λk hk _=>hg.block k hk od⟩ (λr e=>by cases e);have hK:es.length<=1099511627776:=by
  have E:=hS.p.ed.le;have h2:=Yg q.p.a.ed st;rw[<-h4];unfold enb;rw[Ln];omega
 have hL:=QlT q.c.C.rq rs es;rw[hn]at hL;have key:QU sV 154 [.func (.yield l) #[] #[],sP T,sP b2,sP U] W (λ_ W'=>(∃ys,ys.map (·.1)=fl/\J ys W')\/(∃pre,pre.map (·.1) <+: fl/\Jx pre W')):=by
  refine QU.of_G m func154 O ntmps154 results154 od ?_;have h5:=hS.I hf;refine QQ<|Ub (sW W) [oz 0,oz 1,oz 2,oz 3,oz 4,oA 5,oz 6,oz 7,oz 8,oz 9,oz 10] mixed oh oh oc (O6.X _ _) ?_;refine pq (λ_ hc=>Qk ((h3.I hf).I hc) O O)<|p (YN O)<|p (QH O)<|pq (λ_ hc=>ZR (us:=ZJ q.p) (h5.B.I hc) O O O)<|pq (λ_ hc=>Qk ((hC.I hf).I hc) O O)<|pk<|xg<|(Uc (h5.p.I (O6.X _ _)) st).S ?_;rintro r1 w1 ⟨hM,ve,rfl,_,ho⟩;have ho:=ho hc;have hs:=(O6.X [] W).D hM;refine⟨hs,?_⟩;refine p Qy<|p (λ_=>Q0 O O)<|p (λ_=>Q0 O O)<|p ZI<|p ZI<|pe ?_;have hQ:=hf.size;have hR:({ W with drawn:=W.drawn+1 }:O2).heap.size=W.heap.size:=rfl
  rw[h4]at ho;have h6:Qu L ↑w1 ve es:=Qh.ints ho hK (λx hx=>oo (hG x hx));refine QQ<|Qx oh oh<|Qa<|QG h6 O<|Qa<|xe<|ZM<|KL (α:=Nat×List { x:Int×Int // x∈fl }) [(8,9),(21,38)] (λz=>[(21,sS z.1)]) (λz ds W'=>ds=[]/\z.1<=es.length/\O6 L w W'/\Qu L ↑W' ve es/\z.2.map (·.1)=wrf q.c.C.rq rs (es.take z.1)/\J z.2 W') (λz=>es.length - z.1) oh (0,[]) La
   ⟨O,Lo _,(hf.D hs).any,h6,O,ab h0 hs⟩ ?_
  rintro⟨k,ys⟩ g ds w2 ⟨rfl,hk,V,hu,hh,hw⟩;refine QQ<|Qx oh oh<|ZW O O<|xe<|QQ<|U3 O (λhy=>?_) (λhy=>?_)
  ·refine JL ?_;have hN:es.length<=k:=by have hp:¬(k:Int)<(es.length:Int):=hy;omega
   rw[Lr hN,hn]at hh;exact⟨λ_ h=>(by cases h),Mx,[],λW' G=>⟨Z,.inl ⟨ys,hh,ab hw G⟩⟩⟩
  refine Yb ?_;have Y:k<es.length:=by have hp:(k:Int)<(es.length:Int):=hy;omega
  have I:=Qh9 (rq:=q.c.C.rq) (rs:=rs) Y;have h7:O7 es k∈es:=by rw[<-Zo Y];exact Lm Y
  refine Zd (O7 es k) λv h8=>?_;rw[h8]at I h7;refine Zd (rfr v 0 q.c.C.rq rs) λj hj=>?_;rw[hj]at I;refine QQ<|ZM<|QQ<|Qx oh oh<|xic (i:=k) hu O O Y λhT hp=>?_;rw[h8]at hp;refine x (Qq hp O)<|Qb<|QQ<|Qx oh oh<|ZD (h3.J V hE) O O<|ZD (hD.J V hF) O O<|Qa<|Qw<|(Qd6 (v:=v) (hS.st V) (hr.st V) hok hv).S ?_;rintro r3 w3 ⟨hA,ha⟩;rw[hj]at hA;subst hA;refine Qb<|QQ<|Kz oh ?_;refine Jv.pre3 ?_;refine Qa<|xb (Yf O O) (λhz=>?_) (λhz=>?_)
  ·have hq:0<=j:=hz;have hm:(v,j)∈fl:=by rw[<-hn];exact zp.2 ⟨h7,hq,hj.symm⟩
   rw[OV hq]at I;have hB:(ys++[(⟨(v,j),hm⟩:{ x:Int×Int // x∈fl })]).map (·.1) <+: fl:=by
    rw[Ly,hh,show[(⟨(v,j),hm⟩:{ x:Int×Int // x∈fl })].map (·.1)=[(v,j)] from rfl,<-I,<-hn];have h9:=VO q.c.C.rq rs (es.drop (k+1)) (es.take (k+1));rw[MH]at h9;exact⟨_,h9.symm⟩
   have hO:ys.length<fl.length:=by have E:=hB.length_le;rw[Ln,Lc,Lv]at E;omega
   refine Qa<|xe<|Jv.pre3 ?_;refine Qa<|Qa<|Qa<|xe<|xy2 (l:=l) O (hY ys ⟨(v,j),hm⟩ w3 (ab hw ha) hO) λen W3 hP=>Or.elim hP (λE=>⟨.bool true,E.1,?_⟩) (λE=>⟨.bool false,E.1,?_⟩)
   ·refine Jv.of_XL<|x (Zj O)<|QC O<|xe<|J5 O<|Yb ?_;refine Qx oh oh<|QB O O<|Qa<|xe ?_;exact⟨(k+1,ys++[⟨(v,j),hm⟩]),oe,La,O,Y,(V.D ha).lw E.2.2.lw,(hu.I ha).cst E.2.2.cst E.2.2.lw.size,by simp only[];rw[I,Ly,hh];rfl,E.2.1⟩
   refine Jv.of_XL<|x (Zj O)<|QC O<|xe<|jn O ?_;refine J4 ⟨λ_ h=>(by cases h),Mx,[],λW' G=>⟨Z,.inr ⟨ys++[⟨(v,j),hm⟩],hB,?_⟩⟩⟩;exact hI _ W3 W' none E.2 ⟨G.os,G.tape,G.output,G.size,λk hk _=>G.block k hk od⟩ (λr e=>by cases e)
  have hq:¬0<=j:=hz;rw[OU hq,LH]at I;refine Qa<|xe<|Jv.of_XL<|ZA<|YP<|QC O<|xe<|J5 O<|Yb ?_;refine Qx oh oh<|QB O O<|Qa<|xe ?_;exact⟨(k+1,ys),oe,La,O,Y,V.D ha,hu.I ha,by simp only[];rw[I,hh],ab hw ha⟩
 refine(callsIn_wide (n:=m)).2 ?_;have ea:(#[.func (.yield l) #[] #[]]++[sP T,sP b2,sP U].toArray:Array O3)=#[.func (.yield l) #[] #[],sP T,sP b2,sP U]:=od
 rw[ea];unfold QU at key;refine Calls.mono key λe w' he=>?_;cases e with
 | returned v=>exact⟨⟨v,O⟩,he⟩
 | panicked c=>exact he.elim
 | outgrown=>exact he.elim
theorem Kj [h1:Ag P t sz]{x:O4}{b o:Nat}{E:LV}(G:QK ↑w b T cs)(hx:ev f x=.pointer (some ⟨b,o,none⟩))(J:ev f y=sT us)(hl:us.length=sz)(Y:o+sz<=cs.length)(U:ZL us)(V:cs.take o++us++cs.drop (o+sz)=E)
  (hK:∀w',O6 [b] w w'->QK ↑w' b T E->K (QP f d undef) w'):XO P ⟨d,.store t x y,ty,pS,af,gd⟩ f w K:=by
 have I:=run_storeCells_at P b o T us 0 cs.toArray w G (by simp;omega) U.all;subst hl;simp only[Ox,V]at I;refine xk (w':=w.setRow b E.toArray) ?_ (hK _ (O6.setRow _ _ _) (JA G));simp[execOp,hx,J,Instr.storeAt,Instr.sureAddr,storeVar,qb (sz:=us.length),Value.cells,I]
instance:Bw sV 166 [nS,nS,nS,nS,nS,nS,sS 0,nS,nS,nS,nS,sS 0,nS,nS,nS,nS,nS,nS,.map none] [(0,5),(5,4),(9,1),(10,4),(14,1),(15,3),(18,1)]:={}
theorem Yy.shape {H:xC}{v:O3}{c:Int}(h:Yy N H aa v vt c):∃(a:Qz) (va vm ve:O3) (qs:List TV),v=.agg #[va,sS a.st,vm,ve]/\ZL [va,sS a.st,vm,ve]/\vt.oneCell'=true /\
  (c=0->xp aa=some (a,qs.map (·.2))/\KT aa=0/\∀L:LN,(∀b∈L,b<N)->Zr L H va vm ve a/\JQ L H vt qs):=by
 by_cases hc:c=0
 ·obtain⟨⟨va,vm,ve,G,E⟩,⟨qs,T,I⟩,U,V⟩:=h.good hc;have hA:=E [] od;exact⟨J7 aa,va,vm,ve,qs,G,⟨hA.al.one,O,hA.mr.one,hA.ed.one,Z⟩,(I [] od).arr.one,λ_=>⟨by rw[T];exact U,V,λL J=>⟨E L J,I L J⟩⟩⟩
 obtain⟨G,E⟩:=h.bad hc;exact⟨⟨[],0,[],[]⟩,Zq,Zq,Zq,[],G,oy,by rw[E];rfl,λe=>OX e hc⟩
def plE (c:ZS):Int:=if Z2 c≠0 then Z2 c else KC (O8 c.co)
theorem qX.shape {N:Nat}{H:xC}{c:ZS}{v vt:O3}{e:Int}(h:qX N H c v vt e):e=plE c/\∃(a:Qz) (va vm ve:O3) (qs:List TV),v=.agg #[va,sS a.st,vm,ve]/\ZL [va,sS a.st,vm,ve]/\vt.oneCell'=true /\
  (e=0->Z2 c=0/\xp (O8 c.co)=some (a,qs.map (·.2))/\KT (O8 c.co)=0/\∀L:LN,(∀b∈L,b<N)->Zr L H va vm ve a/\JQ L H vt qs):=by
 unfold qX at h;unfold plE;by_cases hc:Z2 c≠0
 ·rw[OV hc]at h ⊢;obtain⟨E,G,I⟩:=h;exact⟨E,⟨[],0,[],[]⟩,Zq,Zq,Zq,[],G,oy,by rw[I];rfl,λe=>OX (E.symm.D e) hc⟩
 rw[OU hc]at h ⊢;obtain⟨a,va,vm,ve,qs,E,G,I,J⟩:=h.shape;exact⟨h.e,a,va,vm,ve,qs,E,G,I,λe=>⟨Lt.1 hc,J e⟩⟩
theorem Ql6 (c:ZS):YQ c=if plE c≠0 then plE c else KC (O8 c.co++O8 c.rq):=by
 rw[Ql7];unfold plE;by_cases h:Z2 c≠0
 ·rw[OV h,OV h,OV h]
 rw[OU h,OU h]
theorem QnS {H:xC}{ps:List AV}(h:∀p∈ps,Zr L H p.va p.vm p.ve p.a):∀u∈ps.flatMap ZJ,u.oneCell'=true:=by
 intro u G;obtain⟨p,I,E⟩:=Mc.1 G;have hA:=h p I;simp only[oK,oH,or_false]at E;rcases E with rfl|rfl|rfl|rfl
 ·exact hA.al.one
 ·rfl
 ·exact hA.mr.one
 exact hA.ed.one
theorem QpL {F:LN->Array Obj->Prop}(st:∀{L:LN}{w w':O2},F L ↑w->O6 L w w'->F L ↑w')(up:∀{L L':LN}{H:xC},F L H->(∀b∈L',b∈L\/H.size<=b)->F L' H){b:Nat}
  (h:∀L:LN,(∀x∈L,x<N)->F L ↑w) (hb:b<N) (E:O6 [b] w w'):∀L:LN,(∀x∈L,x<N)->F L ↑w':=λL G =>
 up (st (h (b::L) (λx hx=>by
  rcases Lk.1 hx with rfl|hx
  ·exact hb
  exact G x hx)) (E.S (λx hx=>by simp only[oF]at hx;subst hx;exact Lh))) (λx hx=>.inl (Lj _ hx))
theorem qI.nil (n:Nat):qI n [] []:=λu _ _=>by simp[xh]
theorem Qdr (h0:Ya L ↑w c)(h2:Kb w 4096):
  QU sV 74 [c.val] w λr w'=>sW w w'/\∃vp,r=.tuple #[vp,sS (YQ c.C)]/\(YQ c.C≠0->vp=.pointer none) /\
   (YQ c.C=0->∃b q,vp=sP b/\q.c=c/\QsY q/\JR [] b ↑w' q/\∀L:LN,(∀x∈L,x<↑w)->Zr L ↑w' q.s.va q.s.vm q.s.ve q.s.a/\(Ya L ↑w c->JR L b ↑w' q)):=by
 have h:=h0.up (L':=[]) od;have hE:=Ql6 c.C;refine Zd (YQ c.C) λE gt=>?_;rw[gt]at hE ⊢;refine Zm func74 ?_;refine Qc<|Zf c.cells λb1 w1 gu mg h3=>x Qe<|Qb ?_;have mh:=h3.lt;refine Qc<|Q3 h3 O O<|x (ZB [(0,c.cells)] ⟨O,O,Z⟩)<|Zf [c.ve,c.vc,c.vr,c.vx,c.vk,nS,sS 0,nS,nS,nS,nS,sS 0,nS,nS,nS,nS,nS,nS,.map none] λb10 w2 hO mj G=>Qb ?_;have h4:=gu.D hO;have gv:=G.lt;have hQ:=h3.I hO;have hge:↑w<=b10:=oa
 have mo:b1≠b10:=oa
 refine Qc<|Qb<|Qd<|Ql<|Qa<|Q3 hQ O O<|Qw<|(jj (h.I h4) (h2.I h4)).S ?_;rintro r3 w3 ⟨hg,v3,vq,e3,rfl,hP⟩;obtain⟨h6,pa,pva,pvm,pve,qs,rfl,gx,gy,gz⟩:=hP.shape;refine Qa<|QO O O<|QO O O<|QO O O<|Z7 O<|Q9 O<|Qo<|Kj (us:=[pva,sS pa.st,pvm,pve]) (G.I hg) O O O od gx rfl λw4 g0 G =>
  Z7 rfl<|Q9 O<|Qo<|Qv (j:=9) (u:=vq) G O O od gy λw5 g2 G=>Qb ?_
 have hh:O6 [b10] w3 w5:=g0.V g2;have hj:sW w w5:=(h4.D hg).Q hh hge;refine Ql<|ZN O O<|xe<|Zg rfl (λhn=>?_) (λhn=>?_)
 ·have g3:plE c.C≠0:=by rw[<-h6];exact hn
  rw[OV g3,<-h6]at hE;subst hE;refine Ql<|x Qe<|Qb<|Qj ⟨[_,_],ov,hj,.pointer none,O,λ_=>O,λe=>OX e hn⟩
 have hS:e3=0:=Lt.1 hn;rw[OU (by rw[<-h6,hS];decide)]at hE;obtain⟨hck,h7,mq,g4⟩:=gz hS;have hok:=YT hck;refine Qf ?_;have h8:=(hQ.I hg).J hh (by simp;omega);have h5:=h.I hj;have ms:=h.co.arr.le;have mt:=h.rq.arr.le;have mu:c.co.length<=8:=by have:=hok.c8;have e:c.C.co.length=c.co.length:=Ln ..;omega
 have mv:c.co.length+c.rq.length<=12:=by have:=hok.cr;have e:c.C.co.length=c.co.length:=Ln ..;have e':c.C.rq.length=c.rq.length:=Ln ..;omega
 refine Qd<|Qd<|ZK [] [oz 0,oz 1,oz 2,oz 3,oz 5,oz 6,oA 4,oA 7,oA 8,oA 9,oz 10,oz 11,oz 12,oz 13,oz 14,oz 15,oA 16,oz 17,oz 18,oA 19,oz 20]<|p Qy<|p Qy<|p (QH O)<|pq (λ_ hc=>Qk (h8.J hc od) rfl rfl)<|p (QH rfl) <|
  pq (λ_ hc=>Qk (h8.J hc od) rfl rfl)<|pk<|xg<|(Qet (h5.co.I (O6.X _ _))).S ?_
 rintro r6 w6 ⟨hT,hU⟩;have hA:=(O6.X [] w5).D hT;refine⟨hA,?_⟩;refine pk<|xg<|(Qet (h5.rq.I hA)).S ?_;rintro r7 w7 ⟨hB,g5⟩;have hV:=hA.D hB;refine⟨hV,?_⟩;have mw:=hT.size;have my:=hB.size;have mz:({ w5 with drawn:=w5.drawn+1 }:O2).heap.size=w5.heap.size:=rfl
 have g6:Zu [] ↑w7 r7 (c.rq.map (·.p)).length 4 ((c.rq.map (·.p)).flatMap ZJ):=QN g5 (by rw[Ln];omega) od;refine pk<|Qa5 (Qm hU hB) O g6 O (QnS λp T=>by
   obtain⟨q,U,rfl⟩:=Lx.1 T;exact(h.rq.each q U)) (by rw[Ln,Ln];omega) oa λv8 w8 hW g7 m0=>?_
 have ho:sW w5 w8:=hV.O g7 (λb hb=>.inr (oo ((Qi hU) b hb).1));refine⟨ho,?_⟩;have hC:=hj.D ho;have m1:=ho.size;have g8:X7 [] ↑w8 v8 (c.co.map (·.p)++c.rq.map (·.p)):=by
  rw[<-Lc,<-LF]at hW;exact Qj4 hW (by rw[Lc,Ln,Ln];omega) od (λp T=>by
   rcases Le.1 T with T|T
   ·obtain⟨q,U,rfl⟩:=Lx.1 T;exact(h.co.each q U).I hC
   obtain⟨q,U,rfl⟩:=Lx.1 T;exact(h.rq.each q U).I hC)
 have g9:∀p∈c.co.map (·.p)++c.rq.map (·.p),QS p.a:=λp T=>by
   rcases Le.1 T with T|T
   ·obtain⟨q,U,rfl⟩:=Lx.1 T;exact hok.co q.it (LL U)
   obtain⟨q,U,rfl⟩:=Lx.1 T;exact hok.rq q.it (LL U)
 refine pk<|xg<|(U1 (km:=4096) g8 (h2.I hC) og (Qa2 g9)).S ?_;rintro r9 w9 ⟨ka,v9,vt,e9,rfl,hR⟩;rw[Ly,QgH,QnT]at hR;have hX:=hR.e;obtain⟨sa,sva,svm,sve,ts,rfl,kb,kc,ke⟩:=hR.shape;have hD:=ho.D ka;refine⟨hD,?_⟩;refine p Qy<|p (λ_=>Q0 O O)<|p (λ_=>Q0 O O)<|p (λ_=>Q0 O O)<|p (YN O) <|
  p (QH rfl)<|pkk<|Kj (us:=[sva,sS sa.st,svm,sve]) (G.I hD) O O O od kb rfl λm2 kf G=>p (YN rfl)<|p (QH rfl) <|
  pkk<|Qv (j:=14) (u:=vt) G O O od kc λhr kg G=>p ZI<|pe ?_
 have hY:O6 [b10] w9 hr:=kf.V kg;have hu:O6 [b10] w5 hr:=hD.any.V hY;have hv:sW w hr:=hj.Q hu hge;refine Ql<|ZN O O<|xe<|Zg rfl (λhF=>?_) (λhF=>?_)
 ·rw[<-hX]at hE;subst hE;refine Ql<|x Qe<|Qb<|Qj ⟨[_,_],ov,hv,.pointer none,O,λ_=>O,λe=>OX e hF⟩
 have hZ:e9=0:=Lt.1 hF;have ga:E=0:=by rw[hE,<-hX,hZ]
 obtain⟨kh,m3,ki⟩:=ke hZ;refine Qf ?_;have kj:=h8.J hu (by simp;omega);refine Ql<|Qa<|Q3 kj O O<|Qw<|(Qas (h.I hv)).S ?_;rintro m4 V ⟨hf,vs,vx,vk,qx,ks,rfl,kk,kn,gb⟩;have hG:=gb [] od;refine Qo<|Z1 XB λbm ko gc m5 kq=>Z7 O<|Q9 O<|Qo<|Kj (us:=[vs,vx,vk]) ((G.I hf).I gc) O O O od ⟨hG.1.one,hG.2.1.arr.one,hG.2.2.arr.one,Z⟩ rfl λm6 ge G =>
  Z7 rfl<|Q9 O<|Qo<|Qv (j:=18) (u:=.map (some bm)) G O O od rfl λhH gg G=>xe ?_
 have m7:=hv.size;have m8:=hf.size;have m9:=hu.size;have pc:=hh.size;have pd:=hg.size;have pf:b10<V.heap.size:=oa
 have kr:bm≠b10:=oa
 have gh:O6 [b10] V hH:=(gc.any.V ge).V gg;have kt:O6 [b10] ko hH:=ge.V gg;have ku:ZU XB ↑hH bm []:=kq.J kt (ou kr);have kv:O6 [b10] w3 V:=(hh.V hu).D hf;have kw:O6 [b10] w9 V:=hY.D hf;have fP:∀{w':O2},O6 [b10] V w'->∀L:LN,(∀x∈L,x<↑w2)->Zr L ↑w' pva pvm pve pa/\JQ L ↑w' vq qs:=λI =>
  QpL (F:=λL H=>Zr L H pva pvm pve pa/\JQ L H vq qs) (λh I=>⟨h.1.st I,h.2.st I⟩) (λh J=>⟨h.1.up J,h.2.up J⟩) g4 gv (kv.V I)
 have fS:∀{w':O2},O6 [b10] V w'->∀L:LN,(∀x∈L,x<↑w8)->Zr L ↑w' sva svm sve sa/\JQ L ↑w' vt ts:=λI =>
  QpL (F:=λL H=>Zr L H sva svm sve sa/\JQ L H vt ts) (λh I=>⟨h.1.st I,h.2.st I⟩) (λh J=>⟨h.1.up J,h.2.up J⟩) ki oa (kw.V I)
 have fC:∀{w':O2},O6 [b10] V w'->∀L:LN,(∀x∈L,x<↑hr)->Qu L ↑w' vs (szs c.C.co)/\jy L ↑w' vx qx/\jm L ↑w' vk ks:=λI =>
  QpL (F:=λL H=>Qu L H vs (szs c.C.co)/\jy L H vx qx/\jm L H vk ks) (λh I=>⟨h.1.st I,h.2.1.st I,h.2.2.st I⟩) (λh J=>⟨h.1.up J,h.2.1.up J,h.2.2.up J⟩) gb oa I
 have kx:=(zq (YX hok.co) h7).1;have kz:(O8 c.C.co).length=c.co.length:=by unfold O8;show((c.co.map IV.it).map _).length=_;simp
 have gi:=(fP gh [] od).2;have pg:=gi.arr.le;refine Qd<|Ql<|Z7 O<|Qs O G O O<|QG gi.arr O<|Qa<|xe<|QX (α:=Nat×List (ByteArray×O3)) [(6,7),(61,73)] (λz=>[(61,sS z.1)]) (λz w'=>z.1<=qs.length/\O6 [b10] V w'/\QK ↑w' b10 166 [c.ve,c.vc,c.vr,c.vx,c.vk,pva,sS pa.st,pvm,pve,vq,sva,sS sa.st,svm,sve,vt,vs,vx,vk,.map (some bm)]/\ZU XB ↑w' bm z.2/\qI c.co.length z.2 ((qs.take z.1).map (·.2))) (λz=>qs.length - z.1) (0,[]) La
  ⟨Lo _,gh,G,ku,qI.nil _⟩ ?_
 rintro⟨k,mm⟩ g gj ⟨hk,Y,hw,hI,hJ⟩;have hy:sW w gj:=(hv.D hf).Q Y hge;refine Zk rfl O (λhK=>?_) (λhK=>?_)
 ·refine Qt ?_;have k0:qs.length<=k:=by have k4:¬(k:Int)<(qs.length:Int):=hK;omega
  rw[Lr k0]at hJ;refine Ql<|x Qe<|Qb ?_;have aP:=fP Y [] od;have aS:=fS Y [] od;have aC:=fC Y [] od;refine Qj ⟨[_,_],ov,hy,sP b10,by rw[ga];rfl,λe=>OX ga e,λ_=>⟨b10,⟨c,⟨pva,pvm,pve,pa⟩,vq,qs,⟨sva,svm,sve,sa⟩,vt,ts,vs,vx,vk,qx,ks,bm,mm⟩,O,O,⟨hck,h7,kh,kk,kn,hJ⟩,⟨hw,od,h.I hy,aP.1,aS.1,aP.2,aS.2,aC.1,aC.2.1,aC.2.2,od,hI⟩,λL J=>?_⟩⟩;have bP:=fP Y L (λb hb=>oo (J b hb));have bS:=fS Y L (λb hb=>oo (J b hb));have bC:=fC Y L (λb hb=>oo (J b hb));exact⟨bS.1,λk5=>⟨hw,λhm=>oo (J _ hm),k5.I hy,bP.1,bS.1,bP.2,bS.2,bC.1,bC.2.1,bC.2.2,λhm=>by have h9:bm<w.heap.size:=J bm hm;omega,hI⟩⟩
 have he:k<qs.length:=by have k4:(k:Int)<(qs.length:Int):=hK;omega
 have gk:=(fP Y [] od).2;have hM:=Lm he;have hN:(qs.take (k+1)).map (·.2)=(qs.take k).map (·.2)++[(qs[k]'he).2]:=by rw[Ll he,Ly];rfl
 have gl:(qs[k]'he).2∉(qs.take k).map (·.2):=by
  have h1:((qs.take (k+1)).map (·.2)).Nodup:=by
   rw[List.map_take];exact((Yz (YX hok.co) h7).1.nd).sublist (List.take_sublist _ _)
  rw[hN]at h1;intro hm;exact(Mf.1 h1).2.2 _ hm _ (Lb.2 O) O
 have k6:((qs.take k).map (·.2)).length=k:=by rw[Ln,LC];omega
 refine Qf<|Qd<|Qn<|Ql<|O9 (g:=YK) KB gk.arr O O he λph gm=>?_;refine Zd (qs[k]'he) λq U=>?_;rw[U]at gm hM hN gl;have gn:=kx q.2 (LL hM);have gq:=gn.bd (m:=4096) (λa ha=>(YX hok.co a ha).st1);have pn:q.2.length=c.co.length:=by rw[gn.1,kz]
 refine x (Qq gm O)<|x Qe<|Qb<|ZK [] [oz 0,oz 1,oz 2,oz 3,oz 4,oz 6,oA 5,oA 7]<|p Qy<|p (YN O)<|p (QH O)<|pq (λ_ hc=>Qk (hw.J hc od) rfl rfl) <|
  p Qy<|p Qy<|pk<|xg<|(QbJ ((gk.each q hM).I (O6.X _ _)) ((h2.I hy).I (O6.X _ _)) gq oa).S ?_
 rintro po pp ⟨rfl,k9⟩;have hz:=(O6.X [] gj).D k9;refine⟨hz,?_⟩;refine pkk<|YR (k:=KU q.2) (hI.I hz) O O λma gr mc=>pe ?_;have mf:O6 [b10] V ma:=(Y.D hz).Q gr oa;have gs:=hJ.add gl (λx hx=>(gq x hx).1);rw[k6]at gs;refine Qr<|QB O O<|Qa<|xe ?_;exact⟨(k+1,xj mm (KU q.2) (sS (k:Int))),oe,La,he,mf,((hw.I hz).J gr (by simp;omega)),mc,by simp only[];rw[hN];exact gs⟩
theorem zz {W:O2}{e:Nat}{v:O3}(h:W.ownsRow base e sz v n cs)(hc:JS [] W W'):W'.ownsRow base e sz v n cs :=
 ⟨h.1,h.2.imp id λ⟨g,cap,cur,E,G,I,J⟩=>⟨g,cap,cur,E,G,hc g _ od I rfl,J⟩⟩
theorem JS.S {W:O2}(h:JS L W W')(E:∀b∈L,b∈L'):JS L' W W':=λk o G=>h k o (λI=>G (E k I))
theorem JS.nonc {X:LN}{W:O2}(J:O6 X W W')(hX:∀r∈X,∃o:Obj,W.heap[r]?=some o/\o.isCells=false):JS [] W W':=λk o _ E hc =>
 (J.block k (LO.1 E).1 (λhx=>by
  obtain⟨T,G,I⟩:=hX k hx;rw[E]at G;cases G;rw[hc]at I;cases I)).D E
theorem Ye.cst {I:xA}(h:∀W W',I W->JS [] W W'->W.heap.size<=↑W'->I W'):Ye B I:=λW W' _ hi E hX=>h W W' hi (JS.nonc E (λr G=>(hX r G).2)) E.size
theorem YH.cst {base:Nat}{av:LN}{W W':O2}{v:O3}{n sz:Nat}{cs:LV}(h:YH base av ↑W v n sz cs)(hc:Lg.JS [] W W')(E:W.heap.size<=↑W'):YH base av ↑W' v n sz cs:=λL G=>(h L G).cst (hc.S od) E
abbrev Z5 (r:Rsn):LV:=[sS r.st,sS r.kd,sS r.ix,sS r.ev]
theorem QiN (r:Rsn):(Z5 r).length=4:=rfl
structure Kw (base:Nat)(w:O2)(v1 v2 v3 v4:O3)(cos rqs:List TV)(pls:LI)(fbs:List Rsn):Prop where
 o1:w.ownsRow base 47 1 v1 cos.length (cos.flatMap YK)
 o2:w.ownsRow base 47 1 v2 rqs.length (rqs.flatMap YK)
 o3:Qh 3 base w v3 pls
 o4:w.ownsRow base 173 4 v4 fbs.length (fbs.flatMap Z5)
 d12:Dj v1 v2
 d13:Dj v1 v3
 d14:Dj v1 v4
 d23:Dj v2 v3
 d24:Dj v2 v4
 d34:Dj v3 v4
 e1:∀p∈cos,YH base (ob v1++(ob v2++(ob v3++ob v4))) ↑w p.1 p.2.length 1 (p.2.map (.int .i64))
 e2:∀p∈rqs,YH base (ob v1++(ob v2++(ob v3++ob v4))) ↑w p.1 p.2.length 1 (p.2.map (.int .i64))
theorem qC {v:O3}:Dj (nS) v:=λb hb=>by simp[ob]at hb
theorem Kw.nil (base:Nat)(w:O2):Kw base w (nS) (nS) (nS) (nS) [] [] [] []:=
 ⟨QL _ _ _ _,QL _ _ _ _,QL _ _ _ _,QL _ _ _ _,qC,qC,qC,qC,qC,qC,λp E=>(by cases E),λp E=>(by cases E)⟩
variable {w7 w8:O2}{v1 v2 v3 v4:O3}{cos rqs:List TV}{pls:LI}{fbs:List Rsn}
theorem Kw.I (h:Kw base w v1 v2 v3 v4 cos rqs pls fbs)(E:sW w w7):Kw base w7 v1 v2 v3 v4 cos rqs pls fbs :=
 ⟨Qm h.o1 E,Qm h.o2 E,Qm h.o3 E,Qm h.o4 E,h.d12,h.d13,h.d14,h.d23,h.d24,h.d34,λp G=>(h.e1 p G).I E,λp G=>(h.e2 p G).I E⟩
theorem Kw.low {X:LN}(h:Kw base w v1 v2 v3 v4 cos rqs pls fbs)(E:O6 X w w7)(hX:∀b∈X,b<base):Kw base w7 v1 v2 v3 v4 cos rqs pls fbs:=by
 have k:∀{e sz n:Nat} {v:O3} {cs:LV},w.ownsRow base e sz v n cs->w7.ownsRow base e sz v n cs:=λo=>Qg o E (λb hb I=>oq (Qi o b hb).1 (hX b I));exact⟨k h.o1,k h.o2,k h.o3,k h.o4,h.d12,h.d13,h.d14,h.d23,h.d24,h.d34,λp G=>(h.e1 p G).low E hX,λp G=>(h.e2 p G).low E hX⟩
theorem Kw.cst (h:Kw base w v1 v2 v3 v4 cos rqs pls fbs)(hc:Lg.JS [] w w7)(G:w.heap.size<=↑w7):Kw base w7 v1 v2 v3 v4 cos rqs pls fbs :=
 ⟨zz h.o1 hc,zz h.o2 hc,zz h.o3 hc,zz h.o4 hc,h.d12,h.d13,h.d14,h.d23,h.d24,h.d34,λp E=>(h.e1 p E).cst hc G,λp E=>(h.e2 p E).cst hc G⟩
theorem qD {a b E:O3}(h:Dj a b)(J:∀x∈ob E,x∈ob a\/n<=x)(hb:∀x∈ob b,x<n):Dj E b:=λx hx G=>by
 rcases J x hx with I|I
 ·exact h x I G
 have:=hb x G;omega
theorem VC {a b E:O3}(h:Dj a b)(I:∀x∈ob E,x∈ob b\/n<=x)(J:∀x∈ob a,x<n):Dj a E:=λx hx T=>by
 rcases I x T with G|G
 ·exact h x hx G
 have:=J x hx;omega
theorem Kw.lt (h:Kw base w v1 v2 v3 v4 cos rqs pls fbs):(∀x∈ob v1,x<↑w)/\(∀x∈ob v2,x<↑w)/\(∀x∈ob v3,x<↑w)/\∀x∈ob v4,x<w.heap.size:=⟨QV h.o1,QV h.o2,QV h.o3,QV h.o4⟩
theorem QcM {a b c d:LN}{x:Nat}(h:x∈a++(b++(c++d))):x∈a\/x∈b\/x∈c\/x∈d:=by simpa using h
theorem yz {a b c d:LN}{x:Nat}(h:x∈a\/x∈b\/x∈c\/x∈d):x∈a++(b++(c++d)):=by simpa using h
theorem Kw.a1 {e:Nat}{q:TV}(h:Kw base w v1 v2 v3 v4 cos rqs pls fbs)(Y:sW w w7)(hq:w7.ownsRow N e 1 q.1 q.2.length (q.2.map (.int .i64)))(ha:q.2.length<=1099511627776)(hN:↑w<=N)(hb:base<=↑w)(ho:w8.ownsRow base 47 1 v' (cos.length+1) (cos.flatMap YK++YK q))
  (T:O6 (ob v1) w7 w8) (U:∀b∈ob v',b∈ob v1\/↑w7<=b):Kw base w8 v' v2 v3 v4 (cos++[q]) rqs pls fbs:=by
 have l:=h.lt;have hz:=Y.size;have I:=h.I Y;have av:∀b∈ob v'++(ob v2++(ob v3++ob v4)),b∈ob v1++(ob v2++(ob v3++ob v4))\/↑w7<=b:=by
  intro b hb;rcases QcM hb with E|E|E|E
  ·rcases U b E with V|V
   ·exact .inl (yz (.inl V))
   exact .inr V
  ·exact .inl (yz (.inr (.inl E)))
  ·exact .inl (yz (.inr (.inr (.inl E))))
  exact .inl (yz (.inr (.inr (.inr E))))
 have st:O6 (ob v1++(ob v2++(ob v3++ob v4))) w7 w8:=T.S (λb hb=>yz (.inl hb));have g:∀{v:O3} {n sz:Nat} {cs:LV},YH base (ob v1++(ob v2++(ob v3++ob v4))) ↑w7 v n sz cs->YH base (ob v'++(ob v2++(ob v3++ob v4))) ↑w8 v n sz cs:=λa=>a.app st av;refine⟨by rw[Lc,LF];simpa using ho,Qg I.o2 T (λb hb J=>h.d12 b J hb),Qg I.o3 T (λb hb J=>h.d13 b J hb),Qg I.o4 T (λb hb J=>h.d14 b J hb),qD h.d12 U (λx hx=>oo (l.2.1 x hx)),qD h.d13 U (λx hx=>oo (l.2.2.1 x hx)),qD h.d14 U (λx hx=>oo (l.2.2.2 x hx)),h.d23,h.d24,h.d34,?_,?_⟩
 ·exact λp G=>by
   rcases Le.1 G with G|G
   ·exact g (I.e1 p G)
   simp only[oF]at G;subst G;exact g (YH.of_own hq ha oa (λb hb=>by
   rcases QcM hb with E|E|E|E
   ·have:=l.1 b E;omega
   ·have:=l.2.1 b E;omega
   ·have:=l.2.2.1 b E;omega
   have:=l.2.2.2 b E;omega))
 exact λp G=>g (I.e2 p G)
theorem Kw.a2 {e:Nat}{q:TV}(h:Kw base w v1 v2 v3 v4 cos rqs pls fbs)(Y:sW w w7)(hq:w7.ownsRow N e 1 q.1 q.2.length (q.2.map (.int .i64)))(ha:q.2.length<=1099511627776)(hN:↑w<=N)(hb:base<=↑w)(ho:w8.ownsRow base 47 1 v' (rqs.length+1) (rqs.flatMap YK++YK q))
  (T:O6 (ob v2) w7 w8) (U:∀b∈ob v',b∈ob v2\/↑w7<=b):Kw base w8 v1 v' v3 v4 cos (rqs++[q]) pls fbs:=by
 have l:=h.lt;have hz:=Y.size;have I:=h.I Y;have av:∀b∈ob v1++(ob v'++(ob v3++ob v4)),b∈ob v1++(ob v2++(ob v3++ob v4))\/↑w7<=b:=by
  intro b hb;rcases QcM hb with E|E|E|E
  ·exact .inl (yz (.inl E))
  ·rcases U b E with V|V
   ·exact .inl (yz (.inr (.inl V)))
   exact .inr V
  ·exact .inl (yz (.inr (.inr (.inl E))))
  exact .inl (yz (.inr (.inr (.inr E))))
 have st:O6 (ob v1++(ob v2++(ob v3++ob v4))) w7 w8:=T.S (λb hb=>yz (.inr (.inl hb)));have g:∀{v:O3} {n sz:Nat} {cs:LV},YH base (ob v1++(ob v2++(ob v3++ob v4))) ↑w7 v n sz cs->YH base (ob v1++(ob v'++(ob v3++ob v4))) ↑w8 v n sz cs:=λa=>a.app st av;refine⟨Qg I.o1 T (λb hb J=>h.d12 b hb J),by rw[Lc,LF];simpa using ho,Qg I.o3 T (λb hb J=>h.d23 b J hb),Qg I.o4 T (λb hb J=>h.d24 b J hb),VC h.d12 U (λx hx=>oo (l.1 x hx)),h.d13,h.d14,qD h.d23 U (λx hx=>oo (l.2.2.1 x hx)),qD h.d24 U (λx hx=>oo (l.2.2.2 x hx)),h.d34,?_,?_⟩
 ·exact λp G=>g (I.e1 p G)
 exact λp G=>by
  rcases Le.1 G with G|G
  ·exact g (I.e2 p G)
  simp only[oF]at G;subst G;exact g (YH.of_own hq ha oa (λb hb=>by
  rcases QcM hb with E|E|E|E
  ·have:=l.1 b E;omega
  ·have:=l.2.1 b E;omega
  ·have:=l.2.2.1 b E;omega
  have:=l.2.2.2 b E;omega))
theorem Kw.a3 {q:Int}(h:Kw base w v1 v2 v3 v4 cos rqs pls fbs)(Y:sW w w7)(ho:w8.ownsRow base 3 1 v' (pls.length+1) (pls.map (.int .i64)++[sS q]))
  (J:O6 (ob v3) w7 w8) (T:∀b∈ob v',b∈ob v3\/↑w7<=b):Kw base w8 v1 v2 v' v4 cos rqs (pls++[q]) fbs:=by
 have l:=h.lt;have hz:=Y.size;have G:=h.I Y;have av:∀b∈ob v1++(ob v2++(ob v'++ob v4)),b∈ob v1++(ob v2++(ob v3++ob v4))\/↑w7<=b:=by
  intro b hb;rcases QcM hb with E|E|E|E
  ·exact .inl (yz (.inl E))
  ·exact .inl (yz (.inr (.inl E)))
  ·rcases T b E with U|U
   ·exact .inl (yz (.inr (.inr (.inl U))))
   exact .inr U
  exact .inl (yz (.inr (.inr (.inr E))))
 have st:O6 (ob v1++(ob v2++(ob v3++ob v4))) w7 w8:=J.S (λb hb=>yz (.inr (.inr (.inl hb))));have g:∀{v:O3} {n sz:Nat} {cs:LV},YH base (ob v1++(ob v2++(ob v3++ob v4))) ↑w7 v n sz cs->YH base (ob v1++(ob v2++(ob v'++ob v4))) ↑w8 v n sz cs:=λa=>a.app st av;refine⟨Qg G.o1 J (λb hb I=>h.d13 b hb I),Qg G.o2 J (λb hb I=>h.d23 b hb I),Qh.snoc ho,Qg G.o4 J (λb hb I=>h.d34 b I hb),h.d12,VC h.d13 T (λx hx=>oo (l.1 x hx)),h.d14,VC h.d23 T (λx hx=>oo (l.2.1 x hx)),h.d24,qD h.d34 T (λx hx=>oo (l.2.2.2 x hx)),?_,?_⟩
 ·exact λp V=>g (G.e1 p V)
 exact λp V=>g (G.e2 p V)
theorem Kw.a4 {q:Rsn}(h:Kw base w v1 v2 v3 v4 cos rqs pls fbs)(Y:sW w w7)(ho:w8.ownsRow base 173 4 v' (fbs.length+1) (fbs.flatMap Z5++Z5 q))
  (J:O6 (ob v4) w7 w8) (T:∀b∈ob v',b∈ob v4\/↑w7<=b):Kw base w8 v1 v2 v3 v' cos rqs pls (fbs++[q]):=by
 have l:=h.lt;have hz:=Y.size;have G:=h.I Y;have av:∀b∈ob v1++(ob v2++(ob v3++ob v')),b∈ob v1++(ob v2++(ob v3++ob v4))\/↑w7<=b:=by
  intro b hb;rcases QcM hb with E|E|E|E
  ·exact .inl (yz (.inl E))
  ·exact .inl (yz (.inr (.inl E)))
  ·exact .inl (yz (.inr (.inr (.inl E))))
  rcases T b E with U|U
  ·exact .inl (yz (.inr (.inr (.inr U))))
  exact .inr U
 have st:O6 (ob v1++(ob v2++(ob v3++ob v4))) w7 w8:=J.S (λb hb=>yz (.inr (.inr (.inr hb))));have g:∀{v:O3} {n sz:Nat} {cs:LV},YH base (ob v1++(ob v2++(ob v3++ob v4))) ↑w7 v n sz cs->YH base (ob v1++(ob v2++(ob v3++ob v'))) ↑w8 v n sz cs:=λa=>a.app st av;refine⟨Qg G.o1 J (λb hb I=>h.d14 b hb I),Qg G.o2 J (λb hb I=>h.d24 b hb I),Qg G.o3 J (λb hb I=>h.d34 b hb I),by rw[Lc,LF];simpa using ho,h.d12,h.d13,VC h.d14 T (λx hx=>oo (l.1 x hx)),h.d23,VC h.d24 T (λx hx=>oo (l.2.1 x hx)),VC h.d34 T (λx hx=>oo (l.2.2.1 x hx)),?_,?_⟩
 ·exact λp V=>g (G.e1 p V)
 exact λp V=>g (G.e2 p V)
theorem jO (c:ZS)(pl:Qz)(ps:List (LI)):∀(l:List (LI)) (i:Nat) (s:Spc),(l.zipIdx i).foldl (QoL c pl ps) s =
  ⟨s.a,s.co++l.map (·.take c.co.length),s.rq++l.map (·.drop c.co.length),s.pl++l.map (λt=>plx ps (t.take c.co.length)),s.fb++(l.zipIdx i).filterMap (λp=>rsn c pl (plx ps (p.1.take c.co.length)) p.2 p.1)⟩
 | [],i,s=>od
 | t::l,i,s=>by
  rw[NI,LQ,jO c pl ps l (i+1)];unfold QoL;simp only[oS,Of,oZ,Oo,List.filterMap_cons];cases rsn c pl (plx ps (t.take c.co.length)) i t with
  | none=>rfl
  | some r=>simp
theorem z9 {c:ZS}{rs:LI}:∀{l:LI},(∀x∈wrf c.rq rs l,(c.ev.getD x.1.toNat ⟨.empty,false,false,false,0⟩).co=true)->rfd c rs l=none
 | [],_=>rfl
 | v::l,h=>by
  rw[wrf]at h;rw[rfd];by_cases E:0<=rfr v 0 c.rq rs
  ·rw[OV E]at h;have G:=h _ Lh;rw[OU (λe=>by rw[G]at e;cases e.2)];exact z9 λx hx=>h x (Lj _ hx)
  rw[OU E]at h;rw[OU (λe=>E e.1)];exact z9 h
theorem z8 {c:ZS}{rs:LI}{x:Int×Int}{t:xx}:∀{l:LI}{p:xx},wrf c.rq rs l=p++x::t->(∀y∈p,(c.ev.getD y.1.toNat ⟨.empty,false,false,false,0⟩).co=true)->(c.ev.getD x.1.toNat ⟨.empty,false,false,false,0⟩).co=false->rfd c rs l=some (x.2,x.1)
 | [],p,h,_,_=>by simp[wrf]at h
 | v::l,p,h,G,hx=>by
  rw[wrf]at h;rw[rfd];by_cases E:0<=rfr v 0 c.rq rs
  ·rw[OV E]at h;cases p with
   | nil =>
    simp only[Oo,List.cons.injEq]at h;obtain⟨I,_⟩:=h;subst I;rw[OV ⟨E,hx⟩]
   | cons y p =>
    simp only[oZ,List.cons.injEq]at h;obtain⟨I,T⟩:=h;have J:=G y Lh;subst I;rw[OU (λe=>by simp only[]at J;rw[J]at e;cases e.2)];exact z8 T (λy U=>G y (Lj _ U)) hx
  rw[OU E]at h;rw[OU (λe=>E e.1)];exact z8 h G hx
theorem Qii (c:ZS)(t:LI):vio c t=if(Uh c.ex c.cs t).2.2=true then some ((Uh c.ex c.cs t).1,(Uh c.ex c.cs t).2.1) else none:=by
 unfold vio Uh;by_cases E:0<=fix (VQ t) 0 c.ex
 ·rw[OV E,OV E];rfl
 rw[OU E,OU E];by_cases G:0<=fix (U8 t) 0 c.cs
 ·rw[OV G,OV G];rfl
 rw[OU G,OU G];rfl
def QsZ (N:Nat)(H:xC)(v:O3)(s:Spc):Prop:=∃va vm ve v1 v2 v3 v4 cos rqs,v=.agg #[va,sS s.a.st,vm,ve,v1,v2,v3,v4]/\cos.map (·.2)=s.co/\rqs.map (·.2)=s.rq /\
 ∀L:LN,(∀b∈L,b<N)->Zr L H va vm ve s.a/\JQ L H v1 cos/\JQ L H v2 rqs/\Qu L H v3 s.pl/\Zu L H v4 s.fb.length 4 (s.fb.flatMap Z5)
open Go.RowKit
def QeD (all:Array Oper)(i:Nat)(rest:xu):xu->Array Bool->Bool
 | [],ls=>Region.ready .any all ls == [i] && Xo all rest (ls.setIfInBounds i true)
 | (j,true)::l,ls=>(Region.ready .any all ls).contains j && Region.free .any all ls j && QeD all i rest l (ls.setIfInBounds j true)
 | (j,false)::l,ls=>!(Region.ready .any all ls).isEmpty && (Region.ready .any all ls).all (λk=>k == j || k == i) && Xo all ((j,false)::(l++rest)) (ls.setIfInBounds i true) && QeD all i rest l (ls.setIfInBounds j true)
def XM (all:xE)(d:Nat)(l:xu):Bool:=l.all λp=>!((QR all p.1).looksAt all.toArray).contains d && !((QR all p.1).dst == some d)
def Qnl (all:xE)(pre l:xu)(i:Nat)(rest:xu):Bool :=
 Region.noSelect all.toArray && (pre.length+(l.length+1+rest.length) == all.length) && Jh all.toArray pre (oP all.length false) && QeD all.toArray i rest l (ZT pre (oP all.length false))
  && (QR all i).guard.isNone && (match (QR all i).dst with|some d=>XM all d l|none=>false)
def XF (P:O5)(all:xE)(C:xA)(K:xz):xu->LN->Fr->O2->Prop
 | [],_,f,w=>K f w
 | (j,true)::l,own,f,w=>Z9 all f (QR all j)=true/\∃v,(∀w',(jt (QR all j)=true->C w')->(execOp (ev f) (QR all j)).run P w'=.ok (.value v) w')/\XF P all C K l own (QP f (QR all j).dst v) w
 | (j,false)::l,own,f,w=>Z9 all f (QR all j)=true/\∀w1,sW w w1->C w1->XO P (QR all j) f w1 λE w'=>C w'/\∃own',O6 own w1 w'/\(∀b∈own',b∈own\/(↑w1<=b/\b<↑w'))/\XF P all C K l own' E w'
section
variable {all:xE}{C:xA}{KF:xz}
attribute [local semireducible] XO in
theorem QnX {o:Oper}(G:∀cs b,o.op≠.select cs b){d:Nat}{v:O3}{K':xz}(I:d∉o.looksAt all.toArray)(J:o.dst≠some d)(hK:∀u w',K (QP f o.dst u) w'->K' (QP (QP f o.dst u) (some d) v) w')
  (h:XO P o f w K):XO P o (QP f (some d) v) w K':=by
 have hc:∀u,QP (QP f (some d) v) o.dst u=QP (QP f o.dst u) (some d) v:=λu=>qm f v u (λe E=>by cases E;exact J);unfold XO at *;rw[JX (all:=all) G f (some d) v (λe E=>by cases E;exact I)];generalize (execOp (ev f) o).run P w=r at *;cases r with
 | ok nx w' =>
  cases nx <;> simp only[upF]at h ⊢
  case value u=>rw[hc];exact hK u w' h
  case skip=>rw[hc];exact hK _ w' h
  case enter g args =>
   refine Calls.mono h λe T E=>?_;cases e with
   | returned u=>simp only at E ⊢;rw[hc];exact hK u T E
   | panicked c=>exact E.elim
   | outgrown=>exact E.elim
 | halt x w'=>exact h.elim
theorem yu {D:xw}{f0:Fr}{dst:xF}{v:O3}(hd:inD D dst=true)(h:∀t,J8 D t=false->f t=f0 t):∀t,J8 D t=false->QP f dst v t=f0 t:=λt ht =>
 (Xc (λe=>by rw[e]at hd;simp only[inD]at hd;rw[hd]at ht;cases ht) v).D (h t ht)
def Xu (all:xE)(D:xw)(l:xu):Bool:=l.all λp=>inD D (QR all p.1).dst
theorem XP.keeps {D:xw}{f0:Fr}:∀(l:xu) (f:Fr) (w:O2),Xu all D l=true->(∀t,J8 D t=false->f t=f0 t)->XP P all C K l f w->XP P all C (λI w'=>(∀t,J8 D t=false->I t=f0 t)/\K I w') l f w
 | [],f,w,_,E,h=>by simp only[XP]at h ⊢;exact⟨E,h⟩
 | (j,q)::l,f,w,hd,E,h=>by
  simp only[Xu,Ob,oI]at hd;have G:Xu all D l=true:=hd.2;simp only[XP]at h ⊢;cases J:Z9 all f (QR all j) with
  | false=>rw[J]at h;exact XP.keeps l _ _ G (yu hd.1 E) h
  | true =>
   rw[J]at h;cases q with
   | true=>obtain⟨v,T,hx⟩:=h;exact⟨v,T,XP.keeps l _ _ G (yu hd.1 E) hx⟩
   | false=>exact XO.S (λv w' hx=>⟨hx.1,XP.keeps l _ _ G (yu hd.1 E) hx.2⟩) h
theorem fp {l:xu}{own:LN}{v:O3}(E:∀w',(execOp (ev f) (QR all j)).run P w'=.ok (.value v) w')(h:XF P all C K l own (QP f (QR all j).dst v) w)
  (G:Z9 all f (QR all j)=true:=by rfl):XF P all C K ((j,true)::l) own f w:=⟨G,v,λw' _=>E w',h⟩
theorem fk {l:xu}{own:LN}(h:∀w1,sW w w1->C w1->XO P (QR all j) f w1 λE w'=>C w'/\∃own',O6 own w1 w'/\(∀b∈own',b∈own\/(↑w1<=b/\b<↑w'))/\XF P all C K l own' E w')
  (G:Z9 all f (QR all j)=true:=by rfl):XF P all C K ((j,false)::l) own f w:=⟨G,h⟩
end
attribute [irreducible] XF
def zj (P:O5)(all:xE)(K:xA->LN->Fr->O2->Prop):xu->xA->LN->Fr->O2->Prop
 | [],C,own,f,w=>K C own f w
 | (j,true)::l,C,own,f,w=>Z9 all f (QR all j)=true/\∃v,(∀w',(jt (QR all j)=true->C w')->(execOp (ev f) (QR all j)).run P w'=.ok (.value v) w')/\zj P all K l C own (QP f (QR all j).dst v) w
 | (j,false)::l,C,own,f,w=>Z9 all f (QR all j)=true/\∀w1,sW w w1->C w1->XO P (QR all j) f w1 λE w'=>∃C':xA,(∀x,C' x->C x)/\(∀x x',C' x->sW x x'->C' x')/\C' w'/\∃own',O6 own w1 w'/\(∀b∈own',b∈own\/(↑w1<=b/\b<↑w'))/\zj P all K l C' own' E w'
section
variable {all:xE}{C C0:xA}{KF:xA->LN->Fr->O2->Prop}
theorem zj.I (hK:∀C own f w w',KF C own f w->sW w w'->KF C own f w'):∀{l:xu}{C:xA}{own:LN}{f:Fr}{w w':O2},zj P all KF l C own f w->sW w w'->zj P all KF l C own f w'
 | [],_,_,_,_,_,h,E=>hK _ _ _ _ _ h E
 | (_,true)::_,_,_,_,_,_,h,E=>by
  obtain⟨G,v,I,hx⟩:=h;exact⟨G,v,I,zj.I hK hx E⟩
 | (_,false)::_,_,_,_,_,_,h,E=>⟨h.1,λJ T hc=>h.2 J (E.D T) hc⟩
attribute [local semireducible] XA XO in
theorem XA.sub {C':xA}(hC:∀x,C' x->C x):∀(k:Nat) (ls:Array Bool) (f:Fr) (w:O2),XA P all C' K k ls f w->XA P all C K k ls f w
 | 0,_,_,_,h=>h
 | k+1,ls,f,w,h=>by
  refine⟨h.1,λi hi o I=>?_⟩;have E:=h.2 i hi o I;cases G:Z9 all f o with
  | false=>rw[G]at E;exact XA.sub hC k _ _ _ E
  | true =>
   rw[G]at E;exact XO.S (λJ w' hx=>⟨hx.1.imp id (Or.imp id (hC w')),XA.sub hC k _ _ _ hx.2⟩) E
structure Fl3 (P:O5)(all:xE)(C0:xA)(K:xz)(KF:xA->LN->Fr->O2->Prop)(i d:Nat)(rest:xu)(Φ:O3->O2->Prop)(Dc:xw)(f1:Fr):Prop where
 stab:∀v (own:LN) w w',Φ v w->O6 own w w'->(∀b∈ow v,b∉own)->Φ v w'
 spec:∀f w,(∀t,J8 Dc t=false->f t=f1 t)->C0 w->XO P (QR all i) f w λf' w'=>sW w w'/\C0 w'/\Φ (f' d) w'/\∀b∈ow (f' d),↑w<=b/\b<↑w'
 fin:∀C own f w,KF C own f w->∀v,C w->(∀x,C x->C0 x)->Φ v w->(∀b∈ow v,b∉own/\b<↑w)->XP P all C K rest (QP f (some d) v) w
 S:∀C own f w w',KF C own f w->sW w w'->KF C own f w'
theorem jY:∀(l:xE) (j:Nat),l[j]?=none->QR l j=default
 | [],_,_=>rfl
 | _::l,0,h=>by simp at h
 | _::l,j+1,h=>jY l j (ou h)
theorem QcD (G:Region.noSelect all.toArray=true)(j:Nat):∀cs b,(QR all j).op≠.select cs b:=by
 intro cs b;cases E:all[j]? with
 | none=>rw[jY all j E];intro e;cases e
 | some o=>rw[ZG E];exact Region.noSelect_spec G j o cs b (ou E)
theorem Qe5 {i d:Nat}{rest:xu}{Φ:O3->O2->Prop}{Dc:xw}{f1:Fr}(hF:Fl3 P all C0 K KF i d rest Φ Dc f1)(I:Region.noSelect all.toArray=true){v:O3}:∀(l:xu) (C:xA) (own:LN) (ls:Array Bool) (f:Fr) (w:O2),(∀x,C x->C0 x)->(∀x x',C x->sW x x'->C x')->ls.size=all.length->XM all d l=true->zj P all KF l C own f w->C w->Φ v w ->
  (∀b∈ow v,b∉own/\b<↑w)->Xo all.toArray (l++rest) ls=true->XA P all C K (l++rest).length ls (QP f (some d) v) w
 | [],C,own,ls,f,w,J,hh,T,_,h,hC,U,hb,G=>Yq I rest ls _ w T (.inl hC) G (hF.fin C own f w h v hC J U hb)
 | (j,true)::l,C,own,ls,f,w,J,hh,T,hfr,h,hC,U,hb,G=>by
  simp only[XM,Ob,oI,Oe,List.contains_eq_mem,decide_eq_false_iff_not,beq_eq_false_iff_ne,ne_eq]at hfr;obtain⟨⟨h1,h2⟩,hfr⟩:=hfr;have hn:XM all d l=true:=by simpa[XM]using hfr
  have hd:∀e,some d=some e->e∉(QR all j).looksAt all.toArray:=λe V=>by cases V;exact h1
  simp only[oZ,Xo,oI]at G;obtain⟨⟨Y,hf⟩,hq⟩:=G;have h5:j∈Region.ready .any all.toArray ls:=by simpa using Y
  obtain⟨hg,u,hu,hx⟩:=h;cases E:all[j]? with
  | none =>
   exfalso;obtain⟨_,o,h9,_⟩:=mem_ready.1 h5;simp[E]at h9
  | some o =>
   have hA:∀(j:Nat) (o:Oper) cs b,all[j]?=some o->o.op≠.select cs b:=λj o cs b hj=>Region.noSelect_spec I j o cs b (ou hj);have hB:=λk ok hk=>Region.free_spec (ops:=all.toArray) (md:=.any) (i:=j) (oi:=o) (listed:=ls) (ou E) hf k ok (ou hk);have hw:Z9 all (QP f (some d) v) o=true:=by
    have:=UL (QR all j) f (some d) v hd;rw[ZG E]at this hg;rw[this];exact hg
   have hD:∀w',(jt o=true->C w')->(execOp (ev (QP f (some d) v)) o).run P w'=.ok (.value u) w':=λw' hc=>by
    have:=JX (all:=all) (QcD I j) f (some d) v hd;rw[ZG E]at this hu;rw[this];exact hu w' hc
   have h6:=Qe5 hF I l C own (ls.setIfInBounds j true) _ w J hh (ou T) hn hx hC U hb hq;rw[<-qm f v u (λe V=>by cases V;exact h2),ZG E]at h6;exact Kv (v:=u) (D:=λw=>jt o=true->C w) E (λ_ h=>h) hA _ ls _ w (λ_=>hC) hB h5 (.inl ⟨hw,hD⟩) h6
 | (j,false)::l,C,own,ls,f,w,J,hh,T,hfr,h,hC,U,hb,G=>by
  simp only[XM,Ob,oI,Oe,List.contains_eq_mem,decide_eq_false_iff_not,beq_eq_false_iff_ne,ne_eq]at hfr;obtain⟨⟨h1,h2⟩,hfr⟩:=hfr;have hn:XM all d l=true:=by simpa[XM]using hfr
  have hd:∀e,some d=some e->e∉(QR all j).looksAt all.toArray:=λe V=>by cases V;exact h1
  simp only[oZ,Xo,oI,beq_iff_eq]at G;obtain⟨Y,hq⟩:=G;show XA P all C K ((l++rest).length+1) ls _ w;refine J2 (λh0=>(by rw[h0]at Y;cases Y)) ?_;rw[Y];intro k hk o E;have hE:k=j:=by simpa using hk
  subst hE;have hy:=ZG E;have hw:Z9 all (QP f (some d) v) o=true:=by
   have:=UL (QR all k) f (some d) v hd;rw[hy]at this;rw[this,<-hy];exact h.1
  rw[hw,cond_true];have h3:=h.2 w (O6.Y _ _) hC;have h4:XO P (QR all k) (QP f (some d) v) w λf' w'=>(Vd all k=true\/w'=w\/C w')/\XA P all C K (l++rest).length (ls.setIfInBounds k true) f' w':=by
   refine QnX (all:=all) (QcD I k) h1 h2 (λu w' hx=>?_) h3;obtain⟨C',hz,hG,h7,own',h8,hH,hx⟩:=hx;refine⟨.inr (.inr (hz _ h7)),XA.sub hz _ _ _ _ (Qe5 hF I l C' own' _ _ w' (λx hx=>J x (hz x hx)) hG (ou T) hn hx h7 (hF.stab v own w w' U h8 (λb ha=>(hb b ha).1)) (λb ha=>⟨λhm=>?_,LU (hb b ha).2 h8.size⟩) hq)⟩;rcases hH b hm with h3|h3
   ·exact(hb b ha).1 h3
   exact Nat.lt_irrefl _ (LU (hb b ha).2 h3.1)
  rw[hy]at h4;exact h4
theorem Qe3 {i d:Nat}{rest:xu}{Φ:O3->O2->Prop}{Dc:xw}{f1:Fr}(T:Fl3 P all C0 K KF i d rest Φ Dc f1)(hs:Region.noSelect all.toArray=true)(hg:(QR all i).guard=none)(hd:(QR all i).dst=some d):∀(l:xu) (C:xA) (ls:Array Bool) (own:LN) (f:Fr) (w:O2),(∀x,C x->C0 x)->(∀x x',C x->sW x x'->C x')->ls.size=all.length->XM all d l=true->Xu all Dc l=true->(∀t,J8 Dc t=false->f t=f1 t) ->
  zj P all KF l C own f w->C w->(∀b∈own,b<↑w)->QeD all.toArray i rest l ls=true->XA P all C K (l.length+1+rest.length) ls f w
 | [],C,ls,own,f,w,U,ha,hh,hfr,V,hk1,h,hC,he,E=>by
  simp only[QeD,oI,beq_iff_eq]at E;obtain⟨hr,E⟩:=E;rw[show([]:xu).length+1+rest.length=rest.length+1 by simp;omega];refine J2 (λh0=>(by rw[h0]at hr;cases hr)) ?_;rw[hr];intro k hk o G;have hq:k=i:=by simpa using hk
  subst hq;have hn:=ZG G;have hx:=T.spec f w hk1 (U _ hC);rw[hn]at hg hd hx;rw[yD hg,cond_true];refine hx.S λv w' hx=>?_;rw[hd]at hx ⊢;obtain⟨Y,_,I,h4⟩:=hx;simp only[QP,X1]at I h4;have J:=ha _ _ hC Y;refine⟨.inr (.inr J),Yq hs rest _ _ _ (ou hh) (.inl J) E (T.fin C own f w' (T.S C own f w w' h Y) v J U I (λb hb=>⟨λhm=>Nat.lt_irrefl _ (LU (he b hm) (h4 b hb).1),(h4 b hb).2⟩))⟩
 | (j,true)::l,C,ls,own,f,w,U,ha,hh,hfr,V,hk1,h,hC,he,E=>by
  simp only[QeD,oI]at E;obtain⟨⟨hr,hf⟩,hu⟩:=E;have h5:j∈Region.ready .any all.toArray ls:=by simpa using hr
  have e:(oV ((j,true)::l))+1+rest.length=(l.length+1+rest.length)+1:=by simp;omega
  rw[e];have hw:XM all d l=true:=by simp only[XM,Ob,oI]at hfr;exact hfr.2
  simp only[Xu,Ob,oI]at V;have hy:Xu all Dc l=true:=V.2;cases G:all[j]? with
  | none =>
   exfalso;obtain⟨_,o,hA,_⟩:=mem_ready.1 h5;simp[G]at hA
  | some o =>
   obtain⟨h6,v,hv,hx⟩:=h;rw[ZG G]at h6 hv hx;have hB:∀(j:Nat) (o:Oper) cs b,all[j]?=some o->o.op≠.select cs b:=λj o cs b hj=>Region.noSelect_spec hs j o cs b (ou hj);have hD:=λk ok hk=>Region.free_spec (ops:=all.toArray) (md:=.any) (i:=j) (oi:=o) (listed:=ls) (ou G) hf k ok (ou hk);exact Kv (v:=v) (D:=λw=>jt o=true->C w) G (λ_ h=>h) hB _ ls f w (λ_=>hC) hD h5 (.inl ⟨h6,hv⟩) (Qe3 T hs hg hd l C _ own _ w U ha (ou hh) hw hy (by have:=yu (v:=v) V.1 hk1;rw[ZG G]at this;exact this) hx hC he hu)
 | (j,false)::l,C,ls,own,f,w,U,ha,hh,hfr,V,hk1,h,hC,he,E=>by
  simp only[QeD,oI,Ok,Bool.or_eq_true,beq_iff_eq,Oe]at E;obtain⟨⟨⟨h7,hr⟩,hE⟩,hu⟩:=E;have e:(oV ((j,false)::l))+1+rest.length=(l.length+1+rest.length)+1:=by simp;omega
  rw[e];have hw:XM all d l=true:=by simp only[XM,Ob,oI]at hfr;exact hfr.2
  simp only[Xu,Ob,oI]at V;have hy:Xu all Dc l=true:=V.2;refine J2 (λh0=>(by rw[h0]at h7;cases h7)) ?_;intro k hk o G;have hn:=ZG G;have h8:(ls.setIfInBounds k true).size=all.length:=by simpa using hh
  by_cases hq:k=i
  ·subst hq;have hx:=T.spec f w hk1 (U _ hC);rw[hn]at hg hd hx;rw[yD hg,cond_true];refine hx.S λv w' hx=>?_;rw[hd]at hx ⊢;obtain⟨Y,_,I,h4⟩:=hx;simp only[QP,X1]at I h4;have J:=ha _ _ hC Y;refine⟨.inr (.inr J),?_⟩;have hx:=Qe5 T hs ((j,false)::l) C own (ls.setIfInBounds k true) f w' U ha h8 hfr (zj.I T.S h Y) J I (λb hb=>⟨λhm=>Nat.lt_irrefl _ (LU (he b hm) (h4 b hb).1),(h4 b hb).2⟩) hE;rw[show((j,false)::l++rest).length=l.length+1+rest.length by simp;omega]at hx;exact hx
  have hG:k=j:=(hr k hk).resolve_right hq;subst hG;have Y:=h.1;have J:=h.2 w (O6.Y _ _) hC;rw[hn]at Y J;rw[Y,cond_true];refine J.S λv w' hx=>?_;obtain⟨C',hz,hH,h9,own',hI,hJ,hx⟩:=hx;refine⟨.inr (.inr (hz _ h9)),XA.sub hz _ _ _ _ (Qe3 T hs hg hd l C' _ own' _ w' (λx hx=>U x (hz x hx)) hH h8 hw hy (by have:=yu (v:=v) V.1 hk1;rw[hn]at this;exact this) hx h9 (λb hb=>?_) hu)⟩;rcases hJ b hb with I|I
  ·exact LU (he b I) hI.size
  exact I.2
theorem zj.keeps {D:xw}{f0:Fr}:∀(l:xu) (C:xA) (own:LN) (f:Fr) (w:O2),Xu all D l=true->(∀t,J8 D t=false->f t=f0 t)->zj P all KF l C own f w->zj P all (λC' o G w'=>(∀t,J8 D t=false->G t=f0 t)/\KF C' o G w') l C own f w
 | [],C,own,f,w,_,E,h=>⟨E,h⟩
 | (j,true)::l,C,own,f,w,hd,E,h=>by
  simp only[Xu,Ob,oI]at hd;obtain⟨I,v,J,hx⟩:=h;exact⟨I,v,J,zj.keeps l C own _ _ hd.2 (yu hd.1 E) hx⟩
 | (j,false)::l,C,own,f,w,hd,E,h=>by
  simp only[Xu,Ob,oI]at hd;refine⟨h.1,λT U hc=>XO.S (λv w' hx=>?_) (h.2 T U hc)⟩;obtain⟨C',V,Y,ha,own',he,hh,hx⟩:=hx;exact⟨C',V,Y,ha,own',he,hh,zj.keeps l C' own' _ _ hd.2 (yu hd.1 E) hx⟩
theorem f3p {l:xu}{own:LN}{v:O3}(E:∀w',(execOp (ev f) (QR all j)).run P w'=.ok (.value v) w')(h:zj P all KF l C own (QP f (QR all j).dst v) w)
  (G:Z9 all f (QR all j)=true:=by rfl):zj P all KF ((j,true)::l) C own f w:=⟨G,v,λw' _=>E w',h⟩
theorem Qe4 (C:xA)(pre l:xu)(i d:Nat)(rest:xu)(own:LN)(D Dc:xw)(S:α->List (Nat×O3))(I:α->xA->LN->O2->Prop)(Φ:O3->O2->Prop)
  (V:Qnl all pre l i rest=true) (T:(Xu all D pre && Xu all D l && Xu all Dc l)=true) (hd:(QR all i).dst=some d) (hC:C { w with drawn:=w.drawn+1 }) (ha:∀x x',C x->sW x x'->C x') (he:∀b∈own,b<↑w)
  (stab:∀v (own:LN) w w',Φ v w->O6 own w w'->(∀b∈ow v,b∉own)->Φ v w') (mono:∀z C own w w',I z C own w->sW w w'->I z C own w')
  (fin:∀z g own w v (C':xA),I z C' own w->C' w->(∀x,C' x->C x)->Φ v w->(∀b∈ow v,b∉own/\b<↑w)->XP P all C' K rest (QP (VR (S z) (mix D f g)) (some d) v) w)
  (h:XP P all C (λf1 _=>(∀g w,C w->XO P (QR all i) (mix Dc f1 g) w λE w'=>sW w w'/\C w'/\Φ (E d) w'/\∀b∈ow (E d),↑w<=b/\b<↑w')/\zj P all (λC' o E w'=>∃z,Xa E (S z)/\I z C' o w') l C own f1 { w with drawn:=w.drawn+1 }) pre f { w with drawn:=w.drawn+1 }):XA P all C K all.length (oP all.length false) f { w with drawn:=w.drawn+1 }:=by
 rw[LE,LE]at T;simp only[Qnl,oI,beq_iff_eq,Option.isNone_iff_eq_none]at V;obtain⟨⟨⟨⟨⟨G,hl⟩,hq⟩,hgo⟩,hg⟩,hfr⟩:=V;rw[hd]at hfr;have Y:=YI (K:=K) (m:=l.length+1+rest.length) G pre (oP all.length false) f _ hC hq
  (B:=λf1 _=>Fl3 P all C K (λC' o E w'=>(∀t,J8 D t=false->E t=f t)/\∃z,Xa E (S z)/\I z C' o w') i d rest Φ Dc f1/\zj P all (λC' o E w'=>(∀t,J8 D t=false->E t=f t)/\∃z,Xa E (S z)/\I z C' o w') l C own f1 { w with drawn:=w.drawn+1 })
  (λf1 hB=>Qe3 hB.1 G hg hd l C (ZT pre (oP all.length false)) own f1 _ (λ_ h=>h) ha (by rw[YM];simp) hfr T.2 (λ_ _=>rfl) hB.2 hC he hgo)
  (XP.keeps_mono _ _ _ (XP.keeps pre f _ T.1.1 (λ_ _=>O) h) (λf1 w1 hx=>⟨⟨stab,?_,?_,?_⟩,zj.keeps l C own _ _ T.1.2 hx.1 hx.2.2⟩))
 ·rw[hl]at Y;exact Y
 ·intro E w' J U;have:=hx.2.1 E w' U;rw[Vb J]at this;exact this
 ·rintro C' o E w' ⟨J,z,G,hi⟩ v U hf hv hb;have:=fin z E o w' v C' hi U hf hv hb;rw[Vb J,XG G]at this;exact this
 rintro C' o E w' hj ⟨J,z,G,hi⟩ hh;exact⟨J,z,G,mono z C' o _ _ hi hh⟩
theorem f2k {l:xu}{own:LN}(h:∀E,sW w E->C E->XO P (QR all j) f E λI w'=>C w'/\∃own',O6 own E w'/\(∀b∈own',b∈own\/(↑E<=b/\b<↑w'))/\zj P all KF l C own' I w')
  (J:Z9 all f (QR all j)=true:=by rfl) (T:∀x x',C x->sW x x'->C x':=by exact λ_ _ G U=>G.D U):zj P all KF ((j,false)::l) C own f w :=
 ⟨J,λE G hc=>XO.S (λ_ _ hx=>⟨C,λ_ h=>h,T,hx⟩) (h E G hc)⟩
theorem f2e {own:LN}{S:α->List (Nat×O3)}{I:α->LN->O2->Prop}(h:∃z,Xa f (S z)/\I z own w):zj P all (λC' o E w'=>∃z,Xa E (S z)/\(C'=C/\I z o w')) [] C own f w :=
 let⟨z,a,b⟩:=h
 ⟨z,a,O,b⟩
theorem V8 (C:xA)(pre l:xu)(i d:Nat)(rest:xu)(own:LN)(D Dc:xw)(S:α->List (Nat×O3))(I:α->LN->O2->Prop)(Φ:O3->O2->Prop)
  (G:Qnl all pre l i rest=true) (J:(Xu all D pre && Xu all D l && Xu all Dc l)=true) (hd:(QR all i).dst=some d) (hC:C { w with drawn:=w.drawn+1 }) (T:∀b∈own,b<↑w)
  (stab:∀v (own:LN) w w',Φ v w->O6 own w w'->(∀b∈ow v,b∉own)->Φ v w') (mono:∀z own w w',I z own w->sW w w'->I z own w')
  (fin:∀z g own w v,I z own w->C w->Φ v w->(∀b∈ow v,b∉own/\b<↑w)->XP P all C K rest (QP (VR (S z) (mix D f g)) (some d) v) w)
  (h:XP P all C (λf1 _=>(∀g w,C w->XO P (QR all i) (mix Dc f1 g) w λE w'=>sW w w'/\C w'/\Φ (E d) w'/\∀b∈ow (E d),↑w<=b/\b<↑w')/\zj P all (λC' o E w'=>∃z,Xa E (S z)/\(C'=C/\I z o w')) l C own f1 { w with drawn:=w.drawn+1 }) pre f { w with drawn:=w.drawn+1 })
  (U:∀x x',C x->sW x x'->C x':=by exact λ_ _ V Y=>V.D Y):XA P all C K all.length (oP all.length false) f { w with drawn:=w.drawn+1 }:=
 Qe4 C pre l i d rest own D Dc S (λz C' o w=>C'=C/\I z o w) Φ G J hd hC U T stab (λz _ o w w' h hs=>⟨h.1,mono z o w w' h.2 hs⟩)
  (λz g o w v C' h ha _ hv hb=>by obtain⟨rfl,hi⟩:=h;exact fin z g o w v hi ha hv hb) h
theorem QhS {Q:Exit->Fr->O2->Prop}(C:xA)(pre l:xu)(i d:Nat)(rest:xu)(own:LN)(D Dc:xw)(S:α->List (Nat×O3))(I:α->LN->O2->Prop)(Φ:O3->O2->Prop)(G:P.follows .mixedOrders=true)(J:Xx n all=true)
  (T:Qnl all pre l i rest=true) (U:(Xu all D pre && Xu all D l && Xu all Dc l)=true) (hd:(QR all i).dst=some d) (hC:C { w with drawn:=w.drawn+1 }) (V:∀b∈own,b<↑w)
  (stab:∀v (own:LN) w w',Φ v w->O6 own w w'->(∀b∈ow v,b∉own)->Φ v w') (mono:∀z own w w',I z own w->sW w w'->I z own w')
  (fin:∀z g own w v,I z own w->C w->Φ v w->(∀b∈ow v,b∉own/\b<↑w)->XP P all C (λf w=>Q .normal f w) rest (QP (VR (S z) (mix D f g)) (some d) v) w)
  (h:XP P all C (λf1 _=>(∀g w,C w->XO P (QR all i) (mix Dc f1 g) w λE w'=>sW w w'/\C w'/\Φ (E d) w'/\∀b∈ow (E d),↑w<=b/\b<↑w')/\zj P all (λC' o E w'=>∃z,Xa E (S z)/\(C'=C/\I z o w')) l C own f1 { w with drawn:=w.drawn+1 }) pre f { w with drawn:=w.drawn+1 })
  (Y:∀x x',C x->sW x x'->C x':=by exact λ_ _ h1 h2=>h1.D h2):W P n (.region id all.toArray true) Q f w :=
 JJ C G J (V8 C pre l i d rest own D Dc S I Φ T U hd hC V stab mono fin h Y)
end
attribute [irreducible] zj
abbrev K9:LV:=[nS,nS,nS,nS,nS]
abbrev ze:LV:=[nS,sS 0,nS,nS]
theorem Js {a:Array UInt8}(h:a.size<=100):(⟨a⟩:ByteArray).size<=9223372036854775807:=by
 show a.size<=_;omega
def rgB (N M:Nat):LN:=(oJ M).filter λb=>decide (N<=b)
theorem UC {M b:Nat}:b∈rgB N M↔N<=b/\b<M:=by
 unfold rgB;rw[LJ,MI,decide_eq_true_iff];exact And.comm
instance:Bw sV 89 [nS,sS 0,nS,nS,nS,nS,nS,nS] [(0,4),(4,1),(5,1),(6,1),(7,1)]:={}
def spF (c:ZS)(pl:Qz)(ps:List (LI))(l:List (LI)):List Rsn:=l.zipIdx.filterMap (λp=>rsn c pl (plx ps (p.1.take c.co.length)) p.2 p.1)
theorem QiH {c:ZS}{pl:Qz}{ps:List (LI)}{l:List (LI)}{k:Nat}(h:k<l.length):spF c pl ps (l.take (k+1))=spF c pl ps (l.take k)++(rsn c pl (plx ps ((l[k]'h).take c.co.length)) k (l[k]'h)).toList:=by
 unfold spF;rw[Ll h,List.zipIdx_append,List.filterMap_append];have e:0+(l.take k).length=k:=by rw[LC];omega
 rw[e];simp only[List.zipIdx_cons,List.zipIdx_nil,List.filterMap_cons,List.filterMap_nil];cases rsn c pl (plx ps ((l[k]'h).take c.co.length)) k (l[k]'h) <;> rfl
theorem QfD (c:ZS)(pl:Qz)(ps:List (LI))(l:List (LI)):(spF c pl ps l).length<=l.length:=by
 unfold spF;refine Lz (List.length_filterMap_le _ _) ?_;rw[List.length_zipIdx];exact Lp _
theorem QaK {c:ZS}{pl sa:Qz}{ps ts:List (LI)}(E:xp (O8 c.co)=some (pl,ps))(G:xp (O8 c.co++O8 c.rq)=some (sa,ts)):
  spc c=⟨sa,ts.map (·.take c.co.length),ts.map (·.drop c.co.length),ts.map (λt=>plx ps (t.take c.co.length)),spF c pl ps ts⟩:=by
 unfold spc J7 syQ;rw[E,G];simp only[];rw[jO];simp[spF]
theorem Qk5 {s:List ByteArray}{x:Jp}(h:Yw n u s x=0):x.a.st≠0:=by
 unfold Yw at h;split at h
 ·cases h
 split at h
 ·cases h
 split at h
 ·rename_i G E;exact OX h E
 split at h
 ·cases h
 split at h
 ·cases h
 assumption
theorem Qdl {n:Nat}{al:LI}:∀{l:List Jp}{s:List ByteArray}{u:LI},(Yx n al s u l).1=0->∀x∈l,x.a.st≠0
 | [],_,_,_,x,hx=>by cases hx
 | y::l,s,u,h,x,hx=>by
  rw[V4]at h;by_cases E:Yw n al s y≠0
  ·rw[OV E]at h;exact OX h E
  rw[OU E]at h;have G:Yw n al s y=0:=Lt.1 E;rcases Lk.1 hx with rfl|hx
  ·exact Qk5 G
  exact Qdl h x hx
theorem Qk6 {c:ZS}(h:Z2 c=0):∀x∈c.co,x.a.st≠0:=by
 unfold Z2 at h;by_cases E:XQ c.ev≠0
 ·rw[OV E]at h;exact OX h E
 rw[OU E]at h;by_cases I:c.co.length=0
 ·rw[OV I]at h;cases h
 rw[OU I]at h;by_cases J:8<c.co.length\/12<c.co.length+c.rq.length
 ·rw[OV J]at h;cases h
 rw[OU J]at h;by_cases G:(Yx c.ev.length (VJ c.ev.length) [] [] c.co).1≠0
 ·rw[OV G]at h;exact OX h G
 exact Qdl (Lt.1 G)
theorem Qcy {c:ZS}(h:Z2 c=0){Q:List (LI)}(T:xp (O8 c.co)=some (A,Q)):QS A/\A.st=(Q.length:Int)/\0<Q.length/\∀e∈A.al,0<=e/\e<(c.ev.length:Int):=by
 have hok:=YT h;have G:=YX hok.co;have hsp:=Yz G T;refine⟨hsp.1.okay G,hsp.1.st,?_,λe J=>?_⟩
 ·refine Nat.pos_of_ne_zero λU=>?_;obtain⟨a,I,E⟩:=hsp.2.1 U;obtain⟨x,hx,rfl⟩:=Lx.1 I;exact Qk6 h x hx E
 rw[hsp.1.al]at J;obtain⟨a,I,E⟩:=(Jn G e).1 J;obtain⟨x,hx,rfl⟩:=Lx.1 I;exact⟨((hok.co x hx).al e E).1,hok.ce x hx e E⟩
theorem Qi5 {Q:List (LI)}(h:0<Q.length)(t:LI):0<=plx Q t/\plx Q t<(Q.length:Int):=by
 unfold plx;split
 ·rename_i E;have:=L7 E;omega
 omega
theorem Vt.take {a b:List Qz}{t:LI}(h:Vt (a++b) t):Vt a (t.take a.length):=by
 have hl:=h.1;rw[Lc]at hl;refine⟨by rw[LC];omega,λi G E=>?_⟩;have:=h.2 i oa (by rw[Lc];omega);rw[Ms E]at this;rw[M9];exact this
theorem Vt.drop {a b:List Qz}{t:LI}(h:Vt (a++b) t):Vt b (t.drop a.length):=by
 have hl:=h.1;rw[Lc]at hl;refine⟨by rw[Mo];omega,λi E G=>?_⟩;have:=h.2 (a.length+i) oa (by rw[Lc];omega);rw[Ni oa]at this;rw[List.getElem_drop];simpa using this
theorem Vt.tpOk {l:List Jp}{t:LI}(h:Vt (O8 l) t):QnZ (szs l) t:=by
 have hl:=h.1;unfold O8 at hl;rw[Ln]at hl;refine⟨by unfold szs;rw[Ln];exact hl,λi hi=>?_⟩;have E:=h.2 i hi (by unfold O8;rw[Ln];omega);have G:i<(szs l).length:=by unfold szs;rw[Ln];omega
 rw[<-Zo hi,<-Zo G];unfold O8 szs at *;simpa using E
theorem Kw.add {W I J U:O2}{V Y v3 E c0 c1 c2 c3:O3}{cos rqs:List TV}{pls:LI}{fbs:List Rsn}{q:Rsn}(hB:QK ↑W G T [c0,c1,c2,c3,V,Y,v3,E])(hS:Kw base W V Y v3 E cos rqs pls fbs)(ha:G<base)(h1:sW W I)
  (ho:J.ownsRow base 173 4 v' (fbs.length+1) (fbs.flatMap Z5++Z5 q)) (h2:O6 (ob E) I J) (hn:∀b∈ob v',b∈ob E\/↑I<=b) (h3:O6 [G] J U):
  O6 (G::ob E) W U/\Kw base U V Y v3 v' cos rqs pls (fbs++[q])/\(∀x∈G::ob E,∃o:Obj,W.heap[x]?=some o/\o.isCells=true):=by
 refine⟨((h1.any).V (h2.S λx hx=>Lj _ hx)).V (h3.S λx hx=>?_),(hS.a4 h1 ho h2 hn).low h3 (λx hx=>?_),λx hx=>?_⟩
 ·simp only[oF]at hx;subst hx;exact Lh
 ·simp only[oF]at hx;subst hx;exact ha
 rcases Lk.1 hx with rfl|hx
 ·exact hB.cells
 exact Go.Lg.Q7 hS.o4 x hx
theorem Ua (h0:Ya L ↑w c)(mz:Kb w 4096):
  QU sV 31 [c.val] w λr w'=>sW w w'/\∃v,r=.tuple #[v,sS (YQ c.C)]/\(∃us,v=sT us/\us.length=8/\ZL us)/\(YQ c.C=0->QsZ ↑w ↑w' v (spc c.C)):=by
 have h:=h0.up (L':=[]) od;refine Zd (YQ c.C) λE hE=>?_;refine QU.of_G 20 func31 O ntmps31 results31 od ?_;refine QQ<|Qx oh oh<|Zf c.cells λb1 w1 hJ hb1 m0=>QT [nS,sS 0,nS,nS,nS,nS,nS,nS] λb2 w2 hF hb2 g0=>Qb ?_;have ki:=hJ.D hF;have m1:=m0.lt;have kj:=g0.lt;have m2:=m0.I hF;refine QQ<|Qx oh oh<|Q3 m2 O O<|Qw<|(Qdr (h.I ki) (mz.I ki)).S ?_;rintro r3 w3 ⟨h6,vp,rfl,hbad,m3⟩;rw[hE]at hbad m3 ⊢;have m4:=ki.D h6;refine Qa<|QO O O<|QO O O<|x Qe<|Qb<|QQ<|QQ<|Qx oh oh<|Qa<|ZN O O<|xe<|Qn2 O (λkk=>?_) (λkk=>?_)
 ·refine QQ<|Qx oh oh<|x (ZB [] Z)<|Qa<|Q5 [nS,sS 0,nS,nS,nS,nS,nS,nS] (g0.I h6) ⟨O,O,O,O,O,O,O,O,Z⟩ λw4 hO hB4=>Qb<|J4 ⟨λ_ h=>(by cases h),Mx,[.agg #[nS,sS 0,nS,nS,nS,nS,nS,nS],sS E],λW' hR=>⟨⟨JN (hB4.I hR),rfl,Z⟩,(m4.Q hO oa).D hR,_,rfl,⟨_,rfl,rfl,rfl,rfl,rfl,rfl,rfl,rfl,rfl,rfl,Z⟩,λe=>OX e kk⟩⟩
 have m5:E=0:=Lt.1 kk;obtain⟨b,q,rfl,rfl,hQ,hw,hF3⟩:=m3 m5;refine Yb<|QQ<|Qx oh oh<|Qa<|Z7 O<|Q9 O<|x (ZR (us:=ZJ q.s) hw.B O O O)<|x (ZB [(0,ZJ q.s)] ⟨O,O,Z⟩)<|QT [nS,sS 0,nS,nS,nS,nS,nS,nS] λI w5 hZ kn h7 =>
  Q5 [q.s.va,sS q.s.a.st,q.s.vm,q.s.ve,nS,nS,nS,nS] h7 ⟨hw.s.al.one,O,hw.s.mr.one,hw.s.ed.one,O,O,O,O,Z⟩ λU g2 h7=>xe ?_
 have m6:sW w3 U:=hZ.Q g2 kn;have ko:=h7.lt;have m7:=hw.I m6;have hz3:=h6.size;refine QQ<|QQ<|Qx oh oh<|Qa<|Z7 O<|Qs O m7.B O O<|QG m7.ts.arr O<|Qa<|xe ?_;have m8:=(zq (λa ha=>by
  rcases Le.1 ha with ha|ha
  ·exact YX (YT hQ.ok).co a ha
  exact YX (YT hQ.ok).rq a ha) hQ.s)
 have kq:=m8.1;have m9:=m8.2;simp only[]at kq m9;have hok:=YT hQ.ok;have hckc:=hok.c8;have ga:q.c.C.co.length=q.c.co.length:=Ln ..;have hrel:q.c.C.rq.length=q.c.rq.length:=Ln ..;have hcr:=hok.cr;have hal:(O8 q.c.C.co++O8 q.c.C.rq).length=q.c.co.length+q.c.rq.length:=by rw[Lc];unfold O8;rw[Ln,Ln,ga,hrel]
 refine Zd (q.ts.map (·.2)) λT hT=>?_;rw[hT]at kq m9;have hTn:q.ts.length=T.length:=by rw[<-hT,Ln]
 refine ZM<|KL (α:=Nat×(O3×O3×O3×O3)×List TV×List TV×LI) [(7,17),(37,99),(100,118)] (λz=>[(37,sS z.1)]) (λz ds W'=>z.1<=q.ts.length/\O6 [I] U W'/\KN ↑U ↑W' ds W'/\QK ↑W' I 89 [q.s.va,sS q.s.a.st,q.s.vm,q.s.ve,z.2.1.1,z.2.1.2.1,z.2.1.2.2.1,z.2.1.2.2.2] /\
  Kw ↑U W' z.2.1.1 z.2.1.2.1 z.2.1.2.2.1 z.2.1.2.2.2 z.2.2.1 z.2.2.2.1 z.2.2.2.2 (spF q.c.C q.p.a (q.qs.map (·.2)) (T.take z.1))/\z.2.2.1.map (·.2)=(T.take z.1).map (·.take q.c.co.length)/\z.2.2.2.1.map (·.2)=(T.take z.1).map (·.drop q.c.co.length)/\z.2.2.2.2=(T.take z.1).map (λt=>plx (q.qs.map (·.2)) (t.take q.c.co.length)))
  (λz=>q.ts.length - z.1) oh (0,(nS,nS,nS,nS),[],[],[]) La
  ⟨Lo _,O6.Y _ _,⟨Mx,λD hD=>by cases hD⟩,h7,Kw.nil _ _,rfl,rfl,rfl⟩ ?_
 rintro⟨k,⟨v1,v2,v3,Y⟩,cos,rqs,pls⟩ g ds w7 ⟨hk,kr,pc,kt,hf,gi,gj,gk⟩;simp only[]at hk kt hf gi gj gk;have gl:sW w3 w7:=m6.Q kr kn;have pd:=m4.D gl;have hz7:=kr.size;have g3:(T.take k).length=k:=by rw[LC];omega
 have hcosl:cos.length=k:=by have:=OW oV gi;rw[Ln,Ln,g3]at this;exact this
 have hrqsl:rqs.length=k:=by have:=OW oV gj;rw[Ln,Ln,g3]at this;exact this
 have hplsl:pls.length=k:=by rw[gk,Ln,g3]
 have pf:=QfD q.c.C q.p.a (q.qs.map (·.2)) (T.take k);rw[g3]at pf;refine Zd (spF q.c.C q.p.a (q.qs.map (·.2)) (T.take k)) λfbs g4=>?_;rw[g4]at hf pf;refine Zd (ob v1++(ob v2++(ob v3++ob Y))) λav gm=>?_;have gb:∀x∈av,↑U<=x/\x<w7.heap.size:=λx hx=>by
  rw[<-gm]at hx;rcases QcM hx with G|G|G|G
  ·exact Qi hf.o1 x G
  ·exact Qi hf.o2 x G
  ·exact Qi hf.o3 x G
  exact Qi hf.o4 x G
 have g5:I∉av:=λJ=>oo (gb I J).1
 have ku:∀x∈av,x∈I::av:=λx hx=>Lj _ hx;have g6:JR (I::av) b ↑w7 q:=(hw.up (λx hx=>.inr (by
  rcases Lk.1 hx with rfl|hx
  ·exact kn
  have:=(gb x hx).1;omega))).I gl
 refine QQ<|Qx oh oh<|ZW O O<|xe<|QQ<|U3 O (λpg=>?_) (λpg=>?_)
 ·refine JL ?_;rw[Lr oa]at gi gj gk g4;have hsp:=QaK hQ.p hQ.s;rw[hT,ga,<-gi,<-gj,<-gk,g4]at hsp;have ph:=h6.D gl;refine QQ<|Qx oh oh<|Q3 kt O O<|Q5 [q.s.va,sS q.s.a.st,q.s.vm,q.s.ve,v1,v2,v3,Y] (g0.I ph) ⟨hw.s.al.one,O,hw.s.mr.one,hw.s.ed.one,QA hf.o1,QA hf.o2,QA hf.o3,QA hf.o4,Z⟩ λw8 g7 hB8=>Qb ?_;have hb2w:b2<U.heap.size:=oa
  have gn:KN ↑U ↑w7 ds w8:=pc.blk g7 (g0.I ph);have hb2d:b2∉ds:=λJ=>oo (gn.2 b2 J).1
  have hS8:=hf.low g7 (λx hx=>by simp only[oF]at hx;subst hx;exact hb2w);refine J4 ⟨λD hD=>(gn.2 D hD).2.2,gn.1,[.agg #[q.s.va,sS q.s.a.st,q.s.vm,q.s.ve,v1,v2,v3,Y],sS E],λW' hR=>?_⟩;have g8:Lg.JS [] w8 W':=Lg.JS.nonc hR (λD hD=>⟨_,(gn.2 D hD).2.2,O⟩);have gc:=hR.size;have h8:=hS8.cst g8 gc;refine⟨⟨JN (hB8.J hR hb2d),OW sS m5.symm,Z⟩,(pd.Q g7 oa).O hR (λD hD=>.inr (oo (gn.2 D hD).1)),_,O,⟨_,O,O,hw.s.al.one,O,hw.s.mr.one,hw.s.ed.one,QA hf.o1,QA hf.o2,QA hf.o3,QA hf.o4,Z⟩,λ_=>?_⟩;have hl9:pls.length<=1099511627776:=oa
  have hl8:fbs.length<=1099511627776:=oa
  rw[hsp];refine⟨q.s.va,q.s.vm,q.s.ve,v1,v2,v3,Y,cos,rqs,O,O,O,λL hL=>⟨?_,⟨QN h8.o1 oa (λx hx J=>?_),λp hp=>h8.e1 p hp L (λx hx=>?_)⟩,⟨QN h8.o2 oa (λx hx J=>?_),λp hp=>h8.e2 p hp L (λx hx=>?_)⟩,QN h8.o3 hl9 (λx hx J=>?_),QN h8.o4 hl8 (λx hx J=>?_)⟩⟩
  ·have G:=((hF3 (b2::L) (λx hx=>by
    rcases Lk.1 hx with rfl|hx
    ·exact kj
    have:=hL x hx;omega)).1.I gl).st (g7.S (λx hx=>by simp only[oF]at hx;subst hx;exact Lh))
   have h2:=G.up (L':=L) (λx hx=>.inl (Lj _ hx));exact⟨h2.al.cst (g8.S od) gc,h2.mr.cst (g8.S od) gc,h2.ed.cst (g8.S od) gc⟩
  ·have:=(Qi h8.o1 x hx).1;have:=hL x J;omega
  ·exact .inl (oo (hL x hx))
  ·have:=(Qi h8.o2 x hx).1;have:=hL x J;omega
  ·exact .inl (oo (hL x hx))
  ·have:=(Qi h8.o3 x hx).1;have:=hL x J;omega
  have:=(Qi h8.o4 x hx).1;have:=hL x J;omega
 have gq:k<q.ts.length:=by have h39:(k:Int)<(q.ts.length:Int):=pg;omega
 have gr:k<T.length:=oa
 have pn:=Lm gq;have hTe:T[k]'gr=(q.ts[k]'gq).2:=by subst hT;simp
 have h4:=QiH (c:=q.c.C) (pl:=q.p.a) (ps:=q.qs.map (·.2)) gr;have gs:T.take (k+1)=T.take k++[T[k]'gr]:=Ll gr;have ge:=kq _ (Lm gr);rw[g4]at h4;rw[hTe]at h4 gs ge;refine Yb<|QgT (α:=(O3×O3×O3×O3)×List TV×List TV×LI) [(7,17),(38,117)] (λz=>[(37,sS k)]) (λz hU W'=>O6 [I] U W'/\KN ↑U ↑W' hU W'/\QK ↑W' I 89 [q.s.va,sS q.s.a.st,q.s.vm,q.s.ve,z.1.1,z.1.2.1,z.1.2.2.1,z.1.2.2.2] /\
  Kw ↑U W' z.1.1 z.1.2.1 z.1.2.2.1 z.1.2.2.2 z.2.1 z.2.2.1 z.2.2.2 (spF q.c.C q.p.a (q.qs.map (·.2)) (T.take (k+1)))/\z.2.1.map (·.2)=(T.take (k+1)).map (·.take q.c.co.length)/\z.2.2.1.map (·.2)=(T.take (k+1)).map (·.drop q.c.co.length)/\z.2.2.2=(T.take (k+1)).map (λt=>plx (q.qs.map (·.2)) (t.take q.c.co.length))) oh ?_ ?_
 rotate_left
 ·rintro⟨⟨u1,u2,u3,u4⟩,cos',rqs',pls'⟩ g hU W ⟨hsW,hDW,hBW,hSW,G,h2,h3⟩;refine Qx oh oh<|QB O O<|Qa<|xe ?_;exact⟨(k+1,(u1,u2,u3,u4),cos',rqs',pls'),oe,La,gq,hsW,hDW,hBW,hSW,G,h2,h3⟩
 refine ZM<|QQ<|Qx oh oh<|Qa<|O9 (g:=YK) KB g6.ts.arr O O gq λa40 po=>?_;refine Zd (q.ts[k]'gq) λt ht=>?_;rw[ht]at po pn h4 gs ge;have htl:t.2.length=q.c.co.length+q.c.rq.length:=by rw[ge.1,hal]
 refine x (Qq po O)<|QT [sS 0] λb7 w9 hs9 hb7 hB9=>Qo<|Qv (j:=0) (u:=sS k) hB9 O O og O λw10 hs10 hB10 =>
  Qb ?_
 have kv:sW w7 w10:=hs9.Q hs10 hb7;refine QQ<|Qx oh oh<|Qa<|Qa<|Qw<|(Qce (g6.I kv) ((g6.ts.each t pn).I kv) oa).S ?_;rintro r11 pp ⟨pt,v9,pu,rfl,hK,h9⟩;refine Qa<|QO O O<|QO O O<|x Qe<|Qb ?_;have kw:=kv.D pt;have kx:=g6.I kw;refine Zd (t.2.take q.c.co.length) λtc hY=>?_;refine Zd (t.2.drop q.c.co.length) λtr gt=>?_;rw[ga]at h4;rw[hY]at hK h4;rw[gt]at h9;have htcl:tc.length=q.c.co.length:=by rw[<-hY,LC];omega
 have htrl:tr.length=q.c.rq.length:=by rw[<-gt,Mo];omega
 have hbdt:=ge.bd (m:=4096) (λa ha=>by
  rcases Le.1 ha with ha|ha
  ·exact(YX hok.co a ha).st1
  exact(YX hok.rq a ha).st1)
 have pw:∀x∈tc,0<=x/\x<4096:=λx hx=>hbdt x (L2 (by rw[hY];exact hx));refine QQ<|Ub (sW pp) [oz 0,oz 1,oz 2,oz 3,oz 4,oA 5,oz 6,oz 7] mixed oh oh oc (O6.X _ _) ?_;refine p Qy<|p (YN O)<|p (QH O)<|pq (λ_ hc=>Qk (kx.B.I hc) O O)<|p Qy<|pk<|xg<|(QbJ (hK.I (O6.X _ _)) ((mz.I (pd.D kw)).I (O6.X _ _)) pw oa).S ?_;rintro r12 hg ⟨rfl,hs12⟩;have gg:=(O6.X [] pp).D hs12;refine⟨gg,?_⟩;have pz:(match xh q.mm (KU tc) with|some u=>u|none=>sS 0)=sS (plx (q.qs.map (·.2)) tc):=by
  rw[hQ.m tc htcl (λx hx=>(pw x hx).1)];unfold plx;by_cases J:tc∈q.qs.map (·.2)
  ·rw[OV J,OV J]
  rw[OU J,OU J]
 refine Zd (plx (q.qs.map (·.2)) tc) λpi kz=>?_;rw[kz]at pz h4;refine pq (λ_ hc=>(Jr (k:=KU tc) (kx.m.I hc) O O).D (OW (λv=>Result.ok (Next.value v) _) pz))<|p ZI<|pe ?_;have gh:=kw.D gg;have hK:=hK.I gg;have h9:=h9.I gg;have h7:=kt.I gh;have gu:=hf.I gh;have hS12d:=gu.I (O6.X [] hg);have hz712:=gh.size;have hzd:({ hg with drawn:=hg.drawn+1 }:O2).heap.size=hg.heap.size:=rfl
 have hC0:O6 av hg { hg with drawn:=hg.drawn+1 }:=O6.X _ _
 have fin:∀{hh hj hr ho hq:O3} {wx wy:O2},O6 av hg wx->Kw ↑U wx hh hj hr Y (cos++[(ho,tc)]) (rqs++[(hq,tr)]) (pls++[pi]) fbs->O6 [I] wx wy->QK ↑wy I 89 [q.s.va,sS q.s.a.st,q.s.vm,q.s.ve,hh,hj,hr,Y] ->
   O6 (I::av) hg wy/\QK ↑wy I 89 [q.s.va,sS q.s.a.st,q.s.vm,q.s.ve,hh,hj,hr,Y]/\Kw ↑U wy hh hj hr Y (cos++[(ho,tc)]) (rqs++[(hq,tr)]) (pls++[pi]) fbs:=λhC hP hs hB =>
  ⟨(hC.S ku).V (hs.S (λx hx=>by simp only[oF]at hx;subst hx;exact Lh)),hB,hP.low hs (λx hx=>by simp only[oF]at hx;subst hx;exact ko)⟩
 have hkl:k<=4096:=oa
 have htr16:tr.length<=16:=oa
 have htc40:tc.length<=1099511627776:=oa
 have htr40:tr.length<=1099511627776:=oa
 have m1:cos.length+1<=1099511627776:=oa
 have kj:rqs.length+1<=1099511627776:=oa
 have hl3:pls.length+1<=1099511627776:=oa
 have gv:U.heap.size<=hg.heap.size:=oa
 refine QgT (α:=O3×O3×O3×O3×O3) [(55,74)] (λ_=>[]) (λz hU w'=>hU=ds/\O6 (I::av) hg w'/\QK ↑w' I 89 [q.s.va,sS q.s.a.st,q.s.vm,q.s.ve,z.1,z.2.1,z.2.2.1,Y]/\Kw ↑U w' z.1 z.2.1 z.2.2.1 Y (cos++[(z.2.2.2.1,tc)]) (rqs++[(z.2.2.2.2,tr)]) (pls++[pi]) fbs) oh ?_ ?_
 ·refine jo _ mixed oh oh (V8 (α:=O3×O3×O3×O3) (O6 av hg) [oz 0,oz 1,oz 2,oz 6,oz 7,oz 8,oz 12,oz 13,oz 14] [oA 3,oA 4,oA 5,oz 17,oA 9,oA 10,oA 11] 15 70
   [oA 16,oA 18,oz 19,oA 20,oz 21,oA 22] av [(55,74)] [(58,60),(64,66),(72,72)] (λz=>[(60,z.1),(66,z.2.1),(68,v3),(72,.pointer (some ⟨I,4,none⟩))]) (λz _ w'=>O6 av hg w'/\Kw ↑U w' z.1 z.2.1 v3 Y (cos++[(z.2.2.1,tc)]) (rqs++[(z.2.2.2,tr)]) pls fbs)
   (λv w'=>∃b,v=sL b 1 1/\QK ↑w' b 3 [sS pi]) oc oh O hC0 (λx hx=>LU (gb x hx).2 hz712) ?_ ?_ ?_ ?_)
  ·rintro v own w w' ⟨b,rfl,hB⟩ hs hn;exact⟨b,O,hB.J hs (hn b (by simp[ow]))⟩
  ·rintro z own w w' ⟨G,h2⟩ hs;exact⟨G.D hs,h2.I hs⟩
  ·rintro⟨hh,hj,ho,hq⟩ g own wz v ⟨p0,hP⟩ _ ⟨b15,rfl,g9⟩ _;have hcz:=p0.size;refine pk<|Q2 (news:=[sS pi]) (L:=[]) hP.o3 O O O (g9.at od) om hl3 (Lz gv hcz) λhr y1 ka hJ hn1=>?_;have Q1:=Kw.a3 (q:=pi) hP (O6.Y [] _) ka hJ hn1;have k0:O6 av hg y1:=p0.V (hJ.S (λb hb=>by rw[<-gm];exact yz (.inr (.inr (.inl hb)))));refine⟨k0,?_⟩;refine pkk<|Qv (j:=4) (u:=hh) (h7.J k0 g5) O O od (QA Q1.o1) λy2 hF k4=>p (QH rfl) <|
    pkk<|Qv (j:=5) (u:=hj) k4 O O od (QA Q1.o2) λy3 h6 hB3'=>p (QH rfl) <|
    pkk<|Qv (j:=6) (u:=hr) hB3' O O od (QA Q1.o3) λy4 hO hB4'=>pe ?_
   exact⟨(hh,hj,hr,ho,hq),Z,O,fin k0 Q1 ((hF.V h6).V hO) hB4'⟩
  refine p (QH O)<|pq (λ_ hc=>Qk (h7.J hc g5) O O)<|p Qy<|p (QH O)<|pq (λ_ hc=>Qk (h7.J hc g5) O O)<|p Qy <|
   p (QH rfl)<|pq (λ_ hc=>Qk (h7.J hc g5) O O)<|p Qy<|pe ⟨λg wf hCf=>Q8 [[sS pi]] λb wf' p7 hbf p8=>⟨p7,hCf.D p7,⟨b,O,p8⟩,λx hx=>?_⟩,?_⟩
  ·have hxe:x=b:=by
    have hx':x∈[b]:=hx;simpa using hx'
   subst hxe;exact⟨hbf,p8.lt⟩
  have p9:∀{X:LN},(∀x∈X,x∈ob v1\/x∈ob v2)->∀x∈X,x∈av:=λhX x hx=>by rw[<-gm];exact yz ((hX x hx).imp id .inl)
  refine f2k λx1 p1 c1=>xg<|(Z0 (hK.J c1 ku)).S ?_;rintro ho y1 ⟨hJ,ka⟩;have P1:=hS12d.I p1;refine⟨c1.D hJ,av,hJ.any,λb hb=>.inl hb,?_⟩;refine f2k λx2 p2 c2=>Yo (us:=[[ho]]) O O og od ⟨xN ka,rfl,Z⟩ λb2' y2 hF hb2' k4=>⟨c2.D hF,av,hF.any,λb hb=>.inl hb,?_⟩;refine f2k λx3 p3 c3=>?_;have qf:=((hJ.D p2).D hF).D p3;have qj:=Qm ka ((p2.D hF).D p3);refine Q2 (news:=[ho]) (L:=[]) (Qm P1.o1 qf) O O O ((k4.I p3).at od) (λu hu=>by rw[oF]at hu;subst hu;exact QA qj) m1 (Lz gv c3.size) λhh y3 ho4 h6 hn3=>?_;have ql:O6 av x3 y3:=h6.S (p9 λx hx=>.inl hx);refine⟨c3.V ql,av,ql,λb hb=>.inl hb,?_⟩;refine f3p (QH O) ?_;refine f2k λx4 p4 c4=>xg<|(Z0 (h9.J c4 ku)).S ?_;rintro hq y4 ⟨hO,q4⟩;have P3:=(Kw.a1 (q:=(ho,tc)) P1 qf qj htc40 (Lp _) (Lz gv c1.size) ho4 h6 hn3).I p4;refine⟨c4.D hO,av,hO.any,λb hb=>.inl hb,?_⟩;refine f2k λx5 p5 c5=>Yo (us:=[[hq]]) O O og od ⟨xN q4,rfl,Z⟩ λb5' y5 hZ hb5' hB5'=>⟨c5.D hZ,av,hZ.any,λb hb=>.inl hb,?_⟩;refine f2k λx6 p6 c6=>?_;have q5:=((hO.D p5).D hZ).D p6;have j1:=Qm q4 ((p5.D hZ).D p6);refine Q2 (news:=[hq]) (L:=[]) (Qm P3.o2 q5) O O O ((hB5'.I p6).at od) (λu hu=>by rw[oF]at hu;subst hu;exact QA j1) kj (Lz gv c6.size) λhj y6 ho7 g2 hn6=>?_;have k5:O6 av x6 y6:=g2.S (p9 λx hx=>.inr hx);refine⟨c6.V k5,av,k5,λb hb=>.inl hb,?_⟩;exact f2e ⟨(hh,hj,ho,hq),oy,c6.V k5,(Kw.a2 (q:=(hq,tr)) P3 q5 j1 htr40 (Lp _) (Lz gv c4.size) ho7 g2 hn6)⟩
 rintro⟨hh,hj,hr,ho,hq⟩ g hU k6 ⟨rfl,hM,hB13,hS13⟩;have hz13:=hM.size;have j2:=(kx.I gg).st hM;have hK:=hK.st hM;have h9:=h9.st hM;have kb:JR [] b ↑k6 q:=j2.up od;have hcell:∀x∈I::av,∃o:Obj,hg.heap[x]?=some o/\o.isCells=true:=λx hx=>by
  rcases Lk.1 hx with rfl|hx
  ·exact h7.cells
  rw[<-gm]at hx;rcases QcM hx with G|G|G|G
  ·exact Go.Lg.Q7 gu.o1 x G
  ·exact Go.Lg.Q7 gu.o2 x G
  ·exact Go.Lg.Q7 gu.o3 x G
  exact Go.Lg.Q7 gu.o4 x G
 have hD13:KN ↑U ↑w7 hU k6:=((pc.up (Lp _)).I gh).J hM hcell;have hb7n:b7∉I::av:=λJ=>by
  rcases Lk.1 J with G|G
  ·omega
  have:=(gb _ G).2;omega
 have hb1n:b1∉I::av:=λJ=>by
  rcases Lk.1 J with G|G
  ·omega
  have:=(gb _ G).1;omega
 have j3:=((hB10.I pt).I gg).J hM hb7n;have hB1c:=((m2.I (h6.D gl)).I gh).J hM hb1n;have hs613:O6 [I] U k6:=(kr.D gh).O hM (λx hx=>by
  rcases Lk.1 hx with G|G
  ·subst G;exact .inl Lh
  exact .inr (gb x G).1)
 have k9:(cos++[(ho,tc)]).map (·.2)=(T.take (k+1)).map (·.take q.c.co.length):=by rw[gs,Ly,Ly,gi,Nw,Nw,hY]
 have ma:(rqs++[(hq,tr)]).map (·.2)=(T.take (k+1)).map (·.drop q.c.co.length):=by rw[gs,Ly,Ly,gj,Nw,Nw,gt]
 have mc:pls++[pi]=(T.take (k+1)).map (λt=>plx (q.qs.map (·.2)) (t.take q.c.co.length)):=by rw[gs,Ly,gk,Nw,hY,kz]
 have hVc:Vt (O8 q.c.C.co) tc:=by
  have G:=ge.take;rw[show(O8 q.c.C.co).length=q.c.co.length by unfold O8;rw[Ln];exact ga,hY]at G;exact G
 have hVr:Vt (O8 q.c.C.rq) tr:=by
  have G:=ge.drop;rw[show(O8 q.c.C.co).length=q.c.co.length by unfold O8;rw[Ln];exact ga,gt]at G;exact G
 have gx:=Qcy hQ.ok hQ.p;have hpr:=Qi5 gx.2.2.1 tc;rw[kz,<-gx.2.1]at hpr;have hckp:cks q.p.a pi=0:=by
  unfold cks;rw[OU (by rw[(Zz q.p.a).2 gx.1];decide),OU oa]
 have hvo:=qW kb.k1 kb.k2 kb.k3 (hK.up (L':=[]) od) (by rw[hQ.ex,hQ.cs];exact hok.cd) hVc.tpOk;have hG:rsn q.c.C q.p.a pi k t.2=(match vio q.c.C tc with|some (kd,j)=>some ⟨k,kd,j,-1⟩|none=>match rfd q.c.C tr (yL q.p.a pi) with|some (j,v)=>some ⟨k,3,j,v⟩|none=>none):=by unfold rsn;rw[ga,hY,gt];rfl
 rw[Qii]at hG;rw[hQ.ex,hQ.cs]at hvo;refine Zd (Uh q.c.C.ex q.c.C.cs tc) λV hV=>?_;rw[hV]at hvo hG;refine QQ<|QQ<|Qx oh oh<|Qa<|Z7 O<|Q9 O<|x (ZR (us:=[q.vs,q.vx,q.vk]) kb.B O O O)<|Qa<|Qw<|hvo.S ?_;rintro r14 mf ⟨hA,rfl⟩;refine Qa<|QO O O<|QO O O<|QO O O<|QO O O<|x Qe<|x Qe<|x Qe<|Qb ?_;have kc:=hB13.I hA;have hN:=hS13.I hA;have j4:=hD13.I hA;have za:=hs613.D hA;have hz14:=hA.size;have z0:fbs.length+1<=1099511627776:=oa
 have hb014:U.heap.size<=mf.heap.size:=oa
 have hz714:w7.heap.size<=mf.heap.size:=oa
 refine QQ<|Qx oh oh<|Qa<|xe<|KM rfl (λmg=>?_) (λmg=>?_)
 ·rw[OV mg]at hG;rw[hG]at h4;refine QQ<|Qx oh oh<|Qs O kc O O<|ZD (j3.I hA) O O<|Qa<|Qa<|x (QD ⟨O,O,O,O,Z⟩) <|
   Qo<|Q8 [Z5 ⟨k,V.1,V.2.1,-1⟩] λb93 y1 hH hb93 mh=>?_
  have z1:=hH.size;refine Qo<|Q2 (m:=1) (news:=Z5 ⟨k,V.1,V.2.1,-1⟩) (L:=[]) (Qm hN.o4 hH) O O O (mh.at od) om z0 (Lz hb014 z1) λu4 y2 gy gz mj=>?_;have mo:I∉ob Y:=λJ=>oo (Qi hN.o4 _ J).1
  refine Q9 O<|Qo<|Qv (j:=7) (u:=u4) ((kc.I hH).J gz mo) O O od (QA gy) λy3 mq ms=>xe ?_;have h5:=Kw.add (q:=⟨k,V.1,V.2.1,-1⟩) kc hN ko hH gy gz mj mq;refine JL<|⟨((hh,hj,hr,u4),cos++[(ho,tc)],rqs++[(hq,tr)],pls++[pi]),La,za.O h5.1 (λx hx=>?_),((j4.J h5.1 h5.2.2).up (Lz hz714 h5.1.size)),ms,?_,k9,ma,mc⟩
  ·rcases Lk.1 hx with G|G
   ·subst G;exact .inl Lh
   exact .inr (Qi hN.o4 x G).1
  simp only[];rw[h4];exact h5.2.1
 rw[OU (by rw[mg];decide)]at hG;refine Yb ?_;have h9:=h9.I hA;refine QQ<|Qx oh oh<|Qa<|Qa<|Qa<|Qw<|(qN (b:=b) (st:=pi) (vr:=pu) h9.cells).S ?_;rintro r15 ke ⟨hI,c1,c2,c3,rfl,hc1,hc2,hc3,hR1,hR2,hR3⟩;refine xe ?_;have hz15:=hI.size;have g9:=kc.I hI;have z2:=hN.I hI;have z3:=j4.I hI;have z4:=za.D hI;refine Zd (wrf q.c.C.rq tr (enb q.p.a pi)) λfl kf=>?_;have z5:∀x∈I::ob Y,x∈I::av:=λx hx=>by
  rcases Lk.1 hx with rfl|hx
  ·exact Lh
  exact Lj _ (by rw[<-gm];exact yz (.inr (.inr (.inr hx))))
 have mt:∀x∈I::ob Y,x<mf.heap.size:=λx hx=>by
  rcases Lk.1 hx with rfl|hx
  ·omega
  exact(Qi hN.o4 x hx).2
 have hSt15:JR (I::ob Y) b ↑ke q:=((j2.I hA).I hI).up (λx hx=>.inl (z5 x hx));have hIr15:Qu (I::ob Y) ↑ke pu tr:=(h9.I hI).up (λx hx=>.inl (z5 x hx));have hEv:∀p∈fl,0<=p.1/\p.1<(q.c.ev.length:Int):=λp hp=>by
  rw[<-kf]at hp;have G:=(zp.1 hp).1;unfold enb at G;obtain⟨e,he,h2⟩:=Lx.1 G;have h3:=gx.2.2.2 _ (gx.1.ed e (Zt he).1).2.2.1;rw[h2]at h3;exact h3
 refine ZM<|QdF (α:={ x:Int×Int // x∈fl }) (I::ob Y) oa (capt:=[sP c1,sP c2,sP c3]) O (encs:=λx=>[sS x.1.1,sS x.1.2]) og (λ_=>O)
  (Uq hR1 hR2 hR3 (λJ=>oo (mt _ J)) (λJ=>oo (mt _ J)) (λx hx=>oo (mt _ hx)) hSt15 hIr15 (λx hx=>hok.rq x.it (LL hx)) hVr hckp O kf)
  (λpre W=>(∀y∈pre,(q.c.C.ev.getD y.1.1.toNat ⟨.empty,false,false,false,0⟩).co=true)/\sW ke W) (λpre=>(Ye.pure _).and (Ye.J (Lp _)))
  (λe pre W=>e=.exit 2/\(∃p y,pre=p++[y]/\(∀y∈p,(q.c.C.ev.getD y.1.1.toNat ⟨.empty,false,false,false,0⟩).co=true)/\(q.c.C.ev.getD y.1.1.toNat ⟨.empty,false,false,false,0⟩).co=false /\
   ∃u4,O6 (I::ob Y) ke W/\QK ↑W I 89 [q.s.va,sS q.s.a.st,q.s.vm,q.s.ve,hh,hj,hr,u4]/\Kw ↑U W hh hj hr u4 (cos++[(ho,tc)]) (rqs++[(hq,tr)]) (pls++[pi]) (fbs++[⟨k,3,y.1.2,y.1.1⟩])/\KN ↑U ↑w7 hU W))
  (λe pre=>(Ye.pure _).and (Ye.ex λp=>Ye.ex λy=>(Ye.pure _).and ((Ye.pure _).and ((Ye.pure _).and (Ye.ex λu4=>(Ye.J (Lp _)).and (Ye.blk.and ((Ye.cst λW W' h hc hz=>h.cst hc hz).and (KN.stb oa))))))))
  ⟨λy hy=>(by cases hy),O6.Y _ _⟩
  (λf x f' W=>f'=upd (upd (upd (upd f 100 (sS x.1.1)) 101 (sS x.1.2)) 16 (sS x.1.1)) 17 (sS x.1.2)) (λx f'=>Ye.pure _) ?_ ?_ ?_ ?_
 ·rintro l pre ⟨⟨e,i⟩,he⟩ W hW;refine QQ<|Qx oh oh<|Qb<|Qx oh oh<|Qb<|⟨O,X0.refl _ _ _,Lg.JS.refl _ _,hW,O⟩
 ·rintro l pre ⟨⟨e,i⟩,he⟩ f' W ⟨kg,hW⟩ rfl _;have hee:=hEv _ he;have hen:e=(e.toNat:Int):=oa
  have kh:e.toNat<q.c.ev.length:=oa
  refine ZM<|QQ<|Qx oh oh<|Q9 O<|x (Qk ((hB1c.I (hA.D hI)).I hW) O O)<|Qa<|O9 (g:=Zy) (i:=e.toNat) zK (hSt15.I hW).c.ev.arr O (OW sS hen) kh λa105 h105=>?_;have hge:q.c.C.ev.getD e.toNat ⟨.empty,false,false,false,0⟩=q.c.ev[e.toNat]'kh:=by
   show q.c.ev.getD e.toNat _=_;simp[oN,kh]
  refine Zd (q.c.ev[e.toNat]'kh) λv hv=>?_;rw[hv]at h105 hge;refine x (ZF O)<|x (Qq (h105.fld 1 (.bool v.co) O) O)<|x (Zj O)<|xe<|KM O (λmu=>?_) (λmu=>?_)
  ·have mv:v.co=false:=by simpa using mu
   have hS:=z2.I hW;have hB:=g9.I hW;have gc:=hW.size;refine QQ<|Qx oh oh<|Qs O hB O O<|x (Qk ((j3.I (hA.D hI)).I hW) O O)<|Qa<|Qa<|x (QD ⟨O,O,O,O,Z⟩) <|
    Qo<|Q8 [Z5 ⟨k,3,i,e⟩] λb93 y1 hH hb93 mh=>?_
   have z1:=hH.size;refine Qo<|Q2 (m:=1) (news:=Z5 ⟨k,3,i,e⟩) (L:=[]) (Qm hS.o4 hH) O O O (mh.at od) om z0 oa λu4 y2 gy gz mj=>?_;have mo:I∉ob Y:=λJ=>oo (Qi hN.o4 _ J).1
   refine Q9 O<|Qo<|Qv (j:=7) (u:=u4) ((hB.I hH).J gz mo) O O od (QA gy) λy3 mq ms=>xe ?_;have h5:=Kw.add (q:=⟨k,3,i,e⟩) hB hS ko hH gy gz mj mq;refine JL ?_;exact⟨X0.J h5.1 gc (λx hx=>⟨.inl hx,h5.2.2 x hx⟩),O,pre,_,O,kg,by simp only[];rw[hge];exact mv,u4,hW.any.V h5.1,ms,h5.2.1,(z3.I hW).J h5.1 h5.2.2⟩
  have mv:v.co=true:=by simpa using mu
  refine Yb<|⟨X0.refl _ _ _,Lg.JS.refl _ _,λy hy=>?_,hW⟩;rcases Le.1 hy with G|G
  ·exact kg y G
  simp only[oF]at G;subst G;simp only[];rw[hge];exact mv
 ·rintro D xs W hD hxs ⟨kg,hW⟩ mw;have my:rfd q.c.C tr (yL q.p.a pi)=none:=z9 λx hx=>by
   rw[show wrf q.c.C.rq tr (yL q.p.a pi)=fl from kf,<-hxs]at hx;obtain⟨y,hy,rfl⟩:=Lx.1 hx;exact kg y hy
  rw[my]at hG;rw[hG]at h4;refine⟨((hh,hj,hr,Y),cos++[(ho,tc)],rqs++[(hq,tr)],pls++[pi]),La,z4.D hW,(z3.I hW).cons oa oa mw,g9.I hW,?_,k9,ma,mc⟩;simp only[];rw[h4];simpa using(z2.I hW)
 rintro D e pre W hD hSp ⟨rfl,p,y,rfl,hp,hy,u4,hst,hBu,hSu,hDu⟩ mw _;have my:rfd q.c.C tr (yL q.p.a pi)=some (y.1.2,y.1.1):=by
  obtain⟨rs,hrs⟩:=hSp;rw[Ly]at hrs;refine z8 (x:=y.1) (t:=rs) (p:=p.map (·.1)) ?_ (λz hz=>?_) hy
  ·exact(show wrf q.c.C.rq tr (yL q.p.a pi)=fl from kf).D (hrs.symm.D od)
  obtain⟨z',hz',rfl⟩:=Lx.1 hz;exact hp z' hz'
 rw[my]at hG;rw[hG]at h4;refine⟨((hh,hj,hr,u4),cos++[(ho,tc)],rqs++[(hq,tr)],pls++[pi]),La,z4.O hst (λx hx=>?_),hDu.cons oa oa mw,hBu,?_,k9,ma,mc⟩
 ·rcases Lk.1 hx with G|G
  ·subst G;exact .inl Lh
  exact .inr (Qi hN.o4 x G).1
 simp only[];rw[h4];exact hSu
section
theorem yg [h1:XS P t]{x:O4}{b:Nat}{l:List Bool}{u:Bool}(E:QK ↑w b T (l.map Value.bool))(hx:ev f x=.pointer (some ⟨b,0+i*1,none⟩))(G:ev f y=.bool u)(hi:i<l.length)
  (hK:∀w',O6 [b] w w'->QK ↑w' b T ((l.set i u).map Value.bool)->K (QP f d undef) w'):XO P ⟨d,.store t x y,ty,pS,af,gd⟩ f w K:=by
 refine Qv E hx G (ou hi) rfl λw' I J=>hK w' I ?_;rw[NC];simpa using J
theorem JW [XS P t]{x:O4}{b:Nat}{l:List Bool}(h:QK ↑w b T (l.map Value.bool))(hx:ev f x=.pointer (some ⟨b,0+i*1,none⟩))(hi:i<l.length):
  (execOp (ev f) ⟨d,.load t x,ty,pS,af,gd⟩).run P w=.ok (.value (.bool (l[i]'hi))) w:=Qk h hx (by simp[hi])
variable {C:xA}{pl:xu}
theorem pqB {b:Bool}(E:∀w',C w'->(execOp (ev f) (QR ops i)).run P w'=.ok (.value (.bool b)) w')(ht:b=true->XP P ops C K pl (QP f (QR ops i).dst (.bool true)) w)(I:b=false->XP P ops C K pl (QP f (QR ops i).dst (.bool false)) w)
  (hd:jt (QR ops i)=true:=by rfl) (G:Z9 ops f (QR ops i)=true:=by rfl):XP P ops C K ((i,true)::pl) f w:=by
 cases hb:b with
 | true=>rw[hb]at E;exact pq E (ht hb) hd G
 | false=>rw[hb]at E;exact pq E (I hb) hd G
end
def bA (n:Nat)(g:Nat->Bool):List Bool:=(oJ n).map g
theorem Qqf (n:Nat)(g:Nat->Bool):(bA n g).length=n:=by simp[bA]
theorem Qqe {g E:Nat->Bool}{u:Bool}(G:u=E i)(h:∀j,j<n->j≠i->E j=g j):(bA n g).set i u=bA n E:=by
 apply L3
 ·simp[bA]
 intro k T I;rw[M6];have J:k<n:=by simpa[bA]using I
 by_cases e:i=k
 ·rw[OV e,G,e];simp[bA]
 rw[OU e];have:=h k J (λe'=>e e'.symm);simp[bA,this]
theorem QnR (n:Nat):(oG n (Value.bool false).cells.toList).flatten=(bA n (λi=>decide (i<0))).map Value.bool:=by
 apply L3
 ·simp[Value.cells,bA]
 intro i E G;simp[Value.cells,bA]
theorem qt {l:Lf}(h:s.toNat<l.length):l[s.toNat]'h=lft l s:=by unfold lft;simp[oN,h]
theorem QmU (n:Nat)(fb:LI):(lf0 n fb).length=n:=by unfold lf0;rw[UV];simp
instance:Bw sV 327 [nS,sS 0,nS,nS,nS,.map none,nS] [(0,4),(4,1),(5,1),(6,1)]:={}
structure Pz where
 va:O3
 vm:O3
 ve:O3
 a:Qz
 vu:O3
 unc:LI
 mb:Nat
 mm:List (Int×O3)
 bl:Nat
 n:Nat
 rv:Nat->O3
abbrev Pz.cells (p:Pz):LV:=[p.va,sS p.a.st,p.vm,p.ve,p.vu,.map (some p.mb),.slice (some ⟨p.bl,0,none⟩) p.n p.n]
structure PzA (L:LN)(H:xC)(bp:Nat)(p:Pz):Prop where
 B:QK H bp 327 p.cells
 bL:bp∉L
 a:Zr L H p.va p.vm p.ve p.a
 u:Qu L H p.vu p.unc
 M:ZU XJ H p.mb p.mm
 mL:p.mb∉L
 g:∀s,s<p.n->(match xh p.mm ((s:Nat):Int) with|some u=>u|none=>nS)=p.rv s
 R:∀s,s<p.n->Qu L H (p.rv s) (Y4 p.a.ed s)
theorem PzA.I {L:LN}{w w':O2}{bp:Nat}{p:Pz}(h:PzA L ↑w bp p)(E:sW w w'):PzA L ↑w' bp p:=⟨h.B.I E,h.bL,h.a.I E,h.u.I E,h.M.I E,h.mL,h.g,λs G=>(h.R s G).I E⟩
theorem PzA.st {L:LN}{w w':O2}{bp:Nat}{p:Pz}(h:PzA L ↑w bp p)(E:O6 L w w'):PzA L ↑w' bp p:=⟨h.B.J E h.bL,h.bL,h.a.st E,h.u.st E,h.M.J E h.mL,h.mL,h.g,λs G=>(h.R s G).st E⟩
theorem PzA.up {L L':LN}{H:xC}{bp:Nat}{p:Pz}(h:PzA L H bp p)(E:∀b∈L',b∈L\/H.size<=b):PzA L' H bp p :=
 ⟨h.B,λI=>by rcases E _ I with G|G;exact h.bL G;have:=h.B.lt;omega,h.a.up E,h.u.up E,h.M,λI=>by rcases E _ I with G|G;exact h.mL G;have:=h.M.lt;omega,h.g,λs J=>(h.R s J).up E⟩
structure PzQ (p:Pz):Prop where
 ok:QS p.a
 n:p.a.st=(p.n:Int)
def stP (N n:Nat):Nat->O3->O2->Prop
 | 2,v,w=>∃b,v=.map (some b)/\N<=b/\ZU XJ ↑w b []
 | _,v,w=>∃b,v=.slice (some ⟨b,0,none⟩) n n/\N<=b/\QK ↑w b 4 ((bA n (λi=>decide (i<0))).map Value.bool)
theorem Ql4 {v:O3}:∀{i:Nat},stP N n i v w->sW w w'->stP N n i v w'
 | 0,⟨b,E,G,I⟩,J|1,⟨b,E,G,I⟩,J|_+3,⟨b,E,G,I⟩,J=>⟨b,E,G,I.I J⟩
 | 2,⟨b,E,G,I⟩,J=>⟨b,E,G,I.I J⟩
theorem QiD {rm unc:LI}(h:Zr [] ↑w va vm ve a)(hok:QS a)(hn:a.st=(n:Int))(hr:Qu [] ↑w vr rm)(gn:∀x∈rm,0<=x/\x<a.st)(hu:Qu [] ↑w vu unc):
  QU sV 222 [.agg #[va,sS a.st,vm,ve],vr,vu] w λr w'=>sW w w'/\∃bp p,r=sP bp/\p.a=a/\p.unc=unc/\p.n=n/\↑w<=p.bl/\PzA [p.bl] ↑w' bp p/\QK ↑w' p.bl 4 ((lf0 n rm).map Value.bool):=by
 have kq:=hok.st1;have kr:=hok.ed_le;have kt:=hr.le;refine Zm func222 ?_;refine Qc<|Zf [va,sS a.st,vm,ve] λb3 G hf ku h0=>Qb ?_;have kv:=h0.lt;refine QW (α:=Nat×Nat×Nat) [(7,7),(13,20)] (λz=>[(7,.pointer (some ⟨z.1,0,none⟩))]) (λz w'=>sW G w'/\QK ↑w' z.1 327 [va,sS a.st,vm,ve,vu,.map (some z.2.1),.slice (some ⟨z.2.2,0,none⟩) n n] /\
  ZU XJ ↑w' z.2.1 []/\QK ↑w' z.2.2 4 ((bA n (λi=>decide (i<0))).map Value.bool)/\↑G<=z.1/\↑G<=z.2.1/\↑G<=z.2.2/\z.1≠z.2.1/\z.1≠z.2.2/\z.2.1≠z.2.2) oh ?_ ?_
 ·have gq:sW G { G with drawn:=G.drawn+1 }:=O6.X _ _
  refine Vl (α:=Nat×Nat) (sW G) [oz 0,oz 1,oz 3,oz 4] (λ_=>[]) [2,5] [oz 6,oA 7,oz 8] [(15,15),(18,18)] (stP ↑G n) (λz=>[(15,.map (some z.1)),(18,.slice (some ⟨z.2,0,none⟩) n n)])
   (λz w'=>ZU XJ ↑w' z.1 []/\QK ↑w' z.2 4 ((bA n (λi=>decide (i<0))).map Value.bool)/\↑G<=z.1/\↑G<=z.2/\z.1≠z.2) mixed oh oc gq (λ_ _ h1 h2=>h1.D h2) (λ_ _ _ _ h T=>Ql4 h T) ?_ ?_
  ·rintro g w' ⟨⟨b,e1,h1,h2⟩,⟨c,e2,h3,h4⟩,_⟩ gr;have d1:=gr 2 od 5 od og;rw[e1,e2]at d1;simp only[ow,oF,forall_eq]at d1;exact⟨(b,c),⟨e1,e2,Z⟩,h2,h4,h1,h3,d1⟩
  refine pq (λ_ hc=>Zi (h0.I hc) O O)<|p Qy<|p (QH O)<|pq (λ_ hc=>Qk (h0.I hc) O O)<|pe ⟨⟨λg w' hc _=>?_,λg w' hc _=>?_,Z⟩,?_⟩
  ·exact Z1 XJ λbm w2 gs hg hR=>⟨gs,⟨bm,O,Lz hc.size hg,hR⟩,λx hx=>by rw[Lb.1 (show x∈[bm] from hx)];exact⟨hg,hR.lt⟩⟩
  ·exact Y2 (n:=n) (OW sS hn) (OW sS hn) oa λbl w3 hq hh hB=>⟨hq,⟨bl,O,Lz hc.size hh,by rw[QnR]at hB;exact hB⟩,λx hx=>by rw[Lb.1 (show x∈[bl] from hx)];exact⟨hh,hB.lt⟩⟩
  rintro⟨bm,bl⟩ g w3 hq ⟨hM,hB,hg,hh,gt⟩;refine p (λ_=>ZB [(0,[va,sS a.st,vm,ve]),(1,[vu]),(2,[.map (some bm)]),(3,[sL bl n n])] ⟨O,O,hu.cells,O,O,O,O,O,Z⟩)<|pk <|
   qP (us:=[va,sS a.st,vm,ve,vu,.map (some bm),sL bl n n]) O λbp w4 I hE V=>⟨hq.D I,p ZI<|pe ?_⟩
  have hz:=hq.size;have h1:=hM.lt;have h2:=hB.lt;exact⟨(bp,bm,bl),La,hq.D I,V,hM.I I,hB.I I,Lz hz hE,hg,hh,oe,oe,gt⟩
 rintro⟨bp,bm,bl⟩ g w4 ⟨I,V,hF,hG,hE,hg,hh,hS,hT,hH⟩;simp only[]at V hF hG hE hg hh hS hT hH;have kw:=V.lt;have kx:=hF.lt;have gu:=hf.D I;have h5:bp∉[bl]:=by simpa using hT
 have hU:bm∉[bl]:=by simpa using hH
 refine Qd<|Ql<|Z7 O<|Qs O V O O<|QG (L:=[]) (hG.arr od (n:=n) (cap:=n) (sz:=1) (by simp[bA]) oa (Lp _)) rfl<|Qa<|xe<|QX (α:=Nat) [(8,8),(26,35)] (λz=>[(26,sS z)]) (λz w'=>z<=n/\O6 [bl] w4 w'/\QK ↑w' bl 4 ((bA n (λi=>decide (i<z))).map Value.bool)) (λz=>n - z) 0 La ⟨Lo _,O6.Y _ _,hG⟩ ?_;rintro k g w5 ⟨hk,h6,hI⟩;refine Zk rfl O (λhV=>?_) (λhV=>?_)
 ·refine Qt ?_;have gv:bA n (λi=>decide (i<k))=(rm.take 0).foldl cut (oG n true):=by
   apply L3
   ·simp[bA]
   intro i h1 h2;have:i<n:=by simpa[bA]using h1
   simp[bA];omega
  rw[gv]at hI;have hW:Qu [bl] ↑G vr rm:=(hr.I hf).up (λb hb=>.inr (by simp only[oF]at hb;omega));have gx:Zr [bl] ↑G va vm ve a:=(h.I hf).up (λb hb=>.inr (by simp only[oF]at hb;omega));refine Qd<|Ql<|QG ((hW.I I).st h6) O<|Qa<|xe<|QX (α:=Nat) [(10,10),(38,48)] (λz=>[(38,sS z)]) (λz w'=>z<=rm.length/\O6 [bl] w4 w'/\QK ↑w' bl 4 (((rm.take z).foldl cut (oG n true)).map Value.bool)) (λz=>rm.length - z) 0 La ⟨Lo _,h6,hI⟩ ?_;rintro j g w6 ⟨hj,E,Y⟩;refine Zk O O (λhJ=>?_) (λhJ=>?_)
  ·refine Qt ?_;have gy:rm.length<=j:=by have h7:¬(j:Int)<(rm.length:Int):=hJ;omega
   rw[Lr gy]at Y;have hX:=V.J E h5;have gz:=hF.J E hU;have kz:=Y.lt;refine Qd<|Qc<|Qs O ((h0.I I).J E ol) O O<|QG ((gx.I I).st E).ed O<|Qa<|xe ?_;have k0:=E.size;refine QX (α:=Nat×(Nat->O3)×List (Int×O3)) [(12,12),(52,73)] (λz=>[(52,sS z.1)]) (λz w'=>z.1<=a.ed.length/\O6 [bm] w6 w'/\ZU XJ ↑w' bm z.2.2/\VN ↑w6 w' n z.2.1 (Y4 (a.ed.take z.1))/\∀s,s<n->(match xh z.2.2 ((s:Nat):Int) with|some u=>u|none=>nS)=z.2.1 s) (λz=>a.ed.length - z.1) (0,λ_=>nS,[]) ⟨rfl,Z⟩
    ⟨Lo _,O6.Y _ _,gz,⟨λi _=>QL _ _ _ _,λi j _ _ _=>Dj.nil _⟩,λs _=>O⟩ ?_
   rintro⟨i,rv,m⟩ g w7 ⟨hi,J,hK,ha,h8⟩;simp only[]at hi hK ha h8;have k4:=J.size;have hY:bp∉[bm]:=by simpa using hS
   have g0:bl∉[bm]:=by simpa using Ne.symm hH
   refine Zk O O (λhL=>?_) (λhL=>?_)
   ·refine Qt ?_;have g2:a.ed.length<=i:=by have hA:¬(i:Int)<(a.ed.length:Int):=hL;omega
    rw[Lr g2]at ha;refine Ql<|Qb<|Qj ⟨[_],La,(gu.Q E oa).Q J oa,bp,⟨va,vm,ve,a,vu,unc,bm,m,bl,n,rv⟩,O,O,O,O,oe,⟨hX.J J hY,h5,?_,?_,hK,hU,h8,λs T=>QN (ha.own s T) (Lz (qv a.ed s) oa) (λb hb hm=>?_)⟩,Y.J J g0⟩
    ·have h9:Zr [bl,bm] ↑w7 va vm ve a:=((((h.I hf).up (L':=[bl,bm]) (λb hb=>.inr (by simp only[oK,oH,or_false]at hb;omega))).I I).st (E.S od)).st (J.S od);exact h9.up od
    ·have h9:Qu [bl,bm] ↑w7 vu unc:=((((hu.I hf).up (L':=[bl,bm]) (λb hb=>.inr (by simp only[oK,oH,or_false]at hb;omega))).I I).st (E.S od)).st (J.S od);exact h9.up od
    have:=(Qi (ha.own s T) b hb).1;simp only[oF]at hm;omega
   refine Qf ?_;have U:i<a.ed.length:=by have hA:(i:Int)<(a.ed.length:Int):=hL;omega
   have hv:a.ed.take (i+1)=a.ed.take i++[a.ed[i]'U]:=Ll U;have hZ:=hok.ed _ (Lm U);refine Zd (a.ed[i]'U) λe he=>?_;rw[he]at hv hZ;have hto:e.2.2=(e.2.2.toNat:Int):=oa
   have hw:e.2.2.toNat<n:=oa
   have g3:=qv (a.ed.take i) e.2.2.toNat;rw[LC]at g3;have hN:=Qeu (a.ed.take i) e hZ.2.2.2.1;have g4:U4 [bl,bm] ↑w7 ve a.ed:=((((h.ed.I hf).up (L':=[bl,bm]) (λb hb=>.inr (by simp only[oK,oH,or_false]at hb;omega))).I I).st (E.S od)).st (J.S od);refine Qd<|Qn<|Qc<|xie g4 O O U λk5 hA=>?_;rw[he]at hA;refine x (QF hA O O)<|QT [sS 0,sS 0,sS 0] λg5 w8 g6 g7 g8=>Q5 (Qp e) g8 ox λw9 g9 hO=>xe ?_;have hy:sW w7 w9:=g6.Q g9 g7;have k6:=hy.size;have ga:=ha.I hy;have ka:=ga.own _ hw;have hC:∀b∈ob (rv e.2.2.toNat),↑w6<=b/\b<w7.heap.size:=λb hb=>⟨(Qi (ha.own _ hw) b hb).1,QV (ha.own _ hw) b hb⟩;have gb:bp∉ob (rv e.2.2.toNat):=λhb=>oo (hC _ hb)
   have gc:bm∉ob (rv e.2.2.toNat):=λhb=>oo (hC _ hb)
   have hP:g5∉ob (rv e.2.2.toNat):=λhb=>oo (hC _ hb)
   have ge:=((hX.J J hY).I hy);have gg:=hK.I hy;have gh:=h8 e.2.2.toNat hw;rw[<-hto]at gh;refine V9 (O6 (ob (rv e.2.2.toNat)) w9) [oz 0,oz 1,oz 2,oz 3,oz 4,oz 5,oz 6,oz 7,oz 8,oz 9,oz 10,oz 11,oz 12,oz 13,oz 14,oA 15,oA 16,oA 17] mixed oh oc (O6.X _ _) ?_;refine p Qy<|p (YN O)<|p (QH O)<|pq (λ_ hc=>Qk (ge.J hc gb) O O) <|
    p (QH rfl)<|pq (λ_ hc=>Qk (hO.J hc hP) O O)<|p Qy<|p (YN O)<|p (QH O) <|
    pq (λ_ hc=>Qk (ge.J hc gb) O O)<|p (QH O)<|pq (λ_ hc=>Qk (hO.J hc hP) O O) <|
    pq (λ_ hc=>(Jr (k:=e.2.2) (gg.J hc gc) O O).D (OW (λv=>Result.ok (Next.value v) _) gh))<|p (QH O)<|pq (λ_ hc=>Qk (hO.J hc hP) O O) <|
    pk<|Q8 [[sS e.1]] λk9 kb gi ma kc=>⟨(O6.X _ _).D gi,?_⟩
   have ho:sW w9 kb:=(O6.X _ _).D gi;have mc:=ho.size;refine pk<|Q2 (m:=1) (news:=[sS e.1]) (Qm ka ho) O O O (kc.at (L:=[]) od) om oa oa λhQ mf ke hD kf=>⟨ho.any.V hD,?_⟩;have kg:=(gg.I ho).J hD gc;refine pkk<|YR (k:=e.2.2) kg O O λmg gj kh=>pe ?_;have ki:∀b∈ob hQ,b∈ob (rv e.2.2.toNat)\/↑w9<=b:=λb hb=>(kf b hb).imp id (λh=>oa);have gk:=ga.app hw (Qh.snoc ke) (ho.any.V hD) ki;have gl:=gk.J gj (λi hi b hb=>by have:=(Qi (gk.own i hi) b hb).1;simp only[oF];omega);have kj:Xv (Y4 (a.ed.take i)) e.2.2.toNat (Y4 (a.ed.take i) e.2.2.toNat++[e.1])=Y4 (a.ed.take (i+1)):=by rw[hv];exact funext hN
   rw[kj]at gl;refine Qr<|QB O O<|Qa<|xe<|⟨(i+1,Xv rv e.2.2.toNat hQ,xj m e.2.2 hQ),oe,La,U,?_,kh,gl,λs T=>?_⟩
   ·exact(((J.D hy).D ho).O hD (λb hb=>.inr (hC b hb).1)).V gj
   simp only[];rw[Jt];by_cases gm:s=e.2.2.toNat
   ·subst gm;rw[OV hto,Zv]
   rw[OU oa,ZP _ _ gm];exact h8 s T
  refine Qf ?_;have hp:j<rm.length:=by have h7:(j:Int)<(rm.length:Int):=hJ;omega
  have kk:=gn _ (Lm hp);have hv:rm.take (j+1)=rm.take j++[rm[j]'hp]:=Ll hp;refine Zd (rm[j]'hp) λs T=>?_;rw[T]at kk hv;have hN:s=(s.toNat:Int):=oa
  have mh:((rm.take j).foldl cut (oG n true)).length=n:=by rw[UV];simp
  refine Qd<|Qn<|Qc<|xii (i:=j) ((hW.I I).st E) O O hp λmj h7=>?_;rw[T]at h7;refine x (Qq h7 O)<|Qb<|Qr<|Qa<|Z7 O<|Qs O (V.J E h5) O O<|Qa<|x (QE (i:=s.toNat) O (OW sS hN) oa) <|
   Qo<|yg (i:=s.toNat) Y O O oa λw7 J kn=>xe ?_
  refine Qr<|QB O O<|Qa<|xe<|⟨j+1,oa,La,hp,E.V J,?_⟩;rw[hv,Mn];exact kn
 refine Qf ?_;have U:k<n:=by have mo:(k:Int)<(n:Int):=hV;omega
 refine Qd<|Qn<|Ql<|Qb<|Qr<|Qa<|Z7 O<|Qs O (V.J h6 h5) O O<|Qa<|x (QE (i:=k) O O oa) <|
  Qo<|yg (i:=k) hI O O (by rw[Qqf];exact U) λw6 E Y=>xe ?_
 have ko:(bA n (λi=>decide (i<k))).set k true=bA n (λi=>decide (i<k+1)):=Qqe od (λi _ hi=>by
  by_cases e:i<k
  ·simp[e];omega
  simp[e];omega)
 rw[ko]at Y;refine Qr<|QB O O<|Qa<|xe ?_;exact⟨k+1,oa,La,U,h6.V E,Y⟩
theorem y9 (h:i<l.length):O7 (l++r) i=O7 l i:=by
 unfold O7;simp[oN,Oa h]
theorem UT {q:Pz}(hA:PzA [] ↑w bp q)(hq:PzQ q)(hB:QK ↑w q.bl 4 (lf.map Value.bool))(hl:lf.length=q.n):
  QU sV 226 [sP bp] w λr w'=>sW w w'/\∃b,r=sL b q.n q.n/\↑w<=b/\QK ↑w' b 3 ((dsts q.a lf).map (Value.int .i64))/\(dsts q.a lf).length=q.n:=by
 have hn:=hq.n;have kv:=hq.ok.st1;have gb:=hq.ok.mr;have kw:=hq.ok.mr_le;have kx:=hq.ok.ed_le;have hN:q.a.st.toNat=q.n:=oa
 have gu:=QpR (lf:=lf) hq.ok hn;have gc:(dsL q.a.ed lf q.n 0 (ds0 q.a lf)).1=dsts q.a lf:=by unfold dsts;rw[hN]
 refine Zd (dsts q.a lf) λDD gv=>?_;rw[gv]at gc ⊢;refine Zm func226 ?_;refine Qc<|Qb<|Ql<|Z7 O<|Q9 O<|Qs O hA.B O O<|Qo<|Y2 (n:=q.n) (OW sS hn) (OW sS hn) oa λbO w1 ge hD hO=>Qb ?_;rw[Qhu]at hO;refine Qd<|Ql<|QG (L:=[]) (hO.arr od (n:=q.n) (cap:=q.n) (sz:=1) (by simp[gA]) oa (Lp _)) rfl<|Qa<|xe<|QX (α:=Nat) [(4,4),(19,25)] (λz=>[(19,sS z)]) (λz w'=>z<=q.n/\sW w w'/\QK ↑w' bO 3 ((gA q.n (λj=>if j<z then -1 else 0)).map (Value.int .i64))) (λz=>q.n - z) 0 La ⟨Lo _,ge,hO⟩ ?_
 rintro j g G ⟨hj,hh,h3⟩;refine Zk rfl O (λhP=>?_) (λhP=>?_)
 ·refine Qt ?_;have hQ:j=q.n:=by have gx:¬(j:Int)<(q.n:Int):=hP;omega
  have gy:gA q.n (λi=>if i<j then -1 else 0)=((q.a.mr.take 0).foldl (ds1 lf) (oG q.n (-1),[])).1:=by
   apply L3
   ·simp[gA]
   intro i h1 h2;have:i<q.n:=by simpa[gA]using h1
   simp[gA];omega
  rw[gy]at h3;refine Qc<|Qb<|Qd<|Ql<|Z7 O<|Q9 O<|Qs O (hA.I hh).B O O<|QG (hA.I hh).a.mr O<|Qa<|xe<|QX (α:=Nat×O3) [(5,5),(7,7),(32,50)] (λz=>[(5,z.2),(32,sS z.1)]) (λz w'=>z.1<=q.a.mr.length/\sW w w'/\G.heap.size<=↑w'/\QK ↑w' bO 3 (((q.a.mr.take z.1).foldl (ds1 lf) (oG q.n (-1),[])).1.map (Value.int .i64)) /\
   Qh 3 ↑G w' z.2 ((q.a.mr.take z.1).foldl (ds1 lf) (oG q.n (-1),[])).2) (λz=>q.a.mr.length - z.1) (0,nS) ov ⟨Lo _,hh,Lp _,h3,QL _ _ _ _⟩ ?_
  rintro⟨k,vl⟩ g w3 ⟨hk,h4,gg,ho,ha⟩;simp only[]at hk ho ha;have gh:=Qdd (lf:=lf) (λx hx=>(gb x hx).1) k;rw[hN]at gh;refine Zk O O (λhR=>?_) (λhR=>?_)
  ·refine Qt ?_;have gz:q.a.mr.length<=k:=by have hF:¬(k:Int)<(q.a.mr.length:Int):=hR;omega
   have e0:(q.a.mr.take k).foldl (ds1 lf) (oG q.n (-1),[])=ds0 q.a lf:=by rw[Lr gz];unfold ds0;rw[hN]
   rw[e0]at ho ha;have g0:bO<G.heap.size:=h3.lt;refine Qd<|Qc<|Qb<|QX (α:=Nat×Nat×O3×LI×LI) [(5,5),(8,8),(10,10),(51,100)] (λz=>[(5,z.2.2.1),(8,sS z.2.1)])
    (λz w'=>sW w w'/\G.heap.size<=↑w'/\QK ↑w' bO 3 (z.2.2.2.1.map (Value.int .i64))/\Qh 3 ↑G w' z.2.2.1 z.2.2.2.2/\DsI q.n z.2.2.2/\z.1+z.2.1=q.n/\(dsL q.a.ed lf z.1 z.2.1 z.2.2.2).1=DD) (λz=>q.n - z.2.1) (q.n,0,vl,(ds0 q.a lf).1,(ds0 q.a lf).2) ov
    ⟨h4,gg,ho,ha,gu,O,gc⟩ ?_
   rintro⟨f,i,vl,o,l⟩ g w4 ⟨hf,hS,h5,T,hp,g2,U⟩;simp only[]at hS h5 T hp g2 U;have g3:=hp.le;have gi:=hp.ok.len;simp only[]at g3 gi;have hG:=hA.I hf;refine Qd<|Ql<|Qa<|QG (L:=[]) (QN T oa od) rfl<|ZW rfl rfl<|xe<|Zp O (λhT=>?_) (λhT=>?_)
   ·refine Qt ?_;have g4:¬i<l.length:=by have g5:¬(i:Int)<(l.length:Int):=hT;omega
    rw[QkH g4]at U;simp only[]at U;subst U;refine Ql<|Qb<|Qj ⟨[sL bO q.n q.n],La,hf,bO,O,hD,h5,gi⟩
   refine Qf ?_;have hr:i<l.length:=by have g5:(i:Int)<(l.length:Int):=hT;omega
   refine Exists.elim (Np (show f≠0 by omega)) λf' g6=>?_;subst g6;rw[dsL,OV hr]at U;have gj:=Zo hr;have hsr:=hp.ok.q _ (Xy hr);have hs0:=hp.s0 _ (Xy hr);refine Zd (O7 l i) λs hs=>?_;rw[hs]at U hsr gj;simp only[]at hsr hs0;rw[hs]at hs0;have gk:s=(s.toNat:Int):=oa
   have gl:=hG.g s.toNat oa;rw[<-gk]at gl;have g7:=hG.R s.toNat oa;have kz:=qv q.a.ed s.toNat;refine Qd<|Qn<|Qd<|ZK [] (Xj 0 11 [])<|p Qy<|p (YN O)<|p (QH O)<|pq (λ_ hc=>Qk (hG.B.I hc) O O)<|p Qy<|p Qy <|
    pii (i:=i) O (QN (L:=[]) T oa od) rfl rfl hr λk0 gm=>?_
   rw[gj]at gm;refine pq (λ_ hc=>Qq (gm.I hc) O)<|pq (λ_ hc=>(Jr (k:=s) (hG.M.I hc) O O).D (OW (λv=>Result.ok (Next.value v) _) gl))<|p (λ_=>Y1 g7 O)<|p Qy<|pe ?_;have hH:sW w4 { w4 with drawn:=w4.drawn+1 }:=O6.X _ _
   refine QX (α:=Nat×O3×LI×LI) [(5,5),(10,10),(67,100)] (λz=>[(5,z.2.1),(67,sS z.1)])
    (λz w'=>z.1<=(Y4 q.a.ed s.toNat).length/\sW w w'/\G.heap.size<=↑w'/\QK ↑w' bO 3 (z.2.2.1.map (Value.int .i64))/\Qh 3 ↑G w' z.2.1 z.2.2.2/\DsI q.n z.2.2/\0<=O7 z.2.2.1 s.toNat/\i<z.2.2.2.length/\O7 z.2.2.2 i=s /\
     ((Y4 q.a.ed s.toNat).drop z.1).foldl (dsE lf s) z.2.2=(Y4 q.a.ed s.toNat).foldl (dsE lf s) (o,l)) (λz=>(Y4 q.a.ed s.toNat).length - z.1) (0,vl,o,l) ov
    ⟨Lo _,hf.D hH,Lz hS hH.size,h5.I hH,Qm T hH,hp,hs0,hr,hs,O⟩ ?_
   rintro⟨m,hI,o2,l2⟩ g w5 ⟨hm,E,hJ,hu,hv,hg,hU,h6,hK,I⟩;simp only[]at hm hJ hu hv hg hU h6 hK I;have gn:=hA.I E;have g8:=hg.le;have g9:=hg.ok.len;simp only[]at g8 g9;refine Zk O O (λhV=>?_) (λhV=>?_)
   ·refine Qt ?_;have ka:(Y4 q.a.ed s.toNat).length<=m:=by have hL:¬(m:Int)<((Y4 q.a.ed s.toNat).length:Int):=hV;omega
    rw[Lu ka]at I;simp only[List.foldl_nil]at I;rw[<-I]at U;refine Qr<|Qa<|QB O O<|Qb<|⟨(f',i+1,hI,o2,l2),oe,ov,E,hJ,hu,hv,hg,oe,U⟩
   refine Qf ?_;have hw:m<(Y4 q.a.ed s.toNat).length:=by have hL:(m:Int)<((Y4 q.a.ed s.toNat).length:Int):=hV;omega
   have gq:=Qhv (Lm hw);have kb:=QY hw;rw[kb,LQ]at I;refine Zd ((Y4 q.a.ed s.toNat)[m]'hw) λy hy=>?_;rw[hy]at gq I;have kc:0<=y/\y<(q.n:Int):=by
    obtain⟨e,he,h1,_⟩:=gq;have:=hq.ok.ed e he;omega
   have h0:y=(y.toNat:Int):=oa
   have h7:y.toNat<o2.length:=oa
   have hW:s.toNat<o2.length:=oa
   have ke:=hg.ok.le _ (Xy hW);simp only[]at ke;have hE:=QkI (lf:=lf) hg hsr hU kc;have kf:=qt (l:=lf) (s:=y) oa;refine Qd<|Qn<|Qc<|xii (i:=m) ((gn.R s.toNat oa)) O O hw λk4 hL=>?_;rw[hy]at hL;refine x (Qq hL O)<|Qb<|QW (α:=Bool) [(71,84)] (λz=>[(84,.bool z)]) (λz w'=>w'=w5/\z=(lft lf y && decide (O7 o2 y.toNat<0))) oh ?_ ?_
   ·refine Qr<|Qa<|Z7 O<|Qs O gn.B O O<|Qa<|x (QE (i:=y.toNat) O (OW sS h0) oa)<|x (JW (i:=y.toNat) (hB.I E) O oa)<|?_;rw[kf];cases lft lf y with
    | true =>
     refine Qa<|Qa<|Qa<|x (QE (i:=y.toNat) O (OW sS h0) oa)<|x (zw (i:=y.toNat) hu O h7)<|ZW O O<|QC O<|xe ?_;exact⟨_,La,O,by rw[Zo h7];rfl⟩
    | false =>
     refine Qa<|ZA<|YP<|QC O<|xe ?_;exact⟨_,La,O,O⟩
   rintro z g k5 ⟨rfl,rfl⟩;refine Q6 O (λh8=>?_) (λh8=>?_)
   ·rw[LE,decide_eq_true_eq]at h8;have hX:dsE lf s (o2,l2) y=(o2.set y.toNat (O7 o2 s.toNat+1),l2++[y]):=by unfold dsE;rw[OV h8]
    rw[hX]at I hE;have kg:=Zo hW;have gr:=Zo h6;rw[hK]at gr;refine Ql<|Qa<|Qa<|Qa<|Qa<|xii (i:=i) (QN (L:=[]) hv oa od) rfl rfl h6 λk6 gs=>?_;rw[gr]at gs;refine x (Qq gs O)<|x (QE (i:=s.toNat) O (OW sS gk) oa)<|x (zw (i:=s.toNat) hu O hW)<|x (Xt O O ⟨oa,oa⟩) <|
     x (QE (i:=y.toNat) O (OW sS h0) oa)<|Qo<|Kk (i:=y.toNat) hu O O h7 λw6 J hM=>xe ?_
    rw[kg]at hM;have kh:=J.size;have ki:∀b∈ob hI,b∉[bO]:=λb hb=>by have:=Qi hv b hb;simp only[oF];omega
    have h9:Qh 3 ↑G w6 hI l2:=Qg hv J ki;have kj:sW w w6:=E.Q J hD;refine Qr<|Qa<|Qa<|Qo<|Q8 [[sS y]] λk9 w7 hC ma kk=>Qo<|Q2 (m:=1) (news:=[sS y]) (Qm h9 hC) O O O (kk.at (L:=[]) od) om oa (oo hC.size) λhY w8 kn hZ mc =>
     Qb ?_
    have mf:=hC.size;have mg:=hZ.size;refine Qr<|QB O O<|Qa<|xe<|⟨(m+1,hY,_,l2++[y]),oe,ov,hw,(kj.D hC).O hZ (λb hb=>.inr (ot (Qi h9 b hb) ge.size hh.size)),oa,(hM.I hC).J hZ (λhb=>oo (Qi h9 _ hb)),Qh.snoc kn,hE.1,hE.2,by simp only[oM];omega,by rw[y9 h6];exact hK,I⟩
   have hX:dsE lf s (o2,l2) y=(o2,l2):=by
    unfold dsE;rw[OU];intro hc;rw[hc.1,OY hc.2]at h8;cases h8
   rw[hX]at I;refine Qf<|Qr<|QB O O<|Qa<|xe ?_;exact⟨(m+1,hI,o2,l2),oe,ov,hw,E,hJ,hu,hv,hg,hU,h6,hK,I⟩
  refine Qf ?_;have V:k<q.a.mr.length:=by have hF:(k:Int)<(q.a.mr.length:Int):=hR;omega
  have ko:=gb _ (Lm V);have kq:q.a.mr.take (k+1)=q.a.mr.take k++[q.a.mr[k]'V]:=Ll V;have Y:(q.a.mr.take (k+1)).foldl (ds1 lf) (oG q.n (-1),[])=ds1 lf ((q.a.mr.take k).foldl (ds1 lf) (oG q.n (-1),[])) (q.a.mr[k]'V):=by rw[kq,Mn];rfl
  have kr:((q.a.mr.take k).foldl (ds1 lf) (oG q.n (-1),[])).1.length=q.n/\((q.a.mr.take k).foldl (ds1 lf) (oG q.n (-1),[])).2.length<=q.a.mr.length:=by
   rw[gh];exact⟨UZ _ _,Lz (LK _ _) (by rw[LC];omega)⟩
  refine Zd ((q.a.mr.take k).foldl (ds1 lf) (oG q.n (-1),[])) λz hz=>?_;rw[hz]at ho ha Y kr;refine Zd (q.a.mr[k]'V) λy hy=>?_;rw[hy]at ko Y;have h0:y=(y.toNat:Int):=oa
  have h7:y.toNat<z.1.length:=oa
  have gt:=hA.I h4;refine Qd<|Qn<|Qc<|xii (i:=k) gt.a.mr O O V λmh hF=>?_;rw[hy]at hF;refine x (Qq hF O)<|Qb<|Ql<|Z7 O<|Qs O gt.B O O<|Qa<|x (QE (i:=y.toNat) O (OW sS h0) oa)<|x (JW (i:=y.toNat) (hB.I h4) O oa)<|xe ?_;rw[(qt (l:=lf) (s:=y) oa)];refine Q6 O (λga=>?_) (λga=>?_)
  ·have e1:ds1 lf z y=(z.1.set y.toNat 0,z.2++[y]):=by unfold ds1;rw[OV ga]
   rw[e1]at Y;refine Ql<|Qa<|x (QE (i:=y.toNat) O (OW sS h0) oa)<|Qo<|Kk (i:=y.toNat) ho O O h7 λw4 hf h5=>xe ?_;have hS:=hf.size;have g0:bO<G.heap.size:=h3.lt;have T:Qh 3 ↑G w4 vl z.2:=Qg ha hf (λb hb=>by have:=Qi ha b hb;simp only[oF];omega);refine Qr<|Qa<|Qa<|Qo<|Q8 [[sS y]] λmj w5 E mo kt=>Qo<|Q2 (m:=1) (news:=[sS y]) (Qm T E) O O O (kt.at (L:=[]) od) om oa (oo E.size) λhY w6 h9 J mq =>
    Qb ?_
   have hJ:=E.size;have kh:=J.size;refine Qr<|QB O O<|Qa<|xe<|⟨(k+1,hY),oe,ov,V,((h4.Q hf hD).D E).O J (λb hb=>.inr (oq (Qi T b hb) hh.size)),oa,?_,?_⟩
   ·simp only[];rw[Y];exact(h5.I E).J J (λhb=>oo (Qi T _ hb))
   simp only[];rw[Y];exact Qh.snoc h9
  have e1:ds1 lf z y=z:=by unfold ds1;rw[OU (by rw[ga];decide)]
  rw[e1]at Y;refine Qf<|Qr<|QB O O<|Qa<|xe ?_;exact⟨(k+1,vl),oe,ov,V,h4,gg,by simp only[];rw[Y];exact ho,by simp only[];rw[Y];exact ha⟩
 refine Qf ?_;have hQ:j<q.n:=by have gx:(j:Int)<(q.n:Int):=hP;omega
 refine Qd<|Qn<|Ql<|Qb<|Qr ?_;have ku:(gA q.n (λi=>if i<j then -1 else 0)).set j (-1)=gA q.n (λi=>if i<j+1 then -1 else 0):=QeC (by rw[OV oa]) (λi _ hi=>by
  by_cases e:i<j
  ·rw[OV e,OV oa]
  rw[OU e,OU oa])
 refine Qa<|Qa<|x (QE (i:=j) O O oa)<|Qo<|yh (i:=j) h3 O O hQ ku λw6 J hM=>xe ?_;refine Qr<|QB O O<|Qa<|xe ?_;exact⟨j+1,oa,La,hQ,hh.Q J hD,hM⟩
abbrev rmC (rk rs:Int)(x:Int×Int):LV:=[sS x.1,sS rk,sS rs,sS x.2]
theorem QfJ (rk rs:Int)(x:Int×Int):(rmC rk rs x).length=4:=rfl
abbrev RmO (base:Nat)(w:O2)(v:O3)(rk rs:Int)(l:xx):Prop:=w.ownsRow base 323 4 v l.length (l.flatMap (rmC rk rs))
theorem RmO.snoc {v:O3}{rk rs:Int}{l:xx}{x:Int×Int}(h:w.ownsRow base 323 4 v (l.length+1) (l.flatMap (rmC rk rs)++rmC rk rs x)):RmO base w v rk rs (l++[x]):=by
 unfold RmO;rw[Lc,LF];simpa using h
theorem QjK {k:Nat}(h:k<a.ed.length):(a.ed.take (k+1)).foldl (JO ul lf) []=JO ul lf ((a.ed.take k).foldl (JO ul lf) []) (a.ed[k]'h):=by
 rw[Ll h,Mn];rfl
theorem Qji {q:Pz}(hA:PzA [] ↑w bp q)(hq:PzQ q)(hB:QK ↑w q.bl 4 (lf.map Value.bool))(hl:lf.length=q.n)(rk:Int):
  QU sV 263 [sP bp,sS rk] w λr w'=>sW w w'/\RmO ↑w w' r rk 2 (lost q.a q.unc lf):=by
 have hn:=hq.n;have hR:=hq.ok.ed_le;refine Zm func263 ?_;refine Qc<|Qb<|Qc<|Qb<|Qd<|Ql<|Z7 O<|Q9 O<|Qs O hA.B O O<|QG hA.a.ed O<|Qa<|xe<|QX (α:=Nat×O3) [(5,5),(7,8),(15,72)] (λz=>[(5,z.2),(15,sS z.1)]) (λz w'=>z.1<=q.a.ed.length/\sW w w'/\RmO ↑w w' z.2 rk 2 ((q.a.ed.take z.1).foldl (JO q.unc lf) [])) (λz=>q.a.ed.length - z.1) (0,nS) ov ⟨Lo _,O6.Y _ _,QL _ _ _ _⟩ ?_;rintro⟨k,vo⟩ g w1 ⟨hk,hh,T⟩;have hj:=(ym (a:=q.a) (ul:=q.unc) (lf:=lf) (q.a.ed.take k) [] (λe U=>L2 U) (λp hp=>by cases hp)).2;rw[LC]at hj;refine Zk rfl O (λhm=>?_) (λhm=>?_)
 ·refine Qt ?_;have hE:q.a.ed.length<=k:=by have V:¬(k:Int)<(q.a.ed.length:Int):=hm;omega
  rw[Lr hE]at T;refine Ql<|Qb<|Qj ⟨[_],La,hh,T⟩
 refine Qf ?_;have G:k<q.a.ed.length:=by have V:(k:Int)<(q.a.ed.length:Int):=hm;omega
 have hF:=hq.ok.ed _ (Lm G);have E:=QjK (ul:=q.unc) (lf:=lf) G;refine Zd ((q.a.ed.take k).foldl (JO q.unc lf) []) λout hout=>?_;rw[hout]at T E hj;refine Zd (q.a.ed[k]'G) λe U=>?_;rw[U]at hF E;simp only[List.length_nil]at hj;have hG:e.1=(e.1.toNat:Int):=oa
 have hH:e.2.2=(e.2.2.toNat:Int):=oa
 refine Qd<|Qn<|Qc<|xie (hA.I hh).a.ed O O G λhS V=>?_;rw[U]at V;refine x (QF V O O)<|QT [sS 0,sS 0,sS 0] λb7 w2 hI hJ I=>Q5 (Qp e) I ox λw3 hK Y=>xe ?_;have h4:sW w1 w3:=hI.Q hK hJ;have ho:=hh.D h4;have ha:=hA.I ho;have h5:=hB.I ho;refine Qd<|QW (α:=Bool) [(19,47)] (λz=>[(47,.bool z)]) (λz w'=>sW w3 w'/\(z=true↔(lft lf e.1=false\/lft lf e.2.2=true\/e.2.1∉q.unc))) oh ?_ ?_
 ·refine ZK [] (Xj 0 29 [26])<|p Qy<|p (YN O)<|p (QH O)<|pq (λ_ hc=>Qk (ha.B.I hc) O O)<|p (QH O)<|pq (λ_ hc=>Qk (Y.I hc) O O) <|
   p (λ_=>QE (i:=e.1.toNat) O (OW sS hG) oa)<|pq (v:=.bool (lft lf e.1)) (λ_ hc=>(JW (i:=e.1.toNat) (h5.I hc) O oa).D (by rw[(qt (l:=lf) (s:=e.1) oa)]))<|pB (λ_=>Zj rfl) (λJ=>?_) (λJ=>?_)
  ·refine p Qy<|ps<|ps<|ps<|ps<|ps<|ps<|ps<|ps<|p (YU O)<|p Qy<|ps<|ps<|ps<|ps<|ps<|ps<|ps<|ps<|p (YU O)<|pe ?_;exact⟨_,La,O6.X _ _,by simp at J;simp[J]⟩
  refine p Qy<|p Qy<|p (YN O)<|p (QH O)<|pq (λ_ hc=>Qk (ha.B.I hc) O O)<|p (QH O)<|pq (λ_ hc=>Qk (Y.I hc) O O) <|
   p (λ_=>QE (i:=e.2.2.toNat) O (OW sS hH) oa)<|?_
  refine pqB (b:=lft lf e.2.2) (λ_ hc=>(JW (i:=e.2.2.toNat) (h5.I hc) O oa).D (by rw[(qt (l:=lf) (s:=e.2.2) oa)])) (λhr=>?_) (λhr=>?_)
  ·refine p (YU O)<|p Qy<|ps<|ps<|ps<|ps<|ps<|ps<|ps<|ps<|p (YU O)<|pe ?_;exact⟨_,La,O6.X _ _,by simp[hr]⟩
  refine p (YU O)<|p Qy<|p Qy<|p (YN O)<|p (QH O)<|pq (λ_ hc=>Qk (ha.B.I hc) O O) <|
   p (QH rfl)<|pq (λ_ hc=>Qk (Y.I hc) O O)<|pk<|xg<|(ZH (ha.u.I (O6.X _ _)) e.2.1).S ?_
  rintro r4 w4 ⟨rfl,rfl⟩;refine⟨O6.X _ _,?_⟩;refine p (λ_=>yb O)<|p (YU O)<|pe ?_;exact⟨_,La,O6.X _ _,by simp at J;simp[J,hr]⟩
 rintro z g w4 ⟨hs,hz⟩;have h6:=ho.D hs;have hu:=Qm (Qm T h4) hs;have I:=Y.I hs;refine Q6 rfl (λhf=>?_) (λhf=>?_)
 ·refine Qt ?_;have e1:JO q.unc lf out e=out:=by unfold JO;rw[OV (hz.1 hf)]
  rw[e1]at E;refine Qr<|QB O O<|Qa<|xe ?_;exact⟨(k+1,vo),oe,ov,G,h6,by simp only[];rw[E];exact hu⟩
 refine Qf ?_;have h7:¬(lft lf e.1=false\/lft lf e.2.2=true\/e.2.1∉q.unc):=λh=>by rw[hz.2 h]at hf;cases hf
 have h8:Zu [] ↑w4 vo out.length 4 (out.flatMap (rmC rk 2)):=QN hu oa od;refine Qd<|Ql<|QG h8 O<|Qb<|QW (α:=Bool) [(50,62)] (λz=>[(62,.bool z)]) (λz w'=>sW w4 w'/\(z=true↔out.getLast?.map (·.1)=some e.1)) oh ?_ ?_
 ·refine ZK [] (Xj 0 13 [])<|p Qy<|pb (λ_=>Z8 O O) (λhv=>?_) (λhv=>?_)
  ·have hT:0<out.length:=by have hL:(0:Int)<(out.length:Int):=hv;omega
   have h9:out.getLast?=some (out[out.length - 1]'oa):=by rw[List.getLast?_eq_getElem?,LD]
   refine Zd (out[out.length - 1]'oa) λy hy=>?_;rw[hy]at h9;refine p Qy<|p Qy<|p Qy<|p (λ_=>JB O O ⟨oa,oa⟩)<|Go.Lg.pig (g:=rmC rk 2) (i:=out.length - 1) O (QfJ rk 2) h8 O (OW sS (show(out.length:Int) - 1=((out.length - 1:Nat):Int) by omega)) oa λhU hC=>?_;rw[hy]at hC;refine p (λ_=>ZF O)<|pq (λ_ hc=>Qq ((hC.fld 0 (sS y.1) O).I hc) O)<|p (QH O)<|pq (λ_ hc=>Qk (I.I hc) O O) <|
    p (λ_=>Zc O O)<|p (YU O)<|pe ?_
   exact⟨_,La,O6.X _ _,by rw[h9];simp⟩
  have h0:out=[]:=Ls (by have hL:¬(0:Int)<(out.length:Int):=hv;omega);refine p Qy<|ps<|ps<|ps<|ps<|ps<|ps<|ps<|ps<|ps<|p (YU O)<|pe ?_;exact⟨_,La,O6.X _ _,by simp[h0]⟩
 rintro z2 g w5 ⟨hw,hD⟩;have h1:=h6.D hw;have h2:=Qm hu hw;have I:=I.I hw;refine Q6 rfl (λhg=>?_) (λhg=>?_)
 ·refine Qt ?_;have e1:JO q.unc lf out e=out:=by unfold JO;rw[OU h7,OV (hD.1 hg)]
  rw[e1]at E;refine Qr<|QB O O<|Qa<|xe ?_;exact⟨(k+1,vo),oe,ov,G,h1,by simp only[];rw[E];exact h2⟩
 refine Qf ?_;have hM:¬out.getLast?.map (·.1)=some e.1:=λh=>by rw[hD.2 h]at hg;cases hg
 have e1:JO q.unc lf out e=out++[(e.1,e.2.1)]:=by unfold JO;rw[OU h7,OU hM]
 rw[e1]at E;refine Qr<|Qa<|Qs O I O O<|Qa<|Qs O I O O<|x (QD ⟨O,O,O,O,Z⟩) <|
  Qo<|Q8 [rmC rk 2 (e.1,e.2.1)] λhV w6 h3 hW hN =>
  Qo<|Q2 (m:=1) (news:=rmC rk 2 (e.1,e.2.1)) (Qm h2 h3) O O O (hN.at (L:=[]) od) om oa (oq h1.size h3.size) λhO w7 hP hQ hX=>Qb<|Qr<|QB O O<|Qa<|xe ?_
 exact⟨(k+1,hO),oe,ov,G,(h1.D h3).O hQ (λb hb=>.inr (Qi h2 b hb).1),by simp only[];rw[E];exact RmO.snoc hP⟩
theorem Qav (lf:Lf)(d:Int):∀(l:LI) (i:Nat),VI lf i (l++[d])=VI lf i l++if lf.getD (i+l.length) false=true/\d<0 then[((i+l.length:Nat):Int)]else[]
 | [],i=>by
  simp only[Oo,VI,List.length_nil,Ox]
 | a::l,i=>by
  have ih:=Qav lf d l (i+1);rw[show i+1+l.length=i+(a::l).length by simp;omega]at ih;simp only[oZ,VI,ih];by_cases h:lf.getD i false=true/\a<0
  ·rw[OV h,OV h,Mq]
  rw[OU h,OU h]
abbrev blP (l:LI):xx:=l.map λs=>(s,-1)
theorem QcB {q:Pz}(hA:PzA [] ↑w bp q)(U:PzQ q)(hB:QK ↑w q.bl 4 (lf.map Value.bool))(hl:lf.length=q.n)(rk:Int):
  QU sV 264 [sP bp,sS rk] w λr w'=>sW w w'/\RmO ↑w w' r rk 3 (blP (VI lf 0 (dsts q.a lf)))/\(VI lf 0 (dsts q.a lf)).length<=q.n:=by
 have hn:=U.n;have h3:=U.ok.st1;refine Zm func264 ?_;refine Qc<|Qb<|Qc<|Qb<|Qd<|Ql<|Qw<|(UT hA U hB hl).S ?_;rintro r1 V ⟨hj,b,rfl,hb,hm,Y⟩;refine Zd (dsts q.a lf) λD hD=>?_;rw[hD]at hm Y ⊢;have ho:Qu [] ↑V (sL b q.n q.n) D:=by
  have h:=hm.arr (L:=[]) od (n:=q.n) (cap:=q.n) (sz:=1) (by simp[Y]) oa (Lp _);unfold Qu;rw[Y];exact h
 refine QG ho O<|Qa<|xe<|QX (α:=Nat×O3) [(5,7),(11,33)] (λz=>[(5,z.2),(11,sS z.1)]) (λz w'=>z.1<=D.length/\sW V w'/\RmO ↑V w' z.2 rk 3 (blP (VI lf 0 (D.take z.1)))) (λz=>D.length - z.1) (0,nS) ov ⟨Lo _,O6.Y _ _,QL _ _ _ _⟩ ?_;rintro⟨k,vo⟩ g w2 ⟨hk,J,I⟩;have hp:=(U0 lf (D.take k) 0).2;rw[LC]at hp;have ha:=hj.D J;refine Zk rfl O (λhe=>?_) (λhe=>?_)
 ·refine Qt ?_;have hs:D.length<=k:=by have hu:¬(k:Int)<(D.length:Int):=he;omega
  rw[Lr hs]at I;refine Ql<|Qb<|Qj ⟨[_],La,ha,Za I hj.size,oo (U0 lf D 0).2⟩
 refine Qf ?_;have E:k<D.length:=by have hu:(k:Int)<(D.length:Int):=he;omega
 have hv:D.take (k+1)=D.take k++[D[k]'E]:=Ll E;have G:=Qav lf (D[k]'E) (D.take k) 0;rw[<-hv,LC,LW,M2 oa]at G;refine Zd (D[k]'E) λd hd=>?_;rw[hd]at G;refine Zd (VI lf 0 (D.take k)) λout hout=>?_;rw[hout]at G I hp;have hf:k<lf.length:=oa
 have hw:lf[k]'hf=lf.getD k false:=by simp[oN,hf]
 refine Qd<|Qn<|Ql<|xii (i:=k) (ho.I J) O O E λh4 hr=>?_;rw[hd]at hr;refine x (Qq hr O)<|x Qe<|Qb<|QW (α:=Bool) [(16,26)] (λz=>[(26,.bool z)]) (λz w'=>w'=w2/\(z=true↔lf.getD k false=true/\d<0)) oh ?_ ?_
 ·refine Qr<|Qa<|Z7 O<|Qs O (hA.I ha).B O O<|Qa<|x (QE (i:=k) O O oa)<|xB (b:=lf.getD k false) ((JW (i:=k) (hB.I ha) O hf).D (by rw[hw])) (λhg=>?_) (λhg=>?_)
  ·refine Qa<|Qa<|ZW O O<|QC O<|xe ?_;exact⟨_,La,O,by rw[hg];simp⟩
  refine Qa<|YP<|QC O<|xe ?_;exact⟨_,La,O,by rw[hg];simp⟩
 rintro z g w3 ⟨rfl,hz⟩;refine Q6 rfl (λT=>?_) (λT=>?_)
 ·rw[OV (hz.1 T)]at G;refine Qr<|Qa<|Qa<|Qa<|x (QD ⟨O,O,O,O,Z⟩)<|Qo<|Q8 [rmC rk 3 ((k:Int),-1)] λh5 w4 hh h6 hy =>
   Qo<|Q2 (m:=1) (news:=rmC rk 3 ((k:Int),-1)) (Qm I hh) O O O (hy.at (L:=[]) od) om (by rw[Ln];omega) (oq J.size hh.size) λh0 w5 h1 h2 h7=>Qb<|Qr<|QB O O<|Qa<|xe ?_
  refine⟨(k+1,h0),oe,ov,E,(J.D hh).O h2 (λb hb=>.inr (Qi I b hb).1),?_⟩;simp only[];rw[G,show blP (out++[(k:Int)])=blP out++[((k:Int),-1)] by simp];exact RmO.snoc h1
 rw[OU (λh=>by rw[hz.2 h]at T;cases T),LH]at G;refine Qf<|Qr<|QB O O<|Qa<|xe ?_;exact⟨(k+1,vo),oe,ov,E,J,by simp only[];rw[G];exact I⟩
def nxR (a:Qz)(ul:LI)(lf:Lf):Int×xx:=if(lost a ul lf).length≠0 then(2,lost a ul lf) else(3,blP (VI lf 0 (dsts a lf)))
theorem QmE (a:Qz)(ul:LI)(lf:Lf):(nxR a ul lf).2.map (·.1)=nxs a ul lf:=by
 unfold nxR nxs;split
 ·rfl
 rw[MB];exact List.map_id _
theorem Qjh {q:Pz}(hA:PzA [] ↑w bp q)(G:PzQ q)(V:QK ↑w q.bl 4 (lf.map Value.bool))(hl:lf.length=q.n)(rk:Int):
  QU sV 223 [sP bp,sS rk,.bool true] w λr w'=>sW w w'/\RmO ↑w w' r rk (nxR q.a q.unc lf).1 (nxR q.a q.unc lf).2/\(nxR q.a q.unc lf).2.length<=1000000:=by
 have ha:=(Qbb q.a q.unc lf).2;have hj:=G.ok.ed_le;have hn:=G.n;have hk:=G.ok.st1;have E:nxR q.a q.unc lf=if(lost q.a q.unc lf).length≠0 then(2,lost q.a q.unc lf) else(3,blP (VI lf 0 (dsts q.a lf))):=rfl
 refine Zd (nxR q.a q.unc lf) λNR he=>?_;rw[he]at E ⊢;refine Zm func223 ?_;refine Qc<|Qb<|Qd<|Ql<|Qa<|Qw<|(Qji hA G V hl rk).S ?_;rintro r1 w1 ⟨I,T⟩;refine Zd (lost q.a q.unc lf) λL hL=>?_;rw[hL]at T E ha;refine Qb<|QW (α:=Bool) [(11,17)] (λz=>[(17,.bool z)]) (λz w'=>w'=w1/\(z=true↔L.length≠0)) oh ?_ ?_
 ·refine Qr<|Qa<|QG (L:=[]) (QN T oa od) rfl<|xb (Z8 rfl rfl) (λU=>?_) (λU=>?_)
  ·refine Qa<|YP<|QC O<|xe ?_;exact⟨_,La,O,by have Y:(0:Int)<(L.length:Int):=U;simp;intro e;subst e;simp at Y⟩
  refine Qa<|Qa<|x (Zj O)<|QC O<|xe ?_;have Y:¬(0:Int)<(L.length:Int):=U;have hf:L.length=0:=oa
  exact⟨_,La,O,by rw[hf];simp⟩
 rintro z g w2 ⟨rfl,hz⟩;refine Q6 rfl (λJ=>?_) (λJ=>?_)
 ·rw[OV (hz.1 J)]at E;refine Ql<|Qb ?_;subst E;exact Qj ⟨[_],La,I,T,by show L.length<=_;omega⟩
 rw[OU (λh=>by rw[hz.2 h]at J;cases J)]at E;refine Qf<|Ql<|Qa<|Qw<|(QcB (hA.I I) G (V.I I) hl rk).S ?_;rintro r3 w3 ⟨hg,hh,hm⟩;refine Qb ?_;subst E;exact Qj ⟨[_],La,I.D hg,Za hh I.size,by show(blP _).length<=_;rw[Ln];omega⟩
structure JK (base:Nat)(w:O2)(n:Nat)(f:Nat->O3)(g:Nat->List Ed):Prop where
 own:∀i,i<n->Yd 179 base w (f i) (g i)
 dj:∀i j,i<n->j<n->i≠j->Dj (f i) (f j)
theorem JK.app {f:Nat->O3}{g:Nat->List Ed}{l:List Ed}(h:JK base w n f g)(hi:i<n)(U:Yd 179 base w' v' l)(V:O6 (ob (f i)) w w')
  (Y:∀b∈ob v',b∈ob (f i)\/↑w<=b):JK base w' n (Xv f i v') (Xv g i l):=by
 refine⟨λj E=>?_,λj k E I G=>?_⟩
 ·by_cases e:j=i
  ·subst e;rw[Zv,Zv];exact U
  rw[ZP _ _ e,ZP _ _ e];exact Qg (h.own j E) V (h.dj j i E hi e)
 have key:∀j,j<n->j≠i->Dj v' (f j):=λj E e b hb J=>by
  rcases Y b hb with T|T
  ·exact h.dj i j hi E (Ne.symm e) b T J
  have:=QV (h.own j E) b J;omega
 by_cases e1:j=i
 ·subst e1;rw[Zv,ZP _ _ (Ne.symm G)];exact key k I (Ne.symm G)
 rw[ZP _ _ e1];by_cases e2:k=i
 ·subst e2;rw[Zv];exact(key j E e1).symm
 rw[ZP _ _ e2];exact h.dj j k E I G
theorem JK.J {X:LN}{f:Nat->O3}{g:Nat->List Ed}(h:JK base w n f g)(E:O6 X w w')(hX:∀i,i<n->∀b∈ob (f i),b∉X):JK base w' n f g :=
 ⟨λi hi=>Qg (h.own i hi) E (hX i hi),h.dj⟩
theorem JK.I {f:Nat->O3}{g:Nat->List Ed}(h:JK base w n f g)(E:sW w w'):JK base w' n f g:=h.J E (λ_ _ _ _=>od)
def VT (es:List Ed)(s:Nat):List Ed:=QM es (s:Int)
theorem qc (es:List Ed)(e:Ed)(E:0<=e.1):Xv (VT es) e.1.toNat (VT es e.1.toNat++[e])=VT (es++[e]):=by
 funext s;unfold VT QM;rw[LT];by_cases h:s=e.1.toNat
 ·subst h;rw[Zv];have:e.1=(e.1.toNat:Int):=oa
  simp[<-this]
 rw[ZP _ _ h];have:¬e.1=(s:Int):=oa
 simp[this]
theorem Qcl (es:List Ed)(s:Nat):(VT es s).length<=es.length:=Yg es _
def Qfd (num:LI)(m:List (Int×O3)):Prop:=∀s:Nat,s<num.length->xh m (s:Int)=if O7 num s<0 then none else some (sS (O7 num s))
theorem Vx (l:LI)(k:Int):ZZ l k=O7 l k.toNat:=rfl
structure KW (b4 mb:Nat)(r2:O3)(wS:O2)(c:Cs)(m:List (Int×O3))(vo vk ve:O3)(w:O2):Prop where
 st:O6 [b4,mb] wS w
 B4:QK ↑w b4 53 [r2,sS 0,vk,ve]
 M:ZU XJ ↑w mb m
 nm:Qfd c.num m
 o:Qh 3 ↑wS w vo c.ord
 k:Qh 3 ↑wS w vk c.mk'
 e:Yd 179 ↑wS w ve c.ed
 d1:Dj vo vk
 d2:Dj vo ve
 d3:Dj vk ve
section
variable {b4 mb:Nat}{r2:O3}{wS:O2}{c:Cs}{m:List (Int×O3)}{w'':O2}
theorem KW.I (h:KW b4 mb r2 wS c m vo vk ve w)(E:sW w w'):KW b4 mb r2 wS c m vo vk ve w' :=
 ⟨h.st.D E,h.B4.I E,h.M.I E,h.nm,Qm h.o E,Qm h.k E,Qm h.e E,h.d1,h.d2,h.d3⟩
theorem KW.setK (h:KW b4 mb r2 wS c m vo vk ve w)(V:b4<wS.heap.size)(lm:mb<↑wS)(ne:mb≠b4){G:O3}(I:O6 (ob vk) w w')(J:Qh 3 ↑wS w' G l)
  (T:∀b∈ob G,b∈ob vk\/↑w<=b) (E:O6 [b4] w' w'') (U:QK ↑w'' b4 53 [r2,sS 0,G,ve]):KW b4 mb r2 wS ⟨c.ord,c.num,l,c.ed⟩ m vo G ve w'' :=
 ⟨(h.st.O I (λb hb=>.inr (Qi h.k b hb).1)).O E (λb hb=>.inl (by simp at hb;simp[hb])),U,(h.M.J I (QJ h.k lm)).J E (ou ne),h.nm,
  Qg (Qg h.o I h.d1) E (λb hb=>by have:=(Qi h.o b hb).1;simp;omega),Qg J E (λb hb=>by have:=(Qi J b hb).1;simp;omega),
  Qg (Qg h.e I h.d3.symm) E (λb hb=>by have:=(Qi h.e b hb).1;simp;omega),h.d1.grow T (QV h.o),h.d2,(h.d3.symm.grow T (QV h.e)).symm⟩
theorem KW.setE (h:KW b4 mb r2 wS c m vo vk ve w)(V:b4<wS.heap.size)(lm:mb<↑wS)(ne:mb≠b4){G:O3}{l:List Ed}(I:O6 (ob ve) w w')(J:Yd 179 ↑wS w' G l)
  (T:∀b∈ob G,b∈ob ve\/↑w<=b) (E:O6 [b4] w' w'') (U:QK ↑w'' b4 53 [r2,sS 0,vk,G]):KW b4 mb r2 wS ⟨c.ord,c.num,c.mk',l⟩ m vo vk G w'' :=
 ⟨(h.st.O I (λb hb=>.inr (Qi h.e b hb).1)).O E (λb hb=>.inl (by simp at hb;simp[hb])),U,(h.M.J I (QJ h.e lm)).J E (ou ne),h.nm,
  Qg (Qg h.o I h.d2) E (λb hb=>by have:=(Qi h.o b hb).1;simp;omega),Qg (Qg h.k I h.d3) E (λb hb=>by have:=(Qi h.k b hb).1;simp;omega),
  Qg J E (λb hb=>by have:=(Qi J b hb).1;simp;omega),h.d1,h.d2.grow T (QV h.o),h.d3.grow T (QV h.k)⟩
theorem KW.setN (h:KW b4 mb r2 wS c m vo vk ve w)(lm:mb<↑wS)(ne:mb≠b4){G:List (Int×O3)}(E:O6 [mb] w w')(I:ZU XJ ↑w' mb G)(J:Qfd l G):KW b4 mb r2 wS ⟨c.ord,l,c.mk',c.ed⟩ G vo vk ve w' :=
 ⟨h.st.O E (λb hb=>.inl (by simp at hb;simp[hb])),h.B4.J E (ou ne.symm),I,J,Qg h.o E (λb hb=>by have:=(Qi h.o b hb).1;simp;omega),
  Qg h.k E (λb hb=>by have:=(Qi h.k b hb).1;simp;omega),Qg h.e E (λb hb=>by have:=(Qi h.e b hb).1;simp;omega),h.d1,h.d2,h.d3⟩
theorem KW.setO (h:KW b4 mb r2 wS c m vo vk ve w)(J:b4<wS.heap.size)(lm:mb<↑wS){G:O3}(E:O6 (ob vo) w w')(T:Qh 3 ↑wS w' G l)
  (I:∀b∈ob G,b∈ob vo\/↑w<=b):KW b4 mb r2 wS ⟨l,c.num,c.mk',c.ed⟩ m G vk ve w' :=
 ⟨h.st.O E (λb hb=>.inr (Qi h.o b hb).1),h.B4.J E (QJ h.o J),h.M.J E (QJ h.o lm),h.nm,T,Qg h.k E h.d1.symm,Qg h.e E h.d2.symm,
  (h.d1.symm.grow I (QV h.k)).symm,(h.d2.symm.grow I (QV h.e)).symm,h.d3⟩
end
theorem Qfd.set {num:LI}{m:List (Int×O3)}(h:Qfd num m){k:Nat}(G:k<num.length){v:Int}(I:0<=v):Qfd (num.set k v) (xj m (k:Int) (sS v)):=by
 intro s E;rw[M0]at E;rw[Jt];by_cases e:s=k
 ·subst e;have:O7 (num.set s v) s=v:=by unfold O7;simp[oN,G]
  rw[OV rfl,this,OU oa]
 rw[OU oa];have:O7 (num.set k v) s=O7 num s:=by unfold O7;simp[oN,List.getElem?_set_ne (Ne.symm e)]
 rw[this];exact h s E
theorem Qcb (i:Nat)(c:Cs)(m:LI)(e:Ed):Zs i ⟨c.ord,c.num,m,c.ed⟩ e=⟨(Zs i c e).ord,(Zs i c e).num,m,(Zs i c e).ed⟩/\(Zs i c e).mk'=c.mk':=by
 unfold Zs;split <;> exact⟨O,O⟩
theorem Qbq (i:Nat):∀(l:List Ed) (c:Cs) (m:LI),l.foldl (Zs i) ⟨c.ord,c.num,m,c.ed⟩=⟨(l.foldl (Zs i) c).ord,(l.foldl (Zs i) c).num,m,(l.foldl (Zs i) c).ed⟩/\(l.foldl (Zs i) c).mk'=c.mk'
 | [],c,m=>⟨O,O⟩
 | e::l,c,m=>by
  have E:=Qcb i c m e;have G:=Qbq i l (Zs i c e) m;rw[LQ,LQ,E.1,G.1];exact⟨O,G.2.D E.2⟩
theorem jN (i:Nat)(c:Cs)(e:Ed):∃r,(Zs i c e).ord=c.ord++r:=by
 unfold Zs;split
 ·exact⟨_,rfl⟩
 exact⟨[],od⟩
theorem Qc0 (i:Nat):∀(l:List Ed) (c:Cs),∃r,(l.foldl (Zs i) c).ord=c.ord++r
 | [],c=>⟨[],od⟩
 | e::l,c=>by
  obtain⟨E,G⟩:=jN i c e;obtain⟨r2,I⟩:=Qc0 i l (Zs i c e);exact⟨E++r2,by rw[LQ,I,G,LA]⟩
theorem Qg4 {c:Cs}(hi:i<c.ord.length):zb a i c=Ym a i ((QM a.ed (O7 c.ord i)).foldl (Zs i) c):=by
 unfold zb;rw[Vx,MK];obtain⟨r,E⟩:=Qc0 i (QM a.ed (O7 c.ord i)) c;unfold Ym;have G:ZZ ((QM a.ed (O7 c.ord i)).foldl (Zs i) c).ord (i:Int)=ZZ c.ord (i:Int):=by
  rw[Vx,Vx,E];simp only[Oy];exact y9 hi
 rw[G];split
 ·rw[(Qbq i _ c _).1,((Qbq i (QM a.ed (O7 c.ord i)) c c.mk').2)]
 rfl
theorem ye {q:Pz}(hA:PzA [] ↑w bp q)(hq:PzQ q)(hB:QK ↑w q.bl 4 (lf.map Value.bool))(hl:lf.length=q.n):
  QU sV 227 [sP bp] w λr w'=>sW w w'/\∃v o,r=.tuple #[v,o]/\Xb ↑w ↑w' v (QaI q.a lf)/\o.oneCell'=true:=by
 have hn:=hq.n;have hst1:=hq.ok.st1;have kf:=hq.ok.ed_le;have hf:QaI q.a lf=if q.a.st=0\/lft lf 0=false then⟨q.a.al,0,[],[]⟩else YG (rstr q.a lf):=rfl
 refine Zd (QaI q.a lf) λSA pn=>?_;rw[pn]at hf ⊢;refine Zm func227 ?_;refine Qc<|QT [nS,sS 0,nS,nS] λb2 w1 kg hb2 h9=>Qb ?_;have hl2:=h9.lt;have kh:=hA.I kg;refine Ql<|Z7 O<|Q9 O<|Qs O kh.B O O<|Qw<|(Z0 kh.a.al).S ?_;rintro r2 w2 ⟨hM,hv⟩;have hz2:=hM.size;have hN:=Qh.ints (L:=[]) hv hA.a.al.le od;refine x (QD ⟨hN.cells,Z⟩)<|QT [nS,sS 0,nS,nS] λb4 w3 po pp hC =>
  Q5 [r2,sS 0,nS,nS] hC ⟨hN.one,O,O,O,Z⟩ λw4 pt hC=>xe ?_
 have T:sW w2 w4:=po.Q pt pp;have U:=kg.D hM;have hD:=U.D T;have hl4:=hC.lt;have hz24:=T.size;have gj:=hA.I hD;have pu:∀b∈ob r2,b<w2.heap.size:=QV hv;refine Qd<|QW (α:=Bool) [(22,36)] (λz=>[(36,.bool z)]) (λz w'=>w'=w4/\(z=true↔(q.a.st=0\/lft lf 0=false))) oh ?_ ?_
 ·refine Qr<|Qa<|Z7 O<|Q9 O<|Qs O gj.B O O<|xb (Zc O O) (λgk=>?_) (λgk=>?_)
  ·refine Qa<|ZA<|ZA<|Kd<|QC O<|xe ?_;exact⟨_,La,O,by simp[gk]⟩
  have gl:(0:Int).toNat<lf.length:=by
   have:0<q.n:=oa
   simp;omega
  have pw:=qt (l:=lf) (s:=0) gl;refine Qa<|Qa<|Z7 O<|Qs O gj.B O O<|x (QE (i:=0) O O (by simp at gl;omega))<|x (v:=.bool (lft lf 0)) ((JW (i:=0) (hB.I hD) O gl).D (by rw[<-pw];rfl))<|x (Zj O)<|QC O<|xe ?_;exact⟨_,La,O,by simp[gk]⟩
 rintro z g w4 ⟨rfl,hz⟩;refine Q6 rfl (λhO=>?_) (λhO=>?_)
 ·rw[OV (hz.1 hO)]at hf;subst hf;refine Qc<|Q3 hC O O<|Q5 [r2,sS 0,nS,nS] ((h9.I hM).I T) ⟨hN.one,O,O,O,Z⟩ λw6 hE h9=>Qb<|Qj ⟨[.agg #[r2,sS 0,nS,nS],nS],⟨JN h9,O,Z⟩,hD.Q hE oa,_,_,O,?_,O⟩;exact⟨r2,_,_,O,λL' hF=>⟨Qh.ints (Qg (Qm hv T) hE (λb hb=>by have:=(Qi hv b hb).1;simp;omega)) hA.a.al.le (λb hb=>oo (hF b hb)),Zu.nil _ _ _,Zu.nil _ _ _⟩⟩
 have ki:¬(q.a.st=0\/lft lf 0=false):=λh=>by rw[hz.2 h]at hO;cases hO
 rw[OU ki]at hf;have pz:0<q.a.st:=by have:=hq.ok.st0;omega
 have kj:(rstr q.a lf).st.toNat=q.n:=by show q.a.st.toNat=q.n;omega
 unfold YG at hf;rw[OU (show ¬(rstr q.a lf).st=0 from λh=>ki (.inl h)),kj]at hf;refine Qf<|Ql<|Z7 O<|Q9 O<|Qs O gj.B O O<|Qo<|Y2 (n:=q.n) (OW sS hn) (OW sS hn) oa λbE w6 hE p0 gm=>Qb ?_;rw[Up]at gm;have hlE:=gm.lt;have kk:=hA.I (hD.D hE);refine Qd<|Ql<|Z7 O<|Q9 O<|Qs O kk.B O O<|QG kk.a.ed O<|Qa<|xe<|QX (α:=Nat×(Nat->O3)) [(7,7),(50,74)] (λz=>[(50,sS z.1)]) (λz w'=>z.1<=q.a.ed.length/\O6 [bE] w6 w'/\QK ↑w' bE 51 ((oJ q.n).map z.2)/\JK ↑w6 w' q.n z.2 (VT ((q.a.ed.take z.1).filter λe=>lft lf e.2.2))) (λz=>q.a.ed.length - z.1) (0,λ_=>nS) La
  ⟨Lo _,O6.Y _ _,gm,⟨λi _=>QL _ _ _ _,λi j _ _ _=>Dj.nil _⟩⟩ ?_
 rintro⟨k,rv⟩ g w7 ⟨hk,hP,kn,V⟩;have hG:sW w4 w7:=hE.Q hP p0;have gn:=hD.D hG;have hz7:=hP.size;have ko:=hA.I gn;refine Zk rfl O (λgq=>?_) (λgq=>?_)
 ·refine Qt ?_;have p4:q.a.ed.length<=k:=by have hQ:¬(k:Int)<(q.a.ed.length:Int):=gq;omega
  rw[Lr p4]at V;have V:JK ↑w6 w7 q.n rv (VT (rstr q.a lf).ed):=V;have kq:(rstr q.a lf).ed.length<=q.a.ed.length:=LK _ _;refine Qc<|Qo<|Z1 XJ λmb w8 gr p5 p6=>Qo<|Yu (k:=(0:Int)) p6 O O λE gs kr=>Qa<|Qb ?_;have I:sW w7 E:=gr.Q gs p5;have p7:=I.size;have hS:=kr.lt;refine Qc<|Qo<|Q8 [[sS 0]] λkt gt hw hb77 p8=>Qb<|Qd<|Qc<|Qb ?_;have gu:mb≠b4:=oa
  have hH:b4<E.heap.size:=oa
  have p9:=gn.D I;have gv:∀b∈[b4,mb],↑w2<=b:=λb hb=>by simp only[oK,oH,or_false]at hb;omega
  have qf:PzA [b4,mb] ↑E bp q:=((hA.I U).up (λb hb=>.inr (gv b hb))).I (T.D (hG.D I));have hlw:=hB.lt;have ku:∀s,s<q.n->U4 [b4,mb] ↑E (rv s) (VT (rstr q.a lf).ed s):=λs hs=>QN (Qm (V.own s hs) I) (oo (Qcl (rstr q.a lf).ed s)) (λb hb hm=>by
   have h1:=(Qi (V.own s hs) b hb).1;have h2:=QV (V.own s hs) b hb;simp only[oK,oH,or_false]at hm;omega)
  have hJ:=kn.I I;have kv:∀b,b<↑w2->b∉[b4,mb]:=λb hb hm=>oo (gv b hm)
  have qj:bE∉[b4,mb]:=by simp only[oK,oH,or_false];omega
  have ql:QK ↑E b4 53 [r2,sS 0,nS,nS]:=((hC.I hG)).I I;have q4:QK ↑E b2 53 [nS,sS 0,nS,nS]:=((h9.I hM).I T).I (hG.D I);have q5:=Qm hv (T.D (hG.D I));have j1:Qh 3 ↑E gt (sL kt 1 1) [0]:=p8.own (n:=1) (sz:=1) O oa oa;have kw:Qfd (Z3 (rstr q.a lf)).num (xj [] (0:Int) (sS 0)):=by
   have h0:Qfd (oG q.n (-1)) ([]:List (Int×O3)):=λs hs=>by
    have j2:s<q.n:=by simpa using hs
    have:O7 (oG q.n (-1)) s=-1:=by unfold O7;simp[oN,j2]
    rw[this];rfl
   have h1:=h0.set (k:=0) (by simp;omega) (v:=0) (MC _);unfold Z3;rw[kj];exact h1
  have gx:∀e∈(rstr q.a lf).ed,0<=e.1/\e.1<q.a.st/\0<=e.2.2/\e.2.2<q.a.st:=λe Y=>by have:=(Kg hq.ok lf).ed e Y;exact⟨this.1,this.2.1,this.2.2.2.1,this.2.2.2.2⟩
  have kx:Ud q.a.st (Z3 (rstr q.a lf)):=QgF (a:=rstr q.a lf) pz;have kz:(rstr q.a lf).mr=q.a.mr:=rfl;refine Zd (rstr q.a lf) λR hR=>?_;rw[hR]at hf ku kw gx kx kz kq;have j3:R.al=q.a.al:=by rw[<-hR];rfl
  have hnN:q.a.st.toNat=q.n:=oa
  refine QX (α:=Nat×Cs×List (Int×O3)×O3×O3×O3) [(9,10),(12,14),(78,142)] (λz=>[(9,z.2.2.2.1),(10,sS z.1)])
   (λz w'=>KW b4 mb r2 E z.2.1 z.2.2.1 z.2.2.2.1 z.2.2.2.2.1 z.2.2.2.2.2 w'/\z.1<=z.2.1.ord.length/\Ud q.a.st z.2.1/\z.2.1.mk'.length<=z.1/\z.2.1.ed.length<=z.1*131072/\Xg R (q.n - z.1) z.1 z.2.1=Xg R q.n 0 (Z3 R)) (λz=>q.n - z.1) (0,Z3 R,xj [] (0:Int) (sS 0),sL kt 1 1,nS,nS) ov
   ⟨⟨hw.any,ql.I hw,kr.I hw,kw,j1,QL _ _ _ _,QL _ _ _ _,Dj.nil' _,Dj.nil' _,Dj.nil' _⟩,Lo _,kx,Lo _,Lo _,O⟩ ?_
  rintro⟨i,c,m,vo,vk,ve⟩ g j4 ⟨hI,hi,hc,za,z0,gy⟩;simp only[]at hI hi hc za z0 gy;have hcle:=hc.le;have hT:=Qh.ints (L:=[]) hI.o oa od;refine Qd<|Ql<|Qa<|QG hT O<|ZW O O<|xe<|Zp O (λz1=>?_) (λz1=>?_)
  ·refine Qt ?_;have z2:c=Xg R q.n 0 (Z3 R):=by rw[<-gy,Qar oa]
   refine Ql<|QG hT O<|Q9 O<|Qo<|Qv hI.B4 O O od rfl λhy U hg=>xe ?_;have z3:=Qh.ints (L:=[]) hI.k oa od;have z4:=Yd.eds (L:=[]) hI.e (oo hc.el) od;refine Qc<|Q3 hg O O<|Qa<|Q5 [r2,sS c.ord.length,vk,ve] ((q4.J hI.st (kv _ oa)).J U (by simp;omega)) ⟨hN.one,O,z3.one,z4.one,Z⟩ λw13 hU hB13=>Qb ?_;have k0:O6 [b4,mb] E hy:=hI.st.O U (λb hb=>.inl (by simp at hb;simp[hb]));have hfin:sW w w13:=(p9.O k0 (λb hb=>.inr (oo (gv b hb)))).Q hU oa;refine Qj ⟨[.agg #[r2,sS c.ord.length,vk,ve],vo],⟨JN hB13,O,Z⟩,hfin,_,_,O,?_,hT.one⟩;rw[<-z2]at hf;subst hf;have k1:=Qg (Qg hI.k U (λb hb=>by have:=(Qi hI.k b hb).1;simp;omega)) hU (λb hb=>by have:=(Qi hI.k b hb).1;simp;omega);have k2:=Qg (Qg hI.e U (λb hb=>by have:=(Qi hI.e b hb).1;simp;omega)) hU (λb hb=>by have:=(Qi hI.e b hb).1;simp;omega);have k3:=Qg (Qg q5 k0 (λb hb=>kv b (pu b hb))) hU (λb hb=>by have:=(Qi hv b hb).1;simp;omega);exact⟨r2,vk,ve,O,λL' hF=>⟨by rw[j3];exact Qh.ints k3 hA.a.al.le (λb hb=>oo (hF b hb)),Qh.ints k1 (by show c.mk'.length<=_;omega) (λb hb=>oo (hF b hb)),Yd.eds k2 (by show c.ed.length<=_;have:=hc.el;omega) (λb hb=>oo (hF b hb))⟩⟩
  have G:i<c.ord.length:=oa
  refine Qf ?_;have k5:=Zo G;have hsr:=hc.ord _ (Xy G);have hj:=Qg4 (a:=R) G;refine Zd (O7 c.ord i) λs0 hs0=>?_;rw[hs0]at k5 hsr hj;have k6:s0=(s0.toNat:Int):=oa
  have gz:s0.toNat<q.n:=oa
  have hos0:VT R.ed s0.toNat=QM R.ed s0:=by unfold VT;rw[<-k6]
  have hV:=ku s0.toNat gz;rw[hos0]at hV;have hosl:=Yg R.ed s0;have k9:∀e∈QM R.ed s0,0<=e.2.2/\e.2.2<q.a.st:=λe Y=>⟨(gx e (Zt Y).1).2.2.1,(gx e (Zt Y).1).2.2.2⟩;refine Zd (QM R.ed s0) λos hos=>?_;rw[hos]at hV hosl k9 hj;refine Qd<|Qn<|Qd<|Ql<|Qa<|Qa<|xii (i:=i) hT O O G λa87 ma=>?_;rw[k5]at ma;refine x (Qq ma O)<|x (QE (i:=s0.toNat) O (OW sS k6) gz)<|ZD (u:=rv s0.toNat) (hJ.J hI.st qj) O (K5 gz)<|QG (hV.st hI.st) O<|Qa<|xe<|QX (α:=Nat×Cs×List (Int×O3)×O3×O3) [(9,9),(12,14),(92,126)] (λz=>[(9,z.2.2.2.1),(92,sS z.1)])
   (λz w'=>KW b4 mb r2 E z.2.1 z.2.2.1 z.2.2.2.1 vk z.2.2.2.2 w'/\z.1<=os.length/\Ud q.a.st z.2.1/\z.2.1.mk'=c.mk'/\z.2.1.ed.length=c.ed.length+z.1/\(∃r,z.2.1.ord=c.ord++r)/\(os.drop z.1).foldl (Zs i) z.2.1=os.foldl (Zs i) c) (λz=>os.length - z.1) (0,c,m,vo,ve) ov
   ⟨hI,Lo _,hc,O,O,⟨[],od⟩,rfl⟩ ?_
  rintro⟨k4,d,m4,hW,hX⟩ g hy ⟨hh,hk4,J,g0,mc,hY,h3⟩;simp only[]at hh hk4 J g0 mc hY h3;have hcle4:=J.le;have hoA4:=Qh.ints (L:=[]) hh.o oa od;have g2:i<d.ord.length:=by obtain⟨r,hr⟩:=hY;rw[hr,Lc];omega
  have mf:O7 d.ord i=s0:=by obtain⟨r,hr⟩:=hY;rw[hr,y9 G];exact hs0
  refine Zk O O (λh93=>?_) (λh93=>?_)
  ·refine Qt ?_;rw[Lu oa,NJ]at h3;rw[<-h3]at hj;have mg:=qf.st hh.st;have hg4:d.ord[i]'g2=s0:=by rw[Zo g2];exact mf
   have hmkC:Ym R i d=if s0∈q.a.mr then⟨d.ord,d.num,d.mk'++[(i:Int)],d.ed⟩else d:=by
    unfold Ym;rw[Vx,MK,mf,kz]
   rw[hmkC]at hj;have hZ:Xg R (q.n - (i+1)) (i+1) (zb R i c)=Xg R q.n 0 (Z3 R):=by
    rw[<-gy];obtain⟨t,ht⟩:∃t,q.n - i=t+1:=⟨q.n - i - 1,oa⟩;rw[ht,Xg,OV G,show q.n - (i+1)=t by omega]
   have hm4l:=OW oV g0;refine Qd<|ZK [] (Xj 0 10 [9])<|p Qy<|p (YN O)<|p (QH O)<|p (QH O)<|pq (λ_ hc=>Qk (mg.B.I hc) O O)<|p Qy <|
    p Qy<|pii (i:=i) O hoA4 O O g2 λa134 mh=>?_
   rw[hg4]at mh;refine pq (λ_ hc=>Qq (mh.I hc) O)<|pk<|xg<|(ZH (mg.a.mr.I (O6.X _ _)) s0).S ?_;rintro r16 w16 ⟨rfl,rfl⟩;refine⟨O6.X _ _,pe ?_⟩;have ha:=hh.I (O6.X [] hy);refine Zp O (λg3=>?_) (λg3=>?_)
   ·rw[OU g3]at hj;refine Qf<|Qr<|Qa<|QB O O<|Qb ?_;rw[hj]at hZ;exact⟨(i+1,d,m4,hW,vk,hX),oe,ov,ha,oe,J,oe,oe,hZ⟩
   rw[OV g3]at hj;refine Qr<|Qs O ha.B4 O O<|Qa<|Qo<|Q8 [[sS i]] λb140 w17 hs17 hb140 hB140=>?_;have hK:=ha.I hs17;refine Qo<|Q2 (news:=[sS i]) (L:=[]) hK.k O O O (hB140.at od) om oa hK.st.size λmj w18 mo mq hn18=>?_;have hk18:Qh 3 ↑E w18 mj (d.mk'++[(i:Int)]):=Qh.snoc mo;refine Q9 O<|Qo<|Qv (hK.B4.J mq (QJ hK.k hH)) O O od (QA mo) λw19 hs19 hB19=>xe ?_;have hI19:=hK.setK hH hS gu mq hk18 hn18 hs19 hB19;refine Qr<|Qa<|QB O O<|Qb ?_;rw[hj]at hZ;exact⟨(i+1,⟨d.ord,d.num,d.mk'++[(i:Int)],d.ed⟩,m4,hW,mj,hX),oe,ov,hI19,oe,⟨J.nl,J.sum,J.ord,J.num,J.el⟩,by simp only[oM,oL];omega,oe,hZ⟩
  refine Qf ?_;have ga:k4<os.length:=oa
  have hdr:=QY ga;rw[hdr,LQ]at h3;have hto:=k9 _ (Lm ga);refine Zd (os[k4]'ga) λe Y=>?_;rw[Y]at h3 hto;have gb:e.2.2=(e.2.2.toNat:Int):=oa
  have gc:e.2.2.toNat<d.num.length:=by rw[J.nl];omega
  have ms:=hh.nm e.2.2.toNat gc;rw[<-gb]at ms;have mt:ZZ d.num e.2.2=O7 d.num e.2.2.toNat:=rfl;refine Qd<|Qn<|Qc<|xie (hV.st hh.st) O O ga λa94 mu=>?_;rw[Y]at mu;refine x (QF mu O O)<|QT [sS 0,sS 0,sS 0] λg4 w20 hs20 g5 hg=>Q5 (Qp e) hg ox λge hs21 hg=>xe ?_;have mv:sW hy ge:=hs20.Q hs21 g5;have ha:=hh.I mv;have hl12:=hg.lt;have hz21:=mv.size;have hIz:=hh.st.size;have hc5:Ud q.a.st (Zs i d e):=Qca J hto.1 hto.2 (oo J.el);have mw:Zs i d e=⟨(Yv d e).ord,(Yv d e).num,(Yv d e).mk',(Yv d e).ed++[((i:Int),e.2.1,ZZ (Yv d e).num e.2.2)]⟩:=zV gc;refine QW (α:=O3) [(13,14),(96,102)] (λz=>[(13,sS (if O7 d.num e.2.2.toNat<0 then 0 else O7 d.num e.2.2.toNat)),(14,.bool (!decide (O7 d.num e.2.2.toNat<0)))]) (λz w'=>w'=ge) oh ?_ ?_
  ·refine Qr<|Qa<|Qs O hg O O<|x (v:=.tuple #[sS (if O7 d.num e.2.2.toNat<0 then 0 else O7 d.num e.2.2.toNat),.bool (!decide (O7 d.num e.2.2.toNat<0))]) ((K6 (k:=e.2.2) ha.M O O).D (OW (λv=>Result.ok (Next.value v) _) ?_))<|Qa<|QO O O<|QO O O<|x Qe<|Qb ?_
   ·rw[ms];by_cases ho:O7 d.num e.2.2.toNat<0
    ·simp[ho]
    simp[ho]
   exact⟨.bool true,ov,O⟩
  rintro z5 g ge rfl;refine QW (α:=O3×List (Int×O3)×Int) [(9,9),(13,13),(103,115)] (λz=>[(9,z.1),(13,sS z.2.2)]) (λz w'=>O7 (Yv d e).num e.2.2.toNat=z.2.2/\KW b4 mb r2 E (Yv d e) z.2.1 z.1 vk hX w'/\QK ↑w' g4 179 (Qp e)/\ge.heap.size<=↑w') oh ?_ ?_
  ·refine Ql<|x (Zj O)<|xe<|Q6 O (λg6=>?_) (λg6=>?_)
   ·have ho:O7 d.num e.2.2.toNat<0:=by simpa using g6
    have hL:Yv d e=⟨d.ord++[e.2.2],d.num.set e.2.2.toNat d.ord.length,d.mk',d.ed⟩:=by unfold Yv;rw[mt,OV ho]
    have hcg:O7 (Yv d e).num e.2.2.toNat=(d.ord.length:Int):=by rw[hL];unfold O7;simp[oN,gc]
    refine Ql<|QG (Qh.ints (L:=[]) ha.o oa od) rfl<|Qb<|Ql<|Qs rfl hg rfl rfl<|Qa<|Qo<|YR (k:=e.2.2) ha.M rfl rfl λw22 g7 hM22=>xe ?_;have my:=ha.nm.set gc (v:=(d.ord.length:Int)) oa;rw[<-gb]at my;have hI6:=ha.setN hS gu g7 hM22 my;have gg:=hg.J g7 (by simp;omega);refine Qr<|Qa<|Qs O gg O O<|Qo<|Q8 [[sS e.2.2]] λb114 w23 g8 hb114 hB114=>?_;have g9:=hI6.I g8;refine Qo<|Q2 (news:=[sS e.2.2]) (L:=[]) g9.o O O O (hB114.at od) om (by show d.ord.length+1<=_;omega) g9.st.size λmz w24 ho24 T hn24=>Qb ?_;have hk24:Qh 3 ↑E w24 mz (d.ord++[e.2.2]):=Qh.snoc ho24;have hb12o:g4∉ob hW:=λhb=>oo (QV hh.o g4 hb)
    have h4:=g9.setO hH hS T hk24 hn24;have:=g7.size;have:=g8.size;have:=T.size;refine⟨(mz,xj m4 e.2.2 (sS d.ord.length),(d.ord.length:Int)),ov,hcg,?_,(gg.I g8).J T hb12o,oa⟩;simp only[];rw[hL];exact h4
   have ho:¬O7 d.num e.2.2.toNat<0:=by simpa using g6
   have hL:Yv d e=d:=by unfold Yv;rw[mt,OU ho]
   have kf:(if O7 d.num e.2.2.toNat<0 then 0 else O7 d.num e.2.2.toNat)=O7 (Yv d e).num e.2.2.toNat:=by rw[hL,OU ho]
   refine Qf<|⟨(hW,m4,if O7 d.num e.2.2.toNat<0 then 0 else O7 d.num e.2.2.toNat),ov,kf.symm,?_,hg,Lp _⟩
   rw[hL];exact ha
  rintro⟨vo5,m5,tn⟩ g w25 ⟨m0,h4,gg,hz25⟩;simp only[]at h4 m0;have m1:(Yv d e).ed=d.ed:=by unfold Yv;split <;> rfl
  have hgN:ZZ (Yv d e).num e.2.2=O7 (Yv d e).num e.2.2.toNat:=rfl;rw[hgN,m1,m0]at mw;have heN:Yd 179 ↑E w25 hX d.ed:=by have:=h4.e;rw[m1]at this;exact this
  refine Qr<|Qs O h4.B4 O O<|Qa<|Qs O gg O O<|Qa<|x (QD ⟨O,O,O,Z⟩) <|
   Qo<|Q8 [Qp ((i:Int),e.2.1,tn)] λb123 w26 m2 hb123 hB123=>?_
  have gh:=h4.I m2;refine Qo<|Q2 (m:=1) (news:=Qp ((i:Int),e.2.1,tn)) (L:=[]) (Qm heN m2) O O O (hB123.at od) (λu hu=>by simp only[Qp,oK,oH,or_false]at hu;rcases hu with rfl|rfl|rfl <;> rfl) (oo J.el) gh.st.size λm3 w27 m6 m7 hn27=>?_
  have hk27:Yd 179 ↑E w27 m3 (d.ed++[((i:Int),e.2.1,tn)]):=Yd.snoc m6;refine Q9 O<|Qo<|Qv (gh.B4.J m7 (QJ gh.e hH)) O O od (QA m6) λw28 hs28 hB28=>xe ?_;have m8:=gh.setE hH hS gu m7 hk27 hn27 hs28 hB28;rw[<-mw]at m8;refine Qr<|QB O O<|Qa<|xe<|⟨(k4+1,Zs i d e,m5,vo5,m3),oe,ov,m8,oe,hc5,?_,?_,?_,h3⟩
  ·simp only[];rw[<-g0];exact(Qcb i d [] e).2
  ·simp only[];rw[Qcc,mc];omega
  simp only[];obtain⟨r1,h1⟩:=jN i d e;obtain⟨r2',h2⟩:=hY;exact⟨r2'++r1,by rw[h1,h2,LA]⟩
 refine Qf ?_;have G:k<q.a.ed.length:=by have hQ:(k:Int)<(q.a.ed.length:Int):=gq;omega
 have m9:=hq.ok.ed _ (Lm G);have htk:q.a.ed.take (k+1)=q.a.ed.take k++[q.a.ed[k]'G]:=Ll G;have h5:(q.a.ed.take (k+1)).filter (λe=>lft lf e.2.2)=(q.a.ed.take k).filter (λe=>lft lf e.2.2)++if lft lf (q.a.ed[k]'G).2.2=true then[q.a.ed[k]'G]else[]:=by
  rw[htk,LT];congr 1;by_cases h:lft lf (q.a.ed[k]'G).2.2=true
  ·simp[h]
  simp[h]
 have hfll:((q.a.ed.take k).filter (λe=>lft lf e.2.2)).length<=k:=Lz (LK _ _) (by rw[LC];omega);refine Zd ((q.a.ed.take k).filter (λe=>lft lf e.2.2)) λkept hkept=>?_;rw[hkept]at h5 V hfll;refine Zd (q.a.ed[k]'G) λe Y=>?_;rw[Y]at m9 h5;have pc:e.1=(e.1.toNat:Int):=oa
 have gb:e.2.2=(e.2.2.toNat:Int):=oa
 have hp:e.1.toNat<q.n:=oa
 refine Qd<|Qn<|Qc<|xie ko.a.ed O O G λa52 hQ=>?_;rw[Y]at hQ;refine x (QF hQ O O)<|QT [sS 0,sS 0,sS 0] λb7 w8 gr hb7 h6=>Q5 (Qp e) h6 ox λE gs h6=>xe ?_;have I:sW w7 E:=gr.Q gs hb7;have p7:=I.size;have ka:=V.I I;have hJ:=kn.I I;refine Qd<|ZK [] (Xj 0 8 [])<|p Qy<|p (YN O)<|p (QH O)<|pq (λ_ hc=>Qk ((ko.I I).B.I hc) O O)<|p (QH O)<|pq (λ_ hc=>Qk (h6.I hc) O O) <|
  p (λ_=>QE (i:=e.2.2.toNat) O (OW sS gb) oa)<|pq (v:=.bool (lft lf e.2.2)) (λ_ hc=>(JW (i:=e.2.2.toNat) ((hB.I (gn.D I)).I hc) O oa).D (by rw[(qt (l:=lf) (s:=e.2.2) oa)]))<|pe ?_
 have h7:sW E { E with drawn:=E.drawn+1 }:=O6.X _ _
 refine Q6 rfl (λkb=>?_) (λkb=>?_)
 ·rw[OV kb]at h5;have kc:∀b∈ob (rv e.1.toNat),↑w6<=b/\b<w7.heap.size:=λb hb=>⟨(Qi (V.own _ hp) b hb).1,QV (V.own _ hp) b hb⟩;have pd:bE∉ob (rv e.1.toNat):=λhb=>oo (kc _ hb)
  have ke:b7∉ob (rv e.1.toNat):=λhb=>oo (kc _ hb)
  have kq:=Qcl kept e.1.toNat;refine V9 (O6 (ob (rv e.1.toNat)) E) [oz 0,oz 1,oz 2,oz 3,oz 4,oz 5,oz 6,oz 7,oz 8,oA 9,oA 10,oz 11,oA 12] mixed oh oc (h7.any.V (O6.X _ _)) ?_;refine p Qy<|p (QH O)<|pq (λ_ hc=>Qk (h6.J hc ke) O O)<|p Qy<|p (QH O) <|
   pq (λ_ hc=>Qk (h6.J hc ke) O O)<|p (λ_=>QE (i:=e.1.toNat) O (OW sS pc) hp)<|pq (λ_ hc=>Qk (u:=rv e.1.toNat) (hJ.J hc pd) O (K5 hp)) <|
   pq (λ_ hc=>Zi (h6.J hc ke) O O)<|pk<|Q8 [Qp e] λb71 gt hw hb71 hB71=>⟨(h7.any.V (O6.X _ _)).V hw.any,?_⟩
  have h8:sW E gt:=(h7.D (O6.X _ _)).D hw;have hz10:=h8.size;refine pk<|Q2 (m:=1) (news:=Qp e) (L:=[]) (Qm (ka.own _ hp) h8) O O O (hB71.at od) (λu hu=>by simp only[Qp,oK,oH,or_false]at hu;rcases hu with rfl|rfl|rfl <;> rfl) oa oa λvr j4 pf gi hn11=>⟨h8.any.V gi,?_⟩
  have hlen:((oJ q.n).map rv).length=q.n:=od
  refine p (λ_=>QE (i:=e.1.toNat) O (OW sS pc) hp)<|pkk<|Qv (j:=0+e.1.toNat*1) (u:=vr) ((hJ.I h8).J gi pd) O O (by rw[hlen];omega) (QA pf) λhy U hBE12=>pe ?_;have g5:QK ↑hy bE 51 ((oJ q.n).map (Xv rv e.1.toNat vr)):=by
   have e1:=Ke id q.n rv e.1.toNat vr;simp only[id]at e1;rw[<-e1];simpa using hBE12
  have hvn:∀b∈ob vr,b∈ob (rv e.1.toNat)\/↑E<=b:=λb hb=>(hn11 b hb).imp id (λh=>oa);have pg:=ka.app hp (Yd.snoc pf) (h8.any.V gi) hvn;have ph:=pg.J U (λi hi b hb=>by have:=(Qi (pg.own i hi) b hb).1;simp only[oF];omega);rw[qc kept e m9.1,<-h5]at ph;refine Qr<|QB O O<|Qa<|xe ?_;exact⟨(k+1,Xv rv e.1.toNat vr),oe,La,G,(((hP.D I).D h8).O gi (λb hb=>.inr (kc b hb).1)).V U,g5,ph⟩
 rw[OU (by rw[kb];decide),LH]at h5;refine Qf<|Qr<|QB O O<|Qa<|xe ?_;exact⟨(k+1,rv),oe,La,G,(hP.D I).D h7,(hJ.I h7),by simp only[];rw[h5];exact ka.I h7⟩
def EdR (L:LN)(H:xC)(v:O3)(n:Nat)(ed:List Ed):Prop :=
 ∃rv:Nat->O3,Zu L H v (oJ n).length 1 ((oJ n).flatMap λi=>[rv i])/\∀i:Nat,i<n->U4 L H (rv i) (QM ed i)
theorem EdR.I {L:LN}{w w':O2}{v:O3}{n:Nat}{ed:List Ed}(h:EdR L ↑w v n ed)(E:sW w w'):EdR L ↑w' v n ed :=
 let⟨rv,G,I⟩:=h;⟨rv,G.I E,λi hi=>(I i hi).I E⟩
theorem ya (n:Nat)(rv:Nat->O3):((oJ n).flatMap λi=>[rv i])=(oJ n).map rv:=by
 induction oJ n with
 | nil=>rfl
 | cons x l ih=>rw[LM,ih];rfl
theorem QK.ne {H:xC}{a b T':Nat}{G:LV}(h:QK H a T cs)(E:QK H b T' G)(hT:T≠T'):a≠b:=λe=>by
 subst e;unfold QK at h E;rw[h]at E;injection E with h1
 injection h1 with h2 h3
 exact hT h3
abbrev slN (b n:Nat):O3:=sL b n n
theorem JK.edr {b:Nat}{f:Nat->O3}(h:JK base w n f (VT ed))(E:QK ↑w b T ((oJ n).map f))(G:n<=4096)(hl:ed.length<=1000000):EdR [] ↑w (slN b n) n ed:=by
 refine⟨f,?_,λi hi=>QN (h.own i hi) (oo (Yg ed i)) od⟩;rw[ya];have:=E.arr (L:=[]) od (n:=(oJ n).length) (cap:=n) (sz:=1) od (by simp;omega) od;rw[Mb]at this ⊢;exact this
structure ObA (H:xC)(vr vk vz vm:O3)(a:Qz)(o:LI):Prop where
 r:EdR [] H vr a.st.toNat a.ed
 k:Qu [] H vk (kpt a o)
 z:Qu [] H vz (ers a o)
 m:Qu [] H vm a.mr
theorem ObA.I {w w':O2}{vr vk vz vm:O3}{a:Qz}{o:LI}(h:ObA ↑w vr vk vz vm a o)(E:sW w w'):ObA ↑w' vr vk vz vm a o:=⟨h.r.I E,h.k.I E,h.z.I E,h.m.I E⟩
abbrev j0:LV:=[nS,nS,nS,nS]
instance:Bw sV 201 j0 [(0,1),(1,1),(2,1),(3,1)]:={}
def obP (base n:Nat)(vm:O3)(i:Nat)(v:O3)(w:O2):Prop :=
 if i=2 then ∃b,v=slN b n/\base<=b/\QK ↑w b 51 ((oJ n).map λ_=>nS) else
 if i=5 then ∃b,v=.agg #[slN b n,ZX,ZX,vm]/\base<=b/\QK ↑w b 51 ((oJ n).map λ_=>nS) else
 ∃b,v=sP b/\base<=b/\QK ↑w b 201 j0
theorem QmA {v:O3}(h:obP base n vm i v w)(E:sW w w'):obP base n vm i v w':=by
 unfold obP at *
 repeat' split at h
 all_goals simp_all only[if_true,if_false]
 all_goals exact(let⟨b,G,I,J⟩:=h;⟨b,G,I,J.I E⟩)
theorem QjR (o:LI){k:Nat}(h:k<a.al.length):((a.al.take (k+1)).filter λv=>decide (v∈o))=((a.al.take k).filter λv=>decide (v∈o))++if a.al[k]'h∈o then[a.al[k]'h]else[]:=by
 rw[Ll h,LT];congr 1;by_cases e:a.al[k]'h∈o <;> simp[e]
theorem QkA (o:LI){k:Nat}(h:k<a.al.length):((a.al.take (k+1)).filter λv=>!decide (v∈o))=((a.al.take k).filter λv=>!decide (v∈o))++if a.al[k]'h∈o then[]else[a.al[k]'h]:=by
 rw[Ll h,LT];congr 1;by_cases e:a.al[k]'h∈o <;> simp[e]
theorem Qei (h:Zr [] ↑w va vm ve a)(hO:Qu [] ↑w vo o)(hok:QS a):
  QU sV 94 [.agg #[va,sS a.st,vm,ve],vo] w λr w'=>sW w w'/\∃vr vk vz,r=.agg #[vr,vk,vz,vm]/\ObA ↑w' vr vk vz vm a o/\Qh 3 ↑w w' vk (kpt a o):=by
 have ku:=hok.st0;have kv:=hok.st1;obtain⟨n,hn⟩:∃n:Nat,a.st=n:=⟨a.st.toNat,oa⟩;have g2:a.st.toNat=n:=oa
 have kw:=hok.ed_le;have kx:=h.al.le;have g3:=hok.ed;refine Zm func94 ?_;refine Qc<|Zf [va,sS a.st,vm,ve] λb2 w1 ga kz h7=>QT j0 λb4 w2 hz k0 gb=>xe ?_;have hE:=ga.D hz;have k4:=gb.lt;have k5:=ga.size;refine Qd<|Vl (α:=Nat×Nat) (sW w2) [oz 0,oz 1,oz 3,oz 4] (λi=>if i=5 then[2]else[]) [2,5,6] [oA 7] [(12,12),(15,15),(5,5)] (obP ↑w2 n vm)
  (λz=>[(15,.agg #[slN z.1 n,ZX,ZX,vm]),(5,.pointer (some ⟨z.2,0,none⟩))]) (λz w'=>QK ↑w' z.1 51 ((oJ n).map λ_=>nS)/\QK ↑w' z.2 201 j0/\↑w2<=z.1/\↑w2<=z.2)
  mixed oh oc (O6.X _ _) (λ_ _ h1 h2=>h1.D h2) (λ_ _ _ _ h hs=>QmA h hs) ?_ ?_
 ·rintro g w' ⟨_,⟨b6,e1,g4,g5⟩,⟨b7,e2,g6,g7⟩,_⟩ _;exact⟨(b6,b7),⟨e1,e2,Z⟩,g5,g7,g4,g6⟩
 refine p (QH O)<|pq (λ_ hc=>Qk ((h7.I hz).I hc) O O)<|p (QH O)<|pq (λ_ hc=>Qk ((h7.I hz).I hc) O O)<|pe ⟨⟨?_,?_,?_,Z⟩,?_⟩
 ·intro g w' hc _;refine Y2 (n:=n) (OW sS hn) (OW sS hn) oa λb V Y hb hB=>⟨Y,⟨b,O,Lz hc.size hb,?_⟩,λc h0=>by rw[Lb.1 (show c∈[b] from h0)];exact⟨hb,hB.lt⟩⟩;rw[<-Up];exact hB
 ·rintro g w' hc ⟨⟨b,e2,hb,hB⟩,_⟩;refine xv (ZB [(0,[slN b n]),(3,[vm])] ⟨OW Value.cells e2,O,h.mr.cells,O,Z⟩) ?_;exact⟨O6.Y _ _,⟨b,O,hb,hB⟩,λc h0=>by cases h0⟩
 ·intro g w' hc _;exact YW (us:=j0) O λb V Y hb hB=>⟨Y,⟨b,O,Lz hc.size hb,hB⟩,λc h0=>by rw[Lb.1 (show c∈[b] from h0)];exact⟨hb,hB.lt⟩⟩
 rintro⟨bI,b5⟩ g w3 gc ⟨hF,hG,ge,h8⟩;simp only[]at hF hG ge h8;have hH:=QK.ne hF hG og;refine pk<|qo [slN bI n,ZX,ZX,vm] hG ⟨O,O,O,h.mr.one,Z⟩ λw4 hI gg=>⟨gc.Q hI h8,pe ?_⟩;have h9:sW w2 w4:=gc.Q hI h8;have gh:=hF.J hI (by simp only[oF];exact hH);have k6:=gh.lt;have k9:=gg.lt;have g8:=(h7.I hz).I h9;refine Qd<|Qc<|Qs O g8 O O<|QG (h.ed.I (hE.D h9)) O<|Qa<|xe<|QX (α:=Nat×(Nat->O3)) [(7,7),(19,37)] (λz=>[(19,sS z.1)]) (λz w'=>z.1<=a.ed.length/\O6 [bI] w4 w'/\QK ↑w' bI 51 ((oJ n).map z.2)/\JK ↑w4 w' n z.2 (VT (a.ed.take z.1))) (λz=>a.ed.length - z.1) (0,λ_=>nS) La
  ⟨Lo _,O6.Y _ _,gh,⟨λi _=>QL _ _ _ _,λi j _ _ _=>Dj.nil _⟩⟩ ?_
 rintro⟨k,rv⟩ g V ⟨hk,Y,hJ,hh⟩;simp only[]at hk hJ hh;have ma:=Y.size;have hL:sW w2 V:=h9.Q Y ge;have hM:=hE.D hL;have g9:=(h7.I hz).I hL;have gi:=gg.J Y (by simp only[oF];exact hH.symm);refine Zk rfl O (λhN=>?_) (λhN=>?_)
 ·refine Qt ?_;have ka:a.ed.length<=k:=by have hP:¬(k:Int)<(a.ed.length:Int):=hN;omega
  rw[Lr ka]at hh;refine Qd<|Qc<|Qs O g9 O O<|QG (h.al.I hM) O<|Qa<|xe<|QX (α:=Nat×O3×O3) [(9,9),(41,60)] (λz=>[(41,sS z.1)]) (λz w'=>z.1<=a.al.length/\O6 [b5] V w'/\QK ↑w' b5 201 [slN bI n,z.2.1,z.2.2,vm]/\Qh 3 ↑V w' z.2.1 ((a.al.take z.1).filter λv=>decide (v∈o))/\Qh 3 ↑V w' z.2.2 ((a.al.take z.1).filter λv=>!decide (v∈o))/\Dj z.2.1 z.2.2) (λz=>a.al.length - z.1) (0,ZX,ZX) La
   ⟨Lo _,O6.Y _ _,gi,QL _ _ _ _,QL _ _ _ _,Dj.nil _⟩ ?_
  rintro⟨j,vk,vz⟩ g w6 ⟨hj,ha,hr,ho,hp,h3⟩;simp only[]at hj hr ho hp h3;have mc:=ha.size;have kb:sW w2 w6:=hL.Q ha h8;have hA:=hE.D kb;have hu:=Qi ho;have h4:=Qi hp;have gj:((a.al.take j).filter λv=>decide (v∈o)).length<=j:=Lz (LK _ _) (by rw[LC];omega);have gk:((a.al.take j).filter λv=>!decide (v∈o)).length<=j:=Lz (LK _ _) (by rw[LC];omega);refine Zk O O (λhQ=>?_) (λhQ=>?_)
  ·refine Qt ?_;have kc:a.al.length<=j:=by have hP:¬(j:Int)<(a.al.length:Int):=hQ;omega
   rw[Lr kc]at ho hp gj gk;have gl:(kpt a o).length<=1099511627776:=Lz gj oa;have gm:(ers a o).length<=1099511627776:=Lz gk oa;have hK:Qu [] ↑w6 vk (kpt a o):=Qh.ints ho gl od;have hZ:Qu [] ↑w6 vz (ers a o):=Qh.ints hp gm od;refine Qc<|Q3 hr O O<|Q5 [slN bI n,vk,vz,vm] ((gb.I h9).J Y ol |>.J ha ol) ⟨rfl,hK.one,hZ.one,h.mr.one,Z⟩ λw7 hf ke=>xe ?_;have hR:∀v:O3,(∀b∈ob v,↑V<=b)->∀b∈ob v,b∉[b4]:=λv hv b hb E=>by have:=hv b hb;rw[Lb.1 E]at this;omega
   refine Qj ⟨[.agg #[slN bI n,vk,vz,vm]],⟨JN ke,Z⟩,hA.Q hf oa,slN bI n,vk,vz,O,⟨?_,?_,?_,?_⟩,Za (Qg ho hf (hR vk λb hb=>(hu b hb).1)) hM.size⟩
   ·rw[g2];refine((hh.J ha λi hi b hb=>?_).J hf λi hi b hb=>?_).edr ((hJ.J ha (by simp only[oF];exact hH)).J hf ol) oa oa
    ·have:=(Qi (hh.own i hi) b hb).1;simp only[oF];omega
    have:=(Qi (hh.own i hi) b hb).1;simp only[oF];omega
   ·exact Qh.ints (Qg ho hf (hR vk λb hb=>(hu b hb).1)) gl od
   ·exact Qh.ints (Qg hp hf (hR vz λb hb=>(h4 b hb).1)) gm od
   exact h.mr.I (hA.Q hf oa)
  have I:j<a.al.length:=by have hP:(j:Int)<(a.al.length:Int):=hQ;omega
  have hg:=QjR (a:=a) o I;have hw:=QkA (a:=a) o I;refine Qf<|Qd<|Qn<|Qc<|xii (i:=j) (h.al.I hA) O O I λmf gn=>?_;refine Zd (a.al[j]'I) λv hv=>?_;rw[hv]at gn hg hw;refine x (Qq gn O)<|Qb<|Ql<|Qa<|Qw<|(ZH (hO.I hA) v).S ?_;rintro r6 w7 ⟨rfl,rfl⟩;refine xe<|Q6 O (λhS=>?_) (λhS=>?_)
  ·have hvo:v∈o:=OZ hS;rw[OV hvo]at hg hw;rw[LH]at hw;refine Qr<|Qs O hr O O<|Qa<|Qo<|Q8 [[sS v]] λmg w8 G mh kf =>
    Qo<|Q2 (m:=1) (news:=[sS v]) (L:=[]) (Qm ho G) O O O (kf.at od) om oa (oo G.size) λv8 w9 T J h5=>?_
   have kg:=G.size;have hT:b5∉ob vk:=λE=>oo (hu b5 E).1
   refine Q9 O<|Qo<|Qv (u:=v8) ((hr.I G).J J hT) O O (L6 O) (QA T) λhU U hV=>xe ?_;refine Qr<|QB O O<|Qa<|xe ?_;have hW:∀b∈ob v8,b∉[b5]:=λb hb E=>by
    have:=(Qi T b hb).1;rw[Lb.1 E]at this;omega
   refine⟨(j+1,v8,vz),by show a.al.length - (j+1)<a.al.length - j;omega,La,I,((ha.D G).O J λb hb=>.inr (hu b hb).1).V U,hV,?_,?_,?_⟩
   ·simp only[];rw[hg];exact Qh.snoc (Qg T U hW)
   ·simp only[];rw[hw];exact Qg (Qg (Qm hp G) J λb hb E=>h3 b E hb) U λb hb E=>by
     have:=(h4 b hb).1;rw[Lb.1 E]at this;omega
   intro b hb E;rcases h5 b hb with h1|h1
   ·exact h3 b h1 E
   have:=(h4 b E).2;omega
  have hvo:v∉o:=O1 hS;rw[OU hvo]at hg hw;rw[LH]at hg;refine Qr<|Qs O hr O O<|Qa<|Qo<|Q8 [[sS v]] λmj w8 G mo hC =>
   Qo<|Q2 (m:=1) (news:=[sS v]) (L:=[]) (Qm hp G) O O O (hC.at od) om oa (oo G.size) λv8 w9 T J h5=>?_
  have kg:=G.size;have hT:b5∉ob vz:=λE=>oo (h4 b5 E).1
  refine Q9 O<|Qo<|Qv (u:=v8) ((hr.I G).J J hT) O O (L6 O) (QA T) λhU U hV=>xe ?_;refine Qr<|QB O O<|Qa<|xe ?_;have hW:∀b∈ob v8,b∉[b5]:=λb hb E=>by
   have:=(Qi T b hb).1;rw[Lb.1 E]at this;omega
  refine⟨(j+1,vk,v8),by show a.al.length - (j+1)<a.al.length - j;omega,La,I,((ha.D G).O J λb hb=>.inr (h4 b hb).1).V U,hV,?_,?_,?_⟩
  ·simp only[];rw[hg];exact Qg (Qg (Qm ho G) J λb hb E=>h3 b hb E) U λb hb E=>by
    have:=(hu b hb).1;rw[Lb.1 E]at this;omega
  ·simp only[];rw[hw];exact Qh.snoc (Qg T U hW)
  intro b hb E;rcases h5 b E with h1|h1
  ·exact h3 b hb h1
  have:=(hu b hb).2;omega
 refine Qf ?_;have I:k<a.ed.length:=by have hP:(k:Int)<(a.ed.length:Int):=hN;omega
 have hg:a.ed.take (k+1)=a.ed.take k++[a.ed[k]'I]:=Ll I;have gq:=g3 _ (Lm I);refine Zd (a.ed[k]'I) λe he=>?_;rw[he]at hg gq;have gr:e.1=(e.1.toNat:Int):=oa
 have hq:e.1.toNat<n:=oa
 have kh:(VT (a.ed.take k) e.1.toNat).length<=(a.ed.take k).length:=Yg _ _;rw[LC]at kh;refine Qd<|Qn<|Qc<|xie (h.ed.I hM) O O I λmq gs=>?_;rw[he]at gs;refine x (QF gs O O)<|QT [sS 0,sS 0,sS 0] λb7 w6 ha ki kj=>Q5 (Qp e) kj ox λw7 hf hX=>xe ?_;have h6:sW V w7:=ha.Q hf ki;have ms:=h6.size;have gt:=hh.I h6;have hD:∀b∈ob (rv e.1.toNat),↑w4<=b/\b<V.heap.size:=λb hb=>⟨(Qi (hh.own _ hq) b hb).1,QV (hh.own _ hq) b hb⟩;have gu:bI∉ob (rv e.1.toNat):=λhb=>oo (hD _ hb)
 have gv:b5∉ob (rv e.1.toNat):=λhb=>oo (hD _ hb)
 have hY:b7∉ob (rv e.1.toNat):=λhb=>oo (hD _ hb)
 have gx:=hJ.I h6;have hC:=gi.I h6;refine V9 (O6 (ob (rv e.1.toNat)) w7) [oz 0,oz 1,oz 2,oz 3,oz 4,oz 5,oz 6,oz 7,oz 8,oz 9,oz 10,oA 11,oA 12,oz 13,oA 14] mixed oh oc (O6.X _ _) ?_;refine p (QH O)<|pq (λ_ hc=>Qk (hC.J hc gv) O O)<|p (QH O)<|pq (λ_ hc=>Qk (hX.J hc hY) O O) <|
  p (QH rfl)<|pq (λ_ hc=>Qk (hC.J hc gv) O O)<|p (QH O)<|pq (λ_ hc=>Qk (hX.J hc hY) O O) <|
  p (λ_=>QE (i:=e.1.toNat) O (OW sS gr) hq)<|pq (λ_ hc=>Qk (u:=rv e.1.toNat) (gx.J hc gu) O (K5 hq))<|pq (λ_ hc=>Zi (hX.J hc hY) O O) <|
  pk<|Q8 [Qp e] λmt w8 G mu kk=>⟨((O6.X _ _).D G).any,?_⟩
 have hy:sW w7 w8:=(O6.X _ _).D G;have mv:=hy.size;refine pk<|Q2 (m:=1) (news:=Qp e) (Qm (gt.own _ hq) hy) O O O (by have:=kk.at (L:=[]) od;simpa using this) (ZL.all (us:=Qp e) ⟨rfl,rfl,rfl,Z⟩) oa oa λvr w9 T J h5=>⟨hy.any.V J,?_⟩;have kn:((oJ n).map rv).length=n:=od
 have ko:=Yd.snoc T;refine p (λ_=>QE (i:=e.1.toNat) O (OW sS gr) hq)<|pkk<|Qv (j:=0+e.1.toNat*1) (u:=vr) ((gx.I hy).J J gu) O O (by rw[kn];omega) (QA T) λhU U kq=>pe ?_;have kr:QK ↑hU bI 51 ((oJ n).map (Xv rv e.1.toNat vr)):=by
  have e1:=Ke id n rv e.1.toNat vr;simp only[id]at e1;rw[<-e1];simpa using kq
 have kt:∀b∈ob vr,b∈ob (rv e.1.toNat)\/↑w7<=b:=λb hb=>(h5 b hb).imp id (λh=>oa);have gy:=gt.app hq ko (hy.any.V J) kt;have gz:=gy.J U (λi hi b hb=>by have:=(Qi (gy.own i hi) b hb).1;simp only[oF];omega);have g0:=qc (a.ed.take k) e gq.1;rw[<-hg]at g0;rw[g0]at gz;refine Qr<|QB O O<|Qa<|xe<|⟨(k+1,Xv rv e.1.toNat vr),by show a.ed.length - (k+1)<a.ed.length - k;omega,La,I,?_,kr,gz⟩;exact(((Y.D h6).D hy).O J (λb hb=>.inr (hD b hb).1)).V U
end Go.Lg
namespace Go.Proofs
open Go.Proofs.Tryz
open Go.Shelf
def Tryz.sortI_ren:Go.Shelf.Ren:=⟨λ|5=>62|8=>141|7=>140|19=>220|20=>221|10=>211|11=>212|12=>213|13=>214|14=>215|15=>216|16=>217|17=>218|18=>219|30=>257|31=>258|32=>259|33=>260|34=>261|35=>262|40=>286|n=>n,λ|23=>47|25=>3|3=>3|32=>246|22=>47|0=>0|44=>317|46=>319|4=>4|36=>311|35=>310|41=>205|5=>5|9=>9|53=>363|57=>367|63=>389|64=>379|n=>n,λ|n=>n⟩
theorem Tryz.sortI:Go.Proofs.SlLaysM.n5 sV Tryz.sortI_ren:=lyS
def Tryz.cmpI_ren:Go.Shelf.Ren:=⟨λ|43=>161|n=>n,λ|22=>47|23=>3|3=>3|4=>4|0=>0|n=>n,λ|n=>n⟩
theorem Tryz.cmpI:Go.Proofs.SlLaysE.n43 sV Tryz.cmpI_ren:=lyS
def Tryz.delI_ren:Go.Shelf.Ren:=⟨λ|10=>63|6=>142|n=>n,λ|22=>47|23=>3|25=>141|3=>3|4=>4|0=>0|n=>n,λ|n=>n⟩
theorem Tryz.delI:Go.Proofs.SlLaysH.n10 sV Tryz.delI_ren:=lyS
end Go.Proofs
namespace Go.Lg
open Go.Lg Go.Sort Go.Lib
abbrev iC:Int->O3:=Value.int .i64
theorem Ki {e:Nat}{cur:Array O3}(G:w.heap[g]?=some (.cells cur e (0,0)))(J:cur.toList.take (l.length*1)=l.map iC):Holds iC w g 0 l.toArray:=by
 intro j E;rw[LY]at E;have T:cur.toList[j]?=some (iC l[j]):=by
  have I:(cur.toList.take (l.length*1))[j]?=(l.map iC)[j]?:=by rw[J]
  rw[LZ,OV oa,My,LD E]at I;exact I
 have U:l.toArray[j]! = l[j]:=by simp[E]
 constructor
 ·show(match w.heap[g]? with|some (.cells c _ _)=>if(none:Option _).isSome then none else c[0+j]?|_=>none)=_
  rw[G,U];simp only[oX,Option.isSome_none,Ol,if_false];rw[<-MR,T]
 show(match w.heap[g]? with|some (.cells _ _ (lo,hi))=>decide (lo<=0+j) && decide (0+j<hi)|_=>false)=false
 rw[G];simp
theorem Uw {e:Nat}{cap k:Nat}{cur:Array O3}{os:xC}{d:Array Int}(T:base<=g)(I:w.heap[g]?=some (.cells cur e (0,0)))(hf:d.size<=cap)(U:cap<=maxLen)(V:cur.size=cap*1)(hk:k<=d.size):
  O6 [g] w (grow (putRow iC (Sort.ahead w n) g 0 d) os)/\Qh e base (grow (putRow iC (Sort.ahead w n) g 0 d) os) (sL g k cap) (d.toList.take k):=by
 have Y:g<w.heap.size:=(LO.1 I).1;have E:(grow (putRow iC (Sort.ahead w n) g 0 d) os).heap=w.heap.modify g (onCells (putCells iC 0 d))++os:=rfl;have ha:(d.toList.take k).length=k:=by simp;omega
 refine⟨⟨O,O,O,?_,λi hi hn=>?_⟩,?_⟩
 ·rw[E,NA,MJ];omega
 ·rw[E,MG,MJ,OV hi,MZ,OU (λe=>hn (by simp[e]))]
 unfold Qh;rw[ha];refine⟨by simp;omega,.inr ⟨g,cap,putCells iC 0 d cur,O,T,?_,oa,U,by simp[putCells,V],?_⟩⟩
 ·rw[E,MG,MJ,OV Y,MZ,OV rfl,I];rfl
 apply Nr;intro j;rw[LZ,My,LZ];by_cases J:j<k
 ·rw[OV oa,OV J];have he:j<cur.size:=oa
  have G:j<d.size:=oa
  rw[MR,MR,MM G];simp only[putCells,Array.getElem?_mapIdx,Array.getElem?_eq_getElem he,OD,Nat.zero_le,oX,true_and,OV G,ON];rw[getElem!_pos d j G]
 rw[OU oa,OU J];rfl
theorem Kf {v:O3}(h:Qh 3 base w v l)(hl:l.length<=1099511627776):
  QU sV 62 [v] w λ_ w'=>O6 (ob v) w w'/\Qh 3 base w' v (l.mergeSort λx y=>decide (x<=y)):=by
 unfold QU;rcases h.2 with⟨rfl,T⟩|⟨g,cap,cur,rfl,U,G,hj,V,Y,ha⟩
 ·have hf:l=[]:=Ls T;subst hf;have hc:=AnyM.slices_Sort_int_none Tryz.sortI none 0 w;change Calls sV 62 _ _ _ at hc;refine Calls.mono hc λe w' I=>?_;obtain⟨rfl,rfl⟩:=I;exact⟨O6.Y _ _,by rw[List.mergeSort_nil];exact h⟩
 have hh:g<w.heap.size:=(LO.1 G).1;have hc:=AnyM.slices_Sort_int Tryz.sortI g 0 cap l w (Ki G ha) hh oa;change Calls sV 62 _ _ _ at hc;refine Calls.mono hc λe w' I=>?_;obtain⟨rfl,n,os,rfl⟩:=I;have J:=(Nf l (λx y=>decide (x<=y))).length_eq;have:=Uw (e:=3) (n:=n) (k:=l.length) (os:=os) (d:=(l.mergeSort λx y=>decide (x<=y)).toArray) U G (by simp;omega) V Y od;refine⟨this.1,?_⟩;have E:=this.2;simp only[List.take_of_length_le (Nat.le_of_eq J)]at E;unfold Qh at E ⊢;rw[J]at E ⊢;exact E
theorem QiI {v:O3}(h:Qh 3 base w v l)(hl:l.length<=1099511627776):
  QU sV 62 [v] w λ_ w'=>O6 (ob v) w w'/\∃l',l'.length=l.length/\(∀x,x∈l'↔x∈l)/\Qh 3 base w' v l' :=
 (Kf h hl).S λ_ _ ⟨E,G⟩=>⟨E,_,(Nf l _).length_eq,λ_=>(Nf l _).mem_iff,G⟩
theorem zL (l:LI):∀m,m<=l.length->∀x,x∈compactUpTo l.toArray m↔x∈l.take m
 | 0,_,x=>by simp[compactUpTo]
 | m+1,h,x=>by
  have G:m<l.length:=oa
  have hx:l.toArray[m]! = l[m]:=by simp[G]
  rw[compactUpTo_succ,Le,(zL l m oa x),Ll G,Le,hx,Lb];by_cases E:keeps l.toArray m=true
  ·rw[OV E,Lb]
  rw[OU E];refine⟨λh=>.inl (h.resolve_right od),λh=>.inl (h.elim id λe=>?_)⟩;simp only[keeps,decide_eq_true_eq,not_or]at E;have T:m≠0:=by simpa using E.1
  have I:l.toArray[m]! = l.toArray[m - 1]!:=by simpa using E.2
  have J:l.toArray[m - 1]! = l[m - 1]:=by simp[show m - 1<l.length by omega]
  rw[e,<-hx,I,J];rw[List.mem_take_iff_getElem];exact⟨m - 1,oa,O⟩
theorem QnH {v:O3}(h:Qh 3 base w v l)(hl:l.length<=1099511627776):
  QU sV 161 [v] w λr w'=>O6 (ob v) w w'/\∃l',l'.length<=l.length/\(∀x,x∈l'↔x∈l)/\Qh 3 base w' r l':=by
 rcases h.2 with⟨rfl,J⟩|⟨g,cap,cur,rfl,T,E,U,V,Y,ha⟩
 ·have hf:l=[]:=Ls J;subst hf;refine Zm func161 ?_;refine Qc<|Qb<|Qd<|Ql<|x (Ut O)<|ZW O O<|xe<|Zg O (λ_=>?_) (λh8=>OX og h8);refine Ql<|Qb<|Qj ⟨[nS],La,O6.Y _ _,[],Lp _,λx=>Iff.rfl,h⟩
 unfold QU;have hc:=AnyE.slices_Compact Tryz.cmpI iC (λ_=>O) (.intD _ _ .i64) (.intD _ _ .i64) 0 (λw=>oc) g 0 cap l.toArray w (Ki E ha) (by simp;omega) (ou U);change Calls sV 161 _ _ _ at hc;rw[LY]at hc;refine Calls.mono hc λe w' he=>?_;obtain⟨rfl,q,rfl⟩:=he;have G:=zL l l.length (Lp _);rw[OI]at G;have hh:(compactUpTo l.toArray l.length).length<=l.length:=by
  unfold compactUpTo;rw[Ln];exact Lz (LK _ _) od
 generalize compactUpTo l.toArray l.length=u at *;have:=Uw (e:=3) (n:=q) (k:=u.length) (os:=#[]) (d:=(u++oG (l.length - u.length) 0).toArray) T E (by simp;omega) V Y od;rw[grow_empty]at this;refine⟨this.1,u,hh,G,?_⟩;have I:=this.2;have h3:(u++oG (l.length - u.length) 0).toArray.toList.take u.length=u:=od
 rw[h3]at I;exact I
structure VwV where
 b:Nat
 va:O3
 vm:O3
 ve:O3
 vo:O3
 vu:O3
 vr:O3
 a:Qz
 o:LI
 un:LI
abbrev QlU (V:VwV):LV:=[V.va,sS V.a.st,V.vm,V.ve,V.vo,V.vu,V.vr]
structure VwA (H:xC)(V:VwV):Prop where
 blk:QK H V.b 236 (QlU V)
 a:Zr [] H V.va V.vm V.ve V.a
 o:Qu [] H V.vo V.o
 u:Qu [] H V.vu V.un
 r:EdR [] H V.vr V.a.st.toNat V.a.ed
 ok:QS V.a
theorem VwA.I {w w':O2}{V:VwV}(h:VwA ↑w V)(E:sW w w'):VwA ↑w' V:=⟨h.blk.I E,h.a.I E,h.o.I E,h.u.I E,h.r.I E,h.ok⟩
abbrev Qrb:LV:=[nS,sS 0,nS,nS,nS,nS,nS]
instance:Bw sV 236 Qrb [(0,4),(4,1),(5,1),(6,1)]:={}
theorem QoO (h:Zr [] ↑w va vm ve a)(hO:Qu [] ↑w vo o)(hU:Qu [] ↑w vu un)(hok:QS a):
  QU sV 131 [.agg #[va,sS a.st,vm,ve],vo,vu] w λr w'=>sW w w'/\∃V:VwV,r=.pointer (some ⟨V.b,0,none⟩)/\VwA ↑w' V/\V.a=a/\V.o=o/\V.un=un:=by
 have gi:=hok.st0;have gj:=hok.st1;obtain⟨n,hn⟩:∃n:Nat,a.st=n:=⟨a.st.toNat,oa⟩;have hG:a.st.toNat=n:=oa
 have gk:=hok.ed_le;have hH:=hok.ed;refine Zm func131 ?_;refine Qc<|Zf [va,sS a.st,vm,ve] λb3 T hu gl hh=>Qb ?_;have hv:sW T { T with drawn:=T.drawn+1 }:=O6.X _ _
 refine Qd<|ZK [] (Xj 0 9 [5,7])<|pq (λ_ hc=>Zi (hh.I hc) O O)<|p Qy<|p Qy<|p (QH O)<|pq (λ_ hc=>Qk (hh.I hc) O O) <|
  pk<|Y2 (n:=n) (OW sS hn) (OW sS hn) oa λbI w2 hw hI hj=>⟨hv.D hw,?_⟩
 rw[Up]at hj;have hy:=hv.D hw;refine p (λ_=>ZB [(0,[va,sS a.st,vm,ve]),(1,[vo]),(2,[vu]),(3,[slN bI n])] ⟨O,O,hO.cells,O,hU.cells,O,O,O,Z⟩)<|pk<|qP (us:=[va,sS a.st,vm,ve,vo,vu,slN bI n]) O λb7 w3 hm gm hz=>⟨hy.D hm,p ZI<|pe ?_⟩;have ho:=hy.D hm;have hJ:=hu.D ho;have gn:=hj.lt;have hK:↑T<=bI:=hI;have gq:=hz.lt;have hL:=hj.I hm;have hM:=hh.I ho;refine Qd<|Qc<|Qs O hM O O<|QG (h.ed.I hJ) O<|Qa<|xe<|QX (α:=Nat×(Nat->O3)) [(9,9),(21,43)] (λz=>[(21,sS z.1)]) (λz w'=>z.1<=a.ed.length/\O6 [bI] w3 w'/\QK ↑w' bI 51 ((oJ n).map z.2)/\JK ↑w3 w' n z.2 (VT (a.ed.take z.1))) (λz=>a.ed.length - z.1) (0,λ_=>nS) La
  ⟨Lo _,O6.Y _ _,hL,⟨λi _=>QL _ _ _ _,λi j _ _ _=>Dj.nil _⟩⟩ ?_
 rintro⟨k,rv⟩ g w5 ⟨hk,ha,hp,G⟩;simp only[]at hk hp G;have gr:=ha.size;have hN:sW T w5:=ho.Q ha hK;have U:=hu.D hN;have h0:=hz.J ha ol;refine Zk rfl O (λhq=>?_) (λhq=>?_)
 ·refine Qt ?_;have hP:a.ed.length<=k:=by have hQ:¬(k:Int)<(a.ed.length:Int):=hq;omega
  rw[Lr hP]at G;have hR:EdR [] ↑w5 (slN bI n) n a.ed:=G.edr hp oa oa;refine Ql<|Qb<|Qj ⟨[sP b7],La,U,⟨b7,va,vm,ve,vo,vu,slN bI n,a,o,un⟩,O,⟨h0,h.I U,hO.I U,hU.I U,by rw[hG];exact hR,hok⟩,O,O,O⟩
 refine Qf ?_;have I:k<a.ed.length:=by have hQ:(k:Int)<(a.ed.length:Int):=hq;omega
 have h1:a.ed.take (k+1)=a.ed.take k++[a.ed[k]'I]:=Ll I;have h2:=hH _ (Lm I);refine Zd (a.ed[k]'I) λe he=>?_;rw[he]at h1 h2;have h3:e.1=(e.1.toNat:Int):=oa
 have E:e.1.toNat<n:=oa
 have hS:(VT (a.ed.take k) e.1.toNat).length<=(a.ed.take k).length:=Yg _ _;rw[LC]at hS;refine Qd<|Qn<|Qc<|xie (h.ed.I U) O O I λgs h4=>?_;rw[he]at h4;refine x (QF h4 O O)<|QT [sS 0,sS 0,sS 0] λb9 w6 hT hV hW=>Q5 (Qp e) hW ox λw7 hX hr=>xe ?_;have Y:sW w5 w7:=hT.Q hX hV;have gt:=Y.size;have h5:=G.I Y;have hf:∀b∈ob (rv e.1.toNat),↑w3<=b/\b<w5.heap.size:=λb hb=>⟨(Qi (G.own _ E) b hb).1,QV (G.own _ E) b hb⟩;have h6:bI∉ob (rv e.1.toNat):=λhb=>oo (hf _ hb)
 have h7:b7∉ob (rv e.1.toNat):=λhb=>oo (hf _ hb)
 have hs:b9∉ob (rv e.1.toNat):=λhb=>oo (hf _ hb)
 have h8:=hp.I Y;have h9:=h0.I Y;refine V9 (O6 (ob (rv e.1.toNat)) w7) [oz 0,oz 1,oz 2,oz 3,oz 4,oz 5,oz 6,oz 7,oz 8,oz 9,oz 10,oz 11,oz 12,oz 13,oz 14,oA 15,oA 16,oz 17,oA 18] mixed oh oc (O6.X _ _) ?_;refine p Qy<|p (YN O)<|p (QH O)<|pq (λ_ hc=>Qk (h9.J hc h7) O O)<|p (QH O)<|pq (λ_ hc=>Qk (hr.J hc hs) O O) <|
  p Qy<|p (YN O)<|p (QH O)<|pq (λ_ hc=>Qk (h9.J hc h7) O O)<|p (QH O)<|pq (λ_ hc=>Qk (hr.J hc hs) O O) <|
  p (λ_=>QE (i:=e.1.toNat) O (OW sS h3) E)<|pq (λ_ hc=>Qk (u:=rv e.1.toNat) (h8.J hc h6) O (K5 E))<|pq (λ_ hc=>Zi (hr.J hc hs) O O) <|
  pk<|Q8 [Qp e] λgu w8 hA gv hY=>⟨((O6.X _ _).D hA).any,?_⟩
 have J:sW w7 w8:=(O6.X _ _).D hA;have gx:=J.size;refine pk<|Q2 (m:=1) (news:=Qp e) (Qm (h5.own _ E) J) O O O (by have:=hY.at (L:=[]) od;simpa using this) (ZL.all (us:=Qp e) ⟨rfl,rfl,rfl,Z⟩) oa oa λvr w9 hB hg hZ=>⟨J.any.V hg,?_⟩;have ga:((oJ n).map rv).length=n:=od
 have gb:=Yd.snoc hB;refine p (λ_=>QE (i:=e.1.toNat) O (OW sS h3) E)<|pkk<|Qv (j:=0+e.1.toNat*1) (u:=vr) ((h8.I J).J hg h6) O O (by rw[ga];omega) (QA hB) λgc hC ge=>pe ?_;have gg:QK ↑gc bI 51 ((oJ n).map (Xv rv e.1.toNat vr)):=by
  have e1:=Ke id n rv e.1.toNat vr;simp only[id]at e1;rw[<-e1];simpa using ge
 have gh:∀b∈ob vr,b∈ob (rv e.1.toNat)\/↑w7<=b:=λb hb=>(hZ b hb).imp id (λh=>oa);have hD:=h5.app E gb (J.any.V hg) gh;have hE:=hD.J hC (λi hi b hb=>by have:=(Qi (hD.own i hi) b hb).1;simp only[oF];omega);have hF:=qc (a.ed.take k) e h2.1;rw[<-h1]at hF;rw[hF]at hE;refine Qr<|QB O O<|Qa<|xe<|⟨(k+1,Xv rv e.1.toNat vr),by show a.ed.length - (k+1)<a.ed.length - k;omega,La,I,?_,gg,hE⟩;exact(((ha.D Y).D J).O hg (λb hb=>.inr (hf b hb).1)).V hC
theorem Qi9 {v:O3}{n:Int}(h:Qu L ↑w v l)(U:∀x∈l,0<=x/\x<n)(hi:Ys l):
  QU sV 167 [v,sS n] w λr w'=>r=sS 0/\w'=w:=by
 have hf:=h.le;refine Zm func167 ?_;refine Qc<|Qb<|Qd<|Ql<|QG h O<|Qa<|xe<|QX (α:=Nat) [(4,6),(9,34)] (λz=>[(9,sS z)]) (λz w'=>z<=l.length/\w'=w) (λz=>l.length - z) 0 La ⟨Lo _,O⟩ ?_;rintro k g V ⟨hk,rfl⟩;refine Zk rfl O (λI=>?_) (λI=>?_)
 ·refine Qt<|Qc<|Qb<|Qj ⟨[_],La,O,O⟩
 have E:k<l.length:=by have G:(k:Int)<(l.length:Int):=I;omega
 have hg:=U _ (Lm E);refine Qf<|Qd<|Qn<|Ql<|xii (i:=k) h O O E λhh Y=>x (Qq Y O)<|x Qe<|Qb<|Qn<|QW (α:=Unit) [(14,21)] (λ_=>[(14,.bool false)]) (λ_ w'=>w'=V) oh ?_ ?_
 ·refine Qr<|Qa<|xb (YB O O) (λG=>OX G oa) (λG=>?_);refine Qa<|Qa<|Qa<|x (Yf O O)<|QC O<|Qb<|⟨(),⟨OW Value.bool (O0 oa),Z⟩,O⟩
 rintro _ g2 w2 rfl;refine Zw rfl<|QW (α:=Unit) [(22,33)] (λ_=>[(22,.bool false)]) (λ_ w'=>w'=w2) oh ?_ ?_
 ·refine Qr<|Qa<|xb (Z8 O O) (λJ=>?_) (λJ=>?_)
  ·have hj:0<k:=by have hm:(0:Int)<(k:Int):=J;omega
   have T:k - 1<l.length:=oa
   have ha:((k:Int) - 1)=((k - 1:Nat):Int):=oa
   have hn:=Mg.1 hi (k - 1) k T E oa;refine Qa<|Qa<|Qa<|Qa<|x (JB O O ⟨oa,oa⟩)<|xii (i:=k - 1) h O (show Go.Lg.ev _ _=_ from OW sS ha) T λho he =>
    x (Qq he O)<|x (X3 O O)<|QC O<|Qb<|⟨(),⟨OW Value.bool (O0 oa),Z⟩,O⟩
  refine Qa<|ZA<|ZA<|Kd<|QC O<|Qb<|⟨(),La,O⟩
 rintro _ g3 w3 rfl;refine Zw rfl<|Qf<|Qr<|QB O O<|Qa<|xe ?_;exact⟨k+1,oa,La,E,O⟩
theorem Qef (h:Zr L ↑w va vm ve a)(I:Qu L ↑w vo o)(hok:QS a)(J:∀x∈o,0<=x/\x<32)(hi:Ys o):
  QU sV 93 [.agg #[va,sS a.st,vm,ve],vo] w λr w'=>r=sS 0/\sW w w':=by
 refine Zm func93 ?_;refine Qc<|Zf [va,sS a.st,vm,ve] λU V E Y T=>Qb ?_;have hA:=Y8 (h.I E);rw[(Zz a).2 hok]at hA;refine Qd<|Qc<|Q3 T O O<|Qw<|hA.S ?_;rintro r2 w2 ⟨rfl,G⟩;refine Qb<|Ql<|ZN O O<|xe<|Zw rfl<|Qf<|Ql<|Qw<|(Qi9 ((I.I E).I G) J hi).S ?_;rintro r3 w3 ⟨rfl,rfl⟩;refine Qb<|Qj ⟨[_],La,O,E.D G⟩
def pkB (l:LI):List UInt8:=l.map λx=>UInt8.ofNat (x.toNat+1)
def pkA (l:LI):ByteArray:=⟨(pkB l).toArray⟩
theorem Qmm {m:LI}(hl:∀x∈l,0<=x/\x<100)(I:∀x∈m,0<=x/\x<100)(h:pkA l=pkA m):l=m:=by
 have E:pkB l=pkB m:=by
  have:=OW (λb:ByteArray=>b.data.toList) h;simpa[pkA]using this
 clear h;induction l generalizing m with
 | nil =>
  cases m with
  | nil=>rfl
  | cons y m=>cases E
 | cons x l ih =>
  cases m with
  | nil=>cases E
  | cons y m =>
   obtain⟨J,T⟩:=List.cons.inj E;have U:=OW UInt8.toNat J;have V:=hl x Lh;have Y:=I y Lh;rw[Xw oa,Xw oa]at U;rw[show x=y by omega,ih (λz G=>hl z (Lj _ G)) (λz G=>I z (Lj _ G)) T]
theorem Qe2 {v:O3}{r:Nat}(h:w.ownsRow base 5 1 v n cs)(V:r<128)(Y:n+1<=1000000000)(hb:base<=↑w):
  QU sV 240 [v,.int .i32 (r:Int)] w λv' w'=>O6 (ob v) w w'/\w'.ownsRow base 5 1 v' (n+1) (cs++[.int .u8 (r:Int)]):=by
 refine Zm func240 ?_;refine Qc<|Qb<|Qd<|Ql<|x (Yc (n:=(r:Int)) O (show inK .u32 (r:Int) from⟨oa,oa⟩))<|x (X3 O O)<|xe<|Zg rfl (λG=>?_) (λG=>OX (show(r:Int)<=127 by omega) G);refine Ql<|Qa<|x (Yc (n:=(r:Int)) O (show inK .u8 (r:Int) from⟨oa,oa⟩))<|Qo<|Q8 [[.int .u8 (r:Int)]] λb11 w1 E ha I =>
  Qo<|Q2 (m:=1) (news:=[.int .u8 (r:Int)]) (L:=[]) (Qm h E) O O O (I.at od) om oa (oo E.size) λJ w2 T U he=>Qb<|Qj ⟨[J],La,E.any.V U,T⟩
theorem QaE {T:O2}{b:Nat}{E:List UInt8}{p:O3}(h0:sW T w)(hb:↑T<=b)(hp:p=.pointer none\/p=me b)(h:Bl p b E w){r:Nat}(hr:r<128)(hl:E.length+1<=1000000000):
  QU sV 169 [me b,.int .i32 (r:Int)] w λ_ w'=>sW T w'/\Bl (me b) b (E++[UInt8.ofNat r]) w':=by
 refine Zm func169 ?_;refine Qc<|x Qe<|Qb<|Ql<|Qw<|(KI h0 hb hp h).S ?_;rintro r1 w1 ⟨rfl,hg,v,G,I⟩;refine xe ?_;have hn:=G.lt;have hh:Zu [] ↑w1 v E.length 1 (Lib.byteCells E):=QN I oa od;refine Ql<|Z7 O<|Qs O G O O<|QG hh O<|Qb<|Ql<|Qa<|Z7 O<|Qs O G O O<|Qa<|Qw<|(Qe2 I hr hl oa).S ?_;rintro J V ⟨Y,hj⟩;have U:V.ownsRow (b+1) 5 1 J (E++[UInt8.ofNat r]).length (Lib.byteCells (E++[UInt8.ofNat r])):=by
  have e:(UInt8.ofNat r).toNat=r:=Xw oa;simpa[Lib.byteCells,e]using hj
 have hk:Zu [] ↑V J (E++[UInt8.ofNat r]).length 1 (Lib.byteCells (E++[UInt8.ofNat r])):=QN U (by simp;omega) od;refine Z7 rfl<|Q9 O<|Qo<|Qv (G.J Y (λhc=>oo (Qi I b hc).1)) O O od hk.one λw4 ha he=>xe ?_;have hf:=Qg U ha (λc hc=>by have:=(Qi U c hc).1;simp;omega);have hm:Zu [] ↑w4 J (E++[UInt8.ofNat r]).length 1 (Lib.byteCells (E++[UInt8.ofNat r])):=QN hf (by simp;omega) od;have hq:(E++[UInt8.ofNat r]).length=E.length+1:=od
 refine Ql<|Z7 O<|Qs O he O O<|QG hm O<|Qa<|x (JB O O ⟨oa,oa⟩)<|x Qe<|Qb<|Qj ⟨[_,.nilIface],ov,((hg.O Y (λc hc=>.inr ?_)).Q ha hb),J,he,hf⟩;have:=(Qi I c hc).1;omega
theorem Qa0 {v:O3}(h:Qu L ↑w v l)(hb:∀x∈l,0<=x/\x<100)(hl:l.length<=1000000):
  QU sV 96 [v] w λr w'=>r=.string (pkA l)/\sW w w':=by
 refine Zm func96 ?_;refine Qc<|Qb<|Qc<|QT [.pointer none,nS] λG w1 he V hf=>xe ?_;refine Qd<|Ql<|QG h O<|Qa<|xe<|QX (α:=Nat×O3) [(5,5),(8,16)] (λz=>[(8,sS z.1)]) (λz w'=>z.1<=l.length/\sW w w'/\(z.2=.pointer none\/z.2=me G)/\Bl z.2 G (pkB (l.take z.1)) w') (λz=>l.length - z.1) (0,.pointer none) La
  ⟨Lo _,he,.inl O,⟨_,hf,QL _ _ _ _⟩⟩ ?_
 rintro⟨k,p⟩ g w2 ⟨hk,J,T,I⟩;simp only[]at hk T I;refine Zk rfl O (λU=>?_) (λU=>?_)
 ·refine Qt ?_;have hg:l.length<=k:=by have hh:¬(k:Int)<(l.length:Int):=U;omega
  rw[Lr hg]at I;refine Qc<|KX<|(Vp J V T I).S ?_;rintro r3 w3 ⟨rfl,hj⟩;refine Qb<|Qj ⟨[_],La,O,hj⟩
 have E:k<l.length:=by have hh:(k:Int)<(l.length:Int):=U;omega
 have hm:=hb _ (Lm E);have Y:pkB (l.take (k+1))=pkB (l.take k)++[UInt8.ofNat ((l[k]'E).toNat+1)]:=by
  rw[Ll E];unfold pkB;rw[Ly];rfl
 refine Qf<|Qd<|Qn<|Qc<|xii (i:=k) (h.I J) O O E λhr ha=>?_;refine Zd (l[k]'E) λs hs=>?_;rw[hs]at ha hm Y;have hn:s+1=((s.toNat+1:Nat):Int):=oa
 have hu:(pkB (l.take k)).length<=1000000:=by unfold pkB;rw[Ln,LC];omega
 refine x (Qq ha O)<|Qb<|Qr<|Qa<|QB O O<|x (Yc (n:=s+1) O (show inK .i32 (s+1) from⟨oa,oa⟩))<|Qo<|xf ?_;refine(show QU _ _ [me G,.int .i32 (s+1)] _ _ by rw[hn];exact QaE J V T I oa oa).S ?_;rintro r4 w4 ⟨ho,hq⟩;refine xe<|Qr<|QB O O<|Qa<|xe<|⟨(k+1,me G),by show l.length - (k+1)<l.length - k;omega,La,E,ho,.inr O,?_⟩;simp only[];rw[Y];exact hq
theorem QbE {l:LI}(G:l.Pairwise (·<=·)):∀m,m<=l.length->Ys (compactUpTo l.toArray m)
 | 0,_=>by simp[compactUpTo,Ys]
 | m+1,h=>by
  have J:m<l.length:=oa
  have hx:l.toArray[m]! = l[m]:=by simp[J]
  rw[compactUpTo_succ];by_cases E:keeps l.toArray m=true
  ·rw[OV E];refine Mk.2 ⟨QbE G m oa,od,λx T y U=>?_⟩;rw[Lb.1 U,hx];have V:=(zL l m oa x).1 T;obtain⟨i,hi,e⟩:=List.mem_take_iff_getElem.1 V;have ha:i<m:=oa
   have I:m - 1<l.length:=oa
   have h3:l[m - 1]≠l[m]:=by
    simp only[keeps,decide_eq_true_eq]at E;rcases E with E|E
    ·have:m=0:=by simpa using E
     omega
    intro e2;have Y:l.toArray[m - 1]! = l[m - 1]:=by simp[I]
    exact E (by rw[hx,Y,e2])
   have h5:l[i]<=l[m - 1]:=by
    by_cases e3:i=m - 1
    ·subst e3;exact MC _
    exact Mg.1 G i (m - 1) oa I oa
   have h6:=Mg.1 G (m - 1) m I J oa;omega
  rw[OU E,LH];exact QbE G m oa
theorem QnG {v:O3}(h:Qh 3 base w v l)(hl:l.length<=1099511627776)(J:l.Pairwise (·<=·)):
  QU sV 161 [v] w λr w'=>O6 (ob v) w w'/\∃l',Ys l'/\(∀x,x∈l'↔x∈l)/\Qh 3 base w' r l':=by
 rcases h.2 with⟨rfl,T⟩|⟨g,cap,cur,rfl,U,E,V,Y,ha,hf⟩
 ·have hh:l=[]:=Ls T;subst hh;refine Zm func161 ?_;refine Qc<|Qb<|Qd<|Ql<|x (Ut O)<|ZW O O<|xe<|Zg O (λ_=>?_) (λh8=>OX og h8);refine Ql<|Qb<|Qj ⟨[nS],La,O6.Y _ _,[],.nil,λx=>Iff.rfl,h⟩
 unfold QU;have hc:=AnyE.slices_Compact Tryz.cmpI iC (λ_=>O) (.intD _ _ .i64) (.intD _ _ .i64) 0 (λw=>oc) g 0 cap l.toArray w (Ki E hf) (by simp;omega) (ou V);change Calls sV 161 _ _ _ at hc;rw[LY]at hc;refine Calls.mono hc λe w' he=>?_;obtain⟨rfl,q,rfl⟩:=he;have G:=zL l l.length (Lp _);rw[OI]at G;have hi:=QbE J l.length (Lp _);have hj:(compactUpTo l.toArray l.length).length<=l.length:=by
  unfold compactUpTo;rw[Ln];exact Lz (LK _ _) od
 generalize compactUpTo l.toArray l.length=u at *;have:=Uw (e:=3) (n:=q) (k:=u.length) (os:=#[]) (d:=(u++oG (l.length - u.length) 0).toArray) U E (by simp;omega) Y ha od;rw[grow_empty]at this;refine⟨this.1,u,hi,G,?_⟩;have I:=this.2;have h3:(u++oG (l.length - u.length) 0).toArray.toList.take u.length=u:=od
 rw[h3]at I;exact I
theorem QcL (l:LI):(l.mergeSort λx y=>decide (x<=y)).Pairwise (·<=·):=
 (List.pairwise_mergeSort (λa b c E G=>by simp only[decide_eq_true_eq]at *;omega) (λa b=>by simp only[Bool.or_eq_true,decide_eq_true_eq];omega) l).imp λh=>ou h
theorem j7 (hd:l.Nodup)(hb:∀x∈l,0<=x/\x<(n:Int)):(l.mergeSort λx y=>decide (x<=y))=srt n l:=by
 have E:=Nf l (λx y=>decide (x<=y));refine QiF ?_ (λx=>E.mem_iff) hb;have G:=QcL l;have I:(l.mergeSort λx y=>decide (x<=y)).Nodup:=E.nodup_iff.2 hd;exact(G.and I).imp λ⟨J,T⟩=>oa
theorem QpV (h:l.Nodup):(yQ l s).Nodup:=by
 unfold yQ;split
 ·rename_i E;rw[Mf];exact⟨h,od,λa G b hb e=>E (by rw[List.mem_singleton.1 hb]at e;exact e ▸ G)⟩
 exact h
theorem QpW (h:∀x∈l,0<=x/\x<(n:Int))(E:0<=s/\s<(n:Int)):∀x∈yQ l s,0<=x/\x<(n:Int):=by
 unfold yQ;split
 ·intro x hx;rcases Le.1 hx with hx|hx
  ·exact h x hx
  rw[Lb.1 hx];exact E
 exact h
theorem Ug.nd {E:LI}(h:Ug n E l)(G:E.Nodup):l.Nodup:=by
 obtain⟨m,rfl,I,_,J⟩:=h.ex;rw[Mf];exact⟨G,I,λa T b hb e=>J b hb (e ▸ T)⟩
structure RcI (base n b7 bs b8:Nat)(w0:O2)(vl:O3)(l:LI)(w:O2):Prop where
 st:sW w0 w
 k7:QK ↑w b7 301 [slN bs n]
 ks:QK ↑w bs 4 ((flg n l).map Value.bool)
 k8:QK ↑w b8 47 [vl]
 o:Qh 3 base w vl l
 z:base<=↑w
theorem RcI.I {base n G I J:Nat}{T w w':O2}{vl:O3}{l:LI}(h:RcI base n G I J T vl l w)(E:sW w w'):RcI base n G I J T vl l w' :=
 ⟨h.st.D E,h.k7.I E,h.ks.I E,h.k8.I E,Qm h.o E,Lz h.z E.size⟩
theorem jU {w0:O2}{vl:O3}(h:RcI base n U E G w0 vl l w)(hw:↑w0<=E/\↑w0<=G)(h7:U<base)(hn:E<base)(h8:G<base)(h0:0<=s)(h1:s<(n:Int))(hl:l.length<=100000):
  QU sV 239 [sS s,sP U,sP G] w λ_ w'=>∃vl',RcI base n U E G w0 vl' (yQ l s) w'/\∀b T cs,b<base->b≠E->b≠G->QK ↑w b T cs->QK ↑w' b T cs:=by
 have hk:s=(s.toNat:Int):=oa
 have hf:=Qi h.o;refine Zm func239 ?_;refine Qc<|ZD h.k7 O O<|Qa<|x (QE (i:=s.toNat) O (OW sS hk) oa)<|ZD h.ks O (yG h0 h1)<|x (Zj O)<|xe<|Q6 rfl (λhg=>?_) (λhg=>?_)
 ·have hh:s∉l:=by simpa using hg
  have he:yQ l s=l++[s]:=by unfold yQ;rw[OV hh]
  refine Qc<|ZD h.k7 O O<|Qa<|x (QE (i:=s.toNat) O (OW sS hk) oa)<|Qo<|Qv (j:=0+s.toNat*1) (u:=.bool true) h.ks O O (by rw[Ln,UP];omega) O λw1 J ho=>xe ?_;have hp:U≠E:=QK.ne h.k7 h.ks og;have n8s:G≠E:=QK.ne h.k8 h.ks og;have hq:U≠G:=QK.ne h.k7 h.k8 og;have hr:QK ↑w1 E 4 ((flg n (l++[s])).map Value.bool):=by
   rw[<-(zG (n:=n) (l:=l) h0),NC];simpa using ho
  have hs:=Qg h.o J λb hb hm=>by have:=(hf b hb).1;rw[Lb.1 hm]at this;omega
  have h2:=J.size;have hz:=h.z;refine Qr<|ZD (h.k8.J J (by simp only[oF];exact n8s)) O O<|Qa<|Qo<|Q8 [[sS s]] λh3 w2 I h4 hu =>
   Qo<|Q2 (m:=1) (news:=[sS s]) (L:=[]) (Qm hs I) O O O (hu.at od) om oa (oo I.size) λv3 w3 hj V h5=>?_
  have h6:=I.size;have ha:∀{y:Nat},y<base->y∉ob vl:=λhy hm=>oo (hf _ hm).1
  have g3:=Qi hj;refine Qo<|Qv (u:=v3) (((h.k8.J J (by simp only[oF];exact n8s)).I I).J V (ha h8)) O O (L6 O) (QA hj) λw4 Y hv=>xe ?_;have h9:=V.size;have hA:=Y.size;refine⟨[],Z,v3,?_,λb T cs y1 y2 y3 hB=>(((hB.J J (by simp only[oF];exact y2)).I I).J V (ha y1)).J Y (by simp only[oF];exact y3)⟩;rw[he];refine⟨(((h.st.O J λb hb=>?_).D I).O V λb hb=>?_).O Y λb hb=>?_,?_,?_,hv,?_,oa⟩
  ·rw[Lb.1 hb];exact .inr hw.1
  ·exact .inr (oo (hf b hb).1)
  ·rw[Lb.1 hb];exact .inr hw.2
  ·exact(((h.k7.J J (by simp only[oF];exact hp)).I I).J V (ha h7)).J Y (by simp only[oF];exact hq)
  ·exact((hr.I I).J V (ha hn)).J Y (by simp only[oF];exact n8s.symm)
  exact Qh.snoc (Qg hj Y λb hb hm=>by have:=(g3 b hb).1;rw[Lb.1 hm]at this;omega)
 have hh:s∈l:=by simpa using hg
 have he:yQ l s=l:=by unfold yQ;rw[OU (not_not_intro hh)]
 refine Qf ?_;exact⟨[],Z,vl,by rw[he];exact h,λ_ _ _ _ _ _ hB=>hB⟩
theorem QnQ {ev:LI}{e:Ed}:jb (okR ev) l e=if e.2.1∈ev then yQ l e.2.2 else l:=by
 unfold jb yQ okR;by_cases E:e.2.1∈ev
 ·rw[OV E];by_cases G:e.2.2∉l
  ·rw[OV G,OV ⟨OY E,G⟩]
  rw[OU G,OU λh=>G h.2]
 rw[OU E,OU λh=>E (OZ h.1)]
theorem Qcq {vf vv:O3}{fr ev:LI}(hr:EdR [] ↑w vr a.st.toNat a.ed)(hok:QS a)(hF:Qu [] ↑w vf fr)(hH:∀x∈fr,0<=x/\x<a.st)(ki:fr.length<=1000000)(hV:Qu [] ↑w vv ev):
  QU sV 168 [.agg #[vr,vk,vz,vm],vf,vv] w λr w'=>sW w w'/\Qh 3 ↑w w' r (rch a fr ev):=by
 have kj:=hok.st0;have kk:=hok.st1;obtain⟨n,hn⟩:∃n:Nat,a.st.toNat=n:=⟨_,O⟩;have gk:a.st=(n:Int):=oa
 have kn:=hok.ed_le;obtain⟨rv,h0,hI⟩:=hr;rw[hn]at h0 hI;have gl:rch a fr ev=srt n (bfs (okR ev) a.ed ((ddp fr).length+n) 0 (ddp fr)):=by unfold rch cls;rw[hn]
 rw[gl];have gm:=hok.ed;rw[gk]at hH;refine Zm func168 ?_;refine Qc<|Zf [vr,vk,vz,vm] λb3 w1 gn ko h3=>Qb ?_;have kq:=h3.lt;refine Qc<|Qs O h3 O O<|QG h0 O<|Qo<|Y2 (n:=n) (OW (λk:Nat=>sS (k:Int)) Mb) (OW (λk:Nat=>sS (k:Int)) Mb) oa λT w2 gq kr gr =>
  QT [ZX] λb7 w3 hJ kt hK=>Qo<|Qv (u:=slN T n) hK O O (L6 O) O λw4 h4 gs=>xe ?_
 have hL:QK ↑w2 T 4 ((flg n []).map Value.bool):=by
  have e:(oG n (Value.bool false).cells.toList).flatten=(flg n []).map Value.bool:=by
   simp only[flg,oH,decide_false,List.map_map];apply L3
   ·simp[Value.cells]
   intro i h1 h2;simp[Value.cells]
  rw[<-e];exact gr
 have ku:=h4.size;have kv:=hL.lt;have kw:=hK.lt;refine Qc<|QT [ZX] λU V hp kx hM=>xe ?_;have kz:=hM.lt;have k0:=hp.size;have hN:sW w1 w4:=(gq.D hJ).Q h4 oa;have h5:sW w V:=(gn.D hN).D hp;have gt:=(h3.I hN).I hp;have gu:RcI ↑V n b7 T U w ZX (ddp (fr.take 0)) V:=⟨h5,gs.I hp,((hL.I hJ).J h4 ol).I hp,hM,QL _ _ _ _,Lp _⟩;have hb:↑w<=T/\↑w<=U:=⟨oa,oa⟩;have gv:w.heap.size<=V.heap.size:=h5.size;refine Qc<|x (Zl (l:=[]) (l':=[_,_]))<|Qb<|Qd<|Ql<|QG (hF.I h5) O<|Qa<|xe<|QX (α:=Nat×O3) [(11,11),(22,29)] (λz=>[(22,sS z.1)]) (λz w'=>z.1<=fr.length/\RcI ↑V n b7 T U w z.2 (ddp (fr.take z.1)) w'/\(ddp (fr.take z.1)).Nodup/\(∀x∈ddp (fr.take z.1),0<=x/\x<(n:Int))/\QK ↑w' b3 201 [vr,vk,vz,vm]) (λz=>fr.length - z.1) (0,ZX) La ⟨Lo _,gu,by simp[ddp],by simp[ddp],gt⟩ ?_;rintro⟨k,vl⟩ g w6 ⟨hk,ha,hf,hg,hO⟩;simp only[]at hk ha hf hg;have hP:(ddp (fr.take k)).length<=n:=xI n _ hf hg;refine Zk rfl O (λh6=>?_) (λh6=>?_)
 ·refine Qt ?_;have gx:fr.length<=k:=by have hq:¬(k:Int)<(fr.length:Int):=h6;omega
  rw[Lr gx]at ha hf hg hP;refine Zd (ddp fr) λG gy=>?_;rw[gy]at ha hf hg hP ⊢;refine Zd (bfs (okR ev) a.ed (G.length+n) 0 G) λR hR=>?_;rw[hR];refine Qd<|Qc<|Qb<|QX (α:=Nat×O3×LI) [(12,12),(14,14),(30,57)] (λz=>[(12,sS z.1)]) (λz w'=>z.1<=z.2.2.length/\RcI ↑V n b7 T U w z.2.1 z.2.2 w'/\Ug n G z.2.2/\bfs (okR ev) a.ed (G.length+n - z.1) z.1 z.2.2=R/\QK ↑w' b3 201 [vr,vk,vz,vm]) (λz=>G.length+n+1 - z.1) (0,vl,G) La ⟨Lo _,ha,Ug.zero _ _,hR,hO⟩ ?_;rintro⟨i,vi,l⟩ g w7 ⟨hi,E,hu,Y,hQ⟩;simp only[]at hi E hu Y;have k4:=hu.len;have hS:=hu.all hg;have hT:Qu [] ↑w7 vi l:=Qh.ints E.o oa od;refine Qd<|Ql<|ZD E.k8 O O<|QG hT O<|ZW O O<|xe<|Zp O (λh7=>?_) (λh7=>?_)
  ·refine Qt ?_;have gz:¬i<l.length:=by have hq:¬(i:Int)<(l.length:Int):=h7;omega
   rw[Qdu gz]at Y;subst Y;have hU:=Qi E.o;refine Qc<|ZD E.k8 O O<|Qw<|(Kf E.o oa).S ?_;rintro _ w8 ⟨hW,hX⟩;refine xe<|Qc<|ZD (E.k8.J hW λhm=>oo (hU _ hm).1) O O<|Qb<|Qj ⟨[vi],La,E.st.O hW λb hb=>.inr (oo (hU b hb).1),?_⟩;rw[j7 (hu.nd hf) hS]at hX;exact Za hX gv
  have I:i<l.length:=by have hq:(i:Int)<(l.length:Int):=h7;omega
  have hh:=hS _ (Xy I);have g0:G.length+n - i=(G.length+n - (i+1))+1:=oa
  rw[g0,bfs,OV I]at Y;have hY:=Zo I;refine Zd (O7 l i) λs hs=>?_;rw[hs]at hh Y hY;have hZ:s=(s.toNat:Int):=oa
  have ga:s.toNat<n:=oa
  have hE:=hI s.toNat ga;have k5:=Yg a.ed s;have g2:QM a.ed (s.toNat:Nat)=QM a.ed s:=by rw[<-hZ]
  rw[g2]at hE;have g3:s.toNat<(oJ n).length:=by rw[Mb];exact ga
  refine Qf<|Qd<|Qn<|Qd<|ZK [] (Xj 0 10 [])<|p (QH O)<|pq (λ_ hc=>Qk (hQ.I hc) O O)<|pq (λ_ hc=>Qk (E.k8.I hc) O O)<|p Qy<|Lg.pii (i:=i) O hT O O I λk6 gb=>?_;rw[hY]at gb;refine pq (λ_ hc=>Qq (gb.I hc) O)<|Lg.pig (g:=λj:Nat=>[rv j]) (i:=s.toNat) O (λ_=>O) (h0.I E.st) O (show Go.Lg.ev _ _=_ from OW sS hZ) g3 λk9 gc=>?_;rw[Mw]at gc;refine pq (λ_ hc=>Qq (u:=rv s.toNat) (gc.I hc) O)<|p (λ_=>Y1 hE O)<|p Qy<|pe ?_;have ge:sW w7 { w7 with drawn:=w7.drawn+1 }:=O6.X _ _
  refine QX (α:=Nat×O3×LI) [(14,14),(45,57)] (λz=>[(45,sS z.1)]) (λz w'=>z.1<=(QM a.ed s).length/\RcI ↑V n b7 T U w z.2.1 z.2.2 w'/\Ug n G z.2.2/\l.length<=z.2.2.length/\((QM a.ed s).drop z.1).foldl (jb (okR ev)) z.2.2=(QM a.ed s).foldl (jb (okR ev)) l/\QK ↑w' b3 201 [vr,vk,vz,vm]) (λz=>(QM a.ed s).length - z.1) (0,vi,l) La ⟨Lo _,E.I ge,hu,Lp _,O,hQ.I ge⟩ ?_;rintro⟨j,vj,lj⟩ g w8 ⟨hj,hw,hv,h8,J,h9⟩;simp only[]at hj hw hv h8 J;have ma:=hv.len;refine Zk O O (λhA=>?_) (λhA=>?_)
  ·refine Qt ?_;have g4:(QM a.ed s).length<=j:=by have hq:¬(j:Int)<((QM a.ed s).length:Int):=hA;omega
   rw[Lu g4]at J;have g5:lj=(QM a.ed s).foldl (jb (okR ev)) l:=J;rw[<-g5]at Y;refine Qr<|Qa<|QB O O<|Qb<|⟨(i+1,vj,lj),by show G.length+n+1 - (i+1)<G.length+n+1 - i;omega,La,by show i+1<=lj.length;omega,hw,hv,Y,h9⟩
  have ho:j<(QM a.ed s).length:=by have hq:(j:Int)<((QM a.ed s).length:Int):=hA;omega
  have g6:=Zt (Lm ho);have hB:=gm _ g6.1;rw[QY ho,LQ]at J;refine Zd ((QM a.ed s)[j]'ho) λe he=>?_;rw[he]at hB J;refine Qf<|Qd<|Qn<|Qc<|xie (hE.I hw.st) O O ho λmc gg=>?_;rw[he]at gg;refine x (QF gg O O)<|QT [sS 0,sS 0,sS 0] λmf w9 g7 g8 g9=>Q5 (Qp e) g9 ox λka kb gh=>xe ?_;have hC:sW w8 ka:=g7.Q kb g8;have hD:=hw.I hC;have kc:=hv.edge (okR ev) (e:=e) ⟨hB.2.2.2.1,oa⟩;have ke:lj.length<=(jb (okR ev) lj e).length:=by unfold jb;split <;> simp
  have hy:=QnQ (ev:=ev) (l:=lj) (e:=e);refine Ql<|Qs O gh O O<|Qw<|(ZH (hV.I hD.st) e.2.1).S ?_;rintro _ mg ⟨rfl,rfl⟩;refine xe<|Q6 O (λhG=>?_) (λhG=>?_)
  ·rw[OV (OZ hG)]at hy;refine Qr<|Qa<|Qs O gh O O<|Qo<|xc (first:=[]) (capt:=[sP b7,sP U]) O<|(jU hD hb oa oa oa hB.2.2.2.1 (show e.2.2<(n:Int) by omega) oa).S ?_;rintro _ mh ⟨kf,gi,kg⟩;refine xe<|Qr<|QB O O<|Qa<|xe ?_;rw[<-hy]at gi;refine⟨(j+1,kf,jb (okR ev) lj e),by show(QM a.ed s).length - (j+1)<(QM a.ed s).length - j;omega,La,ho,gi,kc,Lz h8 ke,J,?_⟩;exact kg b3 _ _ oa oa oa (h9.I hC)
  rw[OU (O1 hG)]at hy;rw[hy]at J;refine Qf<|Qr<|QB O O<|Qa<|xe ?_;exact⟨(j+1,vj,lj),by show(QM a.ed s).length - (j+1)<(QM a.ed s).length - j;omega,La,ho,hD,hv,h8,J,h9.I hC⟩
 have I:k<fr.length:=by have hq:(k:Int)<(fr.length:Int):=h6;omega
 have hz:ddp (fr.take (k+1))=yQ (ddp (fr.take k)) (fr[k]'I):=by unfold ddp;rw[Ll I,Mn];rfl
 have hh:=hH _ (Lm I);refine Qf<|Qd<|Qn<|Qc<|xii (i:=k) (hF.I ha.st) O O I λmj gj=>?_;refine Zd (fr[k]'I) λs hs=>?_;rw[hs]at gj hz hh;refine x (Qq gj O)<|Qb<|Qr<|Qa<|Qa<|Qo<|xc (first:=[]) (capt:=[sP b7,sP U]) O<|(jU ha hb oa oa oa hh.1 hh.2 oa).S ?_;rintro _ w7 ⟨v7,E,kh⟩;refine xe<|Qr<|QB O O<|Qa<|xe<|⟨(k+1,v7),by show fr.length - (k+1)<fr.length - k;omega,La,I,?_,?_,?_,?_⟩
 ·show RcI _ _ _ _ _ _ _ (ddp (fr.take (k+1))) _;rw[hz];exact E
 ·show(ddp (fr.take (k+1))).Nodup;rw[hz];exact QpV hf
 ·show ∀x∈ddp (fr.take (k+1)),_;rw[hz];exact QpW hg hh
 exact kh b3 _ _ oa oa oa hO
theorem QcU {k:Nat}(v:Int)(h:k<l.length):hop ed (l.take (k+1)) v=hop ed (l.take k) v++((QM ed (l[k]'h)).filter λe=>decide (e.2.1=v)).map (·.2.2):=by
 unfold hop;rw[Ll h,LF,LM,NH,LH]
theorem Qag {k:Nat}(v:Int)(h:k<es.length):((es.take (k+1)).filter λe=>decide (e.2.1=v)).map (·.2.2)=((es.take k).filter λe=>decide (e.2.1=v)).map (·.2.2)++if(es[k]'h).2.1=v then[(es[k]'h).2.2]else[]:=by
 rw[Ll h,LT,Ly];congr 1;by_cases e:(es[k]'h).2.1=v <;> simp[e]
theorem Qkb (hok:QS a)(l:LI)(v:Int):∀x∈hop a.ed l v,0<=x/\x<a.st:=by
 intro x hx;obtain⟨s,_,hx⟩:=Mc.1 hx;obtain⟨e,E,rfl⟩:=Lx.1 hx;have:=hok.ed e (Zt (LJ.1 E).1).1;omega
theorem Qbn (ed:List Ed)(v:Int):∀(l:LI),(hop ed l v).length<=l.length*ed.length
 | []=>by simp[hop]
 | s::l=>by
  have E:=Qbn ed v l;have G:(((QM ed s).filter λe=>decide (e.2.1=v)).map (·.2.2)).length<=ed.length:=by
   rw[Ln];exact Lz (LK _ _) (Yg ed s)
  unfold hop at *;rw[LM,Lc,LP,OO];omega
theorem Qec (h:ObA ↑w vr vk vz vm a o)(hok:QS a)(T:0<a.st):
  QU sV 95 [.agg #[vr,vk,vz,vm]] w λr w'=>sW w w'/\Qh 3 ↑w w' r (rch a [0] (ers a o)):=by
 obtain⟨rv,U,_⟩:=h.r;refine Zm func95 ?_;refine Qc<|Zf [vr,vk,vz,vm] λb1 w1 V hg G=>Qb<|Qd<|Qc<|Qs O G O O<|QG U O<|x (Zc O O)<|xe<|Zg rfl (λI=>OX I (by rw[Mb];omega)) (λI=>?_);refine Qf<|Qc<|Q3 G O O<|Qo<|Q8 [[sS 0]] λY w2 J hh ha=>?_;have E:=V.D J;have hF:Qu [] ↑w2 (sL Y 1 1) [0]:=ha.arr od (n:=1) (cap:=1) (sz:=1) rfl og (Lp _);refine Qs rfl (G.I J) O O<|Qw<|(Qcq (h.r.I E) hok hF (λx hx=>by rw[Lb.1 hx];exact⟨MC _,T⟩) od (h.z.I E)).S ?_;rintro r3 w3 ⟨he,hf⟩;refine Qb<|Qj ⟨[_],La,E.D he,Za hf E.size⟩
theorem Qhd (h:ObA ↑w vr vk vz vm a o)(hok:QS a)(hE:Qu [] ↑w ve est)(h6:∀x∈est,0<=x/\x<a.st)(hR:est.length<=9)(h7:a.ed.length<=1000)(v:Int):
  QU sV 98 [.agg #[vr,vk,vz,vm],ve,sS v] w λr w'=>sW w w'/\Qh 3 ↑w w' r (pnx a (ers a o) est v):=by
 have hS:=hok.st0;obtain⟨n,hn⟩:∃n:Nat,a.st.toNat=n:=⟨_,O⟩;have hT:a.st=(n:Int):=oa
 obtain⟨rv,hu,hv⟩:=h.r;rw[hn]at hu hv;have h8:∀k,k<=est.length->(hop a.ed (est.take k) v).length<=9000:=λk hk=>by
  have h1:=Qbn a.ed v (est.take k);have h2:(est.take k).length<=9:=by rw[LC];omega
  have h3:(est.take k).length*a.ed.length<=9*1000:=Nc h2 h7;omega
 refine Zm func98 ?_;refine Qc<|Zf [vr,vk,vz,vm] λb3 w1 hf hU hg=>Qb<|Qc<|Qb<|Qd<|Ql<|QG (hE.I hf) O<|Qa<|xe<|QX (α:=Nat×O3) [(7,7),(9,9),(11,11),(14,38)] (λz=>[(7,z.2),(14,sS z.1)]) (λz w'=>z.1<=est.length/\sW w1 w'/\Qh 3 ↑w1 w' z.2 (hop a.ed (est.take z.1) v)) (λz=>est.length - z.1) (0,ZX) ov ⟨Lo _,O6.Y _ _,QL _ _ _ _⟩ ?_;rintro⟨k,vl⟩ g w2 ⟨hk,I,ha⟩;simp only[]at hk ha;have E:=hf.D I;have h9:=h8 k hk;refine Zk rfl O (λhh=>?_) (λhh=>?_)
 ·refine Qt ?_;have hA:est.length<=k:=by have hm:¬(k:Int)<(est.length:Int):=hh;omega
  rw[Lr hA]at ha h9;have hL:=Qh.ints (L:=[]) ha oa od;refine Qc<|Q3 (hg.I I) O O<|Qa<|Qs O (hg.I I) O O<|Qw<|(Qcq (h.r.I E) hok hL (Qkb hok est v) oa (h.z.I E)).S ?_;rintro r3 w3 ⟨hB,hC⟩;refine Qb<|Qj ⟨[_],La,E.D hB,Za hC E.size⟩
 have J:k<est.length:=by have hm:(k:Int)<(est.length:Int):=hh;omega
 have hw:=QcU (ed:=a.ed) v J;have hD:=h6 _ (Lm J);refine Qf<|Qd<|Qn<|Qc<|xii (i:=k) (hE.I E) O O J λhV hy=>?_;refine Zd (est[k]'J) λs hs=>?_;rw[hs]at hy hw hD;have hF:s=(s.toNat:Int):=oa
 have hz:s.toNat<n:=oa
 have ho:=hv s.toNat hz;rw[show((s.toNat:Nat):Int)=s by omega]at ho;have hG:s.toNat<(oJ n).length:=by rw[Mb];exact hz
 have hW:=Yg a.ed s;refine x (Qq hy O)<|Qb<|Qc<|Qs O (hg.I I) O O<|Qa<|O9 (g:=λj:Nat=>[rv j]) (i:=s.toNat) (λ_=>O) (hu.I E) O (OW sS hF) hG λhX h0=>?_;rw[Mw]at h0;refine x (Qq (u:=rv s.toNat) h0 O)<|QG ho O<|Qa<|xe<|QX (α:=Nat×O3) [(7,7),(11,11),(24,37)] (λz=>[(7,z.2),(24,sS z.1)]) (λz w'=>z.1<=(QM a.ed s).length/\sW w1 w'/\Qh 3 ↑w1 w' z.2 (hop a.ed (est.take k) v++(((QM a.ed s).take z.1).filter λe=>decide (e.2.1=v)).map (·.2.2))) (λz=>(QM a.ed s).length - z.1) (0,vl) ov ⟨Lo _,I,by simp only[List.take_zero,List.filter_nil,OC,Oi];exact ha⟩ ?_;rintro⟨j,vj⟩ g w4 ⟨hj,T,G⟩;simp only[]at hj G;have hH:=hf.D T;refine Zk rfl O (λhp=>?_) (λhp=>?_)
 ·refine Qt ?_;have hI:(QM a.ed s).length<=j:=by have hm:¬(j:Int)<((QM a.ed s).length:Int):=hp;omega
  rw[Lr hI,<-hw]at G;refine Qr<|QB O O<|Qa<|xe ?_;exact⟨(k+1,vj),by show est.length - (k+1)<est.length - k;omega,ov,J,T,G⟩
 have U:j<(QM a.ed s).length:=by have hm:(j:Int)<((QM a.ed s).length:Int):=hp;omega
 have V:=Qag v U;have hY:(hop a.ed (est.take k) v++(((QM a.ed s).take j).filter λe=>decide (e.2.1=v)).map (·.2.2)).length<=10000:=by
  rw[Lc,Ln];have h1:=LK (λe:Ed=>decide (e.2.1=v)) ((QM a.ed s).take j);rw[LC]at h1;omega
 refine Zd ((QM a.ed s)[j]'U) λe he=>?_;rw[he]at V;refine Qf<|Qd<|Qn<|Qc<|xie (ho.I hH) O O U λhZ h4=>?_;rw[he]at h4;refine x (QF h4 O O)<|QT [sS 0,sS 0,sS 0] λb11 w5 hJ hK hM=>Q5 (Qp e) hM ox λw6 hN h5=>xe ?_;have Y:sW w4 w6:=hJ.Q hN hK;have ga:=T.size;have gb:=Y.size;refine Qc<|Qs O h5 O O<|Qa<|x (Zc O O)<|xe<|Zp rfl (λhq=>?_) (λhq=>?_)
 ·rw[OU hq,LH]at V;refine Qf<|Qr<|QB O O<|Qa<|xe ?_;exact⟨(j+1,vj),by show(QM a.ed s).length - (j+1)<(QM a.ed s).length - j;omega,ov,U,T.D Y,by simp only[];rw[V];exact Qm G Y⟩
 rw[OV hq]at V;refine Qr<|Qa<|Qs O h5 O O<|Qo<|Q8 [[sS e.2.2]] λgc w7 hr ge hO =>
  Qo<|Q2 (m:=1) (news:=[sS e.2.2]) (L:=[]) (Qm G (Y.D hr)) O O O (hO.at od) om oa (oo hr.size) λv8 w8 hP hQ gg=>Qb<|Qr<|QB O O<|Qa<|xe ?_
 refine⟨(j+1,v8),by show(QM a.ed s).length - (j+1)<(QM a.ed s).length - j;omega,ov,U,((T.D Y).D hr).O hQ λb hb=>.inr (Qi G b hb).1,?_⟩;simp only[];rw[V,<-LA];exact Qh.snoc hP
theorem Qed {b:Nat}{mr:LI}(E:QK ↑w b 201 [vr,vk,vz,vm])(G:Qu [] ↑w vm mr)(s:Int):
  QU sV 171 [sS s,sP b] w λr w'=>r=.bool (decide (s∈mr))/\sW w w':=by
 refine Zm func171 ?_;refine Qc<|Qb<|Qc<|Qs O E O O<|Qa<|Qw<|(ZH G s).S ?_;rintro I J ⟨rfl,rfl⟩;refine Qb<|Qj ⟨[_],La,O,O6.Y _ _⟩
theorem Qhe (h:ObA ↑w vr vk vz vm a o)(hE:Qu [] ↑w ve est):
  QU sV 97 [.agg #[vr,vk,vz,vm],ve] w λr w'=>r=.bool (mkd a est)/\sW w w':=by
 refine Zm func97 ?_;refine Qc<|Zf [vr,vk,vz,vm] λI U E V J=>Qb<|Ql<|x (Zl (l:=[]) (l':=[.tmp 2]))<|Qw<|(QbB (q:=λs=>decide (s∈a.mr)) (cap:=[sP I]) (hE.I E) (λe Y G=>Qed (J.I G) ((h.m.I E).I G) e)).S ?_;rintro r2 w2 ⟨rfl,T⟩;refine Qb<|Qj ⟨[_],La,O,E.D T⟩
abbrev Xf:LV:=[nS,sS 0,nS,nS]
def KnP (m:List (ByteArray×O3))(tup:List (LI)):Prop :=
 ∀u:LI,(∀x∈u,0<=x/\x<100)->xh m (pkA u)=if u∈tup then some (sS (tup.idxOf u:Int)) else none
theorem KnP.add {m:List (ByteArray×O3)}{tup:List (LI)}(h:KnP m tup)(I:u∉tup)(J:∀x∈u,0<=x/\x<100):KnP (xj m (pkA u) (sS (tup.length:Int))) (tup++[u]):=by
 intro v G;rw[Jt];by_cases e:u=v
 ·subst e;rw[OV rfl,OV od,Ma,OU I];simp
 rw[OU (λT=>e (Qmm J G T)),h v G];by_cases E:v∈tup
 ·rw[OV E,OV (by simp[E]),Ma,OV E]
 rw[OU E,OU (by simp[E,Ne.symm e])]
structure PjO (n:Nat)(s:Sy):Prop where
 v:∀t∈s.tup,Ss n t
 d:s.tup.Nodup
theorem PjO.le {s:Sy}(h:PjO n s):s.tup.length<=2 ^ n:=zt n _ h.d h.v
theorem PjO.add {s:Sy}(h:PjO n s)(E:Ss n u):PjO n (K7 s u):=by
 unfold K7;split
 ·exact h
 rename_i G;refine⟨λt ht=>?_,?_⟩
 ·rcases Le.1 ht with ht|ht
  ·exact h.v t ht
  rw[Lb.1 ht];exact E
 rw[Mf];exact⟨h.d,od,λa I b hb e=>G (by rw[List.mem_singleton.1 hb]at e;exact e ▸ I)⟩
theorem QaZ (a:Qz)(i:Nat)(t:LI)(s:Sy):(zc a i t s).tup=s.tup/\(zc a i t s).ed=s.ed/\(zc a i t s).mk'.length<=s.mk'.length+1:=by
 unfold zc;split
 ·exact⟨O,O,od⟩
 exact⟨O,O,oa⟩
theorem QoZ (s:Sy)(u:LI):(K7 s u).mk'=s.mk'/\(K7 s u).ed=s.ed:=by unfold K7;split <;> exact⟨O,O⟩
theorem QsE (h:n<=9):2 ^ n<=512:=Nn og h
theorem ji (h:Zr [] ↑w va vm ve a)(hO:Qu [] ↑w vo o)(hok:QS a)(pg:∀x∈o,0<=x/\x<32)(ph:Ys o)(h9:a.st<=9)(pn:a.ed.length<=1000):
  QU sV 40 [.agg #[va,sS a.st,vm,ve],vo] w λr w'=>sW w w'/\∃vp vt,r=.tuple #[vp,vt,sS 0]/\vt.oneCell'=true/\Xb ↑w ↑w' vp (ZO a o):=by
 have hst0:=hok.st0;obtain⟨n,hn⟩:∃n:Nat,a.st.toNat=n:=⟨_,O⟩;have hna:a.st=(n:Int):=oa
 have hp9:=QsE (n:=n) oa;have hall:=hok.al_le;have hr:prj a o=if a.st=0 then⟨[],[],[]⟩else ju a (kpt a o) (ers a o) (2 ^ n) 0 (pj0 a (ers a o)):=by unfold prj;rw[hn]
 refine Zm func40 ?_;refine Qc<|Zf [va,sS a.st,vm,ve] λb0 w1 kg hb0 gj=>QT Xf λb4 w2 hM hb4 kh=>x Qe<|Qb ?_;have gk:=kg.D hM;have hl4:=kh.lt;have hz1:=kg.size;refine Qd<|Qc<|Q3 (gj.I hM) O O<|Qa<|Qw<|(Qef (h.I gk) (hO.I gk) hok pg ph).S ?_;rintro r3 w3 ⟨rfl,hz⟩;have h4:=gk.D hz;refine Qb<|Ql<|ZN O O<|xe<|Zw rfl<|Qf<|Qc<|Q3 ((gj.I hM).I hz) O O<|Qa<|Qw<|(Qei (h.I h4) (hO.I h4) hok).S ?_;rintro r5 w5 ⟨hN,vr,G,vz,rfl,hk,h5⟩;have ki:(kpt a o).length<=1099511627776:=Lz (LK _ _) oa;have po:vr.oneCell'=true:=by obtain⟨rv,h1,_⟩:=hk.r;exact h1.one
 refine QT j0 λb8 w6 pp pt pu=>Q5 [vr,G,vz,vm] pu ⟨po,hk.k.one,hk.z.one,h.mr.one,Z⟩ λw7 pw hP=>xe ?_;have h0:sW w5 w7:=pp.Q pw pt;have pz:=(h4.D hN).D h0;have kj:=hk.I h0;have hl8:=hP.lt;have hz3:=hz.size;have hz5:=hN.size;refine Qc<|Qs O hP O O<|x (QD ⟨hk.k.cells,Z⟩)<|QT Xf λb2 w8 p0 gl p4=>Q5 [G,sS 0,ZX,ZX] p4 ⟨hk.k.one,O,O,O,Z⟩ λw9 p5 gm=>xe ?_;have ho:sW w7 w9:=p0.Q p5 gl;have kk:=pz.D ho;have p6:=kj.I ho;have hl2:=gm.lt;have kn:=(((kh.I hz).I hN).I h0).I ho;have p7:=hP.I ho;refine Qd<|Qc<|Q9 O<|x (Qk ((((gj.I hM).I hz).I hN).I (h0.D ho)) O O)<|x (Zc O O)<|xe<|Zg rfl (λgn=>?_) (λgn=>?_)
 ·rw[OV gn]at hr;refine Qc<|Q3 gm O O<|Q5 [G,sS 0,ZX,ZX] kn ⟨hk.k.one,O,O,O,Z⟩ λw10 ko p8=>x Qe<|Qb<|Qj ⟨[.agg #[G,sS 0,ZX,ZX],ZX,sS 0],⟨JN p8,O,O,Z⟩,kk.Q ko oa,_,ZX,O,O,?_⟩;have U:ZO a o=⟨kpt a o,0,[],[]⟩:=by unfold ZO;rw[hr];rfl
  rw[U];refine⟨G,ZX,ZX,O,λL' h6=>⟨?_,Zu.nil _ _ _,Zu.nil _ _ _⟩⟩;exact Qh.ints (Qg (Qm h5 (h0.D ho)) ko λb hb V=>by have:=(Qi h5 b hb).1;rw[Lb.1 V]at this;have:=hz.size;omega) ki λb hb=>oq (h6 b hb) h4.size
 have p9:a.st≠0:=gn;rw[OU p9]at hr;have hn0:0<n:=oa
 refine Qf<|Qc<|Q3 p7 O O<|Qw<|(Qec p6 hok oa).S ?_;rintro hQ kq ⟨kr,hR⟩;have hS:Ss n (rch a [0] (ers a o)):=by unfold rch cls;rw[hn];exact qa _ _
 have qf:(rch a [0] (ers a o)).length<=9:=by unfold rch cls;rw[hn];exact Lz (QfB _ _) oa
 have qj:pj0 a (ers a o)=⟨[rch a [0] (ers a o)],[],[]⟩:=rfl;rw[qj]at hr;refine Zd (rch a [0] (ers a o)) λt0 ql=>?_;rw[ql]at hR hS qf hr;have kt:=Qh.ints (L:=[]) hR oa od;have hz11:=kr.size;refine Qo<|Yo (us:=[[hQ]]) O O og od ⟨kt.cells,rfl,Z⟩ λY w12 ku hb37 gq=>Qb ?_;have hl37:=gq.lt;refine Qc<|Qo<|Z1 XB λhg q4 hU hb38 kv=>?_;have hl38:=kv.lt;have q5:Zu [] ↑q4 (sL Y 1 1) 1 1 [hQ]:=(gq.I hU).arr od (n:=1) (cap:=1) (sz:=1) rfl og (Lp _);refine Qa<|xi (i:=0) q5 O O og λa40 j1=>x (Qq (u:=hQ) j1 O)<|Qw<|(Qa0 ((kt.I ku).I hU) (λx hx=>oo (hS.2 x hx)) oa).S ?_;rintro r14 j2 ⟨rfl,hV⟩;have hz14:=hV.size;refine Qo<|Yu (k:=pkA t0) (kv.I hV) O O λwS gr j3=>Qa<|Qb ?_;have hzS:=gr.size;have j4:sW kq j2:=(ku.D hU).D hV;have kw:sW kq wS:=j4.Q gr oa;have h7:sW w9 wS:=kr.D kw;have za:sW w wS:=kk.D h7;have hW:∀b∈[b2,hg,Y],b∈([]:LN)\/↑w7<=b:=λb hb=>by
  simp only[oK,oH,or_false]at hb;rcases hb with rfl|rfl|rfl
  ·exact .inr gl
  ·exact .inr oa
  exact .inr oa
 have kx:sW w7 wS:=ho.D h7;have hX:∀{w':O2},O6 [b2,hg,Y] wS w'->ObA ↑w' vr G vz vm a o:=λ{w'} hs=>kj.I (kx.O hs hW);have gs:∀{w':O2},O6 [b2,hg,Y] wS w'->QK ↑w' b8 201 [vr,G,vz,vm]:=λ{w'} hs=>hP.I (kx.O hs hW);have h8:SyN ↑w9 b2 hg Y wS:=⟨oa,oa,oa,oa,oa,oa⟩;have z0:zl ↑w9 b2 hg Y G wS ⟨[t0],[],[]⟩ (xj [] (pkA t0) (sS 0)) [(hQ,t0)] (sL Y 1 1) ZX ZX wS:=by
  refine⟨O6.Y _ _,gm.I h7,j3,?_,λb hb=>by simp[ob]at hb;exact .inl hb,QL _ _ _ _,QL _ _ _ _,O,λp U=>?_,λp U b hb=>?_,Dj.nil' _,Dj.nil' _,Dj.nil' _⟩
  ·exact(((gq.I hU).I hV).J gr (by simp;omega)).own (n:=1) (sz:=1) O oa oa
  ·simp only[oF]at U;subst U;exact Qm hR kw
  simp only[oF]at U;subst U;have:=(Qi hR) b hb;refine⟨oa,?_,by simp[ob],by simp[ob]⟩;simp[ob];omega
 have z1:KnP (xj [] (pkA t0) (sS 0)) [t0]:=by
  have z2:KnP [] []:=λu _=>O;have:=z2.add (u:=t0) od (λx hx=>oo (hS.2 x hx));simpa using this
 have z3:PjO n ⟨[t0],[],[]⟩:=⟨λt ht=>by rw[Lb.1 ht];exact hS,od⟩;generalize hT:ju a (kpt a o) (ers a o) (2 ^ n) 0 ⟨[t0],[],[]⟩=T at hr;have hkl:(kpt a o).length<=1000:=Lz (LK _ _) oa;have hA:ZO a o=⟨kpt a o,T.tup.length,T.mk',T.ed⟩:=by unfold ZO;rw[hr]
 rw[hA];refine Qd<|Qc<|Qb<|QX (α:=Nat×Sy×List (ByteArray×O3)×List TV×O3×O3×O3) [(5,6),(10,10),(12,12),(14,17),(44,111)] (λz=>[(10,z.2.2.2.2.1),(12,sS z.1)])
  (λz w'=>zl ↑w9 b2 hg Y G wS z.2.1 z.2.2.1 z.2.2.2.1 z.2.2.2.2.1 z.2.2.2.2.2.1 z.2.2.2.2.2.2 w'/\PjO n z.2.1/\KnP z.2.2.1 z.2.1.tup/\z.1<=z.2.1.tup.length/\z.2.1.mk'.length<=z.1/\z.2.1.ed.length<=z.1*1000/\ju a (kpt a o) (ers a o) (2 ^ n - z.1) z.1 z.2.1=T)
  (λz=>2 ^ n - z.1) (0,⟨[t0],[],[]⟩,_,_,_,ZX,ZX) ov ⟨z0,z3,z1,Lo _,Lo _,Lo _,hT⟩ ?_
 rintro⟨i,s,m,qs,vt,vk,vd⟩ g kz ⟨hI,hB,k0,hi,z4,k4,gt⟩;simp only[]at hI hB k0 hi z4 k4 gt;have hle:=hB.le;have z5:qs.length=s.tup.length:=by rw[<-hI.q];simp
 have gu:∀p∈qs,Ss n p.2:=λp U=>hB.v p.2 (by rw[<-hI.q];exact LL U);have hqn:∀p∈qs,p.2.length<=9:=λp U=>oo (XK p.2 0 n (gu p U).1 (gu p U).2)
 have Vw:=QN (L:=[]) hI.t oa od;refine Qd<|Ql<|Qa<|QG Vw O<|ZW O O<|xe<|Zp rfl (λh47=>?_) (λh47=>?_)
 ·have hend:s=T:=by rw[<-gt,Qja oa]
  refine Qt ?_;have hK1:=Qh.ints (L:=[]) hI.k oa od;have hE1:=Yd.eds (L:=[]) hI.e oa od;refine Ql<|QG Vw O<|Q9 O<|Qo<|Qv hI.A O O od rfl λgv hv hB17=>xe ?_;have hB4':QK ↑gv b4 53 Xf:=((kn.I h7).J hI.st (by simp;omega)).J hv (by simp;omega);refine Qc<|Q3 hB17 O O<|Qa<|Q5 [G,sS qs.length,vk,vd] hB4' ⟨hk.k.one,O,hK1.one,hE1.one,Z⟩ λk5 h2 hB418=>x Qe<|Qb ?_;have hfin17:sW w gv:=(za.O hI.st (λb hb=>by rcases hW b hb with h1|h1;cases h1;exact .inr oa)).Q hv oa
  have hfin:sW w k5:=hfin17.Q h2 oa;refine Qj ⟨[.agg #[G,sS qs.length,vk,vd],vt,sS 0],⟨JN hB418,O,O,Z⟩,hfin,_,vt,O,QA hI.t,?_⟩;rw[<-hend];have e1:(qs.length:Int)=s.tup.length:=by rw[z5]
  have k1:=Qg (Qg hI.k hv (λb hb=>by have:=(Qi hI.k b hb).1;simp;omega)) h2 (λb hb=>by have:=(Qi hI.k b hb).1;simp;omega);have k2:=Qg (Qg hI.e hv (λb hb=>by have:=(Qi hI.e b hb).1;simp;omega)) h2 (λb hb=>by have:=(Qi hI.e b hb).1;simp;omega);refine⟨G,vk,vd,by rw[e1],λL' h6=>⟨?_,Qh.ints k1 (by show s.mk'.length<=_;omega) (λb hb=>oo (h6 b hb)),Yd.eds k2 (by show s.ed.length<=_;omega) (λb hb=>oo (h6 b hb))⟩⟩;have k6:∀{c:Nat},↑w7<=c->c∉ob G:=λhc V=>oo (Qi h5 _ V).2
  have hn4:b4∉ob G:=λV=>oo (Qi h5 _ V).1
  exact Qh.ints (Qg (Qg (Qg (Qm h5 (h0.D (ho.D h7))) hI.st λb hb V=>by
   rcases hW b V with h1|h1
   ·cases h1
   exact k6 h1 hb) hv λb hb V=>k6 gl ((Lb.1 V) ▸ hb)) h2 λb hb V=>hn4 ((Lb.1 V) ▸ hb)) ki λb hb=>oq (h6 b hb) h4.size
 have hlt:i<s.tup.length:=oa
 have he:i<qs.length:=oa
 have k9:=Qn8 hI.q he;have ma:=gu (qs[i]'he) (Lm he);obtain⟨t,hC⟩:∃t,(qs[i]'he).2=t:=⟨_,O⟩;rw[hC]at k9 ma;have htb:∀x∈t,0<=x/\x<a.st:=λx hx=>oo (ma.2 x hx)
 have htl:t.length<=9:=by have:=hqn _ (Lm he);rw[hC]at this;exact this
 refine Qf ?_;have mc:ju a (kpt a o) (ers a o) (2 ^ n - (i+1)) (i+1) ((kpt a o).foldl (JD a (ers a o) i t) (zc a i t s))=T:=by
  rw[<-gt];obtain⟨f,hf⟩:∃f,2 ^ n - i=f+1:=⟨2 ^ n - i - 1,oa⟩;rw[hf,ju,OV hlt,k9,show 2 ^ n - (i+1)=f by omega]
 have htI:Qu [] ↑kz (qs[i]'he).1 t:=by rw[<-hC];exact Qh.ints (hI.el (qs[i]'he) (Lm he)) (by rw[hC];omega) od
 refine Qd<|Qn<|QW (α:=O3) [(50,61)] (λz=>[]) (λz w'=>zl ↑w9 b2 hg Y G wS (zc a i t s) m qs vt z vd w') oh ?_ ?_
 ·refine Qd<|ZK [] (Xj 0 6 [5])<|pq (λ_ hc=>Zi ((gs hI.st).I hc) O O)<|p Qy<|p Qy<|Lg.pig O KB Vw O O he λa53 h53 =>
   pq (λ_ hc=>Qq (h53.I hc) O)<|pk<|xg<|(Qhe ((hX hI.st).I (O6.X _ _)) (htI.I (O6.X _ _))).S ?_
  rintro r17 gv ⟨rfl,hv⟩;have mf:=(O6.X [] kz).D hv;refine⟨mf,?_⟩;refine pe ?_;have gx:=hI.I mf;refine Q6 O (λgy=>?_) (λgy=>?_)
  rotate_left
  ·refine Qf<|⟨vk,Z,?_⟩;unfold zc;rw[OU (by rw[gy];simp)];exact gx
  refine Qr<|Qs O gx.A O O<|Qa<|Qo<|Q8 [[sS i]] λb59 k5 h2 hb59 hB59=>?_;have hD:=gx.I h2;refine Qo<|Q2 (news:=[sS i]) (L:=[]) hD.k O O O (hB59.at od) om oa hD.st.size λmg w19 ho19 mh hn19=>?_;have mj:Qh 3 ↑wS w19 mg (s.mk'++[(i:Int)]):=Qh.snoc ho19;refine Q9 O<|Qo<|Qv (hD.A.J mh (QJ hD.k oa)) O O od (Qh.ints (L:=[]) mj (by simp;omega) od).one λw20 hs20 hB20=>xe ?_;refine⟨mg,Z,?_⟩;unfold zc;rw[OV gy];exact hD.setK h8 mh mj hn19 hs20 hB20
 rintro hY g3 w21 gz;obtain⟨hZ,hed2,hmk2⟩:=QaZ a i t s;have hsk2:PjO n (zc a i t s):=⟨by rw[hZ];exact hB.v,by rw[hZ];exact hB.d⟩;have hveI:=(hX gz.st).k;refine Qd<|Qc<|Qs O (gs gz.st) O O<|QG hveI O<|Qa<|xe<|QX (α:=Nat×Sy×List (ByteArray×O3)×List TV×O3×O3) [(10,10),(14,17),(65,107)] (λz=>[(10,z.2.2.2.2.1),(65,sS z.1)])
  (λz w'=>zl ↑w9 b2 hg Y G wS z.2.1 z.2.2.1 z.2.2.2.1 z.2.2.2.2.1 hY z.2.2.2.2.2 w'/\PjO n z.2.1/\KnP z.2.2.1 z.2.1.tup/\z.1<=(kpt a o).length/\z.2.1.mk'=(zc a i t s).mk'/\z.2.1.ed.length<=i*1000+z.1/\s.tup.length<=z.2.1.tup.length /\
   (∃h:i<z.2.2.2.1.length,(z.2.2.2.1[i]'h).2=t)/\((kpt a o).drop z.1).foldl (JD a (ers a o) i t) z.2.1=(kpt a o).foldl (JD a (ers a o) i t) (zc a i t s))
  (λz=>(kpt a o).length - z.1) (0,zc a i t s,m,qs,vt,vd) ov
  ⟨gz,hsk2,by rw[hZ];exact k0,Lo _,O,by rw[hed2];simpa using k4,by rw[hZ];exact Lp _,⟨he,hC⟩,O⟩ ?_
 rintro⟨j,E,m4,ha,ga,gb⟩ g4 hE ⟨I,hF,hw,hj,gc,mo,g0,⟨hq,h3⟩,hh⟩;simp only[]at I hF hw hj gc mo g0 hh hq h3;have mq:ha.length=E.tup.length:=by rw[<-I.q];simp
 have hle4:=hF.le;have ms:=QN (L:=[]) I.t oa od;refine Zk rfl O (λg2=>?_) (λg2=>?_)
 ·have hje:(kpt a o).length<=j:=by have h18:¬(j:Int)<((kpt a o).length:Int):=g2;omega
  rw[Lu hje]at hh;have hrun4':E=(kpt a o).foldl (JD a (ers a o) i t) (zc a i t s):=hh;rw[<-hrun4']at mc;refine Qt<|Ql<|QG ms O<|x (Z8 O O)<|xe<|Zg O (λmt=>OX (show(4096:Int)<(ha.length:Int) from mt) oa) (λmt=>?_);refine Qf<|Qr<|Qa<|QB O O<|Qb<|⟨(i+1,E,m4,ha,ga,hY,gb),by show 2 ^ n - (i+1)<2 ^ n - i;omega,ov,I,hF,hw,by show i+1<=E.tup.length;omega,by show E.mk'.length<=i+1;rw[gc];omega,by show E.ed.length<=(i+1)*1000;omega,mc⟩
 have ge:j<(kpt a o).length:=by have h18:(j:Int)<((kpt a o).length:Int):=g2;omega
 rw[QY ge,LQ]at hh;obtain⟨v,mu⟩:∃v,(kpt a o)[j]=v:=⟨_,O⟩;rw[mu]at hh;refine Qf<|Qd<|Qn<|Qc<|xii ((hX I.st).k) O O ge λa67 mv=>?_;rw[mu]at mv;refine x (Qq mv O)<|Qb ?_;have htI4:Qu [] ↑hE (ha[i]'hq).1 t:=by rw[<-h3];exact Qh.ints (I.el (ha[i]'hq) (Lm hq)) (by rw[h3];omega) od
 refine Qd<|ZK [] (Xj 0 8 [6])<|pq (λ_ hc=>Zi ((gs I.st).I hc) O O)<|p Qy<|p Qy<|Lg.pig O KB ms O O hq λa72 h72 =>
  pq (λ_ hc=>Qq (h72.I hc) O)<|p Qy<|pk<|xg<|(Qhd ((hX I.st).I (O6.X _ _)) hok (htI4.I (O6.X _ _)) htb htl pn v).S ?_
 rintro vx w23 ⟨hs23,gg⟩;have mw:=(O6.X [] hE).D hs23;refine⟨mw,p ZI<|pe ?_⟩;have gh:=I.I mw;have hz22:=I.st.size;have g5:Ss n (pnx a (ers a o) t v):=by unfold pnx rch cls;rw[hn];exact qa _ _
 have hul:(pnx a (ers a o) t v).length<=9:=by unfold pnx rch cls;rw[hn];exact Lz (QfB _ _) oa
 have hG:JD a (ers a o) i t E v=if(pnx a (ers a o) t v).length=0 then E else⟨(K7 E (pnx a (ers a o) t v)).tup,(K7 E (pnx a (ers a o) t v)).mk',(K7 E (pnx a (ers a o) t v)).ed++[((i:Int),v,((K7 E (pnx a (ers a o) t v)).tup.idxOf (pnx a (ers a o) t v):Int))]⟩:=rfl
 refine Zd (pnx a (ers a o) t v) λu hu0=>?_;rw[hu0]at gg g5 hul hG;have hH:=Qh.ints (L:=[]) gg oa od;have hJ:∀x∈u,0<=x/\x<100:=λx hx=>oo (g5.2 x hx)
 refine Qd<|Ql<|QG hH O<|x (Zc O O)<|xe<|Zg rfl (λg8=>?_) (λg8=>?_)
 ·have g9:u.length=0:=by have h79:(u.length:Int)=0:=g8;omega
  rw[OV g9]at hG;rw[hG]at hh;refine Qt<|Qr<|QB O O<|Qa<|xe ?_;exact⟨(j+1,E,m4,ha,ga,gb),by show(kpt a o).length - (j+1)<(kpt a o).length - j;omega,ov,gh,hF,hw,ge,gc,by show E.ed.length<=i*1000+(j+1);omega,g0,⟨hq,h3⟩,hh⟩
 have g9:¬u.length=0:=λe=>g8 (by show(u.length:Int)=0;omega);rw[OU g9]at hG;rw[hG]at hh;have my:=Qi gg;refine Qf<|QW (α:=Unit) [(16,17),(79,85)] (λz=>[(16,sS (if u∈E.tup then(E.tup.idxOf u:Int) else 0)),(17,.bool (decide (u∈E.tup)))]) (λz w'=>sW w23 w') oh ?_ ?_
 ·refine Qr<|Qa<|Qa<|Qw<|(Qa0 hH hJ oa).S ?_;rintro r24 w24 ⟨rfl,gi⟩;by_cases J:u∈E.tup
  ·refine x (qg (k:=pkA u) ((gh.I gi).M) O O (by rw[hw u hJ,OV J]))<|Qa<|QO rfl rfl<|QO rfl rfl<|x Qe<|Qb<|⟨(),⟨OW sS (OV J).symm,OW Value.bool (OY J).symm,Z⟩,gi⟩
  refine x (jV (k:=pkA u) ((gh.I gi).M) O O (by rw[hw u hJ,OU J]))<|Qa<|QO rfl rfl<|QO rfl rfl<|x Qe<|Qb<|⟨(),⟨OW sS (OU J).symm,OW Value.bool (O0 J).symm,Z⟩,gi⟩
 rintro _ g6 w25 ka;have kb:=gh.I ka;have hxA25:=hH.I ka;have hadd:∀b∈ob vx,b∉ob ga/\b∉ob hY/\b∉ob gb:=λb hb=>by
  have h1:=(my b hb).1;have h1':↑hE<=b:=h1;exact⟨λhK=>oo (QV I.t b hK),λhK=>oo (QV I.k b hK),λhK=>oo (QV I.e b hK)⟩
 refine QW (α:=List (ByteArray×O3)×List TV×O3) [(10,10),(16,16),(86,97)] (λz=>[(10,z.2.2),(16,sS ((K7 E u).tup.idxOf u:Int))])
  (λz w'=>zl ↑w9 b2 hg Y G wS (K7 E u) z.1 z.2.1 z.2.2 hY gb w'/\KnP z.1 (K7 E u).tup/\∃h:i<z.2.1.length,(z.2.1[i]'h).2=t) oh ?_ ?_
 ·refine Ql<|x (Zj O)<|xe<|Q6 O (λkc=>?_) (λkc=>?_)
  rotate_left
  ·have J:u∈E.tup:=by simpa using kc
   refine Qf ?_;have e1:K7 E u=E:=by unfold K7;rw[OV J]
   have e2:(if u∈E.tup then(E.tup.idxOf u:Int) else 0)=((K7 E u).tup.idxOf u:Int):=by rw[e1,OV J]
   refine⟨(m4,ha,ga),⟨O,OW sS e2,Z⟩,?_,?_,hq,h3⟩
   ·rw[e1];exact kb
   rw[e1];exact hw
  have J:u∉E.tup:=by simpa using kc
  have htA6:=QN (L:=[]) kb.t oa od;refine Ql<|QG htA6 O<|Qb<|Ql<|Qa<|Qw<|(Qa0 hxA25 hJ oa).S ?_;rintro r26 w26 ⟨rfl,mz⟩;have m0:=kb.I mz;refine Qa<|Qo<|YR (k:=pkA u) m0.M O O λw27 m1 hm27=>xe ?_;have hx27:=Qg (Qm (Qm gg ka) mz) m1 (λb hb=>by have:=(my b hb).1;have h1':↑hE<=b:=this;simp;omega);refine Qr<|Qa<|Qa<|Qo<|Yo (us:=[[vx]]) O O og od ⟨hH.cells,rfl,Z⟩ λb96 w28 m2 hb96 hB96=>?_;have ke:=(m0.setM h8 m1 hm27).I m2;refine Qo<|Q2 (news:=[vx]) (L:=[]) ke.t O O O (hB96.at od) (λy hy=>by simp only[oF]at hy;subst hy;exact hH.one) oa (oq ke.st.size h8.nS) λm3 w29 ho29 hs29 hn29=>Qb ?_;have hk29:zk 47 ↑w9 w29 m3 (ha++[(vx,u)]):=zk.snoc ho29;have hIA:=ke.setT h8 (u:=u) (Za (Qm hx27 m2) (by show wS.heap.size<=↑hE;omega)) hadd hs29 hk29 hn29;have e1:K7 E u=⟨E.tup++[u],E.mk',E.ed⟩:=by unfold K7;rw[OU J]
  have e2:(ha.length:Int)=((K7 E u).tup.idxOf u:Int):=by
   rw[e1];simp only[];rw[Ma,OU J,<-mq];simp
  refine⟨(xj m4 (pkA u) (sS (ha.length:Int)),ha++[(vx,u)],m3),⟨O,OW sS e2,Z⟩,?_,?_,by simp;omega,?_⟩
  ·rw[e1];exact hIA
  ·rw[e1];simp only[];rw[mq];exact hw.add J hJ
  simp only[];rw[Ms hq];exact h3
 rintro⟨m5,qs5,vt5⟩ g7 w30 ⟨kf,m6,m7,m8⟩;simp only[]at kf m6 m7 m8;obtain⟨hmk5,hedA⟩:=QoZ E u;have hed5:(K7 E u).ed.length<=i*1000+j:=by rw[hedA];exact mo
 have m9:=hF.add g5;have hlA:E.tup.length<=(K7 E u).tup.length:=by unfold K7;split <;> simp
 refine Qr<|Qs O kf.A O O<|Qa<|Qa<|Qa<|x (QD ⟨O,O,O,Z⟩)<|Qo<|Q8 [Qp ((i:Int),v,((K7 E u).tup.idxOf u:Int))] λb104 w31 hs31 hb104 hB104=>?_;have hL:=kf.I hs31;refine Qo<|Q2 (news:=Qp ((i:Int),v,((K7 E u).tup.idxOf u:Int))) (L:=[]) hL.e O O O (hB104.at od) (ZL.all (us:=Qp _) ⟨rfl,rfl,rfl,Z⟩) oa hL.st.size λpc w32 ho32 pd hn32=>?_;have pf:Yd 179 ↑wS w32 pc ((K7 E u).ed++[((i:Int),v,((K7 E u).tup.idxOf u:Int))]):=Yd.snoc ho32;refine Q9 rfl<|Qo<|Qv (hL.A.J pd (QJ hL.e oa)) O O od (Yd.eds (L:=[]) pf (by simp;omega) od).one λw33 hs33 hB33=>xe ?_;refine Qr<|QB O O<|Qa<|xe<|⟨(j+1,_,m5,qs5,vt5,pc),by show(kpt a o).length - (j+1)<(kpt a o).length - j;omega,ov,(hL.setE h8 pd pf hn32 hs33 hB33),⟨m9.v,m9.d⟩,m6,ge,?_,?_,Lz g0 hlA,⟨m7,m8⟩,hh⟩
 ·simp only[];rw[hmk5];exact gc
 simp only[oM,oL];omega
theorem zF {V:VwV}(h:VwA ↑w V)(e:Int):
  QU sV 135 [.pointer (some ⟨V.b,0,none⟩),sS e] w λr w'=>r=.bool (decide (e∈V.o))/\w'=w:=by
 refine Zm func135 ?_;refine Qc<|Qb<|Ql<|Z7 O<|Qs O h.blk O O<|Qa<|Qw<|(ZH h.o e).S ?_;rintro E G ⟨rfl,rfl⟩;refine Qb<|Qj ⟨[_],La,O,O⟩
theorem QdR {V:VwV}{b:Nat}(h:VwA ↑w V)(E:QK ↑w b 128 [.pointer (some ⟨V.b,0,none⟩)])(e:Int):
  QU sV 256 [sS e,sP b] w λr w'=>r=.bool (decide (e∈V.a.mr))/\sW w w':=by
 refine Zm func256 ?_;refine Qc<|Qb<|Qc<|ZD E O O<|Z7 O<|Q9 O<|Qs O h.blk O O<|Qa<|Qw<|(ZH h.a.mr e).S ?_;rintro G I ⟨rfl,rfl⟩;refine Qb<|Qj ⟨[_],La,O,O6.Y _ _⟩
theorem jD {V:VwV}{vl:O3}(h:VwA ↑w V)(hl:Qu [] ↑w vl l):
  QU sV 206 [.pointer (some ⟨V.b,0,none⟩),vl] w λr w'=>r=.bool (mkd V.a l)/\sW w w':=by
 refine Zm func206 ?_;refine Qc<|Zf [.pointer (some ⟨V.b,0,none⟩)] λI U E Y J=>Qb<|Ql<|x (Zl (l:=[]) (l':=[.tmp 2]))<|Qw<|(QbB (q:=λs=>decide (s∈V.a.mr)) (cap:=[sP I]) (hl.I E) (λe w4 G=>QdR ((h.I E).I G) (J.I G) e)).S ?_;rintro r2 w2 ⟨rfl,T⟩;refine Qb<|Qj ⟨[_],La,O,E.D T⟩
theorem QdS {V:VwV}{b:Nat}(h:VwA ↑w V)(E:QK ↑w b 128 [.pointer (some ⟨V.b,0,none⟩)])(e:Int):
  QU sV 138 [sS e,sP b] w λr w'=>r=.bool (!decide (e∈V.o))/\w'=w:=by
 refine Zm func138 ?_;refine Qc<|Qb<|Qc<|ZD E O O<|Qa<|Qw<|(zF h e).S ?_;rintro G I ⟨rfl,rfl⟩;refine x (Zj O)<|Qb<|Qj ⟨[_],La,O,O⟩
theorem Um (m:Nat)(V:m<256)(w:O2):QU sV 83 [.int .u8 m] w λr w'=>sW w w'/\Qh 3 ↑w w' r (setK m 5):=by
 refine Zm func83 ?_;refine Qc<|Qb<|Qc<|Qb<|Qd<|Qc<|Qb<|QX (α:=Nat×O3) [(3,17)] (λz=>[(3,z.2),(4,sS z.1)]) (λz w'=>z.1<=5/\sW w w'/\Qh 3 ↑w w' z.2 (setK m z.1)) (λz=>5 - z.1) (0,nS) ov
  ⟨Lo _,O6.Y _ _,QL _ _ _ _⟩ ?_
 rintro⟨k,v⟩ g w1 ⟨Y,G,E⟩;simp only[]at Y E;have hn:=Ul m k;have ho:=G.size;refine Qd<|Ql<|ZW O O<|xe<|Zp rfl (λh6=>?_) (λh6=>?_)
 ·refine Qt<|Ql<|Qb ?_;have ha:k=5:=oa
  rw[ha]at E;exact Qj ⟨[v],La,G,E⟩
 have T:k<5:=oa
 have he:m / 2 ^ k<256:=Nat.lt_of_le_of_lt (Nat.div_le_self _ _) V;have I:=jR m k;refine Qf<|Qd<|Qn<|Ql<|Qa<|x (Qcr (n:=k) O O (by show k<=8;omega))<|x (qk (a:=m / 2 ^ k) (b:=1) (OW (Value.int .u8) (QaM m k)) O he og)<|x (Zc O O)<|xe<|Zp rfl (λU=>?_) (λU=>?_)
 ·rw[OU (λe=>U (by rw[e];rfl))]at I;refine Qf<|Qr<|Qa<|QB O O<|Qb<|⟨(k+1,v),oe,ov,T,G,by simp only[];rw[I];exact E⟩
 rw[OV oa]at I;refine Qr<|Qa<|Qa<|Qo<|Q8 [[sS k]] λb15 w2 J hp hf=>?_;have hg:=Qm E J;have hq:=J.size;refine Qo<|Q2 (news:=[sS k]) (L:=[]) hg O O O (hf.at od) om oa oa λv3 w3 hh hj hr =>
  Qb<|Qr<|Qa<|QB O O<|Qb<|⟨(k+1,v3),oe,ov,T,(G.D J).O hj (λb hb=>.inr ((Qi E) b hb).1),?_⟩
 simp only[];rw[I];exact Qh.snoc hh
end Go.Lg
