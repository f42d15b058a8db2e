/- Merged out of 27 texts. -/
import Derived.Test.YtpfnhheoeaiomaaGreatDoorPfb
import Derived.Shelf.SortM.Plain
import Derived.Shelf.SortM.SortNone
import Derived.Shelf.SlicesE.Compact
import Derived.Shelf.SlicesE.DeleteFunc
import Derived.Ground.SlgmProg
import Derived.Ground.SlgnProg
import Derived.Ground.SlgfProg
set_option maxHeartbeats 40000000
set_option maxRecDepth 100000
set_option linter.all false
open Go Go.Lg
open Go.Value renaming int->oD
open Go.IntKind renaming i64->oE
open _root_.List renaming mem_singleton->oH,replicate->oI,not_mem_nil->oJ,length_singleton->oL,range->oM,mem_cons->oN,length_append->oO,getD->oQ,length_cons->oS,map_cons->oU,length->oY,getElem?_append_left->Oa,cons_append->Og,all_cons->Oh,append_assoc->Om,append_nil->Oq,all_eq_true->Ou,nil_append->Ox,length_map->OB,map_nil->OI,take_length->ON
open _root_.Bool renaming and_eq_true->oK,or_eq_false_iff->Oe,not_eq_true'->Ol,false_eq_true->Ov,true_and->OP
open _root_.Array renaming replicate->oR
open _root_.Nat renaming zero_add->Ob,add_zero->OC,sub_zero->OS,succ_mul->OU,mul_one->OV
open _root_.Int renaming toNat_natCast->OD
open _root_.Option renaming map_some->OJ
open Go renaming World->O6,Value->O7,Operand->O8,Program->O9
open Go.Proofs Go.Proofs.Tryz
open Go.Proofs.Tryz renaming prog->sV
variable {w w' W':O6}{L L' X ds av:LN}{n i t sz base j T N G m g id B kt ty gp bp U:Nat}{a A:Qz}{cs us cap capt:LV}{α β:Type}{y:O8}{ve va vm z vt vs vk vx v' vr vo vu vz:O7}{aa:List Qz}{f:Fr}{P:O9}{lf:Lf}{o un ul u hi r est q rs out:LI}{s kd:Int}{c:ZO}{fn:Func}{es ed:List Ed}{K:xE}{d:xJ}{pS:String}{af:xH}{gd:xz}{k':IntKind}{at_:Array Nat}{ops:xI}{qx:List XV}{ks:List KV}
namespace Go.Lg
theorem Qfm {α:Type}(q:α->Bool):∀(l:List α) (i:Nat),fix q i l=-1\/((i:Int)<=fix q i l/\fix q i l<(i:Int)+l.length)
 | [],i=>.inl Z
 | a::l,i=>by
  rw[YH];split
  ·right;simp only[oS];omega
  rcases Qfm q l (i+1) with h|h
  ·exact .inl h
  right;simp only[oS];omega
theorem jf {α:Type}(q:α->Bool)(m:List α):∀(l:List α) (i:Nat),fix q i (l++m)=if 0<=fix q i l then fix q i l else fix q (i+l.length) m
 | [],i=>by
  show fix q i m=if(0:Int)<=-1 then(-1) else fix q i m
  rw[OY oh]
 | a::l,i=>by
  rw[Mq,YH,YH];by_cases h:q a=true
  ·rw[OZ h,OZ h,OZ oa]
  rw[OY h,OY h,jf q m l (i+1),LS];rw[show i+1+l.length=i+(l.length+1) by omega]
theorem QaX {α:Type}(q:α->Bool)(d:Nat):∀(l:List α) (i:Nat),fix q (i+d) l=if 0<=fix q i l then fix q i l+d else -1
 | [],i=>rfl
 | a::l,i=>by
  rw[YH,YH];by_cases h:q a=true
  ·rw[OZ h,OZ h,OZ oa];omega
  rw[OY h,OY h,show i+d+1=(i+1)+d by omega,QaX q d l (i+1)]
theorem VP {α β:Type}(q:β->Bool)(g:α->β):∀(l:List α) (i:Nat),fix q i (l.map g)=fix (λa=>q (g a)) i l
 | [],i=>rfl
 | a::l,i=>by rw[L2,YH,YH,VP q g l (i+1)]
theorem QqL [Fu sV gp fn]{q:(Int×Int)->Bool}{v:O7}{l:xD}(h:Zw L ↑w v l.length 2 (l.flatMap Zf))
  (I:∀e∈l,∀(G:O6),sW w G->QT sV gp ([sT (Zf e)]++cap) G λr w'=>r=.bool (q e)/\sW G w'):
  QT sV 299 [v,.func (.func gp) #[] cap.toArray] w λr w'=>r=sS (fix q 0 l)/\sW w w' :=
 ixG ⟨_,Z,func299⟩ Jg (ldA Jg) h I
theorem Qq9 [Fu sV gp fn]{q:(Int×Int)->Bool}{v:O7}{l:xD}(h:Zw L ↑w v l.length 2 (l.flatMap Zf))
  (I:∀e∈l,∀(G:O6),sW w G->QT sV gp ([sT (Zf e)]++cap) G λr w'=>r=.bool (q e)/\sW G w'):
  QT sV 269 [v,.func (.func gp) #[] cap.toArray] w λr w'=>r=.bool (l.any q)/\sW w w':=by
 refine Zn func269 ?_;refine Qc<|Qb<|Ql<|Qa<|Vc<|(QqL h I).S ?_;rintro O G ⟨rfl,J⟩;refine x (Yn Z Z)<|Qb<|Qk ⟨[_],Lb,O0 Value.bool (U7 q l 0),J⟩
theorem jy (sz:LI):∀(ls:xD) (pr:Option Int),XM sz pr ls=0->(∀p∈ls,0<=p.1/\p.1<(sz.length:Int))/\YD (ls.map (·.1))/\∀y,pr=some y->∀p∈ls,y<p.1
 | [],pr,_=>⟨λp G=>(by cases G),List.Pairwise.nil,λy _ p G=>(by cases G)⟩
 | l::ls,pr,h=>by
  unfold XM at h;split at h
  ·cases h
  rename_i h1;split at h
  ·cases h
  rename_i h2;split at h
  ·cases h
  obtain⟨J,O,U⟩:=jy sz ls (some l.1) h;have I:=U l.1 Z;refine⟨λp G=>?_,Mb.2 ⟨λx hx=>?_,O⟩,λy V p G=>?_⟩
  ·rcases Ll.1 G with rfl|G
   ·omega
   exact J p G
  ·obtain⟨p,G,rfl⟩:=Lt.1 hx;exact I p G
  subst V;have Y:¬l.1<=y:=λe=>h2 (O2 e);rcases Ll.1 G with rfl|G
  ·omega
  have:=I p G;omega
theorem jw (sz:LI):∀(ls:xD) (pr:Option Int),J4 sz pr ls=0->(∀p∈ls,0<=p.1/\p.1<(sz.length:Int)/\-65536<=p.2/\p.2<=65536)/\YD (ls.map (·.1))/\∀y,pr=some y->∀p∈ls,y<p.1
 | [],pr,_=>⟨λp G=>(by cases G),List.Pairwise.nil,λy _ p G=>(by cases G)⟩
 | l::ls,pr,h=>by
  unfold J4 at h;split at h
  ·cases h
  rename_i h1;split at h
  ·cases h
  rename_i h2;split at h
  ·cases h
  rename_i O;obtain⟨U,V,Y⟩:=jw sz ls (some l.1) h;have I:=Y l.1 Z;have J:grt l.2=false:=by cases hg:grt l.2 with|true=>exact O1 (.inr hg) O|false=>rfl
  unfold grt at J;simp only[Oe,decide_eq_false_iff_not]at J;refine⟨λp G=>?_,Mb.2 ⟨λx hx=>?_,V⟩,λy hy p G=>?_⟩
  ·rcases Ll.1 G with rfl|G
   ·omega
   exact U p G
  ·obtain⟨p,G,rfl⟩:=Lt.1 hx;exact I p G
  subst hy;have h8:¬l.1<=y:=λe=>h2 (O2 e);rcases Ll.1 G with rfl|G
  ·omega
  have:=I p G;omega
theorem zk (sz:LI):∀(l:List Exc) (sn:List ByteArray),YU sz sn l=0->∀x∈l,J5 sz x.ls=0
 | [],_,_,x,hx=>by cases hx
 | a::l,sn,h,x,hx=>by
  unfold YU at h;split at h
  ·rename_i h1;exact O1 h h1
  split at h
  ·rename_i h1;exact O1 h h1
  rename_i h1;rcases Ll.1 hx with rfl|hx
  ·exact Ly.1 h1
  exact zk sz l _ h x hx
theorem zm (sz:LI):∀(l:List xQ) (sn:List ByteArray),Xr sz sn l=0->∀x∈l,XN sz x=0
 | [],_,_,x,hx=>by cases hx
 | a::l,sn,h,x,hx=>by
  unfold Xr at h;split at h
  ·rename_i h1;exact O1 h h1
  split at h
  ·rename_i h1;exact O1 h h1
  rename_i h1;rcases Ll.1 hx with rfl|hx
  ·exact Ly.1 h1
  exact zm sz l _ h x hx
structure Qt5 (sz:LI)(ex:List Exc)(cs:List xQ):Prop where
 s8:sz.length<=8
 s:∀n∈sz,1<=n/\n<=4096
 xl:ex.length<=32
 kl:cs.length<=32
 x:∀e∈ex,∀p∈e.ls,0<=p.1/\p.1<(sz.length:Int)
 k:∀e∈cs,(∀p∈e.ts,0<=p.1/\p.1<(sz.length:Int)/\-65536<=p.2/\p.2<=65536)/\e.ts.length<=8
theorem Qd5 {sz:LI}{ex:List Exc}{cs:List xQ}(h:Xa sz ex cs=0):Qt5 sz ex cs:=by
 unfold Xa at h;split at h
 ·cases h
 rename_i Y;split at h
 ·cases h
 rename_i O;split at h
 ·cases h
 rename_i ha;split at h
 ·rename_i hx;exact O1 h hx
 rename_i hx;refine⟨oa,λn U=>?_,oa,oa,λe I p G=>?_,λe I=>?_⟩
 ·have h1:Jn n=false:=by
   cases hb:Jn n with
   | false=>rfl
   | true=>exact O1 (MH.2 ⟨n,U,hb⟩) O
  unfold Jn at h1;simp only[Oe,decide_eq_false_iff_not]at h1;omega
 ·have h1:=zk sz ex [] (Ly.1 hx) e I;unfold J5 at h1;split at h1
  ·cases h1
  exact(jy sz e.ls none h1).1 p G
 have h1:=zm sz cs [] h e I;unfold XN at h1;split at h1
 ·cases h1
 split at h1
 ·rename_i h2;exact O1 h1 h2
 rename_i h2;obtain⟨J,V,_⟩:=jw sz e.ts none (Ly.1 h2);refine⟨J,?_⟩;have:=xM sz.length (e.ts.map (·.1)) (List.Pairwise.imp (λ{a b} (h:a<b)=>(by omega:a≠b)) V) (λx hx=>by
  obtain⟨p,G,rfl⟩:=Lt.1 hx;exact⟨(J p G).1,(J p G).2.1⟩)
 rw[Lo]at this;omega
def Qpc (sz t:LI):Prop:=t.length=sz.length/\∀i,i<t.length->0<=xh t i/\xh t i<xh sz i
theorem QhJ (t:LI)(p:Int×Int)(l:xD)(s:Int):(l++[p]).foldl (λs p=>s+p.2*t.getD p.1.toNat 0) s=l.foldl (λs p=>s+p.2*t.getD p.1.toNat 0) s+p.2*xh t p.1.toNat:=by
 rw[Mw];rfl
theorem Qi7 {vl:O7}{nm:ByteArray}{ts:xD}{bd:Int}{t:LI}(hl:P2s [] ↑w vl ts)(ht:Qu [] ↑w vt t)
  (hm:∀p∈ts,0<=p.1/\p.1<(t.length:Int)/\-65536<=p.2/\p.2<=65536) (h8:ts.length<=8) (hn:∀i,i<t.length->0<=xh t i/\xh t i<=4096):
  QT sV 272 [.agg #[.string nm,vl,sS bd],vt] w λr w'=>r=sS (QrW t ⟨nm,ts,bd⟩)/\sW w w':=by
 refine Zn func272 ?_;refine Qc<|Zd [.string nm,vl,sS bd] λb2 w1 ha hy ho=>Qb<|Qc<|Qb<|Qd<|Qc<|Qs Z ho Z Z<|QG (hl.I ha) Z<|Qa<|xe<|QY (α:=Nat×Int) [(5,5),(7,7),(11,25)] (λz=>[(5,sS z.2),(11,sS z.1)]) (λz w'=>z.1<=ts.length/\sW w w'/\z.2=(ts.take z.1).foldl (λs p=>s+p.2*t.getD p.1.toNat 0) 0/\-(268435456*(z.1:Int))<=z.2/\z.2<=268435456*(z.1:Int)) (λz=>ts.length - z.1) (0,0) oy
  ⟨Lp _,ha,Z,og,og⟩ ?_
 rintro⟨k,s⟩ g w2 ⟨hk,O,U,hz,h0⟩;refine Zk rfl Z (λV=>?_) (λV=>?_)
 ·refine Qt ?_;have hp:ts.length<=k:=by have I:¬(k:Int)<(ts.length:Int):=V;omega
  rw[Ls hp]at U;refine Ql<|Qb<|Qk ⟨[_],Lb,by rw[U];rfl,O⟩
 have G:k<ts.length:=by have I:(k:Int)<(ts.length:Int):=V;omega
 have Y:=hm _ (Lm G);have hf:ts.take (k+1)=ts.take k++[ts[k]'G]:=Ln G;refine Qf<|Qd<|Qn<|Qc<|xo Jg (hl.I O) Z Z G λh3 I=>?_;refine Zg (ts[k]'G) λe he=>?_;rw[he]at I Y hf;refine x (QF I Z Z)<|QV [sS 0,sS 0] λb7 w3 hq hr J=>Q6 (Zf e) J oy λw4 hs J=>xe ?_;have hu:sW w2 w4:=hq.O hs hr;have hg:=O.D hu;have hv:e.1=((e.1.toNat:Nat):Int):=oa
 have hh:e.1.toNat<t.length:=oa
 have hj:=hn _ hh;have h4:-268435456<=e.2*xh t e.1.toNat/\e.2*xh t e.1.toNat<=268435456:=by
  have h1:(-65536)*xh t e.1.toNat<=e.2*xh t e.1.toNat:=Int.mul_le_mul_of_nonneg_right Y.2.2.1 hj.1;have h2:e.2*xh t e.1.toNat<=65536*xh t e.1.toNat:=Int.mul_le_mul_of_nonneg_right Y.2.2.2 hj.1;omega
 refine Zg (e.2*xh t e.1.toNat) λpr h5=>?_;refine ZK [] (Xj 0 11 [])<|p Qx<|p (QH Z)<|pq (λ_ hc=>Qj (J.I hc) Z Z)<|p Qx<|p (QH Z) <|
  pq (λ_ hc=>Qj (J.I hc) Z Z)<|pic (i:=e.1.toNat) Z (ht.I hg) Z (O0 sS hv) hh λh6 hw=>pq (λ_ hc=>Qq (hw.I hc) Z) <|
  p (λ_=>Qgp Z Z ⟨oa,oa⟩)<|p (λ_=>Xy Z Z ⟨oa,oa⟩)<|p ZH<|pe ?_
 refine Qr<|QC Z Z<|Qa<|xe<|⟨(k+1,s+e.2*xh t e.1.toNat),og,oy,G,hg.D (xd.Y _ _),?_,og,og⟩;simp only[];rw[hf,QhJ,<-U]
theorem Qlt {bt:Nat}{t:LI}(J:QN ↑w bt 47 [vt])(ht:Qu [] ↑w vt t)(e:Int×Int)(Y:0<=e.1/\e.1<(t.length:Int)):
  QT sV 270 ([sT (Zf e)]++[sP bt]) w λr w'=>r=.bool (!decide (t.getD e.1.toNat 0=e.2))/\sW w w':=by
 refine Zn func270 ?_;refine Qc<|Zd (Zf e) λb2 w1 G ha I=>Qb ?_;have O:e.1=((e.1.toNat:Nat):Int):=oa
 have U:e.1.toNat<t.length:=oa
 refine Qd<|ZK [] (Xj 0 9 [])<|pq (λ_ hc=>Qj ((J.I G).I hc) Z Z)<|p (QH Z)<|pq (λ_ hc=>Qj (I.I hc) Z Z)<|pic (i:=e.1.toNat) Z (ht.I G) Z (O0 sS O) U λa7 V =>
  pq (λ_ hc=>Qq (V.I hc) Z)<|p (QH Z)<|pq (λ_ hc=>Qj (I.I hc) Z Z)<|p (λ_=>J0 Z Z) <|
  p ZH<|pe ?_
 refine Qk ⟨[_],Lb,?_,G.D (xd.Y _ _)⟩;show Value.bool (decide (¬xh t e.1.toNat=e.2))=_;unfold xh;simp
theorem Qi5 (t:LI)(x:Exc):(!(x.ls.any λl=>!decide (t.getD l.1.toNat 0=l.2)))=Ua t x:=by
 unfold Ua;induction x.ls with
 | nil=>rfl
 | cons a l ih=>rw[List.any_cons,MQ,<-ih];cases decide (t.getD a.1.toNat 0=a.2) <;> simp
theorem QoF {b:Nat}{q:XV}{t:LI}(J:QN ↑w b 186 (Z4 q))(O:P2s [] ↑w q.v q.ls)(ht:Qu [] ↑w vt t)(U:∀p∈q.ls,0<=p.1/\p.1<(t.length:Int)):
  QT sV 268 ([vt]++[sP b]) w λr w'=>r=.bool (Ua t q.x)/\sW w w':=by
 refine Zn func268 ?_;refine Qc<|Qo<|zg (us:=[vt]) ht.cells λV w1 G ha Y=>Qb<|Qc<|Qs Z (J.I G) Z Z<|x Zl<|Qw<|(Qq9 (q:=λl=>!decide (t.getD l.1.toNat 0=l.2)) (cap:=[sP V]) (O.I G) (λe he w2 I=>Qlt (Y.I I) ((ht.I G).I I) e (U e he))).S ?_;rintro r2 w2 ⟨rfl,I⟩;refine x (Zi Z)<|Qb<|Qk ⟨[_],Lb,O0 Value.bool (Qi5 t q.x),G.D I⟩
theorem QoE {b:Nat}{q:KV}{t:LI}(G:QN ↑w b 191 (Yl q))(J:P2s [] ↑w q.v q.ts)(ht:Qu [] ↑w vt t)
  (O:∀p∈q.ts,0<=p.1/\p.1<(t.length:Int)/\-65536<=p.2/\p.2<=65536) (U:q.ts.length<=8) (V:∀i,i<t.length->0<=xh t i/\xh t i<=4096):
  QT sV 271 ([vt]++[sP b]) w λr w'=>r=.bool (qr t q.k)/\sW w w':=by
 refine Zn func271 ?_;refine Qc<|Qb ?_;have hd:sW w { w with drawn:=w.drawn+1 }:=xd.Y _ _
 refine Qd<|Ur (sW { w with drawn:=w.drawn+1 }) [oB 0,oB 1,oB 3,oB 4,oC 2,oB 5,oB 6] mixed ol od (xd.C _ _) ?_
 refine pq (λ_ hc=>Zj ((G.I hd).I hc) Z Z)<|p Qx<|p (QH Z)<|pq (λ_ hc=>Qj ((G.I hd).I hc) Z Z)<|pk<|xg<|(Qi7 (J.I hd) (ht.I hd) O U V).S ?_;rintro Y w1 ⟨rfl,I⟩;refine⟨I,?_⟩;refine p (λ_=>Ya Z Z)<|p ZH<|pe ?_;exact Qk ⟨[_],Lb,Z,hd.D I⟩
inductive Cd where
 | ex (b:Nat) (q:XV)
 | co (b:Nat) (q:KV)
def Cd.val:Cd->O7
 | .ex b _=>.func (.func 268) #[] #[.pointer (some ⟨b,0,none⟩)]
 | .co b _=>.func (.func 271) #[] #[.pointer (some ⟨b,0,none⟩)]
def Cd.src:Cd->Sum XV KV
 | .ex _ q=>.inl q
 | .co _ q=>.inr q
def QhK (t:LI):Sum XV KV->Bool
 | .inl q=>Ua t q.x
 | .inr q=>qr t q.k
def Cd.vio (t:LI)(c:Cd):Bool:=QhK t c.src
abbrev qe (c:Cd):LV:=[c.val]
theorem Qrb (c:Cd):(qe c).length=1:=rfl
def CdA (H:xG):Cd->Prop
 | .ex b q=>QN H b 186 (Z4 q)/\P2s [] H q.v q.ls
 | .co b q=>QN H b 191 (Yl q)/\P2s [] H q.v q.ts
theorem CdA.I {w w':O6}{c:Cd}(h:CdA ↑w c)(G:sW w w'):CdA ↑w' c:=by
 cases c with
 | ex b q=>exact⟨h.1.I G,h.2.I G⟩
 | co b q=>exact⟨h.1.I G,h.2.I G⟩
def Cd.rg (n:Nat):Cd->Prop
 | .ex _ q=>∀p∈q.ls,0<=p.1/\p.1<(n:Int)
 | .co _ q=>(∀p∈q.ts,0<=p.1/\p.1<(n:Int)/\-65536<=p.2/\p.2<=65536)/\q.ts.length<=8
theorem QdD {q:XV}(w:O6):QT sV 233 [sT (Z4 q)] w λr w'=>sW w w'/\∃b,r=(Cd.ex b q).val/\↑w<=b/\QN ↑w' b 186 (Z4 q):=by
 refine Zn func233 ?_;refine Qc<|Zd (Z4 q) λG U I J O=>Qb<|Qc<|x Zl<|Qb<|Qk ⟨[_],Lb,I,G,Z,J,O⟩
theorem Qfo {q:KV}(w:O6):QT sV 234 [sT (Yl q)] w λr w'=>sW w w'/\∃b,r=(Cd.co b q).val/\↑w<=b/\QN ↑w' b 191 (Yl q):=by
 refine Zn func234 ?_;refine Qc<|Zd (Yl q) λG U I J O=>Qb<|Qc<|x Zl<|Qb<|Qk ⟨[_],Lb,I,G,Z,J,O⟩
def CdB (H:xG):Cd->Prop
 | .ex b q=>QN H b 186 (Z4 q)
 | .co b q=>QN H b 191 (Yl q)
def Cd.blk:Cd->Nat
 | .ex b _=>b
 | .co b _=>b
theorem CdB.lt {H:xG}{c:Cd}(h:CdB H c):c.blk<H.size:=by cases c <;> exact QN.lt h
theorem CdB.J {X:LN}{w w':O6}{c:Cd}(h:CdB ↑w c)(G:xd X w w')(hX:c.blk∉X):CdB ↑w' c:=by
 cases c <;> exact QN.J h G hX
structure CdL (base:Nat)(w:O6)(v:O7)(cds:List Cd):Prop where
 own:w.ownsRow base 334 1 v cds.length (cds.flatMap qe)
 bx:∀c∈cds,CdB ↑w c/\c.blk∉ob v
theorem CdL.add {G I:O6}{v J:O7}{cds:List Cd}{c:Cd}(h:CdL base w v cds)(U:sW w G)(hc:CdB ↑G c)(hb:↑w<=c.blk)
  (V:I.ownsRow base 334 1 J (cds.length+1) (cds.flatMap qe++[c.val])) (Y:xd (ob v) G I) (hn:∀b∈ob J,b∈ob v\/↑G<=b):CdL base I J (cds++[c]):=by
 have ha:c.blk∉ob v:=λO=>oq ((QW h.own) _ O)
 refine⟨?_,λd hd=>?_⟩
 ·rw[Le,LJ];simpa using V
 have key:CdB ↑G d/\d.blk∉ob v:=by
  rcases Lk.1 hd with hd|hd
  ·exact⟨(h.bx d hd).1.J U oe,(h.bx d hd).2⟩
  simp only[oH]at hd;subst hd;exact⟨hc,ha⟩
 refine⟨key.1.J Y key.2,λO=>?_⟩;rcases hn _ O with h1|h1
 ·exact key.2 h1
 have:=key.1.lt;omega
theorem QlQ (hX:Xcs [] ↑w vx qx)(hK:jT [] ↑w vk ks)(hO:qx.length<=32)(hP:ks.length<=32):
  QT sV 153 [.agg #[vs,vx,vk]] w λr w'=>sW w w'/\∃cds,CdL ↑w w' r cds/\cds.map Cd.src=qx.map Sum.inl++ks.map Sum.inr:=by
 refine Zn func153 ?_;refine Qc<|Zd [vs,vx,vk] λb1 U J hQ h8=>Qb<|Qc<|Qb<|Qd<|Qc<|Qs Z h8 Z Z<|QG (hX.I J).arr Z<|Qa<|xe<|QY (α:=Nat×O7×List Cd) [(3,3),(5,5),(11,20)] (λz=>[(3,z.2.1),(11,sS z.1)]) (λz w'=>z.1<=qx.length/\sW U w'/\CdL ↑U w' z.2.1 z.2.2/\z.2.2.map Cd.src=(qx.take z.1).map Sum.inl) (λz=>qx.length - z.1) (0,nS,[]) oy
  ⟨Lp _,xd.C _ _,⟨QM _ _ _ _,λc hc=>(by cases hc)⟩,rfl⟩ ?_
 rintro⟨k,vo,cds⟩ g wA ⟨hk,O,hL,he⟩;simp only[]at hk hL he;have hR:cds.length=k:=by have:=O0 oY he;simp at this;omega
 refine Zk rfl Z (λho=>?_) (λho=>?_)
 ·refine Qt ?_;have hE:qx.length<=k:=by have hp:¬(k:Int)<(qx.length:Int):=ho;omega
  rw[Ls hE]at he;refine Qd<|Qc<|Qs Z (h8.I O) Z Z<|QG ((hK.I J).I O).arr Z<|Qa<|xe<|QY (α:=Nat×O7×List Cd) [(3,3),(7,7),(24,33)] (λz=>[(3,z.2.1),(24,sS z.1)]) (λz w'=>z.1<=ks.length/\sW U w'/\CdL ↑U w' z.2.1 z.2.2/\z.2.2.map Cd.src=qx.map Sum.inl++(ks.take z.1).map Sum.inr) (λz=>ks.length - z.1) (0,vo,cds) oy
   ⟨Lp _,O,hL,by simp only[];rw[he];simp⟩ ?_
  rintro⟨j,vp,cdt⟩ g wB ⟨hj,hf,V,hg⟩;simp only[]at hj V hg;have hS:cdt.length=qx.length+j:=by have:=O0 oY hg;simp at this;omega
  refine Zk Z Z (λhr=>?_) (λhr=>?_)
  ·refine Qt ?_;have hF:ks.length<=j:=by have hp:¬(j:Int)<(ks.length:Int):=hr;omega
   rw[Ls hF]at hg;refine Ql<|Qb<|Qk ⟨[_],Lb,J.D hf,cdt,⟨Za V.own J.size,V.bx⟩,hg⟩
  have Y:j<ks.length:=by have hp:(j:Int)<(ks.length:Int):=hr;omega
  have h9:=Lm Y;have hB:ks.take (j+1)=ks.take j++[ks[j]'Y]:=Ln Y;refine Qf<|Qd<|Qn<|Qc<|xo yT ((hK.I J).I hf).arr Z Z Y λaA hA=>?_;refine Zg (ks[j]'Y) λq hq=>?_;rw[hq]at hA h9 hB;have hs:=((hK.I J).I hf).each q h9;refine x (QF hA Z Z)<|QV [.string .empty,nS,sS 0] λb7 w4 hu hv hw=>Q6 (Yl q) hw ⟨Z,hs.one,Z,La⟩ λw5 hy hz=>xe ?_;have hh:sW wB w5:=hu.O hy hv;refine Qr<|Qa<|Q7 hz Z Z<|Qw<|(Qfo w5).S ?_;rintro r6 w6 ⟨h0,G,rfl,hG,h3⟩;refine Qo<|Q3 [[(Cd.co G q).val]] λhH w7 hm hI h4=>?_;have I:=(hh.D h0).D hm;have hJ:=(hf.D I).size;have hM:=hh.size;refine Qo<|Q0 (news:=[(Cd.co G q).val]) (L:=[]) (Qm V.own I) Z Z Z (h4.at oe) (by simp[Cd.val,Value.oneCell']) oa oa λv8 w8 h5 hn h6 =>
   Qb ?_
  have hge:=Qi V.own;have hN:=V.add (c:=Cd.co G q) I (QN.I h3 hm) (by show _<=G;omega) h5 hn h6;have h7:sW U w8:=(hf.D I).Z hn (λb hb=>.inr (hge b hb).1);refine Qr<|QC Z Z<|Qa<|xe ?_;exact⟨(j+1,v8,cdt++[Cd.co G q]),og,oy,Y,h7,hN,by simp only[];rw[Lv,hg,hB];simp[Cd.src]⟩
 have ha:k<qx.length:=by have hp:(k:Int)<(qx.length:Int):=ho;omega
 have hC:=Lm ha;have hD:qx.take (k+1)=qx.take k++[qx[k]'ha]:=Ln ha;refine Qf<|Qd<|Qn<|Qc<|xo ye ((hX.I J).I O).arr Z Z ha λaA hA=>?_;refine Zg (qx[k]'ha) λq hq=>?_;rw[hq]at hA hC hD;have hs:=((hX.I J).I O).each q hC;refine x (QF hA Z Z)<|QV [.string .empty,nS] λb7 w4 hu hv hw=>Q6 (Z4 q) hw ⟨Z,hs.one,La⟩ λw5 hy hz=>xe ?_;have hh:sW wA w5:=hu.O hy hv;refine Qr<|Qa<|Q7 hz Z Z<|Qw<|(QdD w5).S ?_;rintro r6 w6 ⟨h0,G,rfl,hG,h3⟩;refine Qo<|Q3 [[(Cd.ex G q).val]] λhH w7 hm hI h4=>?_;have I:=(hh.D h0).D hm;have hJ:=(O.D I).size;have hM:=hh.size;refine Qo<|Q0 (news:=[(Cd.ex G q).val]) (L:=[]) (Qm hL.own I) Z Z Z (h4.at oe) (by simp[Cd.val,Value.oneCell']) oa oa λv8 w8 h5 hn h6 =>
  Qb ?_
 have h7:sW U w8:=(O.D I).Z hn (λb hb=>.inr ((Qi hL.own) b hb).1);refine Qr<|QC Z Z<|Qa<|xe ?_;exact⟨(k+1,v8,cds++[Cd.ex G q]),og,oy,ha,h7,(hL.add (c:=Cd.ex G q) I (QN.I h3 hm) (by show _<=G;omega) h5 hn h6),by simp only[];rw[Lv,he,hD];simp[Cd.src]⟩
theorem QqM [Fu sV gp fn]{q:Cd->Bool}{v:O7}{l:List Cd}(h:Zw L ↑w v l.length 1 (l.flatMap qe))
  (I:∀e∈l,∀(G:O6),sW w G->QT sV gp ([e.val]++cap) G λr w'=>r=.bool (q e)/\sW G w'):
  QT sV 231 [v,.func (.func gp) #[] cap.toArray] w λr w'=>r=sS (fix q 0 l)/\sW w w' :=
 ixG ⟨_,Z,func231⟩ Qrb (ld1 λ_=>Z) h I
theorem QoP {c:Cd}{t:LI}(hc:CdA ↑w c)(ht:Qu [] ↑w vt t)(G:c.rg t.length)(I:∀i,i<t.length->0<=xh t i/\xh t i<=4096):
  ∃g fn cap,c.val=.func (.func g) #[] #[cap]/\Fu sV g fn/\QT sV g ([vt]++[cap]) w λr w'=>r=.bool (c.vio t)/\sW w w':=by
 cases c with
 | ex b q=>exact⟨_,_,_,Z,inferInstance,QoF hc.1 hc.2 ht G⟩
 | co b q=>exact⟨_,_,_,Z,inferInstance,QoE hc.1 hc.2 ht G.1 G.2 I⟩
theorem Qi3 {bt:Nat}{c:Cd}{t:LI}(G:QN ↑w bt 47 [vt])(hc:CdA ↑w c)(ht:Qu [] ↑w vt t)(I:c.rg t.length)(J:∀i,i<t.length->0<=xh t i/\xh t i<=4096):
  QT sV 232 ([c.val]++[sP bt]) w λr w'=>r=.bool (c.vio t)/\sW w w':=by
 obtain⟨gq,fn,cap,O,V,hcall⟩:=QoP hc ht I J;rw[O];refine Zn func232 ?_;refine Qc<|Qb<|Ql<|ZD G Z Z<|Qo<|xc (g:=gq) (fn:=fn) (first:=[]) (capt:=[cap]) Z<|hcall.S ?_;rintro Y w1 ⟨rfl,U⟩;refine Qb<|Qk ⟨[_],Lb,Z,U⟩
theorem QcF {v:O7}{cds:List Cd}{t:LI}(h:Zw L ↑w v cds.length 1 (cds.flatMap qe))(hc:∀c∈cds,CdA ↑w c)(ht:Qu [] ↑w vt t)(O:∀c∈cds,c.rg t.length)(U:∀i,i<t.length->0<=xh t i/\xh t i<=4096):
  QT sV 152 [v,vt] w λr w'=>r=sS (fix (Cd.vio t) 0 cds)/\sW w w':=by
 refine Zn func152 ?_;refine Qc<|Qo<|zg (us:=[vt]) ht.cells λV w1 I ha Y=>Qb<|Ql<|x Zl<|Qw<|(QqM (q:=Cd.vio t) (cap:=[sP V]) (h.I I) (λc J w2 G=>Qi3 (Y.I G) (((hc c J).I I).I G) ((ht.I I).I G) (O c J) U)).S ?_;rintro r2 w2 ⟨rfl,G⟩;refine Qb<|Qk ⟨[_],Lb,Z,I.D G⟩
theorem Ql3 {sz t:LI}(hS:Qu [] ↑w vs sz)(ht:Qu [] ↑w vt t)(h:Qpc sz t):
  QT sV 230 [.agg #[vs,vx,vk],vt] w λr w'=>r=sS 0/\sW w w':=by
 have hg:=ht.le;have h0:=h.1;refine Zn func230 ?_;refine Qc<|Zd [vs,vx,vk] λb2 V G hh J=>Qb<|Qd<|Ql<|QG (ht.I G) Z<|Qs Z J Z Z<|QG (hS.I G) Z<|x (J0 Z Z) <|
  xe ?_
 refine Zp rfl (λO=>?_) (λO=>?_)
 ·refine Qf<|Qd<|Ql<|QG (ht.I G) Z<|Qa<|xe<|QY (α:=Nat) [(4,6),(15,31)] (λz=>[(15,sS z)]) (λz w'=>z<=t.length/\w'=V) (λz=>t.length - z) 0 Lb ⟨Lp _,Z⟩ ?_;rintro k g Y ⟨hk,rfl⟩;refine Zk Z Z (λU=>?_) (λU=>?_)
  ·refine Qt<|Qc<|Qb<|Qk ⟨[_],Lb,Z,G⟩
  have I:k<t.length:=by have hj:(k:Int)<(t.length:Int):=U;omega
  have hb:=h.2 k I;refine Qf<|Qd<|Qn<|Ql<|xic (i:=k) (ht.I G) Z Z I λhm ha=>x (Qq ha Z)<|x Qe<|Qb<|QX (α:=Unit) [(20,30)] (λz=>[(30,.bool false)]) (λz w'=>w'=Y) ol ?_ ?_
  ·refine Qr<|Qa<|xb (YF Z Z) (λhe=>oa) (λhe=>?_);refine Qa<|Qa<|Qs Z J Z Z<|Qa<|xic (i:=k) (hS.I G) Z Z oa λhn hf=>x (Qq hf Z) <|
    x (Yn rfl Z)<|QB Z<|xe ?_
   exact⟨(),⟨O0 Value.bool (O4 oa),La⟩,Z⟩
  rintro _ g w3 rfl;refine ZC Z<|Qf<|Qr<|QC Z Z<|Qa<|xe ?_;exact⟨k+1,oa,Lb,I,Z⟩
 exact O1 (show(t.length:Int)=(sz.length:Int) by omega) O
theorem Qac {sz t:LI}(hS:Qu [] ↑w vs sz)(hX:Xcs [] ↑w vx qx)(hK:jT [] ↑w vk ks)(ht:Qu [] ↑w vt t)(hc:Xa sz (qx.map (·.x)) (ks.map (·.k))=0)(h:Qpc sz t):
  QT sV 151 [.agg #[vs,vx,vk],vt] w λr w'=>r=sS 0/\sW w w':=by
 refine Zn func151 ?_;refine Qc<|Zd [vs,vx,vk] λY w1 G ha J=>Qb<|Qd<|Qc<|Q7 J Z Z<|Qw<|(jj (hS.I G) (hX.I G) (hK.I G)).S ?_;rintro r2 w2 ⟨O,U⟩;rw[hc]at O;subst O;refine Qb<|Ql<|ZS Z Z<|xe<|ZC rfl<|Qf ?_;have I:=G.D U;refine Qc<|Q7 (J.I U) Z Z<|Qa<|Qw<|(Ql3 (hS.I I) (ht.I I) h).S ?_;rintro r3 w3 ⟨rfl,V⟩;refine Qb<|Qk ⟨[_],Lb,Z,I.D V⟩
def Uy (qx:List Exc)(ks:List xQ)(t:LI):Int×Int×Bool :=
 if 0<=fix (Ua t) 0 qx then(1,fix (Ua t) 0 qx,true) else if 0<=fix (qr t) 0 ks then(2,fix (qr t) 0 ks,true) else(0,0,false)
theorem Qoz {cds:List Cd}(t:LI)(h:cds.map Cd.src=qx.map Sum.inl++ks.map Sum.inr):
  fix (Cd.vio t) 0 cds=if 0<=fix (Ua t) 0 (qx.map (·.x)) then fix (Ua t) 0 (qx.map (·.x)) else if 0<=fix (qr t) 0 (ks.map (·.k)) then fix (qr t) 0 (ks.map (·.k))+qx.length else -1:=by
 have h1:fix (Cd.vio t) 0 cds=fix (QhK t) 0 (cds.map Cd.src):=(VP (QhK t) Cd.src cds 0).symm;rw[h1,h,jf,VP,Lo,QaX,VP (QhK t) Sum.inr ks 0];have e1:fix (λa=>QhK t (Sum.inl a)) 0 qx=fix (Ua t) 0 (qx.map (·.x)):=(VP (Ua t) XV.x qx 0).symm;have e2:fix (λa=>QhK t (Sum.inr a)) 0 ks=fix (qr t) 0 (ks.map (·.k)):=(VP (qr t) KV.k ks 0).symm;rw[e1,e2]
theorem QpR {P:Int×Int×Bool}{a b:Int}{c:Bool}(h:P=(a,b,c)):(Value.tuple #[sS a,sS b,.bool c,sS 0])=.tuple #[sS P.1,sS P.2.1,.bool P.2.2,sS 0]:=by rw[h]
theorem zp {sz t:LI}(hS:Qu [] ↑w vs sz)(hX:Xcs [] ↑w vx qx)(hK:jT [] ↑w vk ks)(ht:Qu [] ↑w vt t)(hc:Xa sz (qx.map (·.x)) (ks.map (·.k))=0)(h:Qpc sz t):
  QT sV 77 [.agg #[vs,vx,vk],vt] w λr w'=>sW w w'/\r=.tuple #[sS (Uy (qx.map (·.x)) (ks.map (·.k)) t).1,sS (Uy (qx.map (·.x)) (ks.map (·.k)) t).2.1,.bool (Uy (qx.map (·.x)) (ks.map (·.k)) t).2.2,sS 0]:=by
 have hok:=Qd5 hc;have hw:qx.length<=32:=by have:=hok.xl;simpa using this
 have hy:ks.length<=32:=by have:=hok.kl;simpa using this
 refine Zn func77 ?_;refine Qc<|Zd [vs,vx,vk] λb2 w1 Y h7 hk=>x Qe<|x Qe<|x Qe<|Qb<|Qd<|Qc<|Q7 hk Z Z<|Qa<|Qw<|(Qac (hS.I Y) (hX.I Y) (hK.I Y) (ht.I Y) hc h).S ?_;rintro r2 w2 ⟨rfl,hn⟩;refine Qb<|Ql<|ZS Z Z<|xe<|ZC rfl<|Qf ?_;have hf:=Y.D hn;have ho:=hk.I hn;refine Qc<|Q7 ho Z Z<|Qw<|(QlQ (hX.I hf) (hK.I hf) hw hy).S ?_;rintro r3 w3 ⟨hp,cds,hL,hg⟩;have he:=hf.D hp;have h8:cds.length=qx.length+ks.length:=by have:=O0 oY hg;simpa using this
 have hz:∀i,i<t.length->0<=xh t i/\xh t i<=4096:=λi hi=>by
  have h1:=h.2 i hi;have h2:i<sz.length:=by rw[<-h.1];exact hi
  have h3:=hok.s _ (Lm h2);rw[Zo h2]at h3;omega
 have hs:∀c∈cds,c.src∈qx.map Sum.inl++ks.map Sum.inr:=λc O=>by rw[<-hg];exact LL O
 have h0:∀c∈cds,CdA ↑w3 c:=λc O=>by
  have h1:=hs c O;have h2:=(hL.bx c O).1;cases c with
  | ex b q =>
   have J:q∈qx:=by simpa[Cd.src]using h1
   exact⟨h2,(hX.each q J).I he⟩
  | co b q =>
   have J:q∈ks:=by simpa[Cd.src]using h1
   exact⟨h2,(hK.each q J).I he⟩
 have h4:∀c∈cds,c.rg t.length:=λc O=>by
  have h1:=hs c O;rw[h.1];cases c with
  | ex b q =>
   have J:q∈qx:=by simpa[Cd.src]using h1
   exact hok.x q.x (LL J)
  | co b q =>
   have J:q∈ks:=by simpa[Cd.src]using h1
   exact hok.k q.k (LL J)
 have g1:=Qfm (Ua t) (qx.map (·.x)) 0;have g2:=Qfm (qr t) (ks.map (·.k)) 0;simp only[OB]at g1 g2;refine Qa<|Qw<|(QcF (QO (L:=[]) hL.own oa oe) h0 (ht.I he) h4 hz).S ?_;rintro r4 w4 ⟨rfl,hu⟩;rw[(Qoz t hg)];have ha:=he.D hu;refine Zg (Uy (qx.map (·.x)) (ks.map (·.k)) t) λP U=>?_;rw[U];unfold Uy at U;refine Zg (fix (Ua t) 0 (qx.map (·.x))) λV hh=>?_;refine Zg (fix (qr t) 0 (ks.map (·.k))) λi2 hj=>?_;rw[hh,hj]at U;rw[hh]at g1;rw[hj]at g2;refine Zg (if 0<=V then V else if 0<=i2 then i2+(qx.length:Int) else -1) λr G=>?_
 rw[hh,hj,G];refine Qb<|Qn<|Ql<|ZT Z Z<|Qb<|Zh Z (λh5=>?_) (λh5=>?_)
 ·have I:¬0<=V:=λh=>by rw[OZ h]at G;omega
  have n2:¬0<=i2:=λh=>by rw[OY I,OZ h]at G;omega
  refine Qc<|x Qe<|x Qe<|x Qe<|Qb<|Qk ⟨[_,_,_,_],oA,ha,QpR (by rw[<-U,OY I,OY n2])⟩
 have hv:=(ho.I hp).I hu;refine Ql<|Qs Z hv Z Z<|QG (hX.I ha).arr Z<|ZT Z Z<|Qb<|Zh Z (λh6=>?_) (λh6=>?_)
 ·have p1:0<=V:=by
   refine Ly.1 λI=>?_;by_cases h:0<=i2
   ·rw[OY I,OZ h]at G;omega
   rw[OY I,OY h]at G;omega
  have e:r=V:=by rw[OZ p1]at G;exact G.symm
  refine Ql<|x Qe<|x Qe<|x Qe<|Qb<|Qk ⟨[_,_,_,_],oA,ha,QpR (by rw[<-U,OZ p1,e])⟩
 have I:¬0<=V:=λh=>by rw[OZ h]at G;omega
 have p2:0<=i2:=by
  refine Ly.1 λn2=>?_;rw[OY I,OY n2]at G;omega
 have e:r - (qx.length:Int)=i2:=by rw[OY I,OZ p2]at G;omega
 refine Qd<|ZK [] (Xj 0 9 [])<|p Qx<|p (QH Z)<|pq (λ_ hc=>Qj (hv.I hc) Z Z)<|p (λ_=>Y4 (hX.I ha).arr Z) <|
  p (λ_=>JH Z Z ⟨oa,oa⟩)<|p ZH<|p ZH<|p ZH<|p ZH <|
  pe ?_
 exact Qk ⟨[_,_,_,_],oA,ha.D (xd.Y _ _),QpR (by rw[<-U,OY I,OZ p2,<-e])⟩
def YL (base:Nat)(av:LN)(H:xG)(v:O7)(n sz:Nat)(cs:LV):Prop:=∀L:LN,(∀b∈L,b<base\/b∈av)->Zw L H v n sz cs
theorem YL.I {base:Nat}{av:LN}{w w':O6}{v:O7}{n sz:Nat}{cs:LV}(h:YL base av ↑w v n sz cs)(G:sW w w'):YL base av ↑w' v n sz cs:=λL I=>(h L I).I G
theorem YL.app {I:LN}{v:O7}(h:YL base av ↑w v n sz cs)(J:xd av w w')(O:∀b∈I,b∈av\/↑w<=b):YL base I ↑w' v n sz cs:=by
 intro L U;have h1:Zw (av++L.filter λb=>decide (b<base)) ↑w v n sz cs:=h _ (λb hb=>by
  rcases Lk.1 hb with hb|hb
  ·exact .inr hb
  exact .inl (by simpa using(LB.1 hb).2))
 refine h1.grow J (λb hb=>Lk.2 (.inl hb)) λb hb=>?_;rcases U b hb with h2|h2
 ·exact .inl (Lk.2 (.inr (LB.2 ⟨hb,ox h2⟩)))
 rcases O b h2 with G|G
 ·exact .inl (Lk.2 (.inl G))
 exact .inr G
theorem YL.of_own {v:O7}{e:Nat}(h:w.ownsRow N e sz v n cs)(G:n<=1099511627776)(hb:base<=N)(I:∀b∈av,b<N):YL base av ↑w v n sz cs:=λL J =>
 QO h G λb hb O=>by
  have h1:=(Qi h b hb).1;rcases J b O with h2|h2
  ·omega
  have:=I b h2;omega
structure KL {α:Type}(g:α->LV)(sz T:Nat)(p:α->O7×Nat×Nat×LV)(base:Nat)(w:O6)(v:O7)(l:List α):Prop where
 own:w.ownsRow base T sz v l.length (l.flatMap g)
 each:∀q∈l,YL base (ob v) ↑w (p q).1 (p q).2.1 (p q).2.2.1 (p q).2.2.2
theorem KL.nil {g:α->LV}{p:α->O7×Nat×Nat×LV}:KL g sz T p base w (nS) []:=⟨QM _ _ _ _,λq G=>by cases G⟩
theorem KL.app {α:Type}{g:α->LV}{sz T:Nat}{p:α->O7×Nat×Nat×LV}{base N e:Nat}{w G I:O6}{v J:O7}{l:List α}{q:α}(h:KL g sz T p base w v l)(V:sW w G)
  (Y:G.ownsRow N e (p q).2.2.1 (p q).1 (p q).2.1 (p q).2.2.2) (ha:(p q).2.1<=1099511627776) (hN:↑w<=N) (hb:base<=↑w)
  (ho:I.ownsRow base T sz J (l.length+1) (l.flatMap g++g q)) (O:xd (ob v) G I) (U:∀b∈ob J,b∈ob v\/↑G<=b):KL g sz T p base I J (l++[q]):=by
 refine⟨?_,λd hd=>?_⟩
 ·rw[Le,LJ];simpa using ho
 rcases Lk.1 hd with hd|hd
 ·exact((h.each d hd).I V).app O U
 simp only[oH]at hd;subst hd;exact(YL.of_own Y ha oa (λb hb=>oq ((QW h.own) b hb))).app O U
theorem QmH {hg hh hj:O7}{b:Qz}(h:Zv L ↑w va vm ve a)(h':Zv L' ↑w hg hh hj b):
  QT sV 41 [.agg #[va,sS a.st,vm,ve],.agg #[hg,sS b.st,hh,hj]] w λr w'=>r=.bool (decide (a.st=b.st/\a.al=b.al/\a.mr=b.mr/\a.ed=b.ed))/\sW w w':=by
 refine Zn func41 ?_;refine Qc<|Zd [va,sS a.st,vm,ve] λb2 w1 ho hs hp=>Zd [hg,sS b.st,hh,hj] λb3 w2 hk G J=>Qb ?_;have O:=ho.D hk;have U:=hp.I hk;refine QX (α:=Bool) [(4,30)] (λz=>[(4,.bool z)]) (λz w'=>sW w w'/\z=decide (a.st=b.st/\a.al=b.al/\a.mr=b.mr/\a.ed=b.ed)) ol ?_ ?_
 ·refine Qr<|Qs Z U Z Z<|Qs Z J Z Z<|xb (Zc Z Z) (λh9=>?_) (λh9=>?_)
  ·refine Qa<|Qs Z U Z Z<|Qs Z J Z Z<|Qw<|(qR (h.al.I O) (h'.al.I O)).S ?_;rintro r3 w3 ⟨V,Y⟩;have ha:=O.D Y;refine Qb7 (decide (a.al=b.al)) (λG=>?_) (λG=>?_)
   ·rw[G]at V;subst V;refine QB Z<|Qa<|Qs Z (U.I Y) Z Z<|Qs Z (J.I Y) Z Z<|Qw<|(qR (h.mr.I ha) (h'.mr.I ha)).S ?_;rintro r4 w4 ⟨he,hm⟩;have hf:=ha.D hm;have hn:=Y.D hm;refine Qb7 (decide (a.mr=b.mr)) (λI=>?_) (λI=>?_)
    ·rw[I]at he;subst he;refine QB Z<|Qa<|Qs Z (U.I hn) Z Z<|Qs Z (J.I hn) Z Z<|Qw<|(Qip (h.ed.I hf) (h'.ed.I hf)).S ?_;rintro r5 w5 ⟨rfl,hq⟩;refine QB Z<|Qb<|⟨_,Lb,hf.D hq,bD ⟨λe=>⟨h9,O3 G,O3 I,e⟩,λe=>e.2.2.2⟩⟩
    rw[I]at he;subst he;refine QB Z<|Qa<|Zs<|YN<|QB Z<|Qb<|⟨_,Lb,hf,bF (λe=>O5 I e.2.2.1)⟩
   rw[G]at V;subst V;refine QB Z<|Qa<|Zs<|YN<|QB Z<|Qa<|Zs<|YN<|x (Uf Z) <|
    Qb<|⟨_,Lb,ha,bF (λe=>O5 G e.2.1)⟩
  refine Qa<|Zs<|YN<|QB Z<|Qa<|Zs<|YN<|x (Uf Z) <|
   Qa<|Zs<|YN<|QB Z<|Qb<|⟨_,Lb,O,bF (λe=>h9 e.1)⟩
 rintro z g w6 ⟨hr,rfl⟩;exact Qk ⟨[_],Lb,Z,hr⟩
theorem QmD (h:Zv L ↑w va vm ve a):
  QT sV 173 [.agg #[va,sS a.st,vm,ve]] w λr w'=>r=.bool (KA a)/\sW w w':=by
 refine Zn func173 ?_;refine Qc<|Zd [va,sS a.st,vm,ve] λb1 V hg hk G=>Qb<|QX (α:=Bool) [(2,11)] (λz=>[(2,.bool z)]) (λz w'=>sW w w'/\z=KA a) ol ?_ ?_
 ·refine ZK [] (Xj 0 10 [1,6,7]) ?_;have Y:=hg.D (xd.Y [] V);refine pq (λ_ hc=>Zj (G.J hc oe) rfl rfl)<|pk<|xg<|(Xb (h.I Y)).S ?_;rintro r2 w2 ⟨rfl,ha⟩;have I:=Y.D ha;have J:=(xd.Y [] V).D ha;refine⟨J,?_⟩;refine pb (λ_=>Zc Z Z) (λO=>?_) (λO=>?_)
  ·have hc:Jj a=0:=O;refine p Qx<|pq (λ_ hc=>Zj (G.J hc oe) rfl rfl)<|pq (λ_ hc=>Zj (G.J hc oe) rfl rfl) <|
    pk<|xg<|(KZ (h.I I) ((ZA a).1 hc)).S ?_
   rintro r3 w3 ⟨U,hm,hn,ho,rfl,hh⟩;have he:=I.D U;refine⟨J.D U,?_⟩;refine pk<|xg<|(QmH (h.I he) (hh [] oe)).S ?_;rintro r4 w4 ⟨rfl,hf⟩;refine⟨(J.D U).D hf,?_⟩;refine p (YS Z)<|p ZH<|pe ?_;refine⟨_,Lb,he.D hf,?_⟩;unfold KA;rw[O2 hc,OP];exact bD ⟨λe=>⟨e.1.symm,e.2.1.symm,e.2.2.1.symm,e.2.2.2.symm⟩,λe=>⟨e.1.symm,e.2.1.symm,e.2.2.1.symm,e.2.2.2.symm⟩⟩
  have hc:¬Jj a=0:=O;refine p Qx<|ps<|ps<|ps<|ps<|p (YS Z)<|p ZH<|pe ?_;exact⟨_,Lb,I,by unfold KA;rw[O4 hc];rfl⟩
 rintro z g w5 ⟨hj,rfl⟩;exact Qk ⟨[_],Lb,Z,hj⟩
theorem ZW [Ag P t sz]{x:O8}{b o:Nat}(h:QN ↑w b T cs)(hx:ev f x=.pointer (some ⟨b,o,none⟩))(hl:us.length=sz)(I:(cs.drop o).take sz=us):
  (execOp (ev f) ⟨d,.load t x,ty,pS,af,gd⟩).run P w=.ok (.value (sT us)) w:=zR hx hl λj v G=>by
 rw[Jc,KG,h.cell];rw[<-I,L6]at G;split at G
 ·simpa using G
 cases G
theorem Qfe {v:O7}{qs:List IV}(h:VF L ↑w v qs):
  QT sV 50 [v] w λr w'=>sW w w'/\w'.ownsRow ↑w 53 4 r (qs.map (·.p)).length ((qs.map (·.p)).flatMap ZJ):=by
 have hy:=h.arr.le;refine Zn func50 ?_;refine Qc<|Qb<|Qc<|Qb<|Qd<|Ql<|QG h.arr Z<|Qa<|xe<|QY (α:=Nat×O7) [(3,3),(5,5),(8,17)] (λz=>[(3,z.2),(8,sS z.1)]) (λz w'=>z.1<=qs.length/\sW w w'/\w'.ownsRow ↑w 53 4 z.2 z.1 (((qs.take z.1).map (·.p)).flatMap ZJ)) (λz=>qs.length - z.1) (0,nS) oy
  ⟨Lp _,xd.C _ _,QM _ _ _ _⟩ ?_
 rintro⟨k,vo⟩ g w1 ⟨hk,J,U⟩;refine Zk rfl Z (λV=>?_) (λV=>?_)
 ·refine Qt ?_;have hh:k=qs.length:=by have O:¬(k:Int)<(qs.length:Int):=V;omega
  subst hh;rw[Ls (Lr _)]at U;refine Ql<|Qb<|Qk ⟨[_],Lb,J,by rw[Lo];exact U⟩
 have G:k<qs.length:=by have O:(k:Int)<(qs.length:Int):=V;omega
 have he:=Lm G;have hf:qs.take (k+1)=qs.take k++[qs[k]'G]:=Ln G;refine Qf<|Qd<|Qn<|Qc<|xo qO (h.arr.I J) Z Z G λhz O=>?_;refine Zg (qs[k]'G) λq hq=>?_;rw[hq]at O he hf;have I:=h.each q he;refine x (QF O Z Z)<|QV [.string .empty,nS,sS 0,nS,nS] λb5 w2 hj hm Y=>Q6 (Zm q) Y ⟨Z,I.al.one,Z,I.mr.one,I.ed.one,La⟩ λw3 hn Y =>
  xe ?_
 have ho:sW w1 w3:=hj.O hn hm;refine Qr<|Qa<|Q9 Z<|x (ZW (us:=ZJ q.p) Y Z Z Z)<|Qo<|Q3 [ZJ q.p] λb15 w4 hp h0 hr=>?_;have ha:=ho.D hp;have hg:=Qm U ha;have h3:=(J.D ha).size;have hs:∀u∈ZJ q.p,u.oneCell'=true:=by
  intro u hu;simp only[oN,oJ,or_false]at hu;rcases hu with rfl|rfl|rfl|rfl
  ·exact I.al.one
  ·rfl
  ·exact I.mr.one
  exact I.ed.one
 refine Qo<|Q0 (news:=ZJ q.p) (L:=[]) hg Z Z Z (hr.at oe) hs oa oa λv5 w5 hv hw h4=>Qb<|Qr<|QC rfl rfl<|Qa<|xe<|⟨(k+1,v5),og,oy,G,(J.D ha).Z hw (λb hb=>.inr ((Qi hg) b hb).1),?_⟩;simp only[];rw[hf,Lv,LJ];simpa using hv
theorem Qk1 {r:O7}{e:Nat}{ps:List AV}(h:w.ownsRow base e 4 r ps.length (ps.flatMap ZJ))(G:ps.length<=1099511627776)(I:∀b∈L,b<base)(J:∀p∈ps,Zv L ↑w p.va p.vm p.ve p.a):Jd L ↑w r ps :=
 ⟨QO h G (λb hb O=>ou (Qi h b hb).1 (I b O)),J⟩
theorem Qk0 {b:Nat}{n m:Int}(G:QN ↑w b 3 [sS m]):
  QT sV 174 ([sS n]++[sP b]) w λr w'=>r=.bool (decide (m<=n))/\sW w w':=by
 refine Zn func174 ?_;refine Qc<|Qb<|Ql<|ZD G Z Z<|x (Yn Z Z)<|Qb<|Qk ⟨[_],Lb,Z,xd.C _ _⟩
theorem QgS {q:IV}{nev:Nat}{vg:O7}{amg:LI}{bm:Nat}{seen:List ByteArray}(hA:Zv L ↑w q.p.va q.p.vm q.p.ve q.p.a)(h9:jW q.nm)(hg:Qu L' ↑w vg amg)(hJ:amg.length<=4096)(hm:ZV XJ ↑w bm (nmM seen))(hB:bm∈L)(hC:bm∈L'):
  QT sV 111 [sT (Zm q),sS nev,vg,.map (some bm)] w λr w'=>r=sS (YA nev amg seen q.it)/\xd [bm] w w'/\(YA nev amg seen q.it=0->ZV XJ ↑w' bm (nmM (seen++[q.nm]))):=by
 have G:YA nev amg seen q.it=(if Xq q.nm=false then 7 else if q.nm∈seen then 8 else if Jj q.p.a≠0 then Jj q.p.a else if KA q.p.a=false then 6 else if q.p.a.st=0 then 12 else
  if(q.p.a.al.any λe=>decide ((nev:Int)<=e))=true then 2 else if(mns q.p.a.al amg).length≠0 then 9 else 0):=rfl
 refine Zg (YA nev amg seen q.it) λR hR=>?_;rw[hR]at G ⊢;refine Zn func111 ?_;refine Qc<|Zd (Zm q) λb4 w1 h0 hK hD=>Zd [sS nev] λb5 w2 Y hL hE=>Qb ?_;have ha:=h0.D Y;have hf:=hD.I Y;refine Qd<|Qn<|Qc<|Qs Z hf Z Z<|Qw<|(zb q.nm h9 w2).S ?_;rintro r3 w3 ⟨rfl,rfl⟩;refine x (Zi Z)<|Qb<|Q5 Z (λhp=>?_) (λhp=>?_)
 ·have I:Xq q.nm=false:=by simpa using hp
  rw[OZ I]at G;subst G;refine Qc<|Qb<|Qk ⟨[_],Lb,Z,ha.any,λe=>O1 e oh⟩
 have I:¬Xq q.nm=false:=by simpa using hp
 rw[OY I]at G;have h3:=hm.I ha;refine Ql<|Qs Z hf Z Z<|x (Qc7 h3 Z Z)<|Qb<|Zh Z (λhh=>?_) (λhh=>?_)
 ·rw[OZ hh]at G;subst G;refine Qc<|Qb<|Qk ⟨[_],Lb,Z,ha.any,λe=>O1 e oh⟩
 rw[OY hh]at G;refine Qf ?_;have hM:=hm.lt;refine Ql<|Qs Z hf Z Z<|Qo<|YV (k:=q.nm) h3 Z Z λw4 hq h4=>xe ?_;rw[show ev _ _=Value.bool true from rfl,QgI hh]at h4;have J:xd [bm] w w4:=ha.any.Q hq;have hN:=h0.size;have hj:=hf.J hq (by simp;omega);have hk:Zv L ↑w4 q.p.va q.p.vm q.p.ve q.p.a:=hA.st (J.S (λb hb=>by simp at hb;subst hb;exact hB));have hF:Qu L' ↑w4 vg amg:=hg.st (J.S (λb hb=>by simp at hb;subst hb;exact hC));refine Qd<|Qc<|Q9 Z<|x (ZW (us:=ZJ q.p) hj Z Z Z)<|Qw<|(Xb hk).S ?_;rintro r5 w5 ⟨rfl,ho⟩;refine Qb<|Ql<|ZS Z Z<|xe<|Zh rfl (λO=>?_) (λO=>?_)
 ·rw[OZ O]at G;subst G;refine Ql<|Qb<|Qk ⟨[_],Lb,Z,J.D ho,λe=>O1 e O⟩
 rw[OY O]at G;refine Qf<|Qd<|Qn<|Qc<|Q9 Z<|x (ZW (us:=ZJ q.p) (hj.I ho) Z Z Z)<|Qw<|(QmD (hk.I ho)).S ?_;rintro r6 w6 ⟨rfl,hG⟩;have U:=ho.D hG;have h5:=J.D U;have h6:=hj.I U;refine x (Zi Z)<|Qb<|Q5 Z (λhs=>?_) (λhs=>?_)
 ·have I:KA q.p.a=false:=by simpa using hs
  rw[OZ I]at G;subst G;refine Qc<|Qb<|Qk ⟨[_],Lb,Z,h5,λe=>O1 e oh⟩
 have I:¬KA q.p.a=false:=by simpa using hs
 rw[OY I]at G;refine Qc<|Q9 Z<|Qs Z h6 Z Z<|x (Zc Z Z)<|Qb<|Zh Z (λhu=>?_) (λhu=>?_)
 ·have hv:q.p.a.st=0:=hu;rw[OZ hv]at G;subst G;refine Qc<|Qb<|Qk ⟨[_],Lb,Z,h5,λe=>O1 e oh⟩
 have hv:¬q.p.a.st=0:=hu;rw[OY hv]at G;refine Qc<|Q9 Z<|Qs Z h6 Z Z<|x Zl<|Qw<|(Qfz (q:=λe=>decide ((nev:Int)<=e)) (cap:=[sP b5]) (Qu.fl (hk.al.I U)) (λe he w2 Y=>Qk0 (((hE.J hq (by simp;omega)).I U).I Y))).S ?_;rintro r7 w7 ⟨rfl,hH⟩;have V:=U.D hH;refine Qb<|Q5 Z (λhw=>?_) (λhw=>?_)
 ·rw[OZ hw]at G;subst G;refine Qc<|Qb<|Qk ⟨[_],Lb,Z,(J.D V),λe=>O1 e oh⟩
 rw[OY (by rw[hw];decide)]at G;have hO:=((ZA q.p.a).1 (Ly.1 O)).al_le;refine Qc<|Q9 Z<|Qs Z (hj.I V) Z Z<|Qa<|Qw<|(Qba (hk.al.I V) (hF.I V) oa).S ?_;rintro r8 w8 ⟨hI,rfl⟩;have h7:=V.D hI;have h8:=J.D h7;refine x (yy Z)<|Qb<|Zh Z (λhy=>?_) (λhy=>?_)
 ·have hz:(mns q.p.a.al amg).length≠0:=λe=>hy (Lu e);rw[OZ hz]at G;subst G;refine Qc<|Qb<|Qk ⟨[_],Lb,Z,h8,λe=>O1 e oh⟩
 have hz:¬(mns q.p.a.al amg).length≠0:=λe=>hy (λh=>e (by rw[show mns q.p.a.al amg=[] from h];rfl));rw[OY hz]at G;subst G;refine Qf<|Qc<|Qb<|Qk ⟨[_],Lb,Z,h8,λ_=>h4.I h7⟩
theorem Qiu {v:O7}{l:xD}(h:P2s L ↑w v l):
  QT sV 180 [v] w λr w'=>sW w w'/\w'.ownsRow ↑w 188 2 r l.length (l.flatMap Zf):=
 ju ⟨_,Z,func180⟩ h (QgA (c:=Zf) (λ_=>oy) l)
theorem Qit {v:O7}{l:xD}(h:P2s L ↑w v l):
  QT sV 181 [v] w λr w'=>sW w w'/\w'.ownsRow ↑w 193 2 r l.length (l.flatMap Zf):=
 ju ⟨_,Z,func181⟩ h (QgA (c:=Zf) (λ_=>oy) l)
theorem YL.low {v:O7}(h:YL base av ↑w v n sz cs)(G:xd X w w')(hX:∀b∈X,b<base):YL base av ↑w' v n sz cs:=by
 intro L I;have h1:Zw (X++L) ↑w v n sz cs:=h _ (λb hb=>by
  rcases Lk.1 hb with hb|hb
  ·exact .inl (hX b hb)
  exact I b hb)
 exact(h1.J G (λb hb=>Lk.2 (.inl hb))).up (λb hb=>.inl (Lk.2 (.inr hb)))
theorem KL.low {α:Type}{g:α->LV}{sz T:Nat}{p:α->O7×Nat×Nat×LV}{base:Nat}{X:LN}{w w':O6}{v:O7}{l:List α}(h:KL g sz T p base w v l)(G:xd X w w')(hX:∀b∈X,b<base):KL g sz T p base w' v l :=
 ⟨Qg h.own G (λb hb I=>ou (Qi h.own b hb).1 (hX b I)),λq J=>(h.each q J).low G hX⟩
theorem KL.arr {g:α->LV}{p:α->O7×Nat×Nat×LV}{v:O7}{l:List α}(h:KL g sz T p base w v l)(G:l.length<=1099511627776)(I:∀b∈L,b<base):Zw L ↑w v l.length sz (l.flatMap g):=
 QO h.own G (λb hb J=>ou (Qi h.own b hb).1 (I b J))
abbrev xvP (q:XV):O7×Nat×Nat×LV:=(q.v,q.ls.length,2,q.ls.flatMap Zf)
abbrev kvP (q:KV):O7×Nat×Nat×LV:=(q.v,q.ts.length,2,q.ts.flatMap Zf)
abbrev XvN (base:Nat)(w:O6)(v:O7)(l:List XV):Prop:=KL Z4 2 186 xvP base w v l
abbrev KvN (base:Nat)(w:O6)(v:O7)(l:List KV):Prop:=KL Yl 3 191 kvP base w v l
theorem XvN.xcs {v:O7}{l:List XV}{qs:List XV}(h:XvN base w v l)(O:l.map (·.x)=qs.map (·.x))(G:∀q∈qs,jW q.nm)(U:l.length<=1099511627776)(I:∀b∈L,b<base):Xcs L ↑w v l:=by
 refine⟨h.arr U I,λq G=>h.each q G L (λb hb=>.inl (I b hb)),λq V=>?_⟩;have h1:q.x∈qs.map (·.x):=by rw[<-O];exact LL V
 obtain⟨J,Y,e⟩:=Lt.1 h1;have h2:=G J Y;have h3:J.nm=q.nm:=O0 Exc.nm e;rw[h3]at h2;exact h2
theorem KvN.kcs {v:O7}{l:List KV}{qs:List KV}(h:KvN base w v l)(O:l.map (·.k)=qs.map (·.k))(G:∀q∈qs,jW q.nm)(U:l.length<=1099511627776)(I:∀b∈L,b<base):jT L ↑w v l:=by
 refine⟨h.arr U I,λq G=>h.each q G L (λb hb=>.inl (I b hb)),λq V=>?_⟩;have h1:q.k∈qs.map (·.k):=by rw[<-O];exact LL V
 obtain⟨J,Y,e⟩:=Lt.1 h1;have h2:=G J Y;have h3:J.nm=q.nm:=O0 xQ.nm e;rw[h3]at h2;exact h2
theorem QA {e:Nat}{v:O7}(h:w.ownsRow base e sz v n cs):v.oneCell'=true:=by
 rcases h.2 with⟨h1,_⟩|⟨g,cap,cur,h1,_⟩ <;> subst h1 <;> rfl
theorem xR {e:Nat}{v:O7}(h:w.ownsRow base e sz v n cs):v.cells=#[v]:=by
 rcases h.2 with⟨h1,_⟩|⟨g,cap,cur,h1,_⟩ <;> subst h1 <;> rfl
theorem QfX {q:XV}(h:q.v.oneCell'=true):∀u∈Z4 q,u.oneCell'=true:=by
 intro u G;simp only[oN,oJ,or_false]at G;rcases G with rfl|rfl
 ·rfl
 exact h
theorem Qoc {q:KV}(h:q.v.oneCell'=true):∀u∈Yl q,u.oneCell'=true:=by
 intro u G;simp only[oN,oJ,or_false]at G;rcases G with rfl|rfl|rfl
 ·rfl
 ·exact h
 rfl
def Qt4 (N:Nat)(w:O6)(r:O7)(sz:LI)(ex:List Exc)(cs:List xQ):Prop:=∃vs vx vk qx ks,r=.agg #[vs,vx,vk]/\qx.map (·.x)=ex/\ks.map (·.k)=cs/\∀L:LN,(∀b∈L,b<N)->Qu L ↑w vs sz/\Xcs L ↑w vx qx/\jT L ↑w vk ks
theorem Qa3 {c:CL}(h:Z9 L ↑w c):
  QT sV 113 [c.val] w λr w'=>sW w w'/\Qt4 ↑w w' r (szs c.V.co) c.V.ex c.V.cs:=by
 have pn:=h.co.arr.le;have po:=h.ex.arr.le;have pp:=h.cs.arr.le;refine Zn func113 ?_;refine Qc<|Zd c.cells λb1 w1 gg pt gh=>QV [nS,nS,nS] λb2 w2 gi pu gj=>xe ?_;have pw:=gg.size;have pz:=gh.lt;have p0:=gj.lt;refine Qc<|x (QD La)<|QV [nS,nS,nS] λG w3 kg kh hC=>Q6 [nS,nS,nS] hC oz λw4 ki hC =>
  xe ?_
 have p4:=hC.lt;have Y:sW w2 w4:=kg.O ki kh;have gk:sW w w4:=(gg.D gi).D Y;have gl:=(gh.I gi).I Y;have kj:=gj.I Y;have h4:=h.I gk;have p5:b1<G:=oa
 have p6:b2<G:=oa
 have kk:↑w<=G:=oa
 have hO:∀{wa wb:O6},xd [G] wa wb->sW w wa->sW w wb:=λha hb=>hb.O ha kk;refine Qd<|Qc<|Qs Z gl Z Z<|QG h4.co.arr Z<|Qa<|xe<|QY (α:=Nat×O7) [(5,5),(14,26)] (λz=>[(14,sS z.1)]) (λz w'=>z.1<=c.co.length/\xd [G] w4 w'/\QN ↑w' G 163 [z.2,nS,nS]/\Qh 3 ↑w4 w' z.2 ((c.co.take z.1).map (·.p.a.st))) (λz=>c.co.length - z.1) (0,nS) Lb
  ⟨Lp _,xd.C _ _,hC,QM _ _ _ _⟩ ?_
 rintro⟨k,vs⟩ g w5 ⟨hk,hy,hD,O⟩;simp only[]at hk hD O;have gm:=hO hy gk;have h5:=h.I gm;have gn:=gl.J hy (by simp;omega);have kn:=kj.J hy (by simp;omega);have p7:=hy.size;refine Zk rfl Z (λhP=>?_) (λhP=>?_)
 ·refine Qt ?_;have ko:c.co.length<=k:=by have V:¬(k:Int)<(c.co.length:Int):=hP;omega
  rw[Ls ko]at O;refine Qd<|Qc<|Qs Z gn Z Z<|QG h5.ex.arr Z<|Qa<|xe<|QY (α:=Nat×O7×List XV) [(7,7),(30,45)] (λz=>[(30,sS z.1)]) (λz w'=>z.1<=c.ex.length/\xd [G] w5 w'/\QN ↑w' G 163 [vs,z.2.1,nS]/\XvN ↑w5 w' z.2.1 z.2.2/\z.2.2.map (·.x)=(c.ex.take z.1).map (·.x)) (λz=>c.ex.length - z.1) (0,nS,[]) Lb
   ⟨Lp _,xd.C _ _,hD,KL.nil,Z⟩ ?_
  rintro⟨j,vx,qx⟩ g w6 ⟨hj,hf,hQ,hg,hh⟩;simp only[]at hj hQ hg hh;have gq:=hO hf gm;have h6:=h.I gq;have kq:=gn.J hf (by simp;omega);have kr:=kn.J hf (by simp;omega);have p8:=hf.size;have p9:qx.length=j:=by have:=O0 oY hh;simp at this;omega
  refine Zk Z Z (λhR=>?_) (λhR=>?_)
  ·refine Qt ?_;have kt:c.ex.length<=j:=by have V:¬(j:Int)<(c.ex.length:Int):=hR;omega
   rw[Ls kt]at hh;refine Qd<|Qc<|Qs Z kq Z Z<|QG h6.cs.arr Z<|Qa<|xe<|QY (α:=Nat×O7×List KV) [(9,9),(49,66)] (λz=>[(49,sS z.1)]) (λz w'=>z.1<=c.cs.length/\xd [G] w6 w'/\QN ↑w' G 163 [vs,vx,z.2.1]/\KvN ↑w6 w' z.2.1 z.2.2/\z.2.2.map (·.k)=(c.cs.take z.1).map (·.k)) (λz=>c.cs.length - z.1) (0,nS,[]) Lb
    ⟨Lp _,xd.C _ _,hQ,KL.nil,Z⟩ ?_
   rintro⟨i,vk,ks⟩ g w7 ⟨hi,hn,hS,ho,hp⟩;simp only[]at hi hS ho hp;have gr:=hO hn gq;have h7:=h.I gr;have ku:=kr.J hn (by simp;omega);have qf:=hn.size;have qj:ks.length=i:=by have:=O0 oY hp;simp at this;omega
   refine Zk Z Z (λhT=>?_) (λhT=>?_)
   ·refine Qt ?_;have kv:c.cs.length<=i:=by have V:¬(i:Int)<(c.cs.length:Int):=hT;omega
    rw[Ls kv]at hp;have kw:ZN [vs,vx,vk]:=⟨QA O,QA hg.own,QA ho.own,La⟩;refine Qc<|Q7 hS Z Z<|Q6 [vs,vx,vk] ku kw λw8 hE kx=>xe ?_;refine Qk ⟨[.agg #[vs,vx,vk]],⟨Kh kx,La⟩,gr.O hE oa,?_⟩;have kz:=Qg ((Qg O hf (λb hb I=>by have:=(Qi O b hb).1;simp at I;omega))) hn (λb hb I=>by have:=(Qi O b hb).1;simp at I;omega);have k0:=Qg kz hE (λb hb I=>by have:=(Qi O b hb).1;simp at I;omega);have k4:=(KL.low hg hn (by simp;omega)).low hE (by simp;omega);have k5:=KL.low ho hE (by simp;omega);refine⟨vs,vx,vk,qx,ks,Z,hh,hp,λL hL=>⟨?_,XvN.xcs k4 hh h.ex.nm oa (λb hb=>oq (hL b hb)),KvN.kcs k5 hp h.cs.nm oa (λb hb=>oq (hL b hb))⟩⟩;have he:szs c.V.co=c.co.map (·.p.a.st):=by show((c.co.map IV.it).map _)=_;rw[MF];rfl
    rw[he];exact Qh.ints k0 (by rw[Lo];omega) (λb hb=>oq (hL b hb))
   have hr:i<c.cs.length:=by have V:(i:Int)<(c.cs.length:Int):=hT;omega
   have gs:=Lm hr;have gt:c.cs.take (i+1)=c.cs.take i++[c.cs[i]'hr]:=Ln hr;refine Qf<|Qd<|Qn<|Qc<|xo yT h7.cs.arr Z Z hr λql gu=>?_;refine Zg (c.cs[i]'hr) λq hq=>?_;rw[hq]at gu gs gt;have J:=h7.cs.each q gs;refine x (QF gu Z Z)<|QV [.string .empty,nS,sS 0] λb9 w9 k6 k9 hz=>Q6 (Yl q) hz ⟨Z,J.one,Z,La⟩ λhs ma hz =>
    xe ?_
   have hF:sW w7 hs:=k6.O ma k9;have gv:=hS.I hF;have hU:=Qi ho.own;have U:G∉ob vk:=λI=>oq (hU G I).1
   have hV:b9∉ob vk:=λI=>oq (hU b9 I).2
   refine ZK (ob vk) [oB 0,oB 1,oB 2,oB 3,oB 4,oB 5,oB 7,oB 8,oC 6,oB 9,oC 10,oC 11,oB 12,oC 13] ?_;have mc:=hF.D (xd.Y [] hs);refine p (QH Z)<|pq (λ_ hc=>Qj (gv.J hc U) Z Z)<|p (QH Z)<|pq (λ_ hc=>Qj (hz.J hc hV) Z Z) <|
    p (QH rfl)<|pq (λ_ hc=>Qj (hz.J hc hV) Z Z)<|p (QH Z)<|pq (λ_ hc=>Qj (hz.J hc hV) Z Z) <|
    pk<|xg<|(Qit (J.I mc)).S ?_
   rintro h0 q4 ⟨mf,hW⟩;have h3:=(xd.Y [] hs).D mf;refine⟨h3.any,?_⟩;refine p (λ_=>QD ⟨Z,xR hW,Z,La⟩)<|pk<|Q3 [Yl ⟨q.nm,h0,q.ts,q.bd⟩] λq5 j1 h8 j2 mg=>⟨(h3.D h8).any,?_⟩;have hG:=(hF.D h3).D h8;have hX:↑hs=({ hs with drawn:=hs.drawn+1 }:O6).heap.size:=rfl
   have j3:=hF.size;have j4:=hG.size;refine pk<|Q0 (news:=Yl ⟨q.nm,h0,q.ts,q.bd⟩) (L:=[]) (Qm ho.own hG) Z Z Z (mg.at oe) (Qoc (q:=⟨q.nm,h0,q.ts,q.bd⟩) (QA hW)) oa oa λhY gx gy hH mh=>⟨((h3.D h8).any (L:=ob vk)).Q hH,?_⟩;have mj:KvN ↑w6 gx hY (ks++[⟨q.nm,h0,q.ts,q.bd⟩]):=KL.app ho hG (Qm hW h8) J.le (by rw[<-hX];omega) oa gy hH mh;have mo:=(gv.J ((h3.D h8).any (L:=ob vk)) U).J hH U;refine p (QH Z)<|pkk<|Qv (j:=2) (u:=hY) mo Z Z oe (QA gy) λza gz mq=>pe ?_;have ms:xd [G] w6 gx:=(hn.D hG).Z hH (λb hb=>.inr (hU b hb).1);refine Qr<|QC Z Z<|Qa<|xe<|⟨(i+1,hY,ks++[⟨q.nm,h0,q.ts,q.bd⟩]),og,Lb,hr,?_,mq,KL.low mj gz (by simp;omega),?_⟩
   ·exact ms.Q gz
   simp only[];rw[Lv,hp,gt,Lv];rfl
  have hu:j<c.ex.length:=by have V:(j:Int)<(c.ex.length:Int):=hR;omega
  have g0:=Lm hu;have g2:c.ex.take (j+1)=c.ex.take j++[c.ex[j]'hu]:=Ln hu;refine Qf<|Qd<|Qn<|Qc<|xo ye h6.ex.arr Z Z hu λz0 g3=>?_;refine Zg (c.ex[j]'hu) λq hq=>?_;rw[hq]at g3 g0 g2;have J:=h6.ex.each q g0;refine x (QF g3 Z Z)<|QV [.string .empty,nS] λb7 z1 mt mu hI=>Q6 (Z4 q) hI ⟨Z,J.one,La⟩ λhv mv hI =>
   xe ?_
  have hJ:sW w6 hv:=mt.O mv mu;have g4:=hQ.I hJ;have hZ:=Qi hg.own;have U:G∉ob vx:=λI=>oq (hZ G I).1
  have g5:b7∉ob vx:=λI=>oq (hZ b7 I).2
  refine ZK (ob vx) (Xj 0 12 [6,8,9,11]) ?_;have mw:=hJ.D (xd.Y [] hv);refine p (QH Z)<|pq (λ_ hc=>Qj (g4.J hc U) Z Z)<|p (QH Z)<|pq (λ_ hc=>Qj (hI.J hc g5) Z Z) <|
   p (QH rfl)<|pq (λ_ hc=>Qj (hI.J hc g5) Z Z)<|pk<|xg<|(Qiu (J.I mw)).S ?_
  rintro h9 z2 ⟨my,ga⟩;have hA:=(xd.Y [] hv).D my;refine⟨hA.any,?_⟩;refine p (λ_=>QD ⟨Z,xR ga,La⟩)<|pk<|Q3 [Z4 ⟨q.nm,h9,q.ls⟩] λz3 z4 hB z5 mz=>⟨(hA.D hB).any,?_⟩;have hK:=(hJ.D hA).D hB;have hX:↑hv=({ hv with drawn:=hv.drawn+1 }:O6).heap.size:=rfl
  have hz616:=hJ.size;have hz618:=hK.size;refine pk<|Q0 (news:=Z4 ⟨q.nm,h9,q.ls⟩) (L:=[]) (Qm hg.own hK) Z Z Z (mz.at oe) (QfX (q:=⟨q.nm,h9,q.ls⟩) (QA ga)) oa oa λgb g6 g7 hM m0=>⟨((hA.D hB).any (L:=ob vx)).Q hM,?_⟩;have m1:XvN ↑w5 g6 gb (qx++[⟨q.nm,h9,q.ls⟩]):=KL.app hg hK (Qm ga hB) J.le (by rw[<-hX];omega) oa g7 hM m0;have m2:=(g4.J ((hA.D hB).any (L:=ob vx)) U).J hM U;have m3:xd [G] w5 g6:=(hf.D hK).Z hM (λb hb=>.inr (hZ b hb).1);refine p (QH Z)<|pkk<|Qv (j:=1) (u:=gb) m2 Z Z oe (QA g7) λw20 g8 m4=>pe ?_;refine Qr<|QC Z Z<|Qa<|xe<|⟨(j+1,gb,qx++[⟨q.nm,h9,q.ls⟩]),og,Lb,hu,?_,m4,KL.low m1 g8 (by simp;omega),?_⟩
  ·exact m3.Q g8
  simp only[];rw[Lv,hh,g2,Lv];rfl
 have hw:k<c.co.length:=by have V:(k:Int)<(c.co.length:Int):=hP;omega
 have g9:=Lm hw;have ka:c.co.take (k+1)=c.co.take k++[c.co[k]'hw]:=Ln hw;have htl:((c.co.take k).map (·.p.a.st)).length=k:=by simp;omega
 refine Qf<|Qd<|Qn<|Qc<|xo qO h5.co.arr Z Z hw λa16 V=>?_;refine Zg (c.co[k]'hw) λq hq=>?_;rw[hq]at V g9 ka;have J:=h5.co.each q g9;refine x (QF V Z Z)<|QV [.string .empty,nS,sS 0,nS,nS] λb5 w21 m5 m6 gc=>Q6 (Zm q) gc ⟨Z,J.al.one,Z,J.mr.one,J.ed.one,La⟩ λm7 m8 gc =>
  xe ?_
 have kb:sW w5 m7:=m5.O m8 m6;have m9:=hD.I kb;refine Qr<|Qs Z m9 Z Z<|Q9 Z<|Qs Z gc Z Z<|Qo<|Q3 [[sS q.p.a.st]] λb23 w23 pc hb23 pd=>?_;have hN:=kb.D pc;have hz523:=hN.size;have kc:=Qi O;have U:G∉ob vs:=λI=>oq (kc G I).1
 refine Qo<|Q0 (news:=[sS q.p.a.st]) (L:=[]) (Qm O hN) Z Z Z (pd.at oe) oo oa oa λke pf ge Y hn24=>?_;have pg:xd [G] w4 pf:=(hy.D hN).Z Y (λb hb=>.inr (kc b hb).1);refine Q9 rfl<|Qo<|Qv (j:=0) (u:=ke) ((hD.I hN).J Y U) Z Z oe (QA ge) λw25 kf ph =>
  xe ?_
 refine Qr<|QC Z Z<|Qa<|xe<|⟨(k+1,ke),og,Lb,hw,pg.Q kf,ph,?_⟩;simp only[];rw[ka,Lv];exact Qh.snoc (n:=q.p.a.st) (Qg ge kf (λb hb I=>by have:=(Qi ge b hb).1;simp at I;omega))
theorem Qi8 (n:Nat):V3 (n+1)=V3 n++[(n:Int)]:=by unfold V3;rw[Nn,Lv];rfl
theorem Qm1 (n:Nat):(V3 n).length=n:=by unfold V3;simp
theorem Vr {k:Nat}{l:List IV}(h:k<l.length):(l.drop k).map (·.it)=(l[k]'h).it::(l.drop (k+1)).map (·.it):=by rw[QZ h];rfl
theorem jz {s:List ByteArray}{x:Jz}(h:YA n u s x=0):QL x.a:=by
 unfold YA at h;split at h
 ·cases h
 split at h
 ·cases h
 split at h
 ·rename_i h1 h2;exact O1 h h2
 rename_i h1;exact(ZA _).1 (Ly.1 h1)
theorem Um {al:LI}{s:List ByteArray}{x:Jz}{l:List Jz}:YC n al s u (x::l)=if YA n al s x≠0 then(YA n al s x,s,u) else YC n al (s++[x.nm]) (mrg (· || ·) u x.a.al) l:=rfl
theorem jx {s:List ByteArray}{x:Jz}{l:List Jz}:KE n u s (x::l)=if YA n u s x≠0 then YA n u s x else KE n u (s++[x.nm]) l:=rfl
theorem Qa4 {c:CL}(h:Z9 L ↑w c):
  QT sV 45 [c.val] w λr w'=>r=sS (Z2 c.V)/\sW w w':=by
 have kq:=h.co.arr.le;have kr:=h.rq.arr.le;have G:Z2 c.V=(if XZ c.ev≠0 then XZ c.ev else if c.co.length=0 then 12 else if 8<c.co.length\/12<c.co.length+c.rq.length then 3 else
  if(YC c.ev.length (V3 c.ev.length) [] [] (c.co.map (·.it))).1≠0 then(YC c.ev.length (V3 c.ev.length) [] [] (c.co.map (·.it))).1 else
  if KE c.ev.length (YC c.ev.length (V3 c.ev.length) [] [] (c.co.map (·.it))).2.2 (YC c.ev.length (V3 c.ev.length) [] [] (c.co.map (·.it))).2.1 (c.rq.map (·.it))≠0 then KE c.ev.length (YC c.ev.length (V3 c.ev.length) [] [] (c.co.map (·.it))).2.2 (YC c.ev.length (V3 c.ev.length) [] [] (c.co.map (·.it))).2.1 (c.rq.map (·.it)) else
  Xa (szs c.V.co) c.V.ex c.V.cs):=by
  unfold Z2;rw[show c.V.co.length=c.co.length from Lo ..,show c.V.rq.length=c.rq.length from Lo ..];rfl
 refine Zg (Z2 c.V) λR hR=>?_;rw[hR]at G ⊢;refine Zg (YC c.ev.length (V3 c.ev.length) [] [] (c.co.map (·.it))) λCO hE=>?_;rw[hE]at G;refine Zn func45 ?_;refine Qc<|Zd c.cells λb1 w1 hG kt hH=>Qb<|Qd<|Qc<|Qs Z hH Z Z<|Qw<|(jl (h.ev.I hG)).S ?_;rintro r2 w2 ⟨rfl,hI⟩;refine Qb ?_;have hf:=hG.D hI;have hv:=hH.I hI;have h2:=h.I hf;refine Ql<|ZS Z Z<|xe<|Zh rfl (λhw=>?_) (λhw=>?_)
 ·rw[OZ hw]at G;subst G;refine Ql<|Qb<|Qk ⟨[_],Lb,Z,hf⟩
 rw[OY hw]at G;have hev:c.ev.length<=32:=by
  refine Ly.1 λhn=>?_;apply hw;unfold XZ;rw[OZ oa];decide
 refine Qf<|Qd<|Qc<|Qs Z hv Z Z<|QG h2.co.arr Z<|Qb<|Qn<|Ql<|x (Zc Z Z)<|Qb<|Zh Z (λh4=>?_) (λh4=>?_)
 ·have h5:c.co.length=0:=by have gh:(c.co.length:Int)=0:=h4;omega
  rw[OZ h5]at G;subst G;refine Qc<|Qb<|Qk ⟨[_],Lb,Z,hf⟩
 have h5:¬c.co.length=0:=by have gh:¬(c.co.length:Int)=0:=h4;omega
 rw[OY h5]at G;refine QX (α:=Bool) [(27,37)] (λz=>[(27,.bool z)]) (λz w'=>w'=w2/\z=decide (8<c.co.length\/12<c.co.length+c.rq.length)) ol ?_ ?_
 ·refine Qr<|Qa<|xb (Ya Z Z) (λgi=>?_) (λgi=>?_)
  ·refine Qa<|Zs<|Zs<|QB Z<|Qb<|⟨_,Lb,Z,bT (.inl oa)⟩
  refine Qa<|Qa<|Qs Z hv Z Z<|QG h2.rq.arr Z<|x (Xy Z Z ⟨oa,oa⟩) <|
   x (Ya rfl Z)<|QB Z<|Qb<|⟨_,Lb,Z,bD oa⟩
 rintro z g w3 ⟨rfl,rfl⟩;refine Zh rfl (λh6=>?_) (λh6=>?_)
 ·rw[OZ h6]at G;subst G;refine Qc<|Qb<|Qk ⟨[_],Lb,Z,hf⟩
 rw[OY h6]at G;refine Qf<|Qc<|Qo<|Z1 XJ λbm w4 hJ ku hK=>Qb ?_;have kv:=hK.lt;have kw:=hv.lt;have hL:=hf.D hJ;have hN:=hv.I hJ;have hO:b1≠bm:=oa
 have hge:↑w<=bm:=oa
 have hM:Z9 [bm] ↑w c:=h.up (λb hb=>.inr (by simp at hb;omega));have hP:=hM.I hL;refine Qc<|x Qe<|Qb<|Qd<|Qc<|Qs Z hN Z Z<|QG hP.ev.arr Z<|Qa<|xe<|QY (α:=Nat×O7) [(6,6),(8,8),(42,49)] (λz=>[(6,z.2),(42,sS z.1)]) (λz w'=>z.1<=c.ev.length/\sW w4 w'/\Qh 3 ↑w4 w' z.2 (V3 z.1)) (λz=>c.ev.length - z.1) (0,nS) oy
  ⟨Lp _,xd.C _ _,QM _ _ _ _⟩ ?_
 rintro⟨k,vg⟩ g w5 ⟨hk,hg,hy⟩;simp only[]at hk hy;have kx:=Qm1 k;refine Zk rfl Z (λh7=>?_) (λh7=>?_)
 ·refine Qt ?_;have hh:k=c.ev.length:=by have hj:¬(k:Int)<(c.ev.length:Int):=h7;omega
  subst hh;have gj:Qu [bm] ↑w5 vg (V3 c.ev.length):=Qh.ints hy oa (by simp;omega);have gk:=hK.I hg;have hQ:=hN.I hg;have hS:=hP.I hg;have gl:=hL.D hg;refine Qd<|Qc<|Qs Z hQ Z Z<|QG hS.co.arr Z<|Qa<|xe<|QY (α:=Nat×O7×List ByteArray×LI) [(2,2),(7,7),(10,11),(53,72)] (λz=>[(7,z.2.1),(53,sS z.1)]) (λz w'=>z.1<=c.co.length/\xd [bm] w5 w'/\ZV XJ ↑w' bm (nmM z.2.2.1)/\Qu [bm] ↑w' z.2.1 z.2.2.2/\z.2.2.2.length<=32*z.1/\YC c.ev.length (V3 c.ev.length) z.2.2.1 z.2.2.2 ((c.co.drop z.1).map (·.it))=CO) (λz=>c.co.length - z.1) (0,nS,[],[]) oy
   ⟨Lp _,xd.C _ _,gk,Zw.nil _ _ _,oe,hE⟩ ?_
  rintro⟨k,vu,sn,u⟩ g w6 ⟨hk,hm,hz,h8,gm,J⟩;simp only[]at hk hz h8 gm J;have hT:sW w w6:=gl.O hm hge;have h9:=hQ.J hm (ox hO);have Y:=hS.st hm;refine Zk Z Z (λhA=>?_) (λhA=>?_)
  ·refine Qt ?_;have hh:k=c.co.length:=by have hj:¬(k:Int)<(c.co.length:Int):=hA;omega
   subst hh;rw[Lx (Lr _)]at J;have gn:CO=(0,sn,u):=J.symm;subst gn;rw[OY oe]at G;simp only[]at G;refine Zg (KE c.ev.length u sn (c.rq.map (·.it))) λRQ hU=>?_;rw[hU]at G;refine Qd<|Qc<|Qs Z h9 Z Z<|QG Y.rq.arr Z<|Qa<|xe<|QY (α:=Nat×List ByteArray) [(2,2),(13,14),(76,90)] (λz=>[(76,sS z.1)]) (λz w'=>z.1<=c.rq.length/\xd [bm] w6 w'/\ZV XJ ↑w' bm (nmM z.2)/\KE c.ev.length u z.2 ((c.rq.drop z.1).map (·.it))=RQ) (λz=>c.rq.length - z.1) (0,sn) Lb
    ⟨Lp _,xd.C _ _,hz,hU⟩ ?_
   rintro⟨k,sm⟩ g w7 ⟨hk,ho,hV,O⟩;simp only[]at hk hV O;have hW:sW w w7:=hT.O ho hge;have hX:=h9.J ho (ox hO);have hp:=Y.st ho;have gq:=h8.st ho;refine Zk Z Z (λhB=>?_) (λhB=>?_)
   ·refine Qt ?_;have hh:c.rq.length<=k:=by have hj:¬(k:Int)<(c.rq.length:Int):=hB;omega
    rw[Lx hh]at O;have gr:RQ=0:=O.symm;rw[OY (by rw[gr];decide)]at G;refine Qc<|Q7 hX Z Z<|Qw<|(Qa3 hp).S ?_;rintro r8 w8 ⟨gs,vs,vx,vk,qx,ks,rfl,gt,gu,hF⟩;obtain⟨gv,gx,gy⟩:=hF [] oe;refine Qw<|(jj gv gx gy).S ?_;rintro r9 w9 ⟨rfl,gz⟩;rw[gt,gu,<-G];refine Qb<|Qk ⟨[_],Lb,Z,(hW.D gs).D gz⟩
   have I:k<c.rq.length:=by have hj:(k:Int)<(c.rq.length:Int):=hB;omega
   have V:=Lm I;rw[Vr I,jx]at O;refine Qf<|Qd<|Qn<|Qc<|xo qO hp.rq.arr Z Z I λkz hY=>?_;refine Zg (c.rq[k]'I) λq hq=>?_;rw[hq]at hY V O;have U:=hp.rq.each q V;refine x (QF hY Z Z)<|QV [.string .empty,nS,sS 0,nS,nS] λk0 k4 g0 g2 hC=>Q6 (Zm q) hC ⟨Z,U.al.one,Z,U.mr.one,U.ed.one,La⟩ λg3 g4 hC =>
    xe ?_
   have ha:sW w7 g3:=g0.O g4 g2;refine Qc<|Q7 hC Z Z<|Qs Z (hX.I ha) Z Z<|QG (hp.ev.I ha).arr Z<|Qa<|Qa<|Qw<|(QgS (U.I ha) (hp.rq.nm q V) (gq.I ha) oa (hV.I ha) oe oe).S ?_;rintro k5 k6 ⟨rfl,hZ,g5⟩;refine Qb<|Ql<|ZS Z Z<|xe<|Zh Z (λhs=>?_) (λhs=>?_)
   ·rw[OZ hs]at O;rw[OZ (by rw[<-O];exact hs)]at G;refine Ql<|Qb<|Qk ⟨[_],Lb,by rw[G,<-O];rfl,(hW.D ha).O hZ hge⟩
   rw[OY hs]at O;refine Qf<|Qr<|QC Z Z<|Qa<|xe ?_;exact⟨(k+1,sm++[q.nm]),og,Lb,I,(ho.D ha).Q hZ,g5 (Ly.1 hs),O⟩
  have I:k<c.co.length:=by have hj:(k:Int)<(c.co.length:Int):=hA;omega
  have V:=Lm I;rw[Vr I,Um]at J;refine Qf<|Qd<|Qn<|Qc<|xo qO Y.co.arr Z Z I λk9 ga=>?_;refine Zg (c.co[k]'I) λq hq=>?_;rw[hq]at ga V J;have U:=Y.co.each q V;have g6:=gj.st hm;refine x (QF ga Z Z)<|QV [.string .empty,nS,sS 0,nS,nS] λb10 ma g7 g8 h0=>Q6 (Zm q) h0 ⟨Z,U.al.one,Z,U.mr.one,U.ed.one,La⟩ λg9 ka h0 =>
   xe ?_
  have he:sW w6 g9:=g7.O ka g8;have mc:=hz.lt;refine Qd<|Qc<|Q7 h0 Z Z<|Qs Z (h9.I he) Z Z<|QG (Y.ev.I he).arr Z<|Qa<|Qa<|Qw<|(QgS (U.I he) (Y.co.nm q V) (g6.I he) oa (hz.I he) oe oe).S ?_;rintro mf kb ⟨rfl,hD,kc⟩;refine Qb<|Ql<|ZS Z Z<|xe<|Zh Z (λhu=>?_) (λhu=>?_)
  ·rw[OZ hu]at J;rw[OZ (by rw[<-J];exact hu)]at G;refine Ql<|Qb<|Qk ⟨[_],Lb,by rw[G,<-J];rfl,(hT.D he).O hD hge⟩
  rw[OY hu]at J;have gb:YA c.ev.length (V3 c.ev.length) sn q.it=0:=Ly.1 hu;have ke:=(jz gb).al_le;have mg:q.p.a.al.length<=32:=ke;refine Qf ?_;have h3:xd [bm] w6 kb:=he.any.Q hD;have kf:=h8.st h3;have mh:=h3.size;refine Qr<|Qa<|Q9 Z<|Qs Z (h0.J hD (by simp;omega)) Z Z<|Qw<|(jK kf (Y.st h3 |>.co.each q V |>.al) oa).S ?_;rintro kg mj ⟨gc,kh⟩;refine Qb ?_;have mo:=zW (· || ·) u q.p.a.al;refine Qr<|QC Z Z<|Qa<|xe ?_;exact⟨(k+1,kg,sn++[q.nm],mrg (· || ·) u q.p.a.al),og,oy,I,(hm.Q h3).D gc,(kc gb).I gc,Qh.ints kh (by show(mrg _ _ _).length<=_;omega) (by simp;omega),og,J⟩
 have I:k<c.ev.length:=by have hj:(k:Int)<(c.ev.length:Int):=h7;omega
 refine Qf<|Qd<|Qn<|Ql<|Qb<|Qr<|Qa<|Qa<|Qo<|Q3 [[sS k]] λmq ms ge mt ki=>?_;have gg:=hg.D ge;have mu:=gg.size;have kj:=Qi hy;refine Qo<|Q0 (news:=[sS k]) (L:=[]) (Qm hy ge) Z Z Z (ki.at oe) oo oa oa λkk mv kn ko mw =>
  Qb<|Qr<|QC Z Z<|Qa<|xe ?_
 refine⟨(k+1,kk),og,oy,I,gg.Z ko (λb hb=>.inr (kj b hb).1),?_⟩;simp only[];rw[Qi8];exact Qh.snoc (n:=(k:Int)) kn
theorem Qtz {C:xF}{pl:xA}
  {e bys:Nat}  {x I J:O8}  {v:O7}   {H:xG} {k:IntKind} {hi:Nat} [h:Sl P t e sz bys z]
  (O:QR ops G=⟨d,.slice t x none (some I) (some J),ty,pS,af,gd⟩) (hA:Zw L H v n sz cs) (hx:ev f x=v) (U:ev f I=.int k hi) (V:ev f J=.int k' hi) (h1:hi<=n)
  (hK:∀v',Zw L H v' hi sz (cs.take (hi*sz))->XP P ops C K pl (QP f d v') w)
  (Y:Yb ops f (QR ops G)=true:=by rfl):XP P ops C K ((G,true)::pl) f w:=by
 obtain⟨v',h3,h4⟩:=QjL (P:=P) (d:=d) (ty:=ty) (pS:=pS) (af:=af) (gd:=gd) (t:=t) hA hx U V h1;exact Lg.p (λw'=>by rw[O];exact h4 w') (by rw[O];exact hK v' h3) Y
structure QsY (c:ZO):Prop where
 ev:c.ev.length<=32
 c0:c.co.length≠0
 c8:c.co.length<=8
 cr:c.co.length+c.rq.length<=12
 co:∀x∈c.co,QL x.a
 rq:∀x∈c.rq,QL x.a
 ce:∀x∈c.co,∀e∈x.a.al,e<(c.ev.length:Int)
 re:∀x∈c.rq,∀e∈x.a.al,e<(c.ev.length:Int)
 cd:Xa (szs c.co) c.ex c.cs=0
 e0:XZ c.ev=0
theorem Qd1 {s:List ByteArray}{x:Jz}(h:YA n u s x=0):∀e∈x.a.al,e<(n:Int):=by
 unfold YA at h;split at h
 ·cases h
 split at h
 ·cases h
 split at h
 ·rename_i h1 h2;exact O1 h h2
 split at h
 ·cases h
 split at h
 ·cases h
 split at h
 ·cases h
 rename_i h1;intro e G;refine Ly.1 λI=>h1 ?_;rw[MH];exact⟨e,G,O2 oa⟩
theorem Qd4 {n:Nat}{al:LI}:∀{l:List Jz}{s:List ByteArray}{u:LI},(YC n al s u l).1=0->∀x∈l,QL x.a/\∀e∈x.a.al,e<(n:Int)
 | [],_,_,_,x,hx=>by cases hx
 | y::l,s,u,h,x,hx=>by
  rw[Um]at h;by_cases h1:YA n al s y≠0
  ·rw[OZ h1]at h;exact O1 h h1
  rw[OY h1]at h;have h2:YA n al s y=0:=Ly.1 h1;rcases Ll.1 hx with rfl|hx
  ·exact⟨jz h2,Qd1 h2⟩
  exact Qd4 h x hx
theorem Qd0 {n:Nat}{u:LI}:∀{l:List Jz}{s:List ByteArray},KE n u s l=0->∀x∈l,QL x.a/\∀e∈x.a.al,e<(n:Int)
 | [],_,_,x,hx=>by cases hx
 | y::l,s,h,x,hx=>by
  rw[jx]at h;by_cases h1:YA n u s y≠0
  ·rw[OZ h1]at h;exact O1 h h1
  rw[OY h1]at h;have h2:YA n u s y=0:=Ly.1 h1;rcases Ll.1 hx with rfl|hx
  ·exact⟨jz h2,Qd1 h2⟩
  exact Qd0 h x hx
theorem YW (h:Z2 c=0):QsY c:=by
 unfold Z2 at h;by_cases h1:XZ c.ev≠0
 ·rw[OZ h1]at h;exact O1 h h1
 rw[OY h1]at h;by_cases h2:c.co.length=0
 ·rw[OZ h2]at h;cases h
 rw[OY h2]at h;by_cases J:8<c.co.length\/12<c.co.length+c.rq.length
 ·rw[OZ J]at h;cases h
 rw[OY J]at h;by_cases G:(YC c.ev.length (V3 c.ev.length) [] [] c.co).1≠0
 ·rw[OZ G]at h;exact O1 h G
 rw[OY G]at h;by_cases I:KE c.ev.length (YC c.ev.length (V3 c.ev.length) [] [] c.co).2.2 (YC c.ev.length (V3 c.ev.length) [] [] c.co).2.1 c.rq≠0
 ·rw[OZ I]at h;exact O1 h I
 rw[OY I]at h;have a4:=Qd4 (Ly.1 G);have O:=Qd0 (Ly.1 I);have hev:c.ev.length<=32:=by
  refine Ly.1 λU=>?_;apply h1;unfold XZ;rw[OZ oa];decide
 exact⟨hev,h2,oa,oa,λx hx=>(a4 x hx).1,λx hx=>(O x hx).1,λx hx=>(a4 x hx).2,λx hx=>(O x hx).2,h,Ly.1 h1⟩
theorem YK.e {H:xG}{c:Int}(h:YK N H aa va vt c):c=KP aa:=by
 unfold YK at h;unfold KP;by_cases h1:K9 aa≠0
 ·rw[OZ h1]at h ⊢;exact h.1
 rw[OY h1]at h ⊢;cases G:xw aa with
 | none=>rw[G]at h;exact h.1
 | some z=>rw[G]at h;exact h.1
theorem YK.bad {H:xG}{c:Int}(h:YK N H aa va vt c)(hc:c≠0):va=zA/\vt=Zq:=by
 unfold YK at h;by_cases h1:K9 aa≠0
 ·rw[OZ h1]at h;exact h.2
 rw[OY h1]at h;cases G:xw aa with
 | none=>rw[G]at h;exact h.2
 | some z=>rw[G]at h;exact O1 h.1 hc
theorem YK.good {H:xG}{c:Int}(h:YK N H aa va vt c)(hc:c=0):Xu N H va (Jf aa)/\QfI N H vt (syQ aa)/\xw aa=some (Jf aa,syQ aa)/\K9 aa=0:=by
 unfold YK at h;unfold Jf syQ;by_cases h1:K9 aa≠0
 ·rw[OZ h1]at h;exact O1 (h.1.symm.D hc) h1
 rw[OY h1]at h;cases G:xw aa with
 | none=>rw[G]at h;rw[h.1]at hc;cases hc
 | some z=>rw[G]at h;exact⟨h.2.1,h.2.2,Z,Ly.1 h1⟩
theorem YK.st1 {b:Nat}{c:Int}(h:YK N ↑w aa va vt c)(hb:b<N)(G:xd [b] w w'):YK N ↑w' aa va vt c:=by
 unfold YK at *;split
 ·rename_i h1;rw[OZ h1]at h;exact h
 rename_i h1;rw[OY h1]at h;cases I:xw aa with
 | none=>rw[I]at h;exact h
 | some z=>rw[I]at h;exact⟨h.1,Je h.2.1 hb G,Qmt h.2.2 hb G⟩
theorem YK.S {N M:Nat}{H:xG}{aa:List Qz}{va vt:O7}{c:Int}(h:YK N H aa va vt c)(G:M<=N):YK M H aa va vt c:=by
 unfold YK at *;split
 ·rename_i h1;rw[OZ h1]at h;exact h
 rename_i h1;rw[OY h1]at h;cases I:xw aa with
 | none=>rw[I]at h;exact h
 | some z=>rw[I]at h;exact⟨h.1,h.2.1.S G,h.2.2.S G⟩
theorem Qnf (c:ZO):YY c=if Z2 c≠0 then Z2 c else if KP (xj c.co)≠0 then KP (xj c.co) else KP (xj c.co++xj c.rq):=by
 unfold YY;split
 ·rfl
 have e:KP (xj c.co)=if K9 (xj c.co)≠0 then K9 (xj c.co) else match xw (xj c.co) with|none=>3|some _=>0:=rfl
 by_cases h1:K9 (xj c.co)≠0
 ·rw[OZ h1]at e;rw[OZ h1,e,OZ h1]
 rw[OY h1]at e;rw[OY h1];cases G:xw (xj c.co) with
 | none=>rw[G]at e;simp only[]at e;rw[e];rfl
 | some z=>rw[G]at e;simp only[]at e;rw[e];rfl
theorem Qhu (c:CL):(c.co.map (·.p)).map (·.a)=xj c.V.co:=by unfold xj;show _=(c.co.map IV.it).map _;rw[MF,MF];rfl
theorem Qo7 (c:CL):(c.rq.map (·.p)).map (·.a)=xj c.V.rq:=by unfold xj;show _=(c.rq.map IV.it).map _;rw[MF,MF];rfl
theorem QbD {ps:List AV}(h:∀p∈ps,QL p.a):∀p∈ps,p.a.st<=4096:=λp G=>(h p G).st1
def Qbd (N:Nat)(H:xG)(c:ZO)(va vt:O7)(e:Int):Prop:=if Z2 c≠0 then e=Z2 c/\va=zA/\vt=Zq else YK N H (xj c.co) va vt e
theorem Qek {c:CL}(h:Z9 L ↑w c)(hm:Kb w 4096):
  QT sV 14 [c.val] w λr w'=>sW w w'/\∃va vt e,r=.tuple #[va,vt,sS e]/\Qbd ↑w ↑w' c.V va vt e:=by
 refine Zn func14 ?_;refine Qc<|Zd c.cells λb1 w1 ha hz hn=>QV [nS,sS 0,nS,nS] λb2 w2 hf h0 U=>x Qe<|Qb ?_;have hg:=ha.D hf;have h3:=ha.size;have hh:=hn.I hf;refine Qd<|Qc<|Q7 hh Z Z<|Qw<|(Qa4 (h.I hg)).S ?_;rintro r3 w3 ⟨rfl,G⟩;refine Qb ?_;have V:=hg.D G;have h4:=U.lt;refine Ql<|ZS Z Z<|xe<|Zh rfl (λJ=>?_) (λJ=>?_)
 ·refine Qc<|x (QD La)<|Qa<|Q6 [nS,sS 0,nS,nS] (U.I G) oA λw4 ho hr=>x Qe<|Qb<|Qk ⟨[zA,Zq,sS (Z2 c.V)],⟨Kh hr,Z,Z,La⟩,V.O ho oa,zA,Zq,_,Z,by unfold Qbd;rw[OZ J];exact⟨Z,Z,Z⟩⟩
 refine Qf<|Qc<|Qs Z (hh.I G) Z Z<|Qw<|(Qfe (h.I V).co).S ?_;rintro r5 w5 ⟨Y,hs⟩;have O:=V.D Y;have hu:∀p∈c.co.map (·.p),QL p.a:=λp hp=>by
  obtain⟨q,hq,rfl⟩:=Lt.1 hp;exact(YW (Ly.1 J)).co q.it (LL hq)
 have h5:=h.co.arr.le;have hv:Jd [] ↑w5 r5 (c.co.map (·.p)):=Qk1 hs (by rw[Lo];omega) oe (λp hp=>by
  obtain⟨q,hq,rfl⟩:=Lt.1 hp;exact(((h.co.each q hq).up (L':=[]) oe).I O))
 refine Qw<|(qh (km:=4096) hv (hm.I O) oh (QbD hu)).S ?_;rintro r6 w6 ⟨hj,va,vt,e,rfl,hR⟩;rw[Qhu]at hR;have hw:∃us,va=sT us/\us.length=4/\ZN us:=by
  by_cases he:e=0
  ·exact X3 (hR.good he).1
  exact⟨[nS,sS 0,nS,nS],(hR.bad he).1,Z,Z,Z,Z,Z,La⟩
 refine Exists.elim hw λus I=>?_;refine QS rfl Z<|QS Z Z<|QS Z Z<|Qo<|ZM (us:=us) ((U.I G).I (Y.D hj)) Z I.1 I.2.1 Z I.2.2 λw7 hk hy =>
  x Qe<|Qb<|Qk ⟨[sT us,vt,sS e],⟨⟨_,Z,Yc I.2.1 (hy.at (L:=[]) oe).cells⟩,rfl,rfl,La⟩,(O.D hj).O hk oa,va,vt,e,by rw[I.1];rfl,?_⟩
 unfold Qbd;rw[OY J];exact(hR.st1 (ou Y.size G.size) hk).S O.size
theorem Qcn {v:O7}{l:LI}{m:Int}(h:Qu L ↑w v l)(V:Kb w m)(hb:∀n∈l,0<=n/\n<m)(hl:l.length<=1000000):
  QT sV 76 [v] w λr w'=>r=.string ⟨(YZ l).toArray⟩/\sW w w':=by
 refine Zn func76 ?_;refine Qc<|Qb<|Qc<|QV [.pointer none,nS] λJ w1 hg Y hh=>xe ?_;refine Qd<|Ql<|QG h Z<|Qa<|xe<|QY (α:=Nat×O7) [(5,5),(8,16)] (λz=>[(8,sS z.1)]) (λz w'=>z.1<=l.length/\sW w w'/\(z.2=.pointer none\/z.2=me J)/\Bl z.2 J (YZ (l.take z.1)) w'/\(YZ (l.take z.1)).length<=8*z.1) (λz=>l.length - z.1) (0,.pointer none) Lb
  ⟨Lp _,hg,.inl Z,⟨_,hh,QM _ _ _ _⟩,Lr _⟩ ?_
 rintro⟨k,p⟩ g w2 ⟨hk,G,O,I,hj⟩;simp only[]at hk O I hj;refine Zk rfl Z (λh9=>?_) (λh9=>?_)
 ·refine Qt<|Qc ?_;rw[Ls oa]at I;refine Vc<|(VG G Y O I).S ?_;rintro r3 w3 ⟨rfl,hm⟩;refine Qb<|Qk ⟨[.string ⟨(YZ l).toArray⟩],Lb,Z,hm⟩
 have U:k<l.length:=oa
 have hu:=hb l[k] (Lm U);obtain⟨q,hq⟩:∃q:Nat,l[k]=q:=⟨l[k].toNat,oa⟩;have hn:l[k].toNat=q:=oa
 have hv:=KD 7 q (oq V.le);have ha:YZ (l.take (k+1))=YZ (l.take k)++(Lib.decDigits q++[32]):=by
  rw[Ln U];unfold YZ;rw[LJ,Nh,hn]
 refine Qf<|Qd<|Qn<|Qc<|xii (h.I G) Z Z U λhw ho=>x (Qq ho Z)<|Qb<|Qr<|Qa<|Qo<|xf ?_;refine(show QT _ _ [sS l[k]] _ _ by rw[hq];exact(QbW q oa w2 (V.I G))).S ?_;rintro r4 w4 ⟨rfl,he⟩;have hr:(⟨(Lib.decDigits q).toArray⟩:ByteArray).size+(⟨#[32]⟩:ByteArray).size<=1000000000:=by show(Lib.decDigits q).toArray.size+1<=_;simp;omega
 refine x (YQ Z Z hr)<|Vc<|(JF (G.D he) Y O (I.I he) ((⟨(Lib.decDigits q).toArray⟩:ByteArray)++(⟨#[32]⟩:ByteArray)) (by rw[ByteArray.size_append];show _+((Lib.decDigits q).toArray.size+1)<=_;simp;omega)).S ?_;rintro r5 w5 ⟨hs,hf⟩;refine xe<|Qr<|QC Z Z<|Qa<|xe<|⟨(k+1,me J),og,Lb,og,hs,.inr Z,?_,?_⟩
 ·simp only[];rw[ha];have e:((⟨(Lib.decDigits q).toArray⟩++⟨#[32]⟩:ByteArray)).data.toList=Lib.decDigits q++[32]:=by rw[ByteArray.data_append];simp
  rw[e]at hf;exact hf
 simp only[];rw[ha];simp;omega
structure Sty where
 c:CL
 p:AV
 vq:O7
 qs:List TV
 s:AV
 vt:O7
 ts:List TV
 vs:O7
 vx:O7
 vk:O7
 qx:List XV
 ks:List KV
 bm:Nat
 mm:List (ByteArray×O7)
abbrev Sty.cells (q:Sty):LV:=[q.c.ve,q.c.vc,q.c.vr,q.c.vx,q.c.vk,q.p.va,sS q.p.a.st,q.p.vm,q.p.ve,q.vq,q.s.va,sS q.s.a.st,q.s.vm,q.s.ve,q.vt,q.vs,q.vx,q.vk,.map (some q.bm)]
structure JT (L:LN)(b:Nat)(H:xG)(q:Sty):Prop where
 B:QN H b 166 q.cells
 bL:b∉L
 c:Z9 L H q.c
 p:Zv L H q.p.va q.p.vm q.p.ve q.p.a
 s:Zv L H q.s.va q.s.vm q.s.ve q.s.a
 qs:JS L H q.vq q.qs
 ts:JS L H q.vt q.ts
 k1:Qu L H q.vs (szs q.c.V.co)
 k2:Xcs L H q.vx q.qx
 k3:jT L H q.vk q.ks
 mL:q.bm∉L
 m:ZV XJ H q.bm q.mm
theorem JT.I {L:LN}{b:Nat}{w w':O6}{q:Sty}(h:JT L b ↑w q)(G:sW w w'):JT L b ↑w' q:=⟨h.B.I G,h.bL,h.c.I G,h.p.I G,h.s.I G,h.qs.I G,h.ts.I G,h.k1.I G,h.k2.I G,h.k3.I G,h.mL,h.m.I G⟩
theorem JT.st {L:LN}{b:Nat}{w w':O6}{q:Sty}(h:JT L b ↑w q)(G:xd L w w'):JT L b ↑w' q:=⟨h.B.J G h.bL,h.bL,h.c.st G,h.p.st G,h.s.st G,h.qs.st G,h.ts.st G,h.k1.st G,h.k2.st G,h.k3.st G,h.mL,h.m.J G h.mL⟩
theorem JT.up {L L':LN}{b:Nat}{H:xG}{q:Sty}(h:JT L b H q)(G:∀b∈L',b∈L\/H.size<=b):JT L' b H q :=
 ⟨h.B,λI=>by rcases G _ I with h1|h1;exact h.bL h1;have:=h.B.lt;omega,h.c.up G,h.p.up G,h.s.up G,h.qs.up G,h.ts.up G,h.k1.up G,h.k2.up G,h.k3.up G,λI=>by rcases G _ I with h1|h1;exact h.mL h1;have:=h.m.lt;omega,h.m⟩
structure QtT (q:Sty):Prop where
 ok:Z2 q.c.V=0
 p:xw (xj q.c.V.co)=some (q.p.a,q.qs.map (·.2))
 s:xw (xj q.c.V.co++xj q.c.V.rq)=some (q.s.a,q.ts.map (·.2))
 ex:q.qx.map (·.x)=q.c.V.ex
 cs:q.ks.map (·.k)=q.c.V.cs
 m:q9 q.c.co.length q.mm (q.qs.map (·.2))
theorem Y1 {l:List Jz}(h:∀x∈l,QL x.a):∀a∈xj l,QL a:=λa G=>by
 obtain⟨x,hx,rfl⟩:=Lt.1 G;exact h x hx
def stp (a:Qz)(s v:Int):Int×Bool×Int:=if cks a s≠0 then(0,false,cks a s) else if v∉a.al then(0,false,9) else if 0<=nxt a.ed s v then(nxt a.ed s v,true,0) else(0,false,0)
theorem Qmq (h:Zv L ↑w va vm ve a)(s v:Int):
  QT sV 33 [.agg #[va,sS a.st,vm,ve],sS s,sS v] w λr w'=>r=.tuple #[sS (stp a s v).1,.bool (stp a s v).2.1,sS (stp a s v).2.2]/\sW w w':=by
 have G:stp a s v=(if cks a s≠0 then(0,false,cks a s) else if v∉a.al then(0,false,9) else if 0<=nxt a.ed s v then(nxt a.ed s v,true,0) else(0,false,0)):=rfl
 refine Zg (stp a s v) λR hR=>?_;rw[hR]at G ⊢;refine Zn func33 ?_;refine Qc<|Zd [va,sS a.st,vm,ve] λb3 w1 he hg O=>x Qe<|x Qe<|Qb<|Qd<|Qc<|Q7 O Z Z<|Qa<|Qw<|(Kj (h.I he) s).S ?_;rintro r2 w2 ⟨rfl,U⟩;refine Qb ?_;have I:=he.D U;refine Ql<|ZS Z Z<|xe<|Zh rfl (λJ=>?_) (λJ=>?_)
 ·rw[OZ J]at G;subst G;refine Ql<|x Qe<|x Qe<|Qb<|Qk ⟨[_,_,_],oz,Z,I⟩
 rw[OY J]at G;refine Qf<|Qd<|Qc<|Qs Z (O.I U) Z Z<|Qa<|Qw<|(ZG (h.al.I I) v).S ?_;rintro r3 w3 ⟨rfl,rfl⟩;refine x (yy Z)<|xe<|Zh rfl (λV=>?_) (λV=>?_)
 ·rw[OZ V]at G;subst G;refine Qc<|x Qe<|x Qe<|Qb<|Qk ⟨[_,_,_],oz,Z,I⟩
 rw[OY V]at G;refine Qf ?_;have hc:cks a s=0:=Ly.1 J;have hck:Jj a=0:=by
  unfold cks at hc;refine Ly.1 λY=>?_;rw[OZ Y]at hc;exact Y hc
 have hsr:0<=s/\s<a.st:=by
  unfold cks at hc;rw[OY (by rw[hck];decide)]at hc;refine Ly.1 λY=>?_;rw[OZ oa]at hc;cases hc
 refine Qd<|Qc<|Q7 (O.I U) Z Z<|Qa<|Qa<|Qw<|(Qed (h.ed.I I) ((ZA a).1 hck) s v hsr.1 hsr.2).S ?_;rintro r4 w4 ⟨rfl,hf⟩;refine Qb<|Ql<|x (Yn Z Z)<|xe<|Zh rfl (λha=>?_) (λha=>?_)
 ·rw[OZ ha]at G;subst G;refine Ql<|x Qe<|x Qe<|Qb<|Qk ⟨[_,_,_],oz,Z,I.D hf⟩
 rw[OY ha]at G;subst G;refine Qf<|Qc<|x Qe<|x Qe<|Qb<|Qk ⟨[_,_,_],oz,Z,I.D hf⟩
theorem Qko (es:List Ed)(s v:Int):nxt es s v=(xu es s v).getD (-1):=by
 induction es with
 | nil=>rfl
 | cons e es ih =>
  rw[nxt,xu];by_cases h:e.1=s/\e.2.1=v
  ·rw[OZ h,OZ h];rfl
  rw[OY h,OY h];exact ih
theorem QpX (h:QL a){v:Int}(J:0<=s)(h1:s<a.st)(G:v∈a.al):(stp a s v).2.1=(xu a.ed s v).isSome:=by
 have hc:cks a s=0:=by unfold cks;rw[OY (by rw[(ZA a).2 h];decide),OY oa]
 unfold stp;rw[OY (by rw[hc];decide),OY (ox G),Qko];cases I:xu a.ed s v with
 | none=>rfl
 | some t =>
  have:=(h.ed _ (YI I)).2.2.2.1;rw[Option.getD_some,OZ (ox this)];rfl
theorem QcU {b:Nat}{q:Sty}{t:LI}(hS:JT L b ↑w q)(ht:Qu L' ↑w vt t)(J:q.c.co.length<=t.length):
  QT sV 75 [sP b,vt] w λr w'=>sW w w'/\∃G I,r=.tuple #[G,I]/\Qu L' ↑w' G (t.take q.c.co.length)/\Qu L' ↑w' I (t.drop q.c.co.length):=by
 refine Zn func75 ?_;refine Qc<|x Qe<|Qb<|Ql<|Z8 Z<|Q9 Z<|Qs Z hS.B Z Z<|QG hS.c.co.arr Z<|Qb<|Qd<|ZK [] (Xj 0 9 [])<|p Qx<|p Qx<|p Qx<|Qtz (hi:=q.c.co.length) Z ht Z Z Z J λG h1=>p Qx<|p Qx<|Qp8 (lo:=q.c.co.length) Z ht Z Z J λI h2 =>
  p ZH<|p ZH<|pe ?_
 refine Qk ⟨[_,_],oy,xd.Y _ _,G,I,Z,?_,?_⟩
 ·rw[OV,<-List.map_take]at h1;have e:(t.take q.c.co.length).length=q.c.co.length:=by rw[LH];omega
  unfold Qu;rw[e];exact h1
 exact Qu.drop h2
theorem Qc2 {v:Int}{y:Jz}{l:List Jz}{ss:LI}:rfr v i (y::l) (s::ss)=if v∈y.a.al/\(xu y.a.ed s v).isSome=false then(i:Int) else rfr v (i+1) l ss:=rfl
theorem QeO {b:Nat}{q:Sty}{v:Int}(hS:JT L b ↑w q)(hr:Qu L' ↑w vr rs)(hok:∀x∈q.c.rq,QL x.p.a)(hv:Vt (xj q.c.V.rq) rs):
  QT sV 155 [sP b,vr,sS v] w λr w'=>r=sS (rfr v 0 q.c.V.rq rs)/\sW w w':=by
 have hA:=hS.c.rq.arr.le;have hB:rs.length=q.c.rq.length:=by rw[hv.1];unfold xj;show((q.c.rq.map IV.it).map _).length=_;simp
 refine Zg (rfr v 0 q.c.V.rq rs) λR hR=>?_;rw[hR];refine Zn func155 ?_;refine Qc<|Qb<|Qd<|Ql<|Z8 Z<|Q9 Z<|Qs Z hS.B Z Z<|QG hS.c.rq.arr Z<|Qa<|xe<|QY (α:=Nat) [(6,11),(18,44)] (λz=>[(18,sS z)]) (λz w'=>z<=q.c.rq.length/\sW w w'/\rfr v z ((q.c.rq.drop z).map (·.it)) (rs.drop z)=R) (λz=>q.c.rq.length - z) 0 Lb
  ⟨Lp _,xd.C _ _,hR⟩ ?_
 rintro k g w1 ⟨hk,O,G⟩;refine Zk rfl Z (λhe=>?_) (λhe=>?_)
 ·refine Qt ?_;have hw:q.c.rq.length<=k:=by have h0:¬(k:Int)<(q.c.rq.length:Int):=he;omega
  rw[Lx hw]at G;have h3:R=-1:=G.symm;refine Qc<|Qb<|Qk ⟨[_],Lb,by rw[h3];rfl,O⟩
 have I:k<q.c.rq.length:=by have h0:(k:Int)<(q.c.rq.length:Int):=he;omega
 have J:k<rs.length:=oa
 have hf:=Lm I;rw[Vr I,QZ J,Qc2]at G;have U:∀hz:k<(xj q.c.V.rq).length,0<=rs[k]'J/\rs[k]'J<((xj q.c.V.rq)[k]'hz).st:=λhz=>hv.2 k J hz;have hm:k<(xj q.c.V.rq).length:=by unfold xj;show k<((q.c.rq.map IV.it).map _).length;simpa using I
 have U:=U hm;have h4:(xj q.c.V.rq)[k]'hm=(q.c.rq[k]'I).p.a:=by unfold xj;show((q.c.rq.map IV.it).map _)[k]'_=_;simp[IV.it]
 rw[h4,Zo J]at U;rw[Zo J]at G;refine Qf<|Qd<|Qn<|Ql<|xo qO (hS.c.rq.arr.I O) Z Z I λhC hn=>?_;refine Zg (q.c.rq[k]'I) λy hy=>?_;rw[hy]at hn hf G U;have V:=(hS.c.rq.each y hf).I O;have ho:=hok y hf;refine x (QF hn Z Z)<|QV [.string .empty,nS,sS 0,nS,nS] λb8 w2 h5 h6 ha=>x Qe <|
  Q6 (Zm y) ha ⟨Z,V.al.one,Z,V.mr.one,V.ed.one,La⟩ λw3 h7 ha=>xe ?_
 have Y:sW w1 w3:=h5.O h7 h6;refine Qd<|Qc<|Q9 Z<|Qs Z ha Z Z<|Qa<|Qw<|(Kk (V.al.I Y) ho.ali v).S ?_;rintro r4 w4 ⟨rfl,rfl⟩;refine x (yy Z)<|xe<|Zh rfl (λhg=>?_) (λhg=>?_)
 ·rw[OY (λe=>hg e.1)]at G;refine Qt<|Qr<|QC Z Z<|Qa<|xe ?_;exact⟨k+1,oa,Lb,I,O.D Y,G⟩
 have hp:v∈y.p.a.al:=Ly.1 hg;have hq:=QpX ho U.1 U.2 hp;refine Qf<|Qd<|ZK [] (Xj 0 15 [7])<|p (QH Z)<|pq (λ_ hc=>ZW (us:=ZJ y.p) (ha.J hc oe) rfl rfl rfl)<|p Qx<|p Qx<|pic (i:=k) rfl ((hr.I O).I Y) rfl rfl J λhD h8 =>
  pq (λ_ hc=>Qq (h8.I hc) Z)<|p Qx<|pk<|xg<|(Qmq ((V.I Y).I (xd.Y _ _)) (xh rs k) v).S ?_
 rintro r5 w5 ⟨rfl,h9⟩;have hs:=(xd.Y [] w4).D h9;refine⟨hs,?_⟩;refine p Qx<|p (λ_=>Q2 Z Z)<|p (λ_=>Q2 Z Z)<|p (λ_=>Q2 Z Z)<|p ZH <|
  p ZH<|p ZH<|pe ?_
 have hu:=(O.D Y).D hs;refine Ql<|x (Zi Z)<|xe<|Q5 rfl (λhh=>?_) (λhh=>?_)
 ·have hj:(xu y.p.a.ed (xh rs k) v).isSome=false:=by rw[<-hq];simpa using hh
  rw[OZ ⟨hp,hj⟩]at G;refine Ql<|Qb<|Qk ⟨[_],Lb,by rw[<-G];rfl,hu⟩
 have hj:¬(xu y.p.a.ed (xh rs k) v).isSome=false:=by rw[<-hq];simpa using hh
 rw[OY (λe=>hj e.2)]at G;refine Qf<|Qr<|QC Z Z<|Qa<|xe ?_;exact⟨k+1,oa,Lb,I,hu,G⟩
open Go.RowKit
def JU (L:LN)(W W':O6):Prop:=∀(k:Nat) (o:Obj),k∉L->W.heap[k]?=some o->o.isCells=true->W'.heap[k]?=some o
theorem JU.refl (L:LN)(W:O6):JU L W W:=λ_ _ _ h _=>h
theorem JU.D {A B C:O6}(h:JU L A B)(k:JU L B C):JU L A C:=λi o G I hc=>k i o G (h i o G I hc) hc
theorem JU.J {W:O6}(h:xd L W W'):JU L W W':=λk _ I G _=>(h.block k (LM.1 G).1 I).D G
theorem At.cst {W:O6}{a:Addr}(h:At L ↑W a us)(hc:JU L W W')(J:W.heap.size<=↑W'):At L ↑W' a us:=by
 refine⟨h.out,λu G=>LX (h.lt u G) J,λj u G=>?_⟩;have h1:=h.cell j u G;unfold cel at h1 ⊢;rw[YJ]at h1 ⊢;cases I:W.heap[a.block]? with
 | none=>rw[I]at h1;cases h1
 | some o =>
  rw[I]at h1;cases o with
  | cells c t m=>rw[hc a.block _ (h.out u (Me G)) I rfl];exact h1
  | _=>cases h1
theorem Zw.cst {L:LN}{W W':O6}{v:O7}{n sz:Nat}{cs:LV}(h:Zw L ↑W v n sz cs)(hc:JU L W W')(G:W.heap.size<=↑W'):Zw L ↑W' v n sz cs :=
 ⟨h.1,h.2.1,h.2.2.imp id λ⟨a,cap,h1,h2,I⟩=>⟨a,cap,h1,h2,I.cst hc G⟩⟩
structure LwC (B:Nat)(L:LN)(W W':O6):Prop where
 lw:Lw B L W W'
 cst:JU L W W'
theorem LwC.D {B:Nat}{L:LN}{G w w':O6}(h:LwC B L G w)(k:LwC B L w w'):LwC B L G w':=⟨h.lw.D k.lw,h.cst.D k.cst⟩
def rdC {α:Type}(B:Nat)(L:LN)(I:List α->O6->Prop)(X:Exit->List α->O6->Prop)(xs:List α)(W:O6):Exit->LN->Fr->O6->Prop
 | .normal,_,_,W'=>X9 B L W W'/\JU L W W'/\I xs W'
 | .ret,_,_,W'=>X9 B L W W'/\X .ret xs W'
 | .exit i,_,_,W'=>X9 B L W W'/\X (.exit i) xs W'
 | _,_,_,_=>False
theorem Qeo {Q:Exit->LN->Fr->O6->Prop}{g:O8}{ps:LN}{assign body:Code}(L:LN)(h1:1<=m)
  {gf:Nat}  [hF:Fu P gf fn]  (hg:ev f g=.func (.func gf) #[] capt.toArray) {encs:α->LV} {S Sp:List α->Prop}  (hp:∀p∈ps,p<n) (hn:∀x,(encs x).length=ps.length)
  (hq:SeqStopsK (fen none) (m - 1) P gf capt.toArray (λx=>(encs x).toArray) (LwC ↑w L) S Sp N w)
  (I:List α->O6->Prop) (hI:∀s,Yf ↑w (I s)) (X:Exit->List α->O6->Prop) (hX:∀e s,Yf ↑w (X e s)) (h0:I [] w) (A:Fr->α->Fr->O6->Prop) (hA:∀x G,Yf ↑w (A f x G))
  (hf:∀l pre x W,I pre W->WG (some l) (m - 1 - 1) P n assign (QeF (λhe G W'=>he=[]/\X9 ↑w L W W'/\JU L W W'/\I pre W'/\A f x G W') (λ_ _ _ _=>False)) [] (QeC f ps (encs x)) W)
  (hh:∀l pre x G W,I pre W->A f x G W->pre.length<N->WG (some l) (m - 1 - 1) P n body (rdC ↑w L I X (pre++[x]) W) [] G W)
  (hs:∀D xs W,↑w<=D->S xs->I xs W->W.heap[D]?=some (.deferred (some []))->Q .normal (D::ds) f W)
  (hj:∀D e pre W,↑w<=D->Sp pre->X e pre W->W.heap[D]?=some (.deferred (some []))->(e=.ret\/∃i,e=.exit i)->Q e (D::ds) f W):
  WG none m P n (.rangeFunc g ps.toArray assign body) Q ds f w:=by
 unfold WG at hf hh ⊢;intro a U;have eg:∀args w,(callFunc gf args).run P w=.ok (.enter gf args) w:=by
  intro args w;have h1:¬fn.name = "runtime.NumGoroutine" := by simpa using hF.nm
  have h2:¬fn.body=none:=by have:=hF.b;intro e;rw[e]at this;cases this
  simp[callFunc,hF.f,h1,h2]
 have keep:∀{W W':O6},X9 ↑w L W W'->KeepsFrom ↑w W W':=λh=>⟨h.lw.size,λk o _ V ho=>h.other k o V ho⟩;refine wpIn_rangeFunc_ownH (F:=fen none) Z h1 (gf:=gf) (lb:=capt.toArray) (by rw[U.eval];exact hg) La eg hq (λh k=>h.D k)
  (λW l o o' hl ho hu _=>⟨⟨Z,Z,Z,oe,λk V _=>World.putObj_heap_other oa⟩,λk o2 _ V hc=>by
   have hv:k≠l:=λe=>by subst e;rw[ho]at V;cases V;rw[hu]at hc;cases hc
   rw[World.putObj_heap_other hv];exact V⟩) (Below.refl _ _) (λx=>by simp[hn x]) I
  (λc pre W=>match c with| .ret=>X .ret pre W| .exit i=>X (.exit i) pre W|_=>False) (Yf.own hI) (λc=>Yf.own λs=>?_) h0
  (λx Y W=>∃G,Xi n [] Y G/\A f x G W) (λx Y=>Yf.own λ_=>Yf.ex λG=>Yf.and (Yf.pure _) (hA x G)) ?_ ?_ ?_ ?_
 ·cases c <;> first|exact hX _ s|exact Yf.pure _
 ·intro l pre x W K hi hK;have hr:Xi n [] { tmps:=(ps.toArray.zip (encs x).toArray).foldl (λt (p,v)=>t.setIfInBounds p v) a.tmps,defers:=[] } (QeC f ps (encs x)):=by
   have h2:Xi n [] { a with defers:=[] } f:=⟨U.size,Z,U.get⟩
   have O:=qB ps (encs x) _ _ h2 hp;have e:(ps.toArray.zip (encs x).toArray).foldl (λt (p,v)=>t.setIfInBounds p v) a.tmps=(ps.zip (encs x)).foldl (λt (x:Nat×O7)=>t.setIfInBounds x.1 x.2) a.tmps:=oe
   rw[e];exact O
  refine wpIn_mono (hf l pre x W hi _ hr) ?_;rintro e Y W' ⟨he,G,h2,_,O⟩;cases e with
  | normal=>obtain⟨rfl,h4,hw,J,h6⟩:=O;exact hK Y W' (keep h4) ⟨h4.lw,hw⟩ J ⟨G,h2,h6⟩
  | exit id=>exact O.elim
  | goto l=>exact O.elim
  | ret=>exact O.elim
  | panic ch=>exact O.elim
  | outgrown=>exact O.elim
 ·rintro l pre x Y W _ _ hi ⟨G,h2,O⟩ hy;refine wpIn_mono (hh l pre x G W hi O hy Y h2) ?_;rintro e hz W' ⟨he,h7,h4,_,J⟩;cases e with
  | normal=>exact⟨keep J.1,⟨J.1.lw,J.2.1⟩,J.2.2⟩
  | exit id=>exact⟨keep J.1,J.2⟩
  | goto l=>exact J.elim
  | ret=>exact⟨keep J.1,J.2⟩
  | panic ch=>exact J.elim
  | outgrown=>exact J.elim
 ·intro D xs W hD hS hi hd;exact⟨D::ds,f,⟨U.size,by rw[show coll (D::ds)={ target:=.collected D,args:=#[] }::coll ds from rfl,U.defers],U.get⟩,λ_ _=>rfl,hs D xs W hD hS hi hd⟩
 intro D c pre W hD hS hx hd;have hm:Xi n (D::ds) { a with defers:={ target:=.collected D,args:=#[] }::a.defers } f:=⟨U.size,by rw[show coll (D::ds)={ target:=.collected D,args:=#[] }::coll ds from rfl,U.defers],U.get⟩
 cases c with
 | ret=>exact wpIn_ret ⟨_,f,hm,λ_ _=>Z,hj D .ret pre W hD hS hx hd (.inl Z)⟩
 | exit i=>exact wpIn_exit ⟨_,f,hm,λ_ _=>Z,hj D (.exit i) pre W hD hS hx hd (.inr ⟨i,Z⟩)⟩
 | _=>exact hx.elim
theorem xy2 {rest:xI}{x z:O8}{l:Nat}{R:Ending->O6->Prop}
  (hx:ev f x=.func (.yield l) #[] #[]) (G:YieldAt (fen none) (m - 1) P l #[ev f y,ev f z] w R) (hK:∀e w',R e w'->∃v,e=.returned v/\JD P m ops K rest (QP f d v) w')
  (I:Yb ops f ⟨d,.call ⟨.value x,#[y,z],at_⟩,ty,pS,af,gd⟩=true:=by rfl):
  JD P m ops K (⟨d,.call ⟨.value x,#[y,z],at_⟩,ty,pS,af,gd⟩::rest) f w:=by
 obtain⟨fn,tmps,assign,body,h1,h2⟩:=G;have J:(execOp (ev f) ⟨d,.call ⟨.value x,#[y,z],at_⟩,ty,pS,af,gd⟩).run P w=.ok (.round l fn tmps assign body) w:=by
  simp[execOp,resolve,hx,Deferred.ofValue,invoke,h1]
 unfold JD;rw[I];simp only[XOY,J,upY,cond_true];exact h2.mono λe w' h=>by obtain⟨v,rfl,O⟩:=hK e w' h;exact O
def wrf (rq:List Jz)(rs:LI):LI->List (Int×Int)
 | []=>[]
 | v::l=>if 0<=rfr v 0 rq rs then(v,rfr v 0 rq rs)::wrf rq rs l else wrf rq rs l
theorem QcB (rq:List Jz)(rs:LI)(v:Int):∀l,wrf rq rs (l++[v])=wrf rq rs l++if 0<=rfr v 0 rq rs then[(v,rfr v 0 rq rs)]else[]
 | []=>by simp only[Ox,wrf]
 | a::l=>by
  simp only[Og,wrf,QcB rq rs v l];by_cases h:0<=rfr a 0 rq rs
  ·rw[OZ h,OZ h];rfl
  rw[OY h,OY h]
theorem V8 (rq:List Jz)(rs:LI)(b:LI):∀a,wrf rq rs (a++b)=wrf rq rs a++wrf rq rs b
 | []=>rfl
 | x::a=>by
  simp only[Og,wrf,V8 rq rs b a];by_cases h:0<=rfr x 0 rq rs
  ·rw[OZ h,OZ h];rfl
  rw[OY h,OY h]
theorem QmZ (rq:List Jz)(rs:LI)(l:LI)(k:Nat):(wrf rq rs (l.take k)).length<=(wrf rq rs l).length:=by
 have h:=V8 rq rs (l.drop k) (l.take k);rw[ML]at h;rw[h,Le];omega
theorem QiU {rq:List Jz}{l:LI}{k:Nat}(h:k<l.length):wrf rq rs (l.take (k+1))=wrf rq rs (l.take k)++if 0<=rfr (xh l k) 0 rq rs then[(xh l k,rfr (xh l k) 0 rq rs)]else[]:=by
 rw[Ln h,QcB,Zo h]
theorem zM {rq:List Jz}{rs:LI}{x:Int×Int}:∀{l:LI},x∈wrf rq rs l↔x.1∈l/\0<=x.2/\x.2=rfr x.1 0 rq rs
 | []=>by simp[wrf]
 | v::l=>by
  rw[wrf];have ih:=zM (rq:=rq) (rs:=rs) (x:=x) (l:=l);by_cases h:0<=rfr v 0 rq rs
  ·rw[OZ h,Ll,ih,Ll];constructor
   ·rintro(rfl|⟨h1,h2⟩)
    ·exact⟨.inl Z,h,Z⟩
    exact⟨.inr h1,h2⟩
   rintro⟨h1|h1,h2,G⟩
   ·exact .inl (by rw[<-h1];exact Prod.ext_iff.2 ⟨Z,G⟩)
   exact .inr ⟨h1,h2,G⟩
  rw[OY h,ih,Ll];constructor
  ·rintro⟨h1,h2⟩;exact⟨.inr h1,h2⟩
  rintro⟨h1|h1,h2,G⟩
  ·exact O1 (by rw[<-h1,<-G];exact h2) h
  exact⟨h1,h2,G⟩
theorem zf {b:Nat}{st:Int}(U:vr.cells=#[vr]):
  QT sV 78 [sP b,sS st,vr] w λr w'=>sW w w'/\∃b1 b2 G,r=.func (.func 154) #[] #[sP b1,sP b2,sP G] /\
   ↑w<=b1/\↑w<=b2/\↑w<=G/\QN ↑w' b1 159 [sP b]/\QN ↑w' b2 3 [sS st]/\QN ↑w' G 47 [vr]:=by
 refine Zn func78 ?_;refine Qc<|Zd [sP b] λG w1 O V Y=>Zd [sS st] λb4 w2 I hf ha=>Qo<|zg (us:=[vr]) U λb5 w3 J hg he=>x Qe <|
  xe ?_
 have hh:=O.size;have hj:=I.size;refine Qc<|x Zl<|Qb<|Qk ⟨[_],Lb,(O.D I).D J,G,b4,b5,Z,V,oa,oa,(Y.I I).I J,ha.I J,he⟩
theorem UG {O b2 b:Nat}{q:Sty}{es:LI}{st:Int}{fl:xD}(h3:QN ↑w O 159 [sP b])(hC:QN ↑w b2 3 [sS st])(hD:QN ↑w U 47 [vr])
  (hE:O∉L) (hF:U∉L) (hG:∀x∈L,x<↑w) (hS:JT L b ↑w q) (hr:Qu L ↑w vr rs) (hok:∀x∈q.c.rq,QL x.p.a) (hv:Vt (xj q.c.V.rq) rs) (hc:cks q.p.a st=0) (h4:enb q.p.a st=es) (hn:wrf q.c.V.rq rs es=fl):
  SeqStopsK (fen none) m sV 154 #[sP O,sP b2,sP U] (λx:{ x:Int×Int // x∈fl }=>[sS x.1.1,sS x.1.2].toArray) (LwC ↑w L)
   (λys=>ys.map (·.1)=fl) (λpre=>pre.map (·.1) <+: fl) fl.length w:=by
 intro l J Jx W hH hJ hI hY h0;have hf:sW w W:=xd.of_below hH;have ab:∀{ys:List { x:Int×Int // x∈fl }} {W1 W2:O6},J ys W1->sW W1 W2->J ys W2:=λ{ys W1 W2} hj hg=>hJ ys W1 W2 none hj ⟨hg.os,hg.tape,hg.output,hg.size,λk hk _=>hg.block k hk oe⟩ (λr e=>by cases e);have hK:es.length<=1099511627776:=by
  have h1:=hS.p.ed.le;have h2:=Yg q.p.a.ed st;rw[<-h4];unfold enb;rw[Lo];omega
 have hL:=QmZ q.c.V.rq rs es;rw[hn]at hL;have key:QT sV 154 [.func (.yield l) #[] #[],sP O,sP b2,sP U] W (λ_ W'=>(∃ys,ys.map (·.1)=fl/\J ys W')\/(∃pre,pre.map (·.1) <+: fl/\Jx pre W')):=by
  refine QT.of_G m func154 Z ntmps154 results154 oe ?_;have h5:=hS.I hf;refine QQ<|Ut (sW W) [oB 0,oB 1,oB 2,oB 3,oB 4,oC 5,oB 6,oB 7,oB 8,oB 9,oB 10] mixed ol ol od (xd.Y _ _) ?_;refine pq (λ_ hc=>Qj ((h3.I hf).I hc) Z Z)<|p (YT Z)<|p (QH Z)<|pq (λ_ hc=>ZW (us:=ZJ q.p) (h5.B.I hc) Z Z Z)<|pq (λ_ hc=>Qj ((hC.I hf).I hc) Z Z)<|pk<|xg<|(QfU (h5.p.I (xd.Y _ _)) st).S ?_;rintro r1 w1 ⟨hM,ve,rfl,_,ho⟩;have ho:=ho hc;have hs:=(xd.Y [] W).D hM;refine⟨hs,?_⟩;refine p Qx<|p (λ_=>Q2 Z Z)<|p (λ_=>Q2 Z Z)<|p ZH<|p ZH<|pe ?_;have hQ:=hf.size;have hR:({ W with drawn:=W.drawn+1 }:O6).heap.size=W.heap.size:=rfl
  rw[h4]at ho;have h6:Qu L ↑w1 ve es:=Qh.ints ho hK (λx hx=>oq (hG x hx));refine QQ<|Qy ol ol<|Qa<|QG h6 Z<|Qa<|xe<|ZL<|K3 (α:=Nat×List { x:Int×Int // x∈fl }) [(8,9),(21,38)] (λz=>[(21,sS z.1)]) (λz ds W'=>ds=[]/\z.1<=es.length/\xd L w W'/\Qu L ↑W' ve es/\z.2.map (·.1)=wrf q.c.V.rq rs (es.take z.1)/\J z.2 W') (λz=>es.length - z.1) ol (0,[]) Lb
   ⟨Z,Lp _,(hf.D hs).any,h6,Z,ab h0 hs⟩ ?_
  rintro⟨k,ys⟩ g ds w2 ⟨rfl,hk,V,hu,hh,hw⟩;refine QQ<|Qy ol ol<|ZT Z Z<|xe<|QQ<|qm Z (λhy=>?_) (λhy=>?_)
  ·refine JQ ?_;have hN:es.length<=k:=by have hp:¬(k:Int)<(es.length:Int):=hy;omega
   rw[Ls hN,hn]at hh;exact⟨λ_ h=>(by cases h),MB,[],λW' G=>⟨La,.inl ⟨ys,hh,ab hw G⟩⟩⟩
  refine Yd ?_;have Y:k<es.length:=by have hp:(k:Int)<(es.length:Int):=hy;omega
  have I:=QiU (rq:=q.c.V.rq) (rs:=rs) Y;have h7:xh es k∈es:=by rw[<-Zo Y];exact Lm Y
  refine Zg (xh es k) λv h8=>?_;rw[h8]at I h7;refine Zg (rfr v 0 q.c.V.rq rs) λj hj=>?_;rw[hj]at I;refine QQ<|ZL<|QQ<|Qy ol ol<|xic (i:=k) hu Z Z Y λhT hp=>?_;rw[h8]at hp;refine x (Qq hp Z)<|Qb<|QQ<|Qy ol ol<|ZD (h3.J V hE) Z Z<|ZD (hD.J V hF) Z Z<|Qa<|Qw<|(QeO (v:=v) (hS.st V) (hr.st V) hok hv).S ?_;rintro r3 w3 ⟨hA,ha⟩;rw[hj]at hA;subst hA;refine Qb<|QQ<|KM ol ?_;refine JD.pre3 ?_;refine Qa<|xb (Yn Z Z) (λhz=>?_) (λhz=>?_)
  ·have hq:0<=j:=hz;have hm:(v,j)∈fl:=by rw[<-hn];exact zM.2 ⟨h7,hq,hj.symm⟩
   rw[OZ hq]at I;have hB:(ys++[(⟨(v,j),hm⟩:{ x:Int×Int // x∈fl })]).map (·.1) <+: fl:=by
    rw[Lv,hh,show[(⟨(v,j),hm⟩:{ x:Int×Int // x∈fl })].map (·.1)=[(v,j)] from rfl,<-I,<-hn];have h9:=V8 q.c.V.rq rs (es.drop (k+1)) (es.take (k+1));rw[ML]at h9;exact⟨_,h9.symm⟩
   have hO:ys.length<fl.length:=by have h1:=hB.length_le;rw[Lo,Le,Lz]at h1;omega
   refine Qa<|xe<|JD.pre3 ?_;refine Qa<|Qa<|Qa<|xe<|xy2 (l:=l) Z (hY ys ⟨(v,j),hm⟩ w3 (ab hw ha) hO) λen W3 hP=>Or.elim hP (λh1=>⟨.bool true,h1.1,?_⟩) (λh1=>⟨.bool false,h1.1,?_⟩)
   ·refine JD.of_XL<|x (Zi Z)<|QB Z<|xe<|Kc Z<|Yd ?_;refine Qy ol ol<|QC Z Z<|Qa<|xe ?_;exact⟨(k+1,ys++[⟨(v,j),hm⟩]),og,Lb,Z,Y,(V.D ha).lw h1.2.2.lw,(hu.I ha).cst h1.2.2.cst h1.2.2.lw.size,by simp only[];rw[I,Lv,hh];rfl,h1.2.1⟩
   refine JD.of_XL<|x (Zi Z)<|QB Z<|xe<|jU Z ?_;refine Ka ⟨λ_ h=>(by cases h),MB,[],λW' G=>⟨La,.inr ⟨ys++[⟨(v,j),hm⟩],hB,?_⟩⟩⟩;exact hI _ W3 W' none h1.2 ⟨G.os,G.tape,G.output,G.size,λk hk _=>G.block k hk oe⟩ (λr e=>by cases e)
  have hq:¬0<=j:=hz;rw[OY hq,LK]at I;refine Qa<|xe<|JD.of_XL<|Zs<|YN<|QB Z<|xe<|Kc Z<|Yd ?_;refine Qy ol ol<|QC Z Z<|Qa<|xe ?_;exact⟨(k+1,ys),og,Lb,Z,Y,V.D ha,hu.I ha,by simp only[];rw[I,hh],ab hw ha⟩
 refine(callsIn_wide (n:=m)).2 ?_;have ea:(#[.func (.yield l) #[] #[]]++[sP O,sP b2,sP U].toArray:Array O7)=#[.func (.yield l) #[] #[],sP O,sP b2,sP U]:=oe
 rw[ea];unfold QT at key;refine Calls.mono key λe w' he=>?_;cases e with
 | returned v=>exact⟨⟨v,Z⟩,he⟩
 | panicked c=>exact he.elim
 | outgrown=>exact he.elim
theorem Ks [h1:Ag P t sz]{x:O8}{b o:Nat}{G:LV}(I:QN ↑w b T cs)(hx:ev f x=.pointer (some ⟨b,o,none⟩))(O:ev f y=sT us)(hl:us.length=sz)(Y:o+sz<=cs.length)(U:ZN us)(V:cs.take o++us++cs.drop (o+sz)=G)
  (hK:∀w',xd [b] w w'->QN ↑w' b T G->K (QP f d undef) w'):XO P ⟨d,.store t x y,ty,pS,af,gd⟩ f w K:=by
 have J:=run_storeCells_at P b o T us 0 cs.toArray w I (by simp;omega) U.all;subst hl;simp only[OC,V]at J;refine xk (w':=w.setRow b G.toArray) ?_ (hK _ (xd.setRow _ _ _) (JG I));simp[execOp,hx,O,Instr.storeAt,Instr.sureAddr,storeVar,qy (sz:=us.length),Value.cells,J]
instance:Bw sV 166 [nS,nS,nS,nS,nS,nS,sS 0,nS,nS,nS,nS,sS 0,nS,nS,nS,nS,nS,nS,.map none] [(0,5),(5,4),(9,1),(10,4),(14,1),(15,3),(18,1)]:={}
theorem YK.shape {H:xG}{v:O7}{c:Int}(h:YK N H aa v vt c):∃(a:Qz) (va vm ve:O7) (qs:List TV),v=.agg #[va,sS a.st,vm,ve]/\ZN [va,sS a.st,vm,ve]/\vt.oneCell'=true /\
  (c=0->xw aa=some (a,qs.map (·.2))/\K9 aa=0/\∀L:LN,(∀b∈L,b<N)->Zv L H va vm ve a/\JS L H vt qs):=by
 by_cases hc:c=0
 ·obtain⟨⟨va,vm,ve,h1,h2⟩,⟨qs,J,G⟩,O,U⟩:=h.good hc;have hA:=h2 [] oe;exact⟨Jf aa,va,vm,ve,qs,h1,⟨hA.al.one,Z,hA.mr.one,hA.ed.one,La⟩,(G [] oe).arr.one,λ_=>⟨by rw[J];exact O,U,λL I=>⟨h2 L I,G L I⟩⟩⟩
 obtain⟨h1,h2⟩:=h.bad hc;exact⟨⟨[],0,[],[]⟩,Zq,Zq,Zq,[],h1,oA,by rw[h2];rfl,λe=>O1 e hc⟩
def plE (c:ZO):Int:=if Z2 c≠0 then Z2 c else KP (xj c.co)
theorem Qbd.shape {N:Nat}{H:xG}{c:ZO}{v vt:O7}{e:Int}(h:Qbd N H c v vt e):e=plE c/\∃(a:Qz) (va vm ve:O7) (qs:List TV),v=.agg #[va,sS a.st,vm,ve]/\ZN [va,sS a.st,vm,ve]/\vt.oneCell'=true /\
  (e=0->Z2 c=0/\xw (xj c.co)=some (a,qs.map (·.2))/\K9 (xj c.co)=0/\∀L:LN,(∀b∈L,b<N)->Zv L H va vm ve a/\JS L H vt qs):=by
 unfold Qbd at h;unfold plE;by_cases hc:Z2 c≠0
 ·rw[OZ hc]at h ⊢;obtain⟨h1,h2,G⟩:=h;exact⟨h1,⟨[],0,[],[]⟩,Zq,Zq,Zq,[],h2,oA,by rw[G];rfl,λe=>O1 (h1.symm.D e) hc⟩
 rw[OY hc]at h ⊢;obtain⟨a,va,vm,ve,qs,h1,h2,G,I⟩:=h.shape;exact⟨h.e,a,va,vm,ve,qs,h1,h2,G,λe=>⟨Ly.1 hc,I e⟩⟩
theorem Qne (c:ZO):YY c=if plE c≠0 then plE c else KP (xj c.co++xj c.rq):=by
 rw[Qnf];unfold plE;by_cases h:Z2 c≠0
 ·rw[OZ h,OZ h,OZ h]
 rw[OY h,OY h]
theorem Qo6 {H:xG}{ps:List AV}(h:∀p∈ps,Zv L H p.va p.vm p.ve p.a):∀u∈ps.flatMap ZJ,u.oneCell'=true:=by
 intro u I;obtain⟨p,J,G⟩:=Mh.1 I;have hA:=h p J;simp only[oN,oJ,or_false]at G;rcases G with rfl|rfl|rfl|rfl
 ·exact hA.al.one
 ·rfl
 ·exact hA.mr.one
 exact hA.ed.one
theorem QqV {F:LN->Array Obj->Prop}(st:∀{L:LN}{w w':O6},F L ↑w->xd L w w'->F L ↑w')(up:∀{L L':LN}{H:xG},F L H->(∀b∈L',b∈L\/H.size<=b)->F L' H){b:Nat}
  (h:∀L:LN,(∀x∈L,x<N)->F L ↑w) (hb:b<N) (G:xd [b] w w'):∀L:LN,(∀x∈L,x<N)->F L ↑w':=λL I =>
 up (st (h (b::L) (λx hx=>by
  rcases Ll.1 hx with rfl|hx
  ·exact hb
  exact I x hx)) (G.S (λx hx=>by simp only[oH]at hx;subst hx;exact Lj))) (λx hx=>.inl (Lh _ hx))
theorem q9.nil (n:Nat):q9 n [] []:=λu _ _=>by simp[xq]
theorem Qd9 {c:CL}(h0:Z9 L ↑w c)(h3:Kb w 4096):
  QT sV 74 [c.val] w λr w'=>sW w w'/\∃vp,r=.tuple #[vp,sS (YY c.V)]/\(YY c.V≠0->vp=.pointer none) /\
   (YY c.V=0->∃b q,vp=sP b/\q.c=c/\QtT q/\JT [] b ↑w' q/\∀L:LN,(∀x∈L,x<↑w)->Zv L ↑w' q.s.va q.s.vm q.s.ve q.s.a/\(Z9 L ↑w c->JT L b ↑w' q)):=by
 have h:=h0.up (L':=[]) oe;have hE:=Qne c.V;refine Zg (YY c.V) λE gu=>?_;rw[gu]at hE ⊢;refine Zn func74 ?_;refine Qc<|Zd c.cells λb1 w1 gv mh h4=>x Qe<|Qb ?_;have mj:=h4.lt;refine Qc<|Q7 h4 Z Z<|x (ZE [(0,c.cells)] ⟨Z,Z,La⟩)<|Zd [c.ve,c.vc,c.vr,c.vx,c.vk,nS,sS 0,nS,nS,nS,nS,sS 0,nS,nS,nS,nS,nS,nS,.map none] λb10 w2 hQ mo G=>Qb ?_;have h6:=gv.D hQ;have gx:=G.lt;have hS:=h4.I hQ;have hge:↑w<=b10:=oa
 have mq:b1≠b10:=oa
 refine Qc<|Qb<|Qd<|Ql<|Qa<|Q7 hS Z Z<|Qw<|(Qek (h.I h6) (h3.I h6)).S ?_;rintro r3 w3 ⟨hg,v3,vq,e3,rfl,hP⟩;obtain⟨h7,pa,pva,pvm,pve,qs,rfl,gy,gz,g0⟩:=hP.shape;refine Qa<|QS Z Z<|QS Z Z<|QS Z Z<|Z8 Z<|Q9 Z<|Qo<|Ks (us:=[pva,sS pa.st,pvm,pve]) (G.I hg) Z Z Z oe gy rfl λw4 g2 G =>
  Z8 rfl<|Q9 Z<|Qo<|Qv (j:=9) (u:=vq) G Z Z oe gz λw5 g3 G=>Qb ?_
 have hh:xd [b10] w3 w5:=g2.Q g3;have hj:sW w w5:=(h6.D hg).O hh hge;refine Ql<|ZS Z Z<|xe<|Zh rfl (λhn=>?_) (λhn=>?_)
 ·have g4:plE c.V≠0:=by rw[<-h7];exact hn
  rw[OZ g4,<-h7]at hE;subst hE;refine Ql<|x Qe<|Qb<|Qk ⟨[_,_],oy,hj,.pointer none,Z,λ_=>Z,λe=>O1 e hn⟩
 have hT:e3=0:=Ly.1 hn;rw[OY (by rw[<-h7,hT];decide)]at hE;obtain⟨hck,h8,ms,g5⟩:=g0 hT;have hok:=YW hck;refine Qf ?_;have hA:=(hS.I hg).J hh (by simp;omega);have h5:=h.I hj;have mt:=h.co.arr.le;have mu:=h.rq.arr.le;have mv:c.co.length<=8:=by have:=hok.c8;have e:c.V.co.length=c.co.length:=Lo ..;omega
 have mw:c.co.length+c.rq.length<=12:=by have:=hok.cr;have e:c.V.co.length=c.co.length:=Lo ..;have e':c.V.rq.length=c.rq.length:=Lo ..;omega
 refine Qd<|Qd<|ZK [] [oB 0,oB 1,oB 2,oB 3,oB 5,oB 6,oC 4,oC 7,oC 8,oC 9,oB 10,oB 11,oB 12,oB 13,oB 14,oB 15,oC 16,oB 17,oB 18,oC 19,oB 20]<|p Qx<|p Qx<|p (QH Z)<|pq (λ_ hc=>Qj (hA.J hc oe) rfl rfl)<|p (QH rfl) <|
  pq (λ_ hc=>Qj (hA.J hc oe) rfl rfl)<|pk<|xg<|(Qfe (h5.co.I (xd.Y _ _))).S ?_
 rintro r6 w6 ⟨hU,hV⟩;have hB:=(xd.Y [] w5).D hU;refine⟨hB,?_⟩;refine pk<|xg<|(Qfe (h5.rq.I hB)).S ?_;rintro r7 w7 ⟨hC,g6⟩;have hW:=hB.D hC;refine⟨hW,?_⟩;have my:=hU.size;have mz:=hC.size;have m0:({ w5 with drawn:=w5.drawn+1 }:O6).heap.size=w5.heap.size:=rfl
 have g7:Zw [] ↑w7 r7 (c.rq.map (·.p)).length 4 ((c.rq.map (·.p)).flatMap ZJ):=QO g6 (by rw[Lo];omega) oe;refine pk<|QbG (Qm hV hC) Z g7 Z (Qo6 λp O=>by
   obtain⟨q,U,rfl⟩:=Lt.1 O;exact(h.rq.each q U)) (by rw[Lo,Lo];omega) oa λv8 w8 hX g8 m1=>?_
 have ho:sW w5 w8:=hW.Z g8 (λb hb=>.inr (oq ((Qi hV) b hb).1));refine⟨ho,?_⟩;have hD:=hj.D ho;have m2:=ho.size;have g9:Jd [] ↑w8 v8 (c.co.map (·.p)++c.rq.map (·.p)):=by
  rw[<-Le,<-LJ]at hX;exact Qk1 hX (by rw[Le,Lo,Lo];omega) oe (λp O=>by
   rcases Lk.1 O with O|O
   ·obtain⟨q,U,rfl⟩:=Lt.1 O;exact(h.co.each q U).I hD
   obtain⟨q,U,rfl⟩:=Lt.1 O;exact(h.rq.each q U).I hD)
 have ka:∀p∈c.co.map (·.p)++c.rq.map (·.p),QL p.a:=λp O=>by
   rcases Lk.1 O with O|O
   ·obtain⟨q,U,rfl⟩:=Lt.1 O;exact hok.co q.it (LL U)
   obtain⟨q,U,rfl⟩:=Lt.1 O;exact hok.rq q.it (LL U)
 refine pk<|xg<|(qh (km:=4096) g9 (h3.I hD) oh (QbD ka)).S ?_;rintro r9 w9 ⟨kb,v9,vt,e9,rfl,hR⟩;rw[Lv,Qhu,Qo7]at hR;have hY:=hR.e;obtain⟨sa,sva,svm,sve,ts,rfl,kc,ke,kf⟩:=hR.shape;have hF:=ho.D kb;refine⟨hF,?_⟩;refine p Qx<|p (λ_=>Q2 Z Z)<|p (λ_=>Q2 Z Z)<|p (λ_=>Q2 Z Z)<|p (YT Z) <|
  p (QH rfl)<|pkk<|Ks (us:=[sva,sS sa.st,svm,sve]) (G.I hF) Z Z Z oe kc rfl λm3 kg G=>p (YT rfl)<|p (QH rfl) <|
  pkk<|Qv (j:=14) (u:=vt) G Z Z oe ke λhr kh G=>p ZH<|pe ?_
 have hZ:xd [b10] w9 hr:=kg.Q kh;have hu:xd [b10] w5 hr:=hF.any.Q hZ;have hv:sW w hr:=hj.O hu hge;refine Ql<|ZS Z Z<|xe<|Zh rfl (λhG=>?_) (λhG=>?_)
 ·rw[<-hY]at hE;subst hE;refine Ql<|x Qe<|Qb<|Qk ⟨[_,_],oy,hv,.pointer none,Z,λ_=>Z,λe=>O1 e hG⟩
 have ga:e9=0:=Ly.1 hG;have gb:E=0:=by rw[hE,<-hY,ga]
 obtain⟨ki,m4,kj⟩:=kf ga;refine Qf ?_;have kk:=hA.J hu (by simp;omega);refine Ql<|Qa<|Q7 kk Z Z<|Qw<|(Qa3 (h.I hv)).S ?_;rintro m5 V ⟨hf,vs,vx,vk,qx,ks,rfl,kn,ko,gc⟩;have hH:=gc [] oe;refine Qo<|Z1 XJ λbm kq ge m6 kr=>Z8 Z<|Q9 Z<|Qo<|Ks (us:=[vs,vx,vk]) ((G.I hf).I ge) Z Z Z oe ⟨hH.1.one,hH.2.1.arr.one,hH.2.2.arr.one,La⟩ rfl λm7 gg G =>
  Z8 rfl<|Q9 Z<|Qo<|Qv (j:=18) (u:=.map (some bm)) G Z Z oe rfl λhI gh G=>xe ?_
 have m8:=hv.size;have m9:=hf.size;have pc:=hu.size;have pd:=hh.size;have pf:=hg.size;have pg:b10<V.heap.size:=oa
 have kt:bm≠b10:=oa
 have gi:xd [b10] V hI:=(ge.any.Q gg).Q gh;have ku:xd [b10] kq hI:=gg.Q gh;have kv:ZV XJ ↑hI bm []:=kr.J ku (ox kt);have kw:xd [b10] w3 V:=(hh.Q hu).D hf;have kx:xd [b10] w9 V:=hZ.D hf;have fP:∀{w':O6},xd [b10] V w'->∀L:LN,(∀x∈L,x<↑w2)->Zv L ↑w' pva pvm pve pa/\JS L ↑w' vq qs:=λI =>
  QqV (F:=λL H=>Zv L H pva pvm pve pa/\JS L H vq qs) (λh I=>⟨h.1.st I,h.2.st I⟩) (λh J=>⟨h.1.up J,h.2.up J⟩) g5 gx (kw.Q I)
 have fS:∀{w':O6},xd [b10] V w'->∀L:LN,(∀x∈L,x<↑w8)->Zv L ↑w' sva svm sve sa/\JS L ↑w' vt ts:=λI =>
  QqV (F:=λL H=>Zv L H sva svm sve sa/\JS L H vt ts) (λh I=>⟨h.1.st I,h.2.st I⟩) (λh J=>⟨h.1.up J,h.2.up J⟩) kj oa (kx.Q I)
 have fC:∀{w':O6},xd [b10] V w'->∀L:LN,(∀x∈L,x<↑hr)->Qu L ↑w' vs (szs c.V.co)/\Xcs L ↑w' vx qx/\jT L ↑w' vk ks:=λI =>
  QqV (F:=λL H=>Qu L H vs (szs c.V.co)/\Xcs L H vx qx/\jT L H vk ks) (λh I=>⟨h.1.st I,h.2.1.st I,h.2.2.st I⟩) (λh J=>⟨h.1.up J,h.2.1.up J,h.2.2.up J⟩) gc oa I
 have kz:=(zN (Y1 hok.co) h8).1;have k0:(xj c.V.co).length=c.co.length:=by unfold xj;show((c.co.map IV.it).map _).length=_;simp
 have gj:=(fP gi [] oe).2;have ph:=gj.arr.le;refine Qd<|Ql<|Z8 Z<|Qs Z G Z Z<|QG gj.arr Z<|Qa<|xe<|QY (α:=Nat×List (ByteArray×O7)) [(6,7),(61,73)] (λz=>[(61,sS z.1)]) (λz w'=>z.1<=qs.length/\xd [b10] V w'/\QN ↑w' b10 166 [c.ve,c.vc,c.vr,c.vx,c.vk,pva,sS pa.st,pvm,pve,vq,sva,sS sa.st,svm,sve,vt,vs,vx,vk,.map (some bm)]/\ZV XJ ↑w' bm z.2/\q9 c.co.length z.2 ((qs.take z.1).map (·.2))) (λz=>qs.length - z.1) (0,[]) Lb
  ⟨Lp _,gi,G,kv,q9.nil _⟩ ?_
 rintro⟨k,mm⟩ g gk ⟨hk,Y,hw,hJ,hK⟩;have hy:sW w gk:=(hv.D hf).O Y hge;refine Zk rfl Z (λhM=>?_) (λhM=>?_)
 ·refine Qt ?_;have k4:qs.length<=k:=by have k5:¬(k:Int)<(qs.length:Int):=hM;omega
  rw[Ls k4]at hK;refine Ql<|x Qe<|Qb ?_;have aP:=fP Y [] oe;have aS:=fS Y [] oe;have aC:=fC Y [] oe;refine Qk ⟨[_,_],oy,hy,sP b10,by rw[gb];rfl,λe=>O1 gb e,λ_=>⟨b10,⟨c,⟨pva,pvm,pve,pa⟩,vq,qs,⟨sva,svm,sve,sa⟩,vt,ts,vs,vx,vk,qx,ks,bm,mm⟩,Z,Z,⟨hck,h8,ki,kn,ko,hK⟩,⟨hw,oe,h.I hy,aP.1,aS.1,aP.2,aS.2,aC.1,aC.2.1,aC.2.2,oe,hJ⟩,λL J=>?_⟩⟩;have bP:=fP Y L (λb hb=>oq (J b hb));have bS:=fS Y L (λb hb=>oq (J b hb));have bC:=fC Y L (λb hb=>oq (J b hb));exact⟨bS.1,λk6=>⟨hw,λhm=>oq (J _ hm),k6.I hy,bP.1,bS.1,bP.2,bS.2,bC.1,bC.2.1,bC.2.2,λhm=>by have h9:bm<w.heap.size:=J bm hm;omega,hJ⟩⟩
 have he:k<qs.length:=by have k5:(k:Int)<(qs.length:Int):=hM;omega
 have gl:=(fP Y [] oe).2;have hN:=Lm he;have hO:(qs.take (k+1)).map (·.2)=(qs.take k).map (·.2)++[(qs[k]'he).2]:=by rw[Ln he,Lv];rfl
 have gm:(qs[k]'he).2∉(qs.take k).map (·.2):=by
  have h1:((qs.take (k+1)).map (·.2)).Nodup:=by
   rw[List.map_take];exact((Yx (Y1 hok.co) h8).1.nd).sublist (List.take_sublist _ _)
  rw[hO]at h1;intro hm;exact(Ml.1 h1).2.2 _ hm _ (Lc.2 Z) Z
 have k9:((qs.take k).map (·.2)).length=k:=by rw[Lo,LH];omega
 refine Qf<|Qd<|Qn<|Ql<|xo (g:=YP) KO gl.arr Z Z he λpn gn=>?_;refine Zg (qs[k]'he) λq U=>?_;rw[U]at gn hN hO gm;have gq:=kz q.2 (LL hN);have gr:=gq.bd (m:=4096) (λa ha=>(Y1 hok.co a ha).st1);have po:q.2.length=c.co.length:=by rw[gq.1,k0]
 refine x (Qq gn Z)<|x Qe<|Qb<|ZK [] [oB 0,oB 1,oB 2,oB 3,oB 4,oB 6,oC 5,oC 7]<|p Qx<|p (YT Z)<|p (QH Z)<|pq (λ_ hc=>Qj (hw.J hc oe) rfl rfl) <|
  p Qx<|p Qx<|pk<|xg<|(Qcn ((gl.each q hN).I (xd.Y _ _)) ((h3.I hy).I (xd.Y _ _)) gr oa).S ?_
 rintro pp pt ⟨rfl,ma⟩;have hz:=(xd.Y [] gk).D ma;refine⟨hz,?_⟩;refine pkk<|YV (k:=Va q.2) (hJ.I hz) Z Z λmc gs mf=>pe ?_;have mg:xd [b10] V mc:=(Y.D hz).O gs oa;have gt:=hK.add gm (λx hx=>(gr x hx).1);rw[k9]at gt;refine Qr<|QC Z Z<|Qa<|xe ?_;exact⟨(k+1,xt mm (Va q.2) (sS (k:Int))),og,Lb,he,mg,((hw.I hz).J gs (by simp;omega)),mf,by simp only[];rw[hO];exact gt⟩
theorem zV {W:O6}{e:Nat}{v:O7}(h:W.ownsRow base e sz v n cs)(hc:JU [] W W'):W'.ownsRow base e sz v n cs :=
 ⟨h.1,h.2.imp id λ⟨g,cap,cur,h1,h2,G,I⟩=>⟨g,cap,cur,h1,h2,hc g _ oe G rfl,I⟩⟩
theorem JU.S {W:O6}(h:JU L W W')(G:∀b∈L,b∈L'):JU L' W W':=λk o I=>h k o (λJ=>I (G k J))
theorem JU.nonc {W:O6}(I:xd X W W')(hX:∀r∈X,∃o:Obj,W.heap[r]?=some o/\o.isCells=false):JU [] W W':=λk o _ G hc =>
 (I.block k (LM.1 G).1 (λhx=>by
  obtain⟨J,h1,h2⟩:=hX k hx;rw[G]at h1;cases h1;rw[hc]at h2;cases h2)).D G
theorem Yf.cst {I:xF}(h:∀W W',I W->JU [] W W'->W.heap.size<=↑W'->I W'):Yf B I:=λW W' _ hi G hX=>h W W' hi (JU.nonc G (λr J=>(hX r J).2)) G.size
theorem YL.cst {base:Nat}{av:LN}{W W':O6}{v:O7}{n sz:Nat}{cs:LV}(h:YL base av ↑W v n sz cs)(hc:Lg.JU [] W W')(G:W.heap.size<=↑W'):YL base av ↑W' v n sz cs:=λL I=>(h L I).cst (hc.S oe) G
abbrev Z5 (r:Rsn):LV:=[sS r.st,sS r.kd,sS r.ix,sS r.ev]
theorem QjB (r:Rsn):(Z5 r).length=4:=rfl
structure KK (base:Nat)(w:O6)(v1 v2 v3 v4:O7)(cos rqs:List TV)(pls:LI)(fbs:List Rsn):Prop where
 o1:w.ownsRow base 47 1 v1 cos.length (cos.flatMap YP)
 o2:w.ownsRow base 47 1 v2 rqs.length (rqs.flatMap YP)
 o3:Qh 3 base w v3 pls
 o4:w.ownsRow base 173 4 v4 fbs.length (fbs.flatMap Z5)
 d12:Dj v1 v2
 d13:Dj v1 v3
 d14:Dj v1 v4
 d23:Dj v2 v3
 d24:Dj v2 v4
 d34:Dj v3 v4
 e1:∀p∈cos,YL base (ob v1++(ob v2++(ob v3++ob v4))) ↑w p.1 p.2.length 1 (p.2.map (.int .i64))
 e2:∀p∈rqs,YL base (ob v1++(ob v2++(ob v3++ob v4))) ↑w p.1 p.2.length 1 (p.2.map (.int .i64))
theorem qV {v:O7}:Dj (nS) v:=λb hb=>by simp[ob]at hb
theorem KK.nil (base:Nat)(w:O6):KK base w (nS) (nS) (nS) (nS) [] [] [] []:=
 ⟨QM _ _ _ _,QM _ _ _ _,QM _ _ _ _,QM _ _ _ _,qV,qV,qV,qV,qV,qV,λp G=>(by cases G),λp G=>(by cases G)⟩
variable {w7 w8:O6}{v1 v2 v3 v4:O7}{cos rqs:List TV}{pls:LI}{fbs:List Rsn}
theorem KK.I (h:KK base w v1 v2 v3 v4 cos rqs pls fbs)(G:sW w w7):KK base w7 v1 v2 v3 v4 cos rqs pls fbs :=
 ⟨Qm h.o1 G,Qm h.o2 G,Qm h.o3 G,Qm h.o4 G,h.d12,h.d13,h.d14,h.d23,h.d24,h.d34,λp I=>(h.e1 p I).I G,λp I=>(h.e2 p I).I G⟩
theorem KK.low {X:LN}(h:KK base w v1 v2 v3 v4 cos rqs pls fbs)(G:xd X w w7)(hX:∀b∈X,b<base):KK base w7 v1 v2 v3 v4 cos rqs pls fbs:=by
 have k:∀{e sz n:Nat} {v:O7} {cs:LV},w.ownsRow base e sz v n cs->w7.ownsRow base e sz v n cs:=λo=>Qg o G (λb hb J=>ou (Qi o b hb).1 (hX b J));exact⟨k h.o1,k h.o2,k h.o3,k h.o4,h.d12,h.d13,h.d14,h.d23,h.d24,h.d34,λp I=>(h.e1 p I).low G hX,λp I=>(h.e2 p I).low G hX⟩
theorem KK.cst (h:KK base w v1 v2 v3 v4 cos rqs pls fbs)(hc:Lg.JU [] w w7)(I:w.heap.size<=↑w7):KK base w7 v1 v2 v3 v4 cos rqs pls fbs :=
 ⟨zV h.o1 hc,zV h.o2 hc,zV h.o3 hc,zV h.o4 hc,h.d12,h.d13,h.d14,h.d23,h.d24,h.d34,λp G=>(h.e1 p G).cst hc I,λp G=>(h.e2 p G).cst hc I⟩
theorem qW {a b G:O7}(h:Dj a b)(J:∀x∈ob G,x∈ob a\/n<=x)(hb:∀x∈ob b,x<n):Dj G b:=λx hx I=>by
 rcases J x hx with h1|h1
 ·exact h x h1 I
 have:=hb x I;omega
theorem VS {a b G:O7}(h:Dj a b)(I:∀x∈ob G,x∈ob b\/n<=x)(J:∀x∈ob a,x<n):Dj a G:=λx hx O=>by
 rcases I x O with h1|h1
 ·exact h x hx h1
 have:=J x hx;omega
theorem KK.lt (h:KK base w v1 v2 v3 v4 cos rqs pls fbs):(∀x∈ob v1,x<↑w)/\(∀x∈ob v2,x<↑w)/\(∀x∈ob v3,x<↑w)/\∀x∈ob v4,x<w.heap.size:=⟨QW h.o1,QW h.o2,QW h.o3,QW h.o4⟩
theorem Qdq {a b c d:LN}{x:Nat}(h:x∈a++(b++(c++d))):x∈a\/x∈b\/x∈c\/x∈d:=by simpa using h
theorem yZ {a b c d:LN}{x:Nat}(h:x∈a\/x∈b\/x∈c\/x∈d):x∈a++(b++(c++d)):=by simpa using h
theorem KK.a1 {e:Nat}{q:TV}(h:KK base w v1 v2 v3 v4 cos rqs pls fbs)(V:sW w w7)(Y:w7.ownsRow N e 1 q.1 q.2.length (q.2.map (.int .i64)))(ha:q.2.length<=1099511627776)(hN:↑w<=N)(hb:base<=↑w)(ho:w8.ownsRow base 47 1 v' (cos.length+1) (cos.flatMap YP++YP q))
  (O:xd (ob v1) w7 w8) (U:∀b∈ob v',b∈ob v1\/↑w7<=b):KK base w8 v' v2 v3 v4 (cos++[q]) rqs pls fbs:=by
 have l:=h.lt;have hz:=V.size;have I:=h.I V;have av:∀b∈ob v'++(ob v2++(ob v3++ob v4)),b∈ob v1++(ob v2++(ob v3++ob v4))\/↑w7<=b:=by
  intro b hb;rcases Qdq hb with h1|h1|h1|h1
  ·rcases U b h1 with h2|h2
   ·exact .inl (yZ (.inl h2))
   exact .inr h2
  ·exact .inl (yZ (.inr (.inl h1)))
  ·exact .inl (yZ (.inr (.inr (.inl h1))))
  exact .inl (yZ (.inr (.inr (.inr h1))))
 have st:xd (ob v1++(ob v2++(ob v3++ob v4))) w7 w8:=O.S (λb hb=>yZ (.inl hb));have g:∀{v:O7} {n sz:Nat} {cs:LV},YL base (ob v1++(ob v2++(ob v3++ob v4))) ↑w7 v n sz cs->YL base (ob v'++(ob v2++(ob v3++ob v4))) ↑w8 v n sz cs:=λa=>a.app st av;refine⟨by rw[Le,LJ];simpa using ho,Qg I.o2 O (λb hb J=>h.d12 b J hb),Qg I.o3 O (λb hb J=>h.d13 b J hb),Qg I.o4 O (λb hb J=>h.d14 b J hb),qW h.d12 U (λx hx=>oq (l.2.1 x hx)),qW h.d13 U (λx hx=>oq (l.2.2.1 x hx)),qW h.d14 U (λx hx=>oq (l.2.2.2 x hx)),h.d23,h.d24,h.d34,?_,?_⟩
 ·exact λp G=>by
   rcases Lk.1 G with G|G
   ·exact g (I.e1 p G)
   simp only[oH]at G;subst G;exact g (YL.of_own Y ha oa (λb hb=>by
   rcases Qdq hb with h1|h1|h1|h1
   ·have:=l.1 b h1;omega
   ·have:=l.2.1 b h1;omega
   ·have:=l.2.2.1 b h1;omega
   have:=l.2.2.2 b h1;omega))
 exact λp G=>g (I.e2 p G)
theorem KK.a2 {e:Nat}{q:TV}(h:KK base w v1 v2 v3 v4 cos rqs pls fbs)(V:sW w w7)(Y:w7.ownsRow N e 1 q.1 q.2.length (q.2.map (.int .i64)))(ha:q.2.length<=1099511627776)(hN:↑w<=N)(hb:base<=↑w)(ho:w8.ownsRow base 47 1 v' (rqs.length+1) (rqs.flatMap YP++YP q))
  (O:xd (ob v2) w7 w8) (U:∀b∈ob v',b∈ob v2\/↑w7<=b):KK base w8 v1 v' v3 v4 cos (rqs++[q]) pls fbs:=by
 have l:=h.lt;have hz:=V.size;have I:=h.I V;have av:∀b∈ob v1++(ob v'++(ob v3++ob v4)),b∈ob v1++(ob v2++(ob v3++ob v4))\/↑w7<=b:=by
  intro b hb;rcases Qdq hb with h1|h1|h1|h1
  ·exact .inl (yZ (.inl h1))
  ·rcases U b h1 with h2|h2
   ·exact .inl (yZ (.inr (.inl h2)))
   exact .inr h2
  ·exact .inl (yZ (.inr (.inr (.inl h1))))
  exact .inl (yZ (.inr (.inr (.inr h1))))
 have st:xd (ob v1++(ob v2++(ob v3++ob v4))) w7 w8:=O.S (λb hb=>yZ (.inr (.inl hb)));have g:∀{v:O7} {n sz:Nat} {cs:LV},YL base (ob v1++(ob v2++(ob v3++ob v4))) ↑w7 v n sz cs->YL base (ob v1++(ob v'++(ob v3++ob v4))) ↑w8 v n sz cs:=λa=>a.app st av;refine⟨Qg I.o1 O (λb hb J=>h.d12 b hb J),by rw[Le,LJ];simpa using ho,Qg I.o3 O (λb hb J=>h.d23 b J hb),Qg I.o4 O (λb hb J=>h.d24 b J hb),VS h.d12 U (λx hx=>oq (l.1 x hx)),h.d13,h.d14,qW h.d23 U (λx hx=>oq (l.2.2.1 x hx)),qW h.d24 U (λx hx=>oq (l.2.2.2 x hx)),h.d34,?_,?_⟩
 ·exact λp G=>g (I.e1 p G)
 exact λp G=>by
  rcases Lk.1 G with G|G
  ·exact g (I.e2 p G)
  simp only[oH]at G;subst G;exact g (YL.of_own Y ha oa (λb hb=>by
  rcases Qdq hb with h1|h1|h1|h1
  ·have:=l.1 b h1;omega
  ·have:=l.2.1 b h1;omega
  ·have:=l.2.2.1 b h1;omega
  have:=l.2.2.2 b h1;omega))
theorem KK.a3 {q:Int}(h:KK base w v1 v2 v3 v4 cos rqs pls fbs)(V:sW w w7)(Y:w8.ownsRow base 3 1 v' (pls.length+1) (pls.map (.int .i64)++[sS q]))
  (J:xd (ob v3) w7 w8) (O:∀b∈ob v',b∈ob v3\/↑w7<=b):KK base w8 v1 v2 v' v4 cos rqs (pls++[q]) fbs:=by
 have l:=h.lt;have hz:=V.size;have G:=h.I V;have av:∀b∈ob v1++(ob v2++(ob v'++ob v4)),b∈ob v1++(ob v2++(ob v3++ob v4))\/↑w7<=b:=by
  intro b hb;rcases Qdq hb with h1|h1|h1|h1
  ·exact .inl (yZ (.inl h1))
  ·exact .inl (yZ (.inr (.inl h1)))
  ·rcases O b h1 with h2|h2
   ·exact .inl (yZ (.inr (.inr (.inl h2))))
   exact .inr h2
  exact .inl (yZ (.inr (.inr (.inr h1))))
 have st:xd (ob v1++(ob v2++(ob v3++ob v4))) w7 w8:=J.S (λb hb=>yZ (.inr (.inr (.inl hb))));have g:∀{v:O7} {n sz:Nat} {cs:LV},YL base (ob v1++(ob v2++(ob v3++ob v4))) ↑w7 v n sz cs->YL base (ob v1++(ob v2++(ob v'++ob v4))) ↑w8 v n sz cs:=λa=>a.app st av;refine⟨Qg G.o1 J (λb hb I=>h.d13 b hb I),Qg G.o2 J (λb hb I=>h.d23 b hb I),Qh.snoc Y,Qg G.o4 J (λb hb I=>h.d34 b I hb),h.d12,VS h.d13 O (λx hx=>oq (l.1 x hx)),h.d14,VS h.d23 O (λx hx=>oq (l.2.1 x hx)),h.d24,qW h.d34 O (λx hx=>oq (l.2.2.2 x hx)),?_,?_⟩
 ·exact λp U=>g (G.e1 p U)
 exact λp U=>g (G.e2 p U)
theorem KK.a4 {q:Rsn}(h:KK base w v1 v2 v3 v4 cos rqs pls fbs)(V:sW w w7)(Y:w8.ownsRow base 173 4 v' (fbs.length+1) (fbs.flatMap Z5++Z5 q))
  (J:xd (ob v4) w7 w8) (O:∀b∈ob v',b∈ob v4\/↑w7<=b):KK base w8 v1 v2 v3 v' cos rqs pls (fbs++[q]):=by
 have l:=h.lt;have hz:=V.size;have G:=h.I V;have av:∀b∈ob v1++(ob v2++(ob v3++ob v')),b∈ob v1++(ob v2++(ob v3++ob v4))\/↑w7<=b:=by
  intro b hb;rcases Qdq hb with h1|h1|h1|h1
  ·exact .inl (yZ (.inl h1))
  ·exact .inl (yZ (.inr (.inl h1)))
  ·exact .inl (yZ (.inr (.inr (.inl h1))))
  rcases O b h1 with h2|h2
  ·exact .inl (yZ (.inr (.inr (.inr h2))))
  exact .inr h2
 have st:xd (ob v1++(ob v2++(ob v3++ob v4))) w7 w8:=J.S (λb hb=>yZ (.inr (.inr (.inr hb))));have g:∀{v:O7} {n sz:Nat} {cs:LV},YL base (ob v1++(ob v2++(ob v3++ob v4))) ↑w7 v n sz cs->YL base (ob v1++(ob v2++(ob v3++ob v'))) ↑w8 v n sz cs:=λa=>a.app st av;refine⟨Qg G.o1 J (λb hb I=>h.d14 b hb I),Qg G.o2 J (λb hb I=>h.d24 b hb I),Qg G.o3 J (λb hb I=>h.d34 b hb I),by rw[Le,LJ];simpa using Y,h.d12,h.d13,VS h.d14 O (λx hx=>oq (l.1 x hx)),h.d23,VS h.d24 O (λx hx=>oq (l.2.1 x hx)),VS h.d34 O (λx hx=>oq (l.2.2.1 x hx)),?_,?_⟩
 ·exact λp U=>g (G.e1 p U)
 exact λp U=>g (G.e2 p U)
theorem Qar (c:ZO)(pl:Qz)(ps:List (LI)):∀(l:List (LI)) (i:Nat) (s:Spc),(l.zipIdx i).foldl (QpY c pl ps) s =
  ⟨s.a,s.co++l.map (·.take c.co.length),s.rq++l.map (·.drop c.co.length),s.pl++l.map (λt=>plx ps (t.take c.co.length)),s.fb++(l.zipIdx i).filterMap (λp=>rsn c pl (plx ps (p.1.take c.co.length)) p.2 p.1)⟩
 | [],i,s=>oe
 | t::l,i,s=>by
  rw[NO,LP,Qar c pl ps l (i+1)];unfold QpY;simp only[oU,Om,Og,Ox,List.filterMap_cons];cases rsn c pl (plx ps (t.take c.co.length)) i t with
  | none=>rfl
  | some r=>simp
theorem yu {c:ZO}{rs:LI}:∀{l:LI},(∀x∈wrf c.rq rs l,(c.ev.getD x.1.toNat ⟨.empty,false,false,false,0⟩).co=true)->rfd c rs l=none
 | [],_=>rfl
 | v::l,h=>by
  rw[wrf]at h;rw[rfd];by_cases h1:0<=rfr v 0 c.rq rs
  ·rw[OZ h1]at h;have h2:=h _ Lj;rw[OY (λe=>by rw[h2]at e;cases e.2)];exact yu λx hx=>h x (Lh _ hx)
  rw[OY h1]at h;rw[OY (λe=>h1 e.1)];exact yu h
theorem yt {c:ZO}{rs:LI}{x:Int×Int}{t:xD}:∀{l:LI}{p:xD},wrf c.rq rs l=p++x::t->(∀y∈p,(c.ev.getD y.1.toNat ⟨.empty,false,false,false,0⟩).co=true)->(c.ev.getD x.1.toNat ⟨.empty,false,false,false,0⟩).co=false->rfd c rs l=some (x.2,x.1)
 | [],p,h,_,_=>by simp[wrf]at h
 | v::l,p,h,G,hx=>by
  rw[wrf]at h;rw[rfd];by_cases h1:0<=rfr v 0 c.rq rs
  ·rw[OZ h1]at h;cases p with
   | nil =>
    simp only[Ox,List.cons.injEq]at h;obtain⟨h2,_⟩:=h;subst h2;rw[OZ ⟨h1,hx⟩]
   | cons y p =>
    simp only[Og,List.cons.injEq]at h;obtain⟨h2,J⟩:=h;have I:=G y Lj;subst h2;rw[OY (λe=>by simp only[]at I;rw[I]at e;cases e.2)];exact yt J (λy O=>G y (Lh _ O)) hx
  rw[OY h1]at h;rw[OY (λe=>h1 e.1)];exact yt h G hx
theorem Qi4 (c:ZO)(t:LI):vio c t=if(Uy c.ex c.cs t).2.2=true then some ((Uy c.ex c.cs t).1,(Uy c.ex c.cs t).2.1) else none:=by
 unfold vio Uy;by_cases h1:0<=fix (Ua t) 0 c.ex
 ·rw[OZ h1,OZ h1];rfl
 rw[OY h1,OY h1];by_cases h2:0<=fix (qr t) 0 c.cs
 ·rw[OZ h2,OZ h2];rfl
 rw[OY h2,OY h2];rfl
def QtU (N:Nat)(H:xG)(v:O7)(s:Spc):Prop:=∃va vm ve v1 v2 v3 v4 cos rqs,v=.agg #[va,sS s.a.st,vm,ve,v1,v2,v3,v4]/\cos.map (·.2)=s.co/\rqs.map (·.2)=s.rq /\
 ∀L:LN,(∀b∈L,b<N)->Zv L H va vm ve s.a/\JS L H v1 cos/\JS L H v2 rqs/\Qu L H v3 s.pl/\Zw L H v4 s.fb.length 4 (s.fb.flatMap Z5)
open Go.RowKit
def Qfl (all:Array Oper)(i:Nat)(rest:xA):xA->Array Bool->Bool
 | [],ls=>Region.ready .any all ls == [i] && Xp all rest (ls.setIfInBounds i true)
 | (j,true)::l,ls=>(Region.ready .any all ls).contains j && Region.free .any all ls j && Qfl all i rest l (ls.setIfInBounds j true)
 | (j,false)::l,ls=>!(Region.ready .any all ls).isEmpty && (Region.ready .any all ls).all (λk=>k == j || k == i) && Xp all ((j,false)::(l++rest)) (ls.setIfInBounds i true) && Qfl all i rest l (ls.setIfInBounds j true)
def XX (all:xI)(d:Nat)(l:xA):Bool:=l.all λp=>!((QR all p.1).looksAt all.toArray).contains d && !((QR all p.1).dst == some d)
def Qoy (all:xI)(pre l:xA)(i:Nat)(rest:xA):Bool :=
 Region.noSelect all.toArray && (pre.length+(l.length+1+rest.length) == all.length) && Jq all.toArray pre (oR all.length false) && Qfl all.toArray i rest l (ZU pre (oR all.length false))
  && (QR all i).guard.isNone && (match (QR all i).dst with|some d=>XX all d l|none=>false)
def XF (P:O9)(all:xI)(C:xF)(K:xE):xA->LN->Fr->O6->Prop
 | [],_,f,w=>K f w
 | (j,true)::l,own,f,w=>Yb all f (QR all j)=true/\∃v,(∀w',(j5 (QR all j)=true->C w')->(execOp (ev f) (QR all j)).run P w'=.ok (.value v) w')/\XF P all C K l own (QP f (QR all j).dst v) w
 | (j,false)::l,own,f,w=>Yb all f (QR all j)=true/\∀w1,sW w w1->C w1->XO P (QR all j) f w1 λG w'=>C w'/\∃own',xd own w1 w'/\(∀b∈own',b∈own\/(↑w1<=b/\b<↑w'))/\XF P all C K l own' G w'
section
variable {all:xI}{C:xF}{KF:xE}
attribute [local semireducible] XO in
theorem Qpa {o:Oper}(I:∀cs b,o.op≠.select cs b){d:Nat}{v:O7}{K':xE}(h1:d∉o.looksAt all.toArray)(h2:o.dst≠some d)(hK:∀u w',K (QP f o.dst u) w'->K' (QP (QP f o.dst u) (some d) v) w')
  (h:XO P o f w K):XO P o (QP f (some d) v) w K':=by
 have hc:∀u,QP (QP f (some d) v) o.dst u=QP (QP f o.dst u) (some d) v:=λu=>qG f v u (λe G=>by cases G;exact h2);unfold XO at *;rw[J2 (all:=all) I f (some d) v (λe G=>by cases G;exact h1)];generalize (execOp (ev f) o).run P w=r at *;cases r with
 | ok nx w' =>
  cases nx <;> simp only[upF]at h ⊢
  case value u=>rw[hc];exact hK u w' h
  case skip=>rw[hc];exact hK _ w' h
  case enter g args =>
   refine Calls.mono h λe J G=>?_;cases e with
   | returned u=>simp only at G ⊢;rw[hc];exact hK u J G
   | panicked c=>exact G.elim
   | outgrown=>exact G.elim
 | halt x w'=>exact h.elim
theorem yU {D:xC}{f0:Fr}{dst:xJ}{v:O7}(hd:inD D dst=true)(h:∀t,Kg D t=false->f t=f0 t):∀t,Kg D t=false->QP f dst v t=f0 t:=λt ht =>
 (Xe (λe=>by rw[e]at hd;simp only[inD]at hd;rw[hd]at ht;cases ht) v).D (h t ht)
def Xz (all:xI)(D:xC)(l:xA):Bool:=l.all λp=>inD D (QR all p.1).dst
theorem XP.keeps {D:xC}{f0:Fr}:∀(l:xA) (f:Fr) (w:O6),Xz all D l=true->(∀t,Kg D t=false->f t=f0 t)->XP P all C K l f w->XP P all C (λJ w'=>(∀t,Kg D t=false->J t=f0 t)/\K J w') l f w
 | [],f,w,_,G,h=>by simp only[XP]at h ⊢;exact⟨G,h⟩
 | (j,q)::l,f,w,hd,G,h=>by
  simp only[Xz,Oh,oK]at hd;have I:Xz all D l=true:=hd.2;simp only[XP]at h ⊢;cases O:Yb all f (QR all j) with
  | false=>rw[O]at h;exact XP.keeps l _ _ I (yU hd.1 G) h
  | true =>
   rw[O]at h;cases q with
   | true=>obtain⟨v,U,hx⟩:=h;exact⟨v,U,XP.keeps l _ _ I (yU hd.1 G) hx⟩
   | false=>exact XO.S (λv w' hx=>⟨hx.1,XP.keeps l _ _ I (yU hd.1 G) hx.2⟩) h
theorem fp {l:xA}{own:LN}{v:O7}(G:∀w',(execOp (ev f) (QR all j)).run P w'=.ok (.value v) w')(h:XF P all C K l own (QP f (QR all j).dst v) w)
  (I:Yb all f (QR all j)=true:=by rfl):XF P all C K ((j,true)::l) own f w:=⟨I,v,λw' _=>G w',h⟩
theorem fk {l:xA}{own:LN}(h:∀w1,sW w w1->C w1->XO P (QR all j) f w1 λG w'=>C w'/\∃own',xd own w1 w'/\(∀b∈own',b∈own\/(↑w1<=b/\b<↑w'))/\XF P all C K l own' G w')
  (I:Yb all f (QR all j)=true:=by rfl):XF P all C K ((j,false)::l) own f w:=⟨I,h⟩
end
attribute [irreducible] XF
def zF (P:O9)(all:xI)(K:xF->LN->Fr->O6->Prop):xA->xF->LN->Fr->O6->Prop
 | [],C,own,f,w=>K C own f w
 | (j,true)::l,C,own,f,w=>Yb all f (QR all j)=true/\∃v,(∀w',(j5 (QR all j)=true->C w')->(execOp (ev f) (QR all j)).run P w'=.ok (.value v) w')/\zF P all K l C own (QP f (QR all j).dst v) w
 | (j,false)::l,C,own,f,w=>Yb all f (QR all j)=true/\∀w1,sW w w1->C w1->XO P (QR all j) f w1 λG w'=>∃C':xF,(∀x,C' x->C x)/\(∀x x',C' x->sW x x'->C' x')/\C' w'/\∃own',xd own w1 w'/\(∀b∈own',b∈own\/(↑w1<=b/\b<↑w'))/\zF P all K l C' own' G w'
section
variable {all:xI}{C C0:xF}{KF:xF->LN->Fr->O6->Prop}
theorem zF.I (hK:∀C own f w w',KF C own f w->sW w w'->KF C own f w'):∀{l:xA}{C:xF}{own:LN}{f:Fr}{w w':O6},zF P all KF l C own f w->sW w w'->zF P all KF l C own f w'
 | [],_,_,_,_,_,h,G=>hK _ _ _ _ _ h G
 | (_,true)::_,_,_,_,_,_,h,G=>by
  obtain⟨I,v,J,hx⟩:=h;exact⟨I,v,J,zF.I hK hx G⟩
 | (_,false)::_,_,_,_,_,_,h,G=>⟨h.1,λO h1 hc=>h.2 O (G.D h1) hc⟩
attribute [local semireducible] XA XO in
theorem XA.sub {C':xF}(hC:∀x,C' x->C x):∀(k:Nat) (ls:Array Bool) (f:Fr) (w:O6),XA P all C' K k ls f w->XA P all C K k ls f w
 | 0,_,_,_,h=>h
 | k+1,ls,f,w,h=>by
  refine⟨h.1,λi hi o I=>?_⟩;have h2:=h.2 i hi o I;cases G:Yb all f o with
  | false=>rw[G]at h2;exact XA.sub hC k _ _ _ h2
  | true =>
   rw[G]at h2;exact XO.S (λJ w' hx=>⟨hx.1.imp id (Or.imp id (hC w')),XA.sub hC k _ _ _ hx.2⟩) h2
structure Fl3 (P:O9)(all:xI)(C0:xF)(K:xE)(KF:xF->LN->Fr->O6->Prop)(i d:Nat)(rest:xA)(Φ:O7->O6->Prop)(Dc:xC)(f1:Fr):Prop where
 stab:∀v (own:LN) w w',Φ v w->xd own w w'->(∀b∈ow v,b∉own)->Φ v w'
 spec:∀f w,(∀t,Kg Dc t=false->f t=f1 t)->C0 w->XO P (QR all i) f w λf' w'=>sW w w'/\C0 w'/\Φ (f' d) w'/\∀b∈ow (f' d),↑w<=b/\b<↑w'
 fin:∀C own f w,KF C own f w->∀v,C w->(∀x,C x->C0 x)->Φ v w->(∀b∈ow v,b∉own/\b<↑w)->XP P all C K rest (QP f (some d) v) w
 S:∀C own f w w',KF C own f w->sW w w'->KF C own f w'
theorem QaC:∀(l:xI) (j:Nat),l[j]?=none->QR l j=default
 | [],_,_=>rfl
 | _::l,0,h=>by simp at h
 | _::l,j+1,h=>QaC l j (ox h)
theorem Qdh (I:Region.noSelect all.toArray=true)(j:Nat):∀cs b,(QR all j).op≠.select cs b:=by
 intro cs b;cases G:all[j]? with
 | none=>rw[QaC all j G];intro e;cases e
 | some o=>rw[ZF G];exact Region.noSelect_spec I j o cs b (ox G)
theorem QfH {i d:Nat}{rest:xA}{Φ:O7->O6->Prop}{Dc:xC}{f1:Fr}(hF:Fl3 P all C0 K KF i d rest Φ Dc f1)(J:Region.noSelect all.toArray=true){v:O7}:∀(l:xA) (C:xF) (own:LN) (ls:Array Bool) (f:Fr) (w:O6),(∀x,C x->C0 x)->(∀x x',C x->sW x x'->C x')->ls.size=all.length->XX all d l=true->zF P all KF l C own f w->C w->Φ v w ->
  (∀b∈ow v,b∉own/\b<↑w)->Xp all.toArray (l++rest) ls=true->XA P all C K (l++rest).length ls (QP f (some d) v) w
 | [],C,own,ls,f,w,O,hh,U,_,h,hC,V,hb,I=>Yt J rest ls _ w U (.inl hC) I (hF.fin C own f w h v hC O V hb)
 | (j,true)::l,C,own,ls,f,w,O,hh,U,hfr,h,hC,V,hb,I=>by
  simp only[XX,Oh,oK,Ol,List.contains_eq_mem,decide_eq_false_iff_not,beq_eq_false_iff_ne,ne_eq]at hfr;obtain⟨⟨h1,h2⟩,hfr⟩:=hfr;have hn:XX all d l=true:=by simpa[XX]using hfr
  have hd:∀e,some d=some e->e∉(QR all j).looksAt all.toArray:=λe Y=>by cases Y;exact h1
  simp only[Og,Xp,oK]at I;obtain⟨⟨hr,hf⟩,hq⟩:=I;have h5:j∈Region.ready .any all.toArray ls:=by simpa using hr
  obtain⟨hg,u,hu,hx⟩:=h;cases G:all[j]? with
  | none =>
   exfalso;obtain⟨_,o,h9,_⟩:=mem_ready.1 h5;simp[G]at h9
  | some o =>
   have hA:∀(j:Nat) (o:Oper) cs b,all[j]?=some o->o.op≠.select cs b:=λj o cs b hj=>Region.noSelect_spec J j o cs b (ox hj);have hB:=λk ok hk=>Region.free_spec (ops:=all.toArray) (md:=.any) (i:=j) (oi:=o) (listed:=ls) (ox G) hf k ok (ox hk);have hw:Yb all (QP f (some d) v) o=true:=by
    have:=U2 (QR all j) f (some d) v hd;rw[ZF G]at this hg;rw[this];exact hg
   have hD:∀w',(j5 o=true->C w')->(execOp (ev (QP f (some d) v)) o).run P w'=.ok (.value u) w':=λw' hc=>by
    have:=J2 (all:=all) (Qdh J j) f (some d) v hd;rw[ZF G]at this hu;rw[this];exact hu w' hc
   have h6:=QfH hF J l C own (ls.setIfInBounds j true) _ w O hh (ox U) hn hx hC V hb hq;rw[<-qG f v u (λe Y=>by cases Y;exact h2),ZF G]at h6;exact KJ (v:=u) (D:=λw=>j5 o=true->C w) G (λ_ h=>h) hA _ ls _ w (λ_=>hC) hB h5 (.inl ⟨hw,hD⟩) h6
 | (j,false)::l,C,own,ls,f,w,O,hh,U,hfr,h,hC,V,hb,I=>by
  simp only[XX,Oh,oK,Ol,List.contains_eq_mem,decide_eq_false_iff_not,beq_eq_false_iff_ne,ne_eq]at hfr;obtain⟨⟨h1,h2⟩,hfr⟩:=hfr;have hn:XX all d l=true:=by simpa[XX]using hfr
  have hd:∀e,some d=some e->e∉(QR all j).looksAt all.toArray:=λe Y=>by cases Y;exact h1
  simp only[Og,Xp,oK,beq_iff_eq]at I;obtain⟨hr,hq⟩:=I;show XA P all C K ((l++rest).length+1) ls _ w;refine J8 (λh0=>(by rw[h0]at hr;cases hr)) ?_;rw[hr];intro k hk o G;have hE:k=j:=by simpa using hk
  subst hE;have hy:=ZF G;have hw:Yb all (QP f (some d) v) o=true:=by
   have:=U2 (QR all k) f (some d) v hd;rw[hy]at this;rw[this,<-hy];exact h.1
  rw[hw,cond_true];have h3:=h.2 w (xd.C _ _) hC;have h4:XO P (QR all k) (QP f (some d) v) w λf' w'=>(Vu all k=true\/w'=w\/C w')/\XA P all C K (l++rest).length (ls.setIfInBounds k true) f' w':=by
   refine Qpa (all:=all) (Qdh J k) h1 h2 (λu w' hx=>?_) h3;obtain⟨C',hz,hG,h7,own',h8,hH,hx⟩:=hx;refine⟨.inr (.inr (hz _ h7)),XA.sub hz _ _ _ _ (QfH hF J l C' own' _ _ w' (λx hx=>O x (hz x hx)) hG (ox U) hn hx h7 (hF.stab v own w w' V h8 (λb ha=>(hb b ha).1)) (λb ha=>⟨λhm=>?_,LX (hb b ha).2 h8.size⟩) hq)⟩;rcases hH b hm with h3|h3
   ·exact(hb b ha).1 h3
   exact Nat.lt_irrefl _ (LX (hb b ha).2 h3.1)
  rw[hy]at h4;exact h4
theorem QfF {i d:Nat}{rest:xA}{Φ:O7->O6->Prop}{Dc:xC}{f1:Fr}(O:Fl3 P all C0 K KF i d rest Φ Dc f1)(hs:Region.noSelect all.toArray=true)(hg:(QR all i).guard=none)(hd:(QR all i).dst=some d):∀(l:xA) (C:xF) (ls:Array Bool) (own:LN) (f:Fr) (w:O6),(∀x,C x->C0 x)->(∀x x',C x->sW x x'->C x')->ls.size=all.length->XX all d l=true->Xz all Dc l=true->(∀t,Kg Dc t=false->f t=f1 t) ->
  zF P all KF l C own f w->C w->(∀b∈own,b<↑w)->Qfl all.toArray i rest l ls=true->XA P all C K (l.length+1+rest.length) ls f w
 | [],C,ls,own,f,w,U,ha,hh,hfr,V,hk1,h,hC,he,G=>by
  simp only[Qfl,oK,beq_iff_eq]at G;obtain⟨Y,G⟩:=G;rw[show([]:xA).length+1+rest.length=rest.length+1 by simp;omega];refine J8 (λh0=>(by rw[h0]at Y;cases Y)) ?_;rw[Y];intro k hk o I;have hq:k=i:=by simpa using hk
  subst hq;have hn:=ZF I;have hx:=O.spec f w hk1 (U _ hC);rw[hn]at hg hd hx;rw[jc hg,cond_true];refine hx.S λv w' hx=>?_;rw[hd]at hx ⊢;obtain⟨h1,_,J,h4⟩:=hx;simp only[QP,Ja]at J h4;have h2:=ha _ _ hC h1;refine⟨.inr (.inr h2),Yt hs rest _ _ _ (ox hh) (.inl h2) G (O.fin C own f w' (O.S C own f w w' h h1) v h2 U J (λb hb=>⟨λhm=>Nat.lt_irrefl _ (LX (he b hm) (h4 b hb).1),(h4 b hb).2⟩))⟩
 | (j,true)::l,C,ls,own,f,w,U,ha,hh,hfr,V,hk1,h,hC,he,G=>by
  simp only[Qfl,oK]at G;obtain⟨⟨Y,hf⟩,hu⟩:=G;have h5:j∈Region.ready .any all.toArray ls:=by simpa using Y
  have e:(oY ((j,true)::l))+1+rest.length=(l.length+1+rest.length)+1:=by simp;omega
  rw[e];have hw:XX all d l=true:=by simp only[XX,Oh,oK]at hfr;exact hfr.2
  simp only[Xz,Oh,oK]at V;have hy:Xz all Dc l=true:=V.2;cases I:all[j]? with
  | none =>
   exfalso;obtain⟨_,o,hA,_⟩:=mem_ready.1 h5;simp[I]at hA
  | some o =>
   obtain⟨h6,v,hv,hx⟩:=h;rw[ZF I]at h6 hv hx;have hB:∀(j:Nat) (o:Oper) cs b,all[j]?=some o->o.op≠.select cs b:=λj o cs b hj=>Region.noSelect_spec hs j o cs b (ox hj);have hD:=λk ok hk=>Region.free_spec (ops:=all.toArray) (md:=.any) (i:=j) (oi:=o) (listed:=ls) (ox I) hf k ok (ox hk);exact KJ (v:=v) (D:=λw=>j5 o=true->C w) I (λ_ h=>h) hB _ ls f w (λ_=>hC) hD h5 (.inl ⟨h6,hv⟩) (QfF O hs hg hd l C _ own _ w U ha (ox hh) hw hy (by have:=yU (v:=v) V.1 hk1;rw[ZF I]at this;exact this) hx hC he hu)
 | (j,false)::l,C,ls,own,f,w,U,ha,hh,hfr,V,hk1,h,hC,he,G=>by
  simp only[Qfl,oK,Ou,Bool.or_eq_true,beq_iff_eq,Ol]at G;obtain⟨⟨⟨h7,Y⟩,hE⟩,hu⟩:=G;have e:(oY ((j,false)::l))+1+rest.length=(l.length+1+rest.length)+1:=by simp;omega
  rw[e];have hw:XX all d l=true:=by simp only[XX,Oh,oK]at hfr;exact hfr.2
  simp only[Xz,Oh,oK]at V;have hy:Xz all Dc l=true:=V.2;refine J8 (λh0=>(by rw[h0]at h7;cases h7)) ?_;intro k hk o I;have hn:=ZF I;have h8:(ls.setIfInBounds k true).size=all.length:=by simpa using hh
  by_cases hq:k=i
  ·subst hq;have hx:=O.spec f w hk1 (U _ hC);rw[hn]at hg hd hx;rw[jc hg,cond_true];refine hx.S λv w' hx=>?_;rw[hd]at hx ⊢;obtain⟨h1,_,J,h4⟩:=hx;simp only[QP,Ja]at J h4;have h2:=ha _ _ hC h1;refine⟨.inr (.inr h2),?_⟩;have hx:=QfH O hs ((j,false)::l) C own (ls.setIfInBounds k true) f w' U ha h8 hfr (zF.I O.S h h1) h2 J (λb hb=>⟨λhm=>Nat.lt_irrefl _ (LX (he b hm) (h4 b hb).1),(h4 b hb).2⟩) hE;rw[show((j,false)::l++rest).length=l.length+1+rest.length by simp;omega]at hx;exact hx
  have hG:k=j:=(Y k hk).resolve_right hq;subst hG;have h1:=h.1;have h2:=h.2 w (xd.C _ _) hC;rw[hn]at h1 h2;rw[h1,cond_true];refine h2.S λv w' hx=>?_;obtain⟨C',hz,hH,h9,own',hI,hJ,hx⟩:=hx;refine⟨.inr (.inr (hz _ h9)),XA.sub hz _ _ _ _ (QfF O hs hg hd l C' _ own' _ w' (λx hx=>U x (hz x hx)) hH h8 hw hy (by have:=yU (v:=v) V.1 hk1;rw[hn]at this;exact this) hx h9 (λb hb=>?_) hu)⟩;rcases hJ b hb with J|J
  ·exact LX (he b J) hI.size
  exact J.2
theorem zF.keeps {D:xC}{f0:Fr}:∀(l:xA) (C:xF) (own:LN) (f:Fr) (w:O6),Xz all D l=true->(∀t,Kg D t=false->f t=f0 t)->zF P all KF l C own f w->zF P all (λC' o I w'=>(∀t,Kg D t=false->I t=f0 t)/\KF C' o I w') l C own f w
 | [],C,own,f,w,_,G,h=>⟨G,h⟩
 | (j,true)::l,C,own,f,w,hd,G,h=>by
  simp only[Xz,Oh,oK]at hd;obtain⟨J,v,O,hx⟩:=h;exact⟨J,v,O,zF.keeps l C own _ _ hd.2 (yU hd.1 G) hx⟩
 | (j,false)::l,C,own,f,w,hd,G,h=>by
  simp only[Xz,Oh,oK]at hd;refine⟨h.1,λU h1 hc=>XO.S (λv w' hx=>?_) (h.2 U h1 hc)⟩;obtain⟨C',V,Y,ha,own',he,hh,hx⟩:=hx;exact⟨C',V,Y,ha,own',he,hh,zF.keeps l C' own' _ _ hd.2 (yU hd.1 G) hx⟩
theorem f3p {l:xA}{own:LN}{v:O7}(G:∀w',(execOp (ev f) (QR all j)).run P w'=.ok (.value v) w')(h:zF P all KF l C own (QP f (QR all j).dst v) w)
  (I:Yb all f (QR all j)=true:=by rfl):zF P all KF ((j,true)::l) C own f w:=⟨I,v,λw' _=>G w',h⟩
theorem QfG (C:xF)(pre l:xA)(i d:Nat)(rest:xA)(own:LN)(D Dc:xC)(S:α->List (Nat×O7))(I:α->xF->LN->O6->Prop)(Φ:O7->O6->Prop)
  (Y:Qoy all pre l i rest=true) (U:(Xz all D pre && Xz all D l && Xz all Dc l)=true) (hd:(QR all i).dst=some d) (hC:C { w with drawn:=w.drawn+1 }) (ha:∀x x',C x->sW x x'->C x') (he:∀b∈own,b<↑w)
  (stab:∀v (own:LN) w w',Φ v w->xd own w w'->(∀b∈ow v,b∉own)->Φ v w') (mono:∀z C own w w',I z C own w->sW w w'->I z C own w')
  (fin:∀z g own w v (C':xF),I z C' own w->C' w->(∀x,C' x->C x)->Φ v w->(∀b∈ow v,b∉own/\b<↑w)->XP P all C' K rest (QP (Uc (S z) (mix D f g)) (some d) v) w)
  (h:XP P all C (λf1 _=>(∀g w,C w->XO P (QR all i) (mix Dc f1 g) w λG w'=>sW w w'/\C w'/\Φ (G d) w'/\∀b∈ow (G d),↑w<=b/\b<↑w')/\zF P all (λC' o G w'=>∃z,Xd G (S z)/\I z C' o w') l C own f1 { w with drawn:=w.drawn+1 }) pre f { w with drawn:=w.drawn+1 }):XA P all C K all.length (oR all.length false) f { w with drawn:=w.drawn+1 }:=by
 rw[LD,LD]at U;simp only[Qoy,oK,beq_iff_eq,Option.isNone_iff_eq_none]at Y;obtain⟨⟨⟨⟨⟨J,hl⟩,hq⟩,hgo⟩,hg⟩,hfr⟩:=Y;rw[hd]at hfr;have h1:=YM (K:=K) (m:=l.length+1+rest.length) J pre (oR all.length false) f _ hC hq
  (B:=λf1 _=>Fl3 P all C K (λC' o G w'=>(∀t,Kg D t=false->G t=f t)/\∃z,Xd G (S z)/\I z C' o w') i d rest Φ Dc f1/\zF P all (λC' o G w'=>(∀t,Kg D t=false->G t=f t)/\∃z,Xd G (S z)/\I z C' o w') l C own f1 { w with drawn:=w.drawn+1 })
  (λf1 hB=>QfF hB.1 J hg hd l C (ZU pre (oR all.length false)) own f1 _ (λ_ h=>h) ha (by rw[YR];simp) hfr U.2 (λ_ _=>rfl) hB.2 hC he hgo)
  (XP.keeps_mono _ _ _ (XP.keeps pre f _ U.1.1 (λ_ _=>Z) h) (λf1 w1 hx=>⟨⟨stab,?_,?_,?_⟩,zF.keeps l C own _ _ U.1.2 hx.1 hx.2.2⟩))
 ·rw[hl]at h1;exact h1
 ·intro G w' O V;have:=hx.2.1 G w' V;rw[Vp O]at this;exact this
 ·rintro C' o G w' ⟨O,z,J,hi⟩ v V hf hv hb;have:=fin z G o w' v C' hi V hf hv hb;rw[Vp O,XQ J]at this;exact this
 rintro C' o G w' hj ⟨O,z,J,hi⟩ hh;exact⟨O,z,J,mono z C' o _ _ hi hh⟩
theorem f2k {l:xA}{own:LN}(h:∀G,sW w G->C G->XO P (QR all j) f G λI w'=>C w'/\∃own',xd own G w'/\(∀b∈own',b∈own\/(↑G<=b/\b<↑w'))/\zF P all KF l C own' I w')
  (J:Yb all f (QR all j)=true:=by rfl) (O:∀x x',C x->sW x x'->C x':=by exact λ_ _ h1 h2=>h1.D h2):zF P all KF ((j,false)::l) C own f w :=
 ⟨J,λG h1 hc=>XO.S (λ_ _ hx=>⟨C,λ_ h=>h,O,hx⟩) (h G h1 hc)⟩
theorem f2e {own:LN}{S:α->List (Nat×O7)}{I:α->LN->O6->Prop}(h:∃z,Xd f (S z)/\I z own w):zF P all (λC' o G w'=>∃z,Xd G (S z)/\(C'=C/\I z o w')) [] C own f w :=
 let⟨z,a,b⟩:=h
 ⟨z,a,Z,b⟩
theorem Uq (C:xF)(pre l:xA)(i d:Nat)(rest:xA)(own:LN)(D Dc:xC)(S:α->List (Nat×O7))(I:α->LN->O6->Prop)(Φ:O7->O6->Prop)
  (J:Qoy all pre l i rest=true) (O:(Xz all D pre && Xz all D l && Xz all Dc l)=true) (hd:(QR all i).dst=some d) (hC:C { w with drawn:=w.drawn+1 }) (U:∀b∈own,b<↑w)
  (stab:∀v (own:LN) w w',Φ v w->xd own w w'->(∀b∈ow v,b∉own)->Φ v w') (mono:∀z own w w',I z own w->sW w w'->I z own w')
  (fin:∀z g own w v,I z own w->C w->Φ v w->(∀b∈ow v,b∉own/\b<↑w)->XP P all C K rest (QP (Uc (S z) (mix D f g)) (some d) v) w)
  (h:XP P all C (λf1 _=>(∀g w,C w->XO P (QR all i) (mix Dc f1 g) w λG w'=>sW w w'/\C w'/\Φ (G d) w'/\∀b∈ow (G d),↑w<=b/\b<↑w')/\zF P all (λC' o G w'=>∃z,Xd G (S z)/\(C'=C/\I z o w')) l C own f1 { w with drawn:=w.drawn+1 }) pre f { w with drawn:=w.drawn+1 })
  (V:∀x x',C x->sW x x'->C x':=by exact λ_ _ h1 h2=>h1.D h2):XA P all C K all.length (oR all.length false) f { w with drawn:=w.drawn+1 }:=
 QfG C pre l i d rest own D Dc S (λz C' o w=>C'=C/\I z o w) Φ J O hd hC V U stab (λz _ o w w' h Y=>⟨h.1,mono z o w w' h.2 Y⟩)
  (λz g o w v C' h ha _ hv hb=>by obtain⟨rfl,hi⟩:=h;exact fin z g o w v hi ha hv hb) h
theorem QiH {Q:Exit->Fr->O6->Prop}(C:xF)(pre l:xA)(i d:Nat)(rest:xA)(own:LN)(D Dc:xC)(S:α->List (Nat×O7))(I:α->LN->O6->Prop)(Φ:O7->O6->Prop)(J:P.follows .mixedOrders=true)(O:XG n all=true)
  (U:Qoy all pre l i rest=true) (V:(Xz all D pre && Xz all D l && Xz all Dc l)=true) (hd:(QR all i).dst=some d) (hC:C { w with drawn:=w.drawn+1 }) (Y:∀b∈own,b<↑w)
  (stab:∀v (own:LN) w w',Φ v w->xd own w w'->(∀b∈ow v,b∉own)->Φ v w') (mono:∀z own w w',I z own w->sW w w'->I z own w')
  (fin:∀z g own w v,I z own w->C w->Φ v w->(∀b∈ow v,b∉own/\b<↑w)->XP P all C (λf w=>Q .normal f w) rest (QP (Uc (S z) (mix D f g)) (some d) v) w)
  (h:XP P all C (λf1 _=>(∀g w,C w->XO P (QR all i) (mix Dc f1 g) w λG w'=>sW w w'/\C w'/\Φ (G d) w'/\∀b∈ow (G d),↑w<=b/\b<↑w')/\zF P all (λC' o G w'=>∃z,Xd G (S z)/\(C'=C/\I z o w')) l C own f1 { w with drawn:=w.drawn+1 }) pre f { w with drawn:=w.drawn+1 })
  (ha:∀x x',C x->sW x x'->C x':=by exact λ_ _ h1 h2=>h1.D h2):W P n (.region id all.toArray true) Q f w :=
 JO C J O (Uq C pre l i d rest own D Dc S I Φ U V hd hC Y stab mono fin h ha)
end
attribute [irreducible] zF
abbrev Vo:LV:=[nS,nS,nS,nS,nS]
abbrev zB:LV:=[nS,sS 0,nS,nS]
theorem JB {a:Array UInt8}(h:a.size<=100):(⟨a⟩:ByteArray).size<=9223372036854775807:=by
 show a.size<=_;omega
def rgB (N M:Nat):LN:=(oM M).filter λb=>decide (N<=b)
theorem UT {M b:Nat}:b∈rgB N M↔N<=b/\b<M:=by
 unfold rgB;rw[LB,ME,decide_eq_true_iff];exact And.comm
instance:Bw sV 89 [nS,sS 0,nS,nS,nS,nS,nS,nS] [(0,4),(4,1),(5,1),(6,1),(7,1)]:={}
def spF (c:ZO)(pl:Qz)(ps:List (LI))(l:List (LI)):List Rsn:=l.zipIdx.filterMap (λp=>rsn c pl (plx ps (p.1.take c.co.length)) p.2 p.1)
theorem Qjv {pl:Qz}{ps:List (LI)}{l:List (LI)}{k:Nat}(h:k<l.length):spF c pl ps (l.take (k+1))=spF c pl ps (l.take k)++(rsn c pl (plx ps ((l[k]'h).take c.co.length)) k (l[k]'h)).toList:=by
 unfold spF;rw[Ln h,List.zipIdx_append,List.filterMap_append];have e:0+(l.take k).length=k:=by rw[LH];omega
 rw[e];simp only[List.zipIdx_cons,List.zipIdx_nil,List.filterMap_cons,List.filterMap_nil];cases rsn c pl (plx ps ((l[k]'h).take c.co.length)) k (l[k]'h) <;> rfl
theorem Qge (c:ZO)(pl:Qz)(ps:List (LI))(l:List (LI)):(spF c pl ps l).length<=l.length:=by
 unfold spF;refine LA (List.length_filterMap_le _ _) ?_;rw[List.length_zipIdx];exact Lr _
theorem Qbn {pl sa:Qz}{ps ts:List (LI)}(G:xw (xj c.co)=some (pl,ps))(I:xw (xj c.co++xj c.rq)=some (sa,ts)):
  spc c=⟨sa,ts.map (·.take c.co.length),ts.map (·.drop c.co.length),ts.map (λt=>plx ps (t.take c.co.length)),spF c pl ps ts⟩:=by
 unfold spc Jf syQ;rw[G,I];simp only[];rw[Qar];simp[spF]
theorem Ql7 {s:List ByteArray}{x:Jz}(h:YA n u s x=0):x.a.st≠0:=by
 unfold YA at h;split at h
 ·cases h
 split at h
 ·cases h
 split at h
 ·rename_i h1 h2;exact O1 h h2
 split at h
 ·cases h
 split at h
 ·cases h
 assumption
theorem Qd3 {n:Nat}{al:LI}:∀{l:List Jz}{s:List ByteArray}{u:LI},(YC n al s u l).1=0->∀x∈l,x.a.st≠0
 | [],_,_,_,x,hx=>by cases hx
 | y::l,s,u,h,x,hx=>by
  rw[Um]at h;by_cases h1:YA n al s y≠0
  ·rw[OZ h1]at h;exact O1 h h1
  rw[OY h1]at h;have h2:YA n al s y=0:=Ly.1 h1;rcases Ll.1 hx with rfl|hx
  ·exact Ql7 h2
  exact Qd3 h x hx
theorem Ql8 (h:Z2 c=0):∀x∈c.co,x.a.st≠0:=by
 unfold Z2 at h;by_cases h1:XZ c.ev≠0
 ·rw[OZ h1]at h;exact O1 h h1
 rw[OY h1]at h;by_cases h2:c.co.length=0
 ·rw[OZ h2]at h;cases h
 rw[OY h2]at h;by_cases I:8<c.co.length\/12<c.co.length+c.rq.length
 ·rw[OZ I]at h;cases h
 rw[OY I]at h;by_cases G:(YC c.ev.length (V3 c.ev.length) [] [] c.co).1≠0
 ·rw[OZ G]at h;exact O1 h G
 exact Qd3 (Ly.1 G)
theorem Qdc (h:Z2 c=0){Q:List (LI)}(O:xw (xj c.co)=some (A,Q)):QL A/\A.st=(Q.length:Int)/\0<Q.length/\∀e∈A.al,0<=e/\e<(c.ev.length:Int):=by
 have hok:=YW h;have G:=Y1 hok.co;have hsp:=Yx G O;refine⟨hsp.1.okay G,hsp.1.st,?_,λe J=>?_⟩
 ·refine Nr λU=>?_;obtain⟨a,I,h1⟩:=hsp.2.1 U;obtain⟨x,hx,rfl⟩:=Lt.1 I;exact Ql8 h x hx h1
 rw[hsp.1.al]at J;obtain⟨a,I,h1⟩:=(Xo G e).1 J;obtain⟨x,hx,rfl⟩:=Lt.1 I;exact⟨((hok.co x hx).al e h1).1,hok.ce x hx e h1⟩
theorem QjX {Q:List (LI)}(h:0<Q.length)(t:LI):0<=plx Q t/\plx Q t<(Q.length:Int):=by
 unfold plx;split
 ·rename_i G;have:=Md G;omega
 omega
theorem Vt.take {a b:List Qz}{t:LI}(h:Vt (a++b) t):Vt a (t.take a.length):=by
 have hl:=h.1;rw[Le]at hl;refine⟨by rw[LH];omega,λi h1 h2=>?_⟩;have:=h.2 i oa (by rw[Le];omega);rw[L8 h2]at this;rw[Ng];exact this
theorem Vt.drop {a b:List Qz}{t:LI}(h:Vt (a++b) t):Vt b (t.drop a.length):=by
 have hl:=h.1;rw[Le]at hl;refine⟨by rw[My];omega,λi h1 h2=>?_⟩;have:=h.2 (a.length+i) oa (by rw[Le];omega);rw[M5 oa]at this;rw[List.getElem_drop];simpa using this
theorem Vt.tpOk {l:List Jz}{t:LI}(h:Vt (xj l) t):Qpc (szs l) t:=by
 have hl:=h.1;unfold xj at hl;rw[Lo]at hl;refine⟨by unfold szs;rw[Lo];exact hl,λi hi=>?_⟩;have h1:=h.2 i hi (by unfold xj;rw[Lo];omega);have G:i<(szs l).length:=by unfold szs;rw[Lo];omega
 rw[<-Zo hi,<-Zo G];unfold xj szs at *;simpa using h1
theorem KK.add {I:Nat}{W J O U:O6}{V Y v3 G c0 c1 c2 c3:O7}{cos rqs:List TV}{pls:LI}{fbs:List Rsn}{q:Rsn}(hB:QN ↑W I T [c0,c1,c2,c3,V,Y,v3,G])(hS:KK base W V Y v3 G cos rqs pls fbs)(ha:I<base)(h1:sW W J)
  (ho:O.ownsRow base 173 4 v' (fbs.length+1) (fbs.flatMap Z5++Z5 q)) (h2:xd (ob G) J O) (hn:∀b∈ob v',b∈ob G\/↑J<=b) (h3:xd [I] O U):
  xd (I::ob G) W U/\KK base U V Y v3 v' cos rqs pls (fbs++[q])/\(∀x∈I::ob G,∃o:Obj,W.heap[x]?=some o/\o.isCells=true):=by
 refine⟨((h1.any).Q (h2.S λx hx=>Lh _ hx)).Q (h3.S λx hx=>?_),(hS.a4 h1 ho h2 hn).low h3 (λx hx=>?_),λx hx=>?_⟩
 ·simp only[oH]at hx;subst hx;exact Lj
 ·simp only[oH]at hx;subst hx;exact ha
 rcases Ll.1 hx with rfl|hx
 ·exact hB.cells
 exact Go.Lg.Q8 hS.o4 x hx
theorem jM {c:CL}(h0:Z9 L ↑w c)(my:Kb w 4096):
  QT sV 31 [c.val] w λr w'=>sW w w'/\∃v,r=.tuple #[v,sS (YY c.V)]/\(∃us,v=sT us/\us.length=8/\ZN us)/\(YY c.V=0->QtU ↑w ↑w' v (spc c.V)):=by
 have h:=h0.up (L':=[]) oe;refine Zg (YY c.V) λE hE=>?_;refine QT.of_G 20 func31 Z ntmps31 results31 oe ?_;refine QQ<|Qy ol ol<|Zd c.cells λb1 w1 hI hb1 mz=>QV [nS,sS 0,nS,nS,nS,nS,nS,nS] λb2 w2 hA hb2 gz=>Qb ?_;have kh:=hI.D hA;have m0:=mz.lt;have ki:=gz.lt;have m1:=mz.I hA;refine QQ<|Qy ol ol<|Q7 m1 Z Z<|Qw<|(Qd9 (h.I kh) (my.I kh)).S ?_;rintro r3 w3 ⟨h5,vp,rfl,hbad,m2⟩;rw[hE]at hbad m2 ⊢;have m3:=kh.D h5;refine Qa<|QS Z Z<|QS Z Z<|x Qe<|Qb<|QQ<|QQ<|Qy ol ol<|Qa<|ZS Z Z<|xe<|Qpg Z (λkj=>?_) (λkj=>?_)
 ·refine QQ<|Qy ol ol<|x (ZE [] La)<|Qa<|Q6 [nS,sS 0,nS,nS,nS,nS,nS,nS] (gz.I h5) ⟨Z,Z,Z,Z,Z,Z,Z,Z,La⟩ λw4 hN hB4=>Qb<|Ka ⟨λ_ h=>(by cases h),MB,[.agg #[nS,sS 0,nS,nS,nS,nS,nS,nS],sS E],λW' hO=>⟨⟨Kh (hB4.I hO),rfl,La⟩,(m3.O hN oa).D hO,_,rfl,⟨_,rfl,rfl,rfl,rfl,rfl,rfl,rfl,rfl,rfl,rfl,La⟩,λe=>O1 e kj⟩⟩
 have m4:E=0:=Ly.1 kj;obtain⟨b,q,rfl,rfl,hQ,hr,hF3⟩:=m2 m4;refine Yd<|QQ<|Qy ol ol<|Qa<|Z8 Z<|Q9 Z<|x (ZW (us:=ZJ q.s) hr.B Z Z Z)<|x (ZE [(0,ZJ q.s)] ⟨Z,Z,La⟩)<|QV [nS,sS 0,nS,nS,nS,nS,nS,nS] λG w5 hY kk h6 =>
  Q6 [q.s.va,sS q.s.a.st,q.s.vm,q.s.ve,nS,nS,nS,nS] h6 ⟨hr.s.al.one,Z,hr.s.mr.one,hr.s.ed.one,Z,Z,Z,Z,La⟩ λJ g0 h6=>xe ?_
 have m5:sW w3 J:=hY.O g0 kk;have kn:=h6.lt;have m6:=hr.I m5;have hz3:=h5.size;refine QQ<|QQ<|Qy ol ol<|Qa<|Z8 Z<|Qs Z m6.B Z Z<|QG m6.ts.arr Z<|Qa<|xe ?_;have m7:=(zN (λa ha=>by
  rcases Lk.1 ha with ha|ha
  ·exact Y1 (YW hQ.ok).co a ha
  exact Y1 (YW hQ.ok).rq a ha) hQ.s)
 have ko:=m7.1;have m8:=m7.2;simp only[]at ko m8;have hok:=YW hQ.ok;have hckc:=hok.c8;have hZ:q.c.V.co.length=q.c.co.length:=Lo ..;have hrel:q.c.V.rq.length=q.c.rq.length:=Lo ..;have hcr:=hok.cr;have hal:(xj q.c.V.co++xj q.c.V.rq).length=q.c.co.length+q.c.rq.length:=by rw[Le];unfold xj;rw[Lo,Lo,hZ,hrel]
 refine Zg (q.ts.map (·.2)) λT hT=>?_;rw[hT]at ko m8;have hTn:q.ts.length=T.length:=by rw[<-hT,Lo]
 refine ZL<|K3 (α:=Nat×(O7×O7×O7×O7)×List TV×List TV×LI) [(7,17),(37,99),(100,118)] (λz=>[(37,sS z.1)]) (λz ds W'=>z.1<=q.ts.length/\xd [G] J W'/\K5 ↑J ↑W' ds W'/\QN ↑W' G 89 [q.s.va,sS q.s.a.st,q.s.vm,q.s.ve,z.2.1.1,z.2.1.2.1,z.2.1.2.2.1,z.2.1.2.2.2] /\
  KK ↑J W' z.2.1.1 z.2.1.2.1 z.2.1.2.2.1 z.2.1.2.2.2 z.2.2.1 z.2.2.2.1 z.2.2.2.2 (spF q.c.V q.p.a (q.qs.map (·.2)) (T.take z.1))/\z.2.2.1.map (·.2)=(T.take z.1).map (·.take q.c.co.length)/\z.2.2.2.1.map (·.2)=(T.take z.1).map (·.drop q.c.co.length)/\z.2.2.2.2=(T.take z.1).map (λt=>plx (q.qs.map (·.2)) (t.take q.c.co.length)))
  (λz=>q.ts.length - z.1) ol (0,(nS,nS,nS,nS),[],[],[]) Lb
  ⟨Lp _,xd.C _ _,⟨MB,λD hD=>by cases hD⟩,h6,KK.nil _ _,rfl,rfl,rfl⟩ ?_
 rintro⟨k,⟨v1,v2,v3,O⟩,cos,rqs,pls⟩ g ds w7 ⟨hk,kq,m9,kr,U,gh,gi,gj⟩;simp only[]at hk kr U gh gi gj;have gk:sW w3 w7:=m5.O kq kk;have pc:=m3.D gk;have hz7:=kq.size;have g2:(T.take k).length=k:=by rw[LH];omega
 have hcosl:cos.length=k:=by have:=O0 oY gh;rw[Lo,Lo,g2]at this;exact this
 have hrqsl:rqs.length=k:=by have:=O0 oY gi;rw[Lo,Lo,g2]at this;exact this
 have hplsl:pls.length=k:=by rw[gj,Lo,g2]
 have pd:=Qge q.c.V q.p.a (q.qs.map (·.2)) (T.take k);rw[g2]at pd;refine Zg (spF q.c.V q.p.a (q.qs.map (·.2)) (T.take k)) λfbs g3=>?_;rw[g3]at U pd;refine Zg (ob v1++(ob v2++(ob v3++ob O))) λav gl=>?_;have ga:∀x∈av,↑J<=x/\x<w7.heap.size:=λx hx=>by
  rw[<-gl]at hx;rcases Qdq hx with h1|h1|h1|h1
  ·exact Qi U.o1 x h1
  ·exact Qi U.o2 x h1
  ·exact Qi U.o3 x h1
  exact Qi U.o4 x h1
 have g4:G∉av:=λI=>oq (ga G I).1
 have kt:∀x∈av,x∈G::av:=λx hx=>Lh _ hx;have g5:JT (G::av) b ↑w7 q:=(hr.up (λx hx=>.inr (by
  rcases Ll.1 hx with rfl|hx
  ·exact kk
  have:=(ga x hx).1;omega))).I gk
 refine QQ<|Qy ol ol<|ZT Z Z<|xe<|QQ<|qm Z (λpf=>?_) (λpf=>?_)
 ·refine JQ ?_;rw[Ls oa]at gh gi gj g3;have hsp:=Qbn hQ.p hQ.s;rw[hT,hZ,<-gh,<-gi,<-gj,g3]at hsp;have pg:=h5.D gk;refine QQ<|Qy ol ol<|Q7 kr Z Z<|Q6 [q.s.va,sS q.s.a.st,q.s.vm,q.s.ve,v1,v2,v3,O] (gz.I pg) ⟨hr.s.al.one,Z,hr.s.mr.one,hr.s.ed.one,QA U.o1,QA U.o2,QA U.o3,QA U.o4,La⟩ λw8 g6 hB8=>Qb ?_;have hb2w:b2<J.heap.size:=oa
  have gm:K5 ↑J ↑w7 ds w8:=m9.blk g6 (gz.I pg);have hb2d:b2∉ds:=λI=>oq (gm.2 b2 I).1
  have hS8:=U.low g6 (λx hx=>by simp only[oH]at hx;subst hx;exact hb2w);refine Ka ⟨λD hD=>(gm.2 D hD).2.2,gm.1,[.agg #[q.s.va,sS q.s.a.st,q.s.vm,q.s.ve,v1,v2,v3,O],sS E],λW' hO=>?_⟩;have g7:Lg.JU [] w8 W':=Lg.JU.nonc hO (λD hD=>⟨_,(gm.2 D hD).2.2,Z⟩);have gb:=hO.size;have h7:=hS8.cst g7 gb;refine⟨⟨Kh (hB8.J hO hb2d),O0 sS m4.symm,La⟩,(pc.O g6 oa).Z hO (λD hD=>.inr (oq (gm.2 D hD).1)),_,Z,⟨_,Z,Z,hr.s.al.one,Z,hr.s.mr.one,hr.s.ed.one,QA U.o1,QA U.o2,QA U.o3,QA U.o4,La⟩,λ_=>?_⟩;have hl9:pls.length<=1099511627776:=oa
  have hl8:fbs.length<=1099511627776:=oa
  rw[hsp];refine⟨q.s.va,q.s.vm,q.s.ve,v1,v2,v3,O,cos,rqs,Z,Z,Z,λL hL=>⟨?_,⟨QO h7.o1 oa (λx hx I=>?_),λp hp=>h7.e1 p hp L (λx hx=>?_)⟩,⟨QO h7.o2 oa (λx hx I=>?_),λp hp=>h7.e2 p hp L (λx hx=>?_)⟩,QO h7.o3 hl9 (λx hx I=>?_),QO h7.o4 hl8 (λx hx I=>?_)⟩⟩
  ·have h1:=((hF3 (b2::L) (λx hx=>by
    rcases Ll.1 hx with rfl|hx
    ·exact ki
    have:=hL x hx;omega)).1.I gk).st (g6.S (λx hx=>by simp only[oH]at hx;subst hx;exact Lj))
   have h2:=h1.up (L':=L) (λx hx=>.inl (Lh _ hx));exact⟨h2.al.cst (g7.S oe) gb,h2.mr.cst (g7.S oe) gb,h2.ed.cst (g7.S oe) gb⟩
  ·have:=(Qi h7.o1 x hx).1;have:=hL x I;omega
  ·exact .inl (oq (hL x hx))
  ·have:=(Qi h7.o2 x hx).1;have:=hL x I;omega
  ·exact .inl (oq (hL x hx))
  ·have:=(Qi h7.o3 x hx).1;have:=hL x I;omega
  have:=(Qi h7.o4 x hx).1;have:=hL x I;omega
 have gn:k<q.ts.length:=by have h39:(k:Int)<(q.ts.length:Int):=pf;omega
 have gq:k<T.length:=oa
 have ph:=Lm gn;have hTe:T[k]'gq=(q.ts[k]'gn).2:=by subst hT;simp
 have hw:=Qjv (c:=q.c.V) (pl:=q.p.a) (ps:=q.qs.map (·.2)) gq;have gr:T.take (k+1)=T.take k++[T[k]'gq]:=Ln gq;have gc:=ko _ (Lm gq);rw[g3]at hw;rw[hTe]at hw gr gc;refine Yd<|QhG (α:=(O7×O7×O7×O7)×List TV×List TV×LI) [(7,17),(38,117)] (λz=>[(37,sS k)]) (λz hR W'=>xd [G] J W'/\K5 ↑J ↑W' hR W'/\QN ↑W' G 89 [q.s.va,sS q.s.a.st,q.s.vm,q.s.ve,z.1.1,z.1.2.1,z.1.2.2.1,z.1.2.2.2] /\
  KK ↑J W' z.1.1 z.1.2.1 z.1.2.2.1 z.1.2.2.2 z.2.1 z.2.2.1 z.2.2.2 (spF q.c.V q.p.a (q.qs.map (·.2)) (T.take (k+1)))/\z.2.1.map (·.2)=(T.take (k+1)).map (·.take q.c.co.length)/\z.2.2.1.map (·.2)=(T.take (k+1)).map (·.drop q.c.co.length)/\z.2.2.2=(T.take (k+1)).map (λt=>plx (q.qs.map (·.2)) (t.take q.c.co.length))) ol ?_ ?_
 rotate_left
 ·rintro⟨⟨u1,u2,u3,u4⟩,cos',rqs',pls'⟩ g hR W ⟨hsW,hDW,hBW,hSW,h1,h2,h3⟩;refine Qy ol ol<|QC Z Z<|Qa<|xe ?_;exact⟨(k+1,(u1,u2,u3,u4),cos',rqs',pls'),og,Lb,gn,hsW,hDW,hBW,hSW,h1,h2,h3⟩
 refine ZL<|QQ<|Qy ol ol<|Qa<|xo (g:=YP) KO g5.ts.arr Z Z gn λa40 pn=>?_;refine Zg (q.ts[k]'gn) λt ht=>?_;rw[ht]at pn ph hw gr gc;have htl:t.2.length=q.c.co.length+q.c.rq.length:=by rw[gc.1,hal]
 refine x (Qq pn Z)<|QV [sS 0] λb7 w9 hs9 hb7 hB9=>Qo<|Qv (j:=0) (u:=sS k) hB9 Z Z oh Z λw10 hs10 hB10 =>
  Qb ?_
 have ku:sW w7 w10:=hs9.O hs10 hb7;refine QQ<|Qy ol ol<|Qa<|Qa<|Qw<|(QcU (g5.I ku) ((g5.ts.each t ph).I ku) oa).S ?_;rintro r11 po ⟨pp,v9,pt,rfl,hJ,h8⟩;refine Qa<|QS Z Z<|QS Z Z<|x Qe<|Qb ?_;have kv:=ku.D pp;have kw:=g5.I kv;refine Zg (t.2.take q.c.co.length) λtc hU=>?_;refine Zg (t.2.drop q.c.co.length) λtr gs=>?_;rw[hZ]at hw;rw[hU]at hJ hw;rw[gs]at h8;have htcl:tc.length=q.c.co.length:=by rw[<-hU,LH];omega
 have htrl:tr.length=q.c.rq.length:=by rw[<-gs,My];omega
 have hbdt:=gc.bd (m:=4096) (λa ha=>by
  rcases Lk.1 ha with ha|ha
  ·exact(Y1 hok.co a ha).st1
  exact(Y1 hok.rq a ha).st1)
 have pu:∀x∈tc,0<=x/\x<4096:=λx hx=>hbdt x (Ma (by rw[hU];exact hx));refine QQ<|Ut (sW po) [oB 0,oB 1,oB 2,oB 3,oB 4,oC 5,oB 6,oB 7] mixed ol ol od (xd.Y _ _) ?_;refine p Qx<|p (YT Z)<|p (QH Z)<|pq (λ_ hc=>Qj (kw.B.I hc) Z Z)<|p Qx<|pk<|xg<|(Qcn (hJ.I (xd.Y _ _)) ((my.I (pc.D kv)).I (xd.Y _ _)) pu oa).S ?_;rintro r12 hf ⟨rfl,hs12⟩;have ge:=(xd.Y [] po).D hs12;refine⟨ge,?_⟩;have pw:(match xq q.mm (Va tc) with|some u=>u|none=>sS 0)=sS (plx (q.qs.map (·.2)) tc):=by
  rw[hQ.m tc htcl (λx hx=>(pu x hx).1)];unfold plx;by_cases I:tc∈q.qs.map (·.2)
  ·rw[OZ I,OZ I]
  rw[OY I,OY I]
 refine Zg (plx (q.qs.map (·.2)) tc) λpi kx=>?_;rw[kx]at pw hw;refine pq (λ_ hc=>(JA (k:=Va tc) (kw.m.I hc) Z Z).D (O0 (λv=>Result.ok (Next.value v) _) pw))<|p ZH<|pe ?_;have gg:=kv.D ge;have hJ:=hJ.I ge;have h8:=h8.I ge;have h6:=kr.I gg;have gt:=U.I gg;have hS12d:=gt.I (xd.Y [] hf);have hz712:=gg.size;have hzd:({ hf with drawn:=hf.drawn+1 }:O6).heap.size=hf.heap.size:=rfl
 have hC0:xd av hf { hf with drawn:=hf.drawn+1 }:=xd.Y _ _
 have fin:∀{hg hh hq hj ho:O7} {wx wy:O6},xd av hf wx->KK ↑J wx hg hh hq O (cos++[(hj,tc)]) (rqs++[(ho,tr)]) (pls++[pi]) fbs->xd [G] wx wy->QN ↑wy G 89 [q.s.va,sS q.s.a.st,q.s.vm,q.s.ve,hg,hh,hq,O] ->
   xd (G::av) hf wy/\QN ↑wy G 89 [q.s.va,sS q.s.a.st,q.s.vm,q.s.ve,hg,hh,hq,O]/\KK ↑J wy hg hh hq O (cos++[(hj,tc)]) (rqs++[(ho,tr)]) (pls++[pi]) fbs:=λhC hP hs hB =>
  ⟨(hC.S kt).Q (hs.S (λx hx=>by simp only[oH]at hx;subst hx;exact Lj)),hB,hP.low hs (λx hx=>by simp only[oH]at hx;subst hx;exact kn)⟩
 have hkl:k<=4096:=oa
 have htr16:tr.length<=16:=oa
 have htc40:tc.length<=1099511627776:=oa
 have htr40:tr.length<=1099511627776:=oa
 have m0:cos.length+1<=1099511627776:=oa
 have ki:rqs.length+1<=1099511627776:=oa
 have hl3:pls.length+1<=1099511627776:=oa
 have gu:J.heap.size<=hf.heap.size:=oa
 refine QhG (α:=O7×O7×O7×O7×O7) [(55,74)] (λ_=>[]) (λz hR w'=>hR=ds/\xd (G::av) hf w'/\QN ↑w' G 89 [q.s.va,sS q.s.a.st,q.s.vm,q.s.ve,z.1,z.2.1,z.2.2.1,O]/\KK ↑J w' z.1 z.2.1 z.2.2.1 O (cos++[(z.2.2.2.1,tc)]) (rqs++[(z.2.2.2.2,tr)]) (pls++[pi]) fbs) ol ?_ ?_
 ·refine jV _ mixed ol ol (Uq (α:=O7×O7×O7×O7) (xd av hf) [oB 0,oB 1,oB 2,oB 6,oB 7,oB 8,oB 12,oB 13,oB 14] [oC 3,oC 4,oC 5,oB 17,oC 9,oC 10,oC 11] 15 70
   [oC 16,oC 18,oB 19,oC 20,oB 21,oC 22] av [(55,74)] [(58,60),(64,66),(72,72)] (λz=>[(60,z.1),(66,z.2.1),(68,v3),(72,.pointer (some ⟨G,4,none⟩))]) (λz _ w'=>xd av hf w'/\KK ↑J w' z.1 z.2.1 v3 O (cos++[(z.2.2.1,tc)]) (rqs++[(z.2.2.2,tr)]) pls fbs)
   (λv w'=>∃b,v=sL b 1 1/\QN ↑w' b 3 [sS pi]) od ol Z hC0 (λx hx=>LX (ga x hx).2 hz712) ?_ ?_ ?_ ?_)
  ·rintro v own w w' ⟨b,rfl,hB⟩ hs hn;exact⟨b,Z,hB.J hs (hn b (by simp[ow]))⟩
  ·rintro z own w w' ⟨h1,h2⟩ hs;exact⟨h1.D hs,h2.I hs⟩
  ·rintro⟨hg,hh,hj,ho⟩ g own wz v ⟨pz,hP⟩ _ ⟨b15,rfl,g8⟩ _;have hcz:=pz.size;refine pk<|Q0 (news:=[sS pi]) (L:=[]) hP.o3 Z Z Z (g8.at oe) oo hl3 (LA gu hcz) λhq y1 g9 hI hn1=>?_;have Q1:=KK.a3 (q:=pi) hP (xd.C [] _) g9 hI hn1;have kz:xd av hf y1:=pz.Q (hI.S (λb hb=>by rw[<-gl];exact yZ (.inr (.inr (.inl hb)))));refine⟨kz,?_⟩;refine pkk<|Qv (j:=4) (u:=hg) (h6.J kz g4) Z Z oe (QA Q1.o1) λy2 hA k0=>p (QH rfl) <|
    pkk<|Qv (j:=5) (u:=hh) k0 Z Z oe (QA Q1.o2) λy3 h5 hB3'=>p (QH rfl) <|
    pkk<|Qv (j:=6) (u:=hq) hB3' Z Z oe (QA Q1.o3) λy4 hN hB4'=>pe ?_
   exact⟨(hg,hh,hq,hj,ho),La,Z,fin kz Q1 ((hA.Q h5).Q hN) hB4'⟩
  refine p (QH Z)<|pq (λ_ hc=>Qj (h6.J hc g4) Z Z)<|p Qx<|p (QH Z)<|pq (λ_ hc=>Qj (h6.J hc g4) Z Z)<|p Qx <|
   p (QH rfl)<|pq (λ_ hc=>Qj (h6.J hc g4) Z Z)<|p Qx<|pe ⟨λg wf hCf=>Q3 [[sS pi]] λb wf' p0 hbf p7=>⟨p0,hCf.D p0,⟨b,Z,p7⟩,λx hx=>?_⟩,?_⟩
  ·have hxe:x=b:=by
    have hx':x∈[b]:=hx;simpa using hx'
   subst hxe;exact⟨hbf,p7.lt⟩
  have p8:∀{X:LN},(∀x∈X,x∈ob v1\/x∈ob v2)->∀x∈X,x∈av:=λhX x hx=>by rw[<-gl];exact yZ ((hX x hx).imp id .inl)
  refine f2k λx1 p1 c1=>xg<|(Z0 (hJ.J c1 kt)).S ?_;rintro hj y1 ⟨hI,g9⟩;have P1:=hS12d.I p1;refine⟨c1.D hI,av,hI.any,λb hb=>.inl hb,?_⟩;refine f2k λx2 p2 c2=>Yj (us:=[[hj]]) Z Z oh oe ⟨xR g9,rfl,La⟩ λb2' y2 hA hb2' k0=>⟨c2.D hA,av,hA.any,λb hb=>.inl hb,?_⟩;refine f2k λx3 p3 c3=>?_;have p9:=((hI.D p2).D hA).D p3;have qf:=Qm g9 ((p2.D hA).D p3);refine Q0 (news:=[hj]) (L:=[]) (Qm P1.o1 p9) Z Z Z ((k0.I p3).at oe) (λu hu=>by rw[oH]at hu;subst hu;exact QA qf) m0 (LA gu c3.size) λhg y3 ho4 h5 hn3=>?_;have qj:xd av x3 y3:=h5.S (p8 λx hx=>.inl hx);refine⟨c3.Q qj,av,qj,λb hb=>.inl hb,?_⟩;refine f3p (QH Z) ?_;refine f2k λx4 p4 c4=>xg<|(Z0 (h8.J c4 kt)).S ?_;rintro ho y4 ⟨hN,ql⟩;have P3:=(KK.a1 (q:=(hj,tc)) P1 p9 qf htc40 (Lr _) (LA gu c1.size) ho4 h5 hn3).I p4;refine⟨c4.D hN,av,hN.any,λb hb=>.inl hb,?_⟩;refine f2k λx5 p5 c5=>Yj (us:=[[ho]]) Z Z oh oe ⟨xR ql,rfl,La⟩ λb5' y5 hY hb5' hB5'=>⟨c5.D hY,av,hY.any,λb hb=>.inl hb,?_⟩;refine f2k λx6 p6 c6=>?_;have q4:=((hN.D p5).D hY).D p6;have q5:=Qm ql ((p5.D hY).D p6);refine Q0 (news:=[ho]) (L:=[]) (Qm P3.o2 q4) Z Z Z ((hB5'.I p6).at oe) (λu hu=>by rw[oH]at hu;subst hu;exact QA q5) ki (LA gu c6.size) λhh y6 ho7 g0 hn6=>?_;have k4:xd av x6 y6:=g0.S (p8 λx hx=>.inr hx);refine⟨c6.Q k4,av,k4,λb hb=>.inl hb,?_⟩;exact f2e ⟨(hg,hh,hj,ho),oA,c6.Q k4,(KK.a2 (q:=(ho,tr)) P3 q4 q5 htr40 (Lr _) (LA gu c4.size) ho7 g0 hn6)⟩
 rintro⟨hg,hh,hq,hj,ho⟩ g hR k5 ⟨rfl,hK,hB13,hS13⟩;have hz13:=hK.size;have j1:=(kw.I ge).st hK;have hJ:=hJ.st hK;have h8:=h8.st hK;have ka:JT [] b ↑k5 q:=j1.up oe;have hcell:∀x∈G::av,∃o:Obj,hf.heap[x]?=some o/\o.isCells=true:=λx hx=>by
  rcases Ll.1 hx with rfl|hx
  ·exact h6.cells
  rw[<-gl]at hx;rcases Qdq hx with h1|h1|h1|h1
  ·exact Go.Lg.Q8 gt.o1 x h1
  ·exact Go.Lg.Q8 gt.o2 x h1
  ·exact Go.Lg.Q8 gt.o3 x h1
  exact Go.Lg.Q8 gt.o4 x h1
 have hD13:K5 ↑J ↑w7 hR k5:=((m9.up (Lr _)).I gg).J hK hcell;have hb7n:b7∉G::av:=λI=>by
  rcases Ll.1 I with h1|h1
  ·omega
  have:=(ga _ h1).2;omega
 have hb1n:b1∉G::av:=λI=>by
  rcases Ll.1 I with h1|h1
  ·omega
  have:=(ga _ h1).1;omega
 have j2:=((hB10.I pp).I ge).J hK hb7n;have hB1c:=((m1.I (h5.D gk)).I gg).J hK hb1n;have hs613:xd [G] J k5:=(kq.D gg).Z hK (λx hx=>by
  rcases Ll.1 hx with h1|h1
  ·subst h1;exact .inl Lj
  exact .inr (ga x h1).1)
 have k6:(cos++[(hj,tc)]).map (·.2)=(T.take (k+1)).map (·.take q.c.co.length):=by rw[gr,Lv,Lv,gh,NA,NA,hU]
 have k9:(rqs++[(ho,tr)]).map (·.2)=(T.take (k+1)).map (·.drop q.c.co.length):=by rw[gr,Lv,Lv,gi,NA,NA,gs]
 have ma:pls++[pi]=(T.take (k+1)).map (λt=>plx (q.qs.map (·.2)) (t.take q.c.co.length)):=by rw[gr,Lv,gj,NA,hU,kx]
 have hVc:Vt (xj q.c.V.co) tc:=by
  have h1:=gc.take;rw[show(xj q.c.V.co).length=q.c.co.length by unfold xj;rw[Lo];exact hZ,hU]at h1;exact h1
 have hVr:Vt (xj q.c.V.rq) tr:=by
  have h1:=gc.drop;rw[show(xj q.c.V.co).length=q.c.co.length by unfold xj;rw[Lo];exact hZ,gs]at h1;exact h1
 have gv:=Qdc hQ.ok hQ.p;have hpr:=QjX gv.2.2.1 tc;rw[kx,<-gv.2.1]at hpr;have hckp:cks q.p.a pi=0:=by
  unfold cks;rw[OY (by rw[(ZA q.p.a).2 gv.1];decide),OY oa]
 have hvo:=zp ka.k1 ka.k2 ka.k3 (hJ.up (L':=[]) oe) (by rw[hQ.ex,hQ.cs];exact hok.cd) hVc.tpOk;have hF:rsn q.c.V q.p.a pi k t.2=(match vio q.c.V tc with|some (kd,j)=>some ⟨k,kd,j,-1⟩|none=>match rfd q.c.V tr (jk q.p.a pi) with|some (j,v)=>some ⟨k,3,j,v⟩|none=>none):=by unfold rsn;rw[hZ,hU,gs];rfl
 rw[Qi4]at hF;rw[hQ.ex,hQ.cs]at hvo;refine Zg (Uy q.c.V.ex q.c.V.cs tc) λV hV=>?_;rw[hV]at hvo hF;refine QQ<|QQ<|Qy ol ol<|Qa<|Z8 Z<|Q9 Z<|x (ZW (us:=[q.vs,q.vx,q.vk]) ka.B Z Z Z)<|Qa<|Qw<|hvo.S ?_;rintro r14 mc ⟨h9,rfl⟩;refine Qa<|QS Z Z<|QS Z Z<|QS Z Z<|QS Z Z<|x Qe<|x Qe<|x Qe<|Qb ?_;have kb:=hB13.I h9;have hM:=hS13.I h9;have j3:=hD13.I h9;have j4:=hs613.D h9;have hz14:=h9.size;have za:fbs.length+1<=1099511627776:=oa
 have hb014:J.heap.size<=mc.heap.size:=oa
 have hz714:w7.heap.size<=mc.heap.size:=oa
 refine QQ<|Qy ol ol<|Qa<|xe<|K4 rfl (λmf=>?_) (λmf=>?_)
 ·rw[OZ mf]at hF;rw[hF]at hw;refine QQ<|Qy ol ol<|Qs Z kb Z Z<|ZD (j2.I h9) Z Z<|Qa<|Qa<|x (QD ⟨Z,Z,Z,Z,La⟩) <|
   Qo<|Q3 [Z5 ⟨k,V.1,V.2.1,-1⟩] λb93 y1 hG hb93 mg=>?_
  have z0:=hG.size;refine Qo<|Q0 (m:=1) (news:=Z5 ⟨k,V.1,V.2.1,-1⟩) (L:=[]) (Qm hM.o4 hG) Z Z Z (mg.at oe) oo za (LA hb014 z0) λu4 y2 gx gy mh=>?_;have mj:G∉ob O:=λI=>oq (Qi hM.o4 _ I).1
  refine Q9 Z<|Qo<|Qv (j:=7) (u:=u4) ((kb.I hG).J gy mj) Z Z oe (QA gx) λy3 mo mq=>xe ?_;have h4:=KK.add (q:=⟨k,V.1,V.2.1,-1⟩) kb hM kn hG gx gy mh mo;refine JQ<|⟨((hg,hh,hq,u4),cos++[(hj,tc)],rqs++[(ho,tr)],pls++[pi]),Lb,j4.Z h4.1 (λx hx=>?_),((j3.J h4.1 h4.2.2).up (LA hz714 h4.1.size)),mq,?_,k6,k9,ma⟩
  ·rcases Ll.1 hx with h1|h1
   ·subst h1;exact .inl Lj
   exact .inr (Qi hM.o4 x h1).1
  simp only[];rw[hw];exact h4.2.1
 rw[OY (by rw[mf];decide)]at hF;refine Yd ?_;have h8:=h8.I h9;refine QQ<|Qy ol ol<|Qa<|Qa<|Qa<|Qw<|(zf (b:=b) (st:=pi) (vr:=pt) h8.cells).S ?_;rintro r15 kc ⟨hH,c1,c2,c3,rfl,hc1,hc2,hc3,hR1,hR2,hR3⟩;refine xe ?_;have hz15:=hH.size;have g8:=kb.I hH;have z1:=hM.I hH;have z2:=j3.I hH;have z3:=j4.D hH;refine Zg (wrf q.c.V.rq tr (enb q.p.a pi)) λfl ke=>?_;have z4:∀x∈G::ob O,x∈G::av:=λx hx=>by
  rcases Ll.1 hx with rfl|hx
  ·exact Lj
  exact Lh _ (by rw[<-gl];exact yZ (.inr (.inr (.inr hx))))
 have ms:∀x∈G::ob O,x<mc.heap.size:=λx hx=>by
  rcases Ll.1 hx with rfl|hx
  ·omega
  exact(Qi hM.o4 x hx).2
 have z5:JT (G::ob O) b ↑kc q:=((j1.I h9).I hH).up (λx hx=>.inl (z4 x hx));have hIr15:Qu (G::ob O) ↑kc pt tr:=(h8.I hH).up (λx hx=>.inl (z4 x hx));have hEv:∀p∈fl,0<=p.1/\p.1<(q.c.ev.length:Int):=λp hp=>by
  rw[<-ke]at hp;have h1:=(zM.1 hp).1;unfold enb at h1;obtain⟨e,he,h2⟩:=Lt.1 h1;have h3:=gv.2.2.2 _ (gv.1.ed e (Zy he).1).2.2.1;rw[h2]at h3;exact h3
 refine ZL<|Qeo (α:={ x:Int×Int // x∈fl }) (G::ob O) oa (capt:=[sP c1,sP c2,sP c3]) Z (encs:=λx=>[sS x.1.1,sS x.1.2]) oh (λ_=>Z)
  (UG hR1 hR2 hR3 (λI=>oq (ms _ I)) (λI=>oq (ms _ I)) (λx hx=>oq (ms _ hx)) z5 hIr15 (λx hx=>hok.rq x.it (LL hx)) hVr hckp Z ke)
  (λpre W=>(∀y∈pre,(q.c.V.ev.getD y.1.1.toNat ⟨.empty,false,false,false,0⟩).co=true)/\sW kc W) (λpre=>(Yf.pure _).and (Yf.J (Lr _)))
  (λe pre W=>e=.exit 2/\(∃p y,pre=p++[y]/\(∀y∈p,(q.c.V.ev.getD y.1.1.toNat ⟨.empty,false,false,false,0⟩).co=true)/\(q.c.V.ev.getD y.1.1.toNat ⟨.empty,false,false,false,0⟩).co=false /\
   ∃u4,xd (G::ob O) kc W/\QN ↑W G 89 [q.s.va,sS q.s.a.st,q.s.vm,q.s.ve,hg,hh,hq,u4]/\KK ↑J W hg hh hq u4 (cos++[(hj,tc)]) (rqs++[(ho,tr)]) (pls++[pi]) (fbs++[⟨k,3,y.1.2,y.1.1⟩])/\K5 ↑J ↑w7 hR W))
  (λe pre=>(Yf.pure _).and (Yf.ex λp=>Yf.ex λy=>(Yf.pure _).and ((Yf.pure _).and ((Yf.pure _).and (Yf.ex λu4=>(Yf.J (Lr _)).and (Yf.blk.and ((Yf.cst λW W' h hc hz=>h.cst hc hz).and (K5.stb oa))))))))
  ⟨λy hy=>(by cases hy),xd.C _ _⟩
  (λf x f' W=>f'=upd (upd (upd (upd f 100 (sS x.1.1)) 101 (sS x.1.2)) 16 (sS x.1.1)) 17 (sS x.1.2)) (λx f'=>Yf.pure _) ?_ ?_ ?_ ?_
 ·rintro l pre ⟨⟨e,i⟩,he⟩ W Y;refine QQ<|Qy ol ol<|Qb<|Qy ol ol<|Qb<|⟨Z,X9.refl _ _ _,Lg.JU.refl _ _,Y,Z⟩
 ·rintro l pre ⟨⟨e,i⟩,he⟩ f' W ⟨kf,Y⟩ rfl _;have hee:=hEv _ he;have hen:e=(e.toNat:Int):=oa
  have kg:e.toNat<q.c.ev.length:=oa
  refine ZL<|QQ<|Qy ol ol<|Q9 Z<|x (Qj ((hB1c.I (h9.D hH)).I Y) Z Z)<|Qa<|xo (g:=Zz) (i:=e.toNat) Qb8 (z5.I Y).c.ev.arr Z (O0 sS hen) kg λa105 h105=>?_;have hge:q.c.V.ev.getD e.toNat ⟨.empty,false,false,false,0⟩=q.c.ev[e.toNat]'kg:=by
   show q.c.ev.getD e.toNat _=_;simp[oQ,kg]
  refine Zg (q.c.ev[e.toNat]'kg) λv hv=>?_;rw[hv]at h105 hge;refine x (ZB Z)<|x (Qq (h105.fld 1 (.bool v.co) Z) Z)<|x (Zi Z)<|xe<|K4 Z (λmt=>?_) (λmt=>?_)
  ·have mu:v.co=false:=by simpa using mt
   have hS:=z1.I Y;have hB:=g8.I Y;have gb:=Y.size;refine QQ<|Qy ol ol<|Qs Z hB Z Z<|x (Qj ((j2.I (h9.D hH)).I Y) Z Z)<|Qa<|Qa<|x (QD ⟨Z,Z,Z,Z,La⟩) <|
    Qo<|Q3 [Z5 ⟨k,3,i,e⟩] λb93 y1 hG hb93 mg=>?_
   have z0:=hG.size;refine Qo<|Q0 (m:=1) (news:=Z5 ⟨k,3,i,e⟩) (L:=[]) (Qm hS.o4 hG) Z Z Z (mg.at oe) oo za oa λu4 y2 gx gy mh=>?_;have mj:G∉ob O:=λI=>oq (Qi hM.o4 _ I).1
   refine Q9 Z<|Qo<|Qv (j:=7) (u:=u4) ((hB.I hG).J gy mj) Z Z oe (QA gx) λy3 mo mq=>xe ?_;have h4:=KK.add (q:=⟨k,3,i,e⟩) hB hS kn hG gx gy mh mo;refine JQ ?_;exact⟨X9.J h4.1 gb (λx hx=>⟨.inl hx,h4.2.2 x hx⟩),Z,pre,_,Z,kf,by simp only[];rw[hge];exact mu,u4,Y.any.Q h4.1,mq,h4.2.1,(z2.I Y).J h4.1 h4.2.2⟩
  have mu:v.co=true:=by simpa using mt
  refine Yd<|⟨X9.refl _ _ _,Lg.JU.refl _ _,λy hy=>?_,Y⟩;rcases Lk.1 hy with h1|h1
  ·exact kf y h1
  simp only[oH]at h1;subst h1;simp only[];rw[hge];exact mu
 ·rintro D xs W hD hxs ⟨kf,Y⟩ mv;have mw:rfd q.c.V tr (jk q.p.a pi)=none:=yu λx hx=>by
   rw[show wrf q.c.V.rq tr (jk q.p.a pi)=fl from ke,<-hxs]at hx;obtain⟨y,hy,rfl⟩:=Lt.1 hx;exact kf y hy
  rw[mw]at hF;rw[hF]at hw;refine⟨((hg,hh,hq,O),cos++[(hj,tc)],rqs++[(ho,tr)],pls++[pi]),Lb,z3.D Y,(z2.I Y).cons oa oa mv,g8.I Y,?_,k6,k9,ma⟩;simp only[];rw[hw];simpa using(z1.I Y)
 rintro D e pre W hD hSp ⟨rfl,p,y,rfl,hp,hy,u4,hst,hBu,hSu,hDu⟩ mv _;have mw:rfd q.c.V tr (jk q.p.a pi)=some (y.1.2,y.1.1):=by
  obtain⟨rs,hrs⟩:=hSp;rw[Lv]at hrs;refine yt (x:=y.1) (t:=rs) (p:=p.map (·.1)) ?_ (λz hz=>?_) hy
  ·exact(show wrf q.c.V.rq tr (jk q.p.a pi)=fl from ke).D (hrs.symm.D oe)
  obtain⟨z',hz',rfl⟩:=Lt.1 hz;exact hp z' hz'
 rw[mw]at hF;rw[hF]at hw;refine⟨((hg,hh,hq,u4),cos++[(hj,tc)],rqs++[(ho,tr)],pls++[pi]),Lb,z3.Z hst (λx hx=>?_),hDu.cons oa oa mv,hBu,?_,k6,k9,ma⟩
 ·rcases Ll.1 hx with h1|h1
  ·subst h1;exact .inl Lj
  exact .inr (Qi hM.o4 x h1).1
 simp only[];rw[hw];exact hSu
section
theorem yG [h1:X2 P t]{x:O8}{b:Nat}{l:List Bool}{u:Bool}(G:QN ↑w b T (l.map Value.bool))(hx:ev f x=.pointer (some ⟨b,0+i*1,none⟩))(I:ev f y=.bool u)(hi:i<l.length)
  (hK:∀w',xd [b] w w'->QN ↑w' b T ((l.set i u).map Value.bool)->K (QP f d undef) w'):XO P ⟨d,.store t x y,ty,pS,af,gd⟩ f w K:=by
 refine Qv G hx I (ox hi) rfl λw' J O=>hK w' J ?_;rw[NI];simpa using O
theorem J1 [X2 P t]{x:O8}{b:Nat}{l:List Bool}(h:QN ↑w b T (l.map Value.bool))(hx:ev f x=.pointer (some ⟨b,0+i*1,none⟩))(hi:i<l.length):
  (execOp (ev f) ⟨d,.load t x,ty,pS,af,gd⟩).run P w=.ok (.value (.bool (l[i]'hi))) w:=Qj h hx (by simp[hi])
variable {C:xF}{pl:xA}
theorem pqB {b:Bool}(G:∀w',C w'->(execOp (ev f) (QR ops i)).run P w'=.ok (.value (.bool b)) w')(ht:b=true->XP P ops C K pl (QP f (QR ops i).dst (.bool true)) w)(J:b=false->XP P ops C K pl (QP f (QR ops i).dst (.bool false)) w)
  (hd:j5 (QR ops i)=true:=by rfl) (I:Yb ops f (QR ops i)=true:=by rfl):XP P ops C K ((i,true)::pl) f w:=by
 cases hb:b with
 | true=>rw[hb]at G;exact pq G (ht hb) hd I
 | false=>rw[hb]at G;exact pq G (J hb) hd I
end
def bA (n:Nat)(g:Nat->Bool):List Bool:=(oM n).map g
theorem Qrk (n:Nat)(g:Nat->Bool):(bA n g).length=n:=by simp[bA]
theorem Qrj {g G:Nat->Bool}{u:Bool}(I:u=G i)(h:∀j,j<n->j≠i->G j=g j):(bA n g).set i u=bA n G:=by
 apply L5
 ·simp[bA]
 intro k h1 h2;rw[Nc];have J:k<n:=by simpa[bA]using h2
 by_cases e:i=k
 ·rw[OZ e,I,e];simp[bA]
 rw[OY e];have:=h k J (λe'=>e e'.symm);simp[bA,this]
theorem Qo5 (n:Nat):(oI n (Value.bool false).cells.toList).flatten=(bA n (λi=>decide (i<0))).map Value.bool:=by
 apply L5
 ·simp[Value.cells,bA]
 intro i h1 h2;simp[Value.cells,bA]
theorem qN {l:Lf}(h:s.toNat<l.length):l[s.toNat]'h=lft l s:=by unfold lft;simp[oQ,h]
theorem Qn8 (n:Nat)(fb:LI):(lf0 n fb).length=n:=by unfold lf0;rw[qb];simp
instance:Bw sV 327 [nS,sS 0,nS,nS,nS,.map none,nS] [(0,4),(4,1),(5,1),(6,1)]:={}
structure Pz where
 va:O7
 vm:O7
 ve:O7
 a:Qz
 vu:O7
 unc:LI
 mb:Nat
 mm:List (Int×O7)
 bl:Nat
 n:Nat
 rv:Nat->O7
abbrev Pz.cells (p:Pz):LV:=[p.va,sS p.a.st,p.vm,p.ve,p.vu,.map (some p.mb),.slice (some ⟨p.bl,0,none⟩) p.n p.n]
structure PzA (L:LN)(H:xG)(bp:Nat)(p:Pz):Prop where
 B:QN H bp 327 p.cells
 bL:bp∉L
 a:Zv L H p.va p.vm p.ve p.a
 u:Qu L H p.vu p.unc
 M:ZV XS H p.mb p.mm
 mL:p.mb∉L
 g:∀s,s<p.n->(match xq p.mm ((s:Nat):Int) with|some u=>u|none=>nS)=p.rv s
 R:∀s,s<p.n->Qu L H (p.rv s) (YG p.a.ed s)
theorem PzA.I {L:LN}{w w':O6}{bp:Nat}{p:Pz}(h:PzA L ↑w bp p)(G:sW w w'):PzA L ↑w' bp p:=⟨h.B.I G,h.bL,h.a.I G,h.u.I G,h.M.I G,h.mL,h.g,λs I=>(h.R s I).I G⟩
theorem PzA.st {L:LN}{w w':O6}{bp:Nat}{p:Pz}(h:PzA L ↑w bp p)(G:xd L w w'):PzA L ↑w' bp p:=⟨h.B.J G h.bL,h.bL,h.a.st G,h.u.st G,h.M.J G h.mL,h.mL,h.g,λs I=>(h.R s I).st G⟩
theorem PzA.up {L L':LN}{H:xG}{bp:Nat}{p:Pz}(h:PzA L H bp p)(G:∀b∈L',b∈L\/H.size<=b):PzA L' H bp p :=
 ⟨h.B,λI=>by rcases G _ I with h1|h1;exact h.bL h1;have:=h.B.lt;omega,h.a.up G,h.u.up G,h.M,λI=>by rcases G _ I with h1|h1;exact h.mL h1;have:=h.M.lt;omega,h.g,λs J=>(h.R s J).up G⟩
structure PzQ (p:Pz):Prop where
 ok:QL p.a
 n:p.a.st=(p.n:Int)
def stP (N n:Nat):Nat->O7->O6->Prop
 | 2,v,w=>∃b,v=.map (some b)/\N<=b/\ZV XS ↑w b []
 | _,v,w=>∃b,v=.slice (some ⟨b,0,none⟩) n n/\N<=b/\QN ↑w b 4 ((bA n (λi=>decide (i<0))).map Value.bool)
theorem Qnc {v:O7}:∀{i:Nat},stP N n i v w->sW w w'->stP N n i v w'
 | 0,⟨b,h1,h2,G⟩,I|1,⟨b,h1,h2,G⟩,I|_+3,⟨b,h1,h2,G⟩,I=>⟨b,h1,h2,G.I I⟩
 | 2,⟨b,h1,h2,G⟩,I=>⟨b,h1,h2,G.I I⟩
theorem Qjq {rm unc:LI}(h:Zv [] ↑w va vm ve a)(hok:QL a)(hn:a.st=(n:Int))(hr:Qu [] ↑w vr rm)(gq:∀x∈rm,0<=x/\x<a.st)(hu:Qu [] ↑w vu unc):
  QT sV 222 [.agg #[va,sS a.st,vm,ve],vr,vu] w λr w'=>sW w w'/\∃bp p,r=sP bp/\p.a=a/\p.unc=unc/\p.n=n/\↑w<=p.bl/\PzA [p.bl] ↑w' bp p/\QN ↑w' p.bl 4 ((lf0 n rm).map Value.bool):=by
 have kr:=hok.st1;have kt:=hok.ed_le;have ku:=hr.le;refine Zn func222 ?_;refine Qc<|Zd [va,sS a.st,vm,ve] λb3 I hg kv h5=>Qb ?_;have kw:=h5.lt;refine QX (α:=Nat×Nat×Nat) [(7,7),(13,20)] (λz=>[(7,.pointer (some ⟨z.1,0,none⟩))]) (λz w'=>sW I w'/\QN ↑w' z.1 327 [va,sS a.st,vm,ve,vu,.map (some z.2.1),.slice (some ⟨z.2.2,0,none⟩) n n] /\
  ZV XS ↑w' z.2.1 []/\QN ↑w' z.2.2 4 ((bA n (λi=>decide (i<0))).map Value.bool)/\↑I<=z.1/\↑I<=z.2.1/\↑I<=z.2.2/\z.1≠z.2.1/\z.1≠z.2.2/\z.2.1≠z.2.2) ol ?_ ?_
 ·have gr:sW I { I with drawn:=I.drawn+1 }:=xd.Y _ _
  refine VC (α:=Nat×Nat) (sW I) [oB 0,oB 1,oB 3,oB 4] (λ_=>[]) [2,5] [oB 6,oC 7,oB 8] [(15,15),(18,18)] (stP ↑I n) (λz=>[(15,.map (some z.1)),(18,.slice (some ⟨z.2,0,none⟩) n n)])
   (λz w'=>ZV XS ↑w' z.1 []/\QN ↑w' z.2 4 ((bA n (λi=>decide (i<0))).map Value.bool)/\↑I<=z.1/\↑I<=z.2/\z.1≠z.2) mixed ol od gr (λ_ _ h1 h2=>h1.D h2) (λ_ _ _ _ h U=>Qnc h U) ?_ ?_
  ·rintro g w' ⟨⟨b,e1,h1,h2⟩,⟨c,e2,h3,h4⟩,_⟩ gs;have d1:=gs 2 oe 5 oe oh;rw[e1,e2]at d1;simp only[ow,oH,forall_eq]at d1;exact⟨(b,c),⟨e1,e2,La⟩,h2,h4,h1,h3,d1⟩
  refine pq (λ_ hc=>Zj (h5.I hc) Z Z)<|p Qx<|p (QH Z)<|pq (λ_ hc=>Qj (h5.I hc) Z Z)<|pe ⟨⟨λg w' hc _=>?_,λg w' hc _=>?_,La⟩,?_⟩
  ·exact Z1 XS λbm w2 gt hh hS=>⟨gt,⟨bm,Z,LA hc.size hh,hS⟩,λx hx=>by rw[Lc.1 (show x∈[bm] from hx)];exact⟨hh,hS.lt⟩⟩
  ·exact Y5 (n:=n) (O0 sS hn) (O0 sS hn) oa λbl w3 hv ho hB=>⟨hv,⟨bl,Z,LA hc.size ho,by rw[Qo5]at hB;exact hB⟩,λx hx=>by rw[Lc.1 (show x∈[bl] from hx)];exact⟨ho,hB.lt⟩⟩
  rintro⟨bm,bl⟩ g w3 hv ⟨hM,hB,hh,ho,gu⟩;refine p (λ_=>ZE [(0,[va,sS a.st,vm,ve]),(1,[vu]),(2,[.map (some bm)]),(3,[sL bl n n])] ⟨Z,Z,hu.cells,Z,Z,Z,Z,Z,La⟩)<|pk <|
   zg (us:=[va,sS a.st,vm,ve,vu,.map (some bm),sL bl n n]) Z λbp w4 J hF Y=>⟨hv.D J,p ZH<|pe ?_⟩
  have hz:=hv.size;have h1:=hM.lt;have h2:=hB.lt;exact⟨(bp,bm,bl),Lb,hv.D J,Y,hM.I J,hB.I J,LA hz hF,hh,ho,og,og,gu⟩
 rintro⟨bp,bm,bl⟩ g w4 ⟨J,Y,hG,hH,hF,hh,ho,hT,hU,hI⟩;simp only[]at Y hG hH hF hh ho hT hU hI;have kx:=Y.lt;have kz:=hG.lt;have gv:=hg.D J;have h6:bp∉[bl]:=by simpa using hU
 have hV:bm∉[bl]:=by simpa using hI
 refine Qd<|Ql<|Z8 Z<|Qs Z Y Z Z<|QG (L:=[]) (hH.arr oe (n:=n) (cap:=n) (sz:=1) (by simp[bA]) oa (Lr _)) rfl<|Qa<|xe<|QY (α:=Nat) [(8,8),(26,35)] (λz=>[(26,sS z)]) (λz w'=>z<=n/\xd [bl] w4 w'/\QN ↑w' bl 4 ((bA n (λi=>decide (i<z))).map Value.bool)) (λz=>n - z) 0 Lb ⟨Lp _,xd.C _ _,hH⟩ ?_;rintro k g w5 ⟨hk,h7,hJ⟩;refine Zk rfl Z (λhW=>?_) (λhW=>?_)
 ·refine Qt ?_;have gx:bA n (λi=>decide (i<k))=(rm.take 0).foldl cut (oI n true):=by
   apply L5
   ·simp[bA]
   intro i h1 h2;have:i<n:=by simpa[bA]using h1
   simp[bA];omega
  rw[gx]at hJ;have hX:Qu [bl] ↑I vr rm:=(hr.I hg).up (λb hb=>.inr (by simp only[oH]at hb;omega));have gy:Zv [bl] ↑I va vm ve a:=(h.I hg).up (λb hb=>.inr (by simp only[oH]at hb;omega));refine Qd<|Ql<|QG ((hX.I J).st h7) Z<|Qa<|xe<|QY (α:=Nat) [(10,10),(38,48)] (λz=>[(38,sS z)]) (λz w'=>z<=rm.length/\xd [bl] w4 w'/\QN ↑w' bl 4 (((rm.take z).foldl cut (oI n true)).map Value.bool)) (λz=>rm.length - z) 0 Lb ⟨Lp _,h7,hJ⟩ ?_;rintro j g w6 ⟨hj,G,ha⟩;refine Zk Z Z (λhK=>?_) (λhK=>?_)
  ·refine Qt ?_;have gz:rm.length<=j:=by have h8:¬(j:Int)<(rm.length:Int):=hK;omega
   rw[Ls gz]at ha;have hY:=Y.J G h6;have g0:=hG.J G hV;have k0:=ha.lt;refine Qd<|Qc<|Qs Z ((h5.I J).J G om) Z Z<|QG ((gy.I J).st G).ed Z<|Qa<|xe ?_;have k4:=G.size;refine QY (α:=Nat×(Nat->O7)×List (Int×O7)) [(12,12),(52,73)] (λz=>[(52,sS z.1)]) (λz w'=>z.1<=a.ed.length/\xd [bm] w6 w'/\ZV XS ↑w' bm z.2.2/\V7 ↑w6 w' n z.2.1 (YG (a.ed.take z.1))/\∀s,s<n->(match xq z.2.2 ((s:Nat):Int) with|some u=>u|none=>nS)=z.2.1 s) (λz=>a.ed.length - z.1) (0,λ_=>nS,[]) ⟨rfl,La⟩
    ⟨Lp _,xd.C _ _,g0,⟨λi _=>QM _ _ _ _,λi j _ _ _=>Dj.nil _⟩,λs _=>Z⟩ ?_
   rintro⟨i,rv,m⟩ g w7 ⟨hi,O,hL,hf,hA⟩;simp only[]at hi hL hf hA;have k5:=O.size;have hZ:bp∉[bm]:=by simpa using hT
   have g2:bl∉[bm]:=by simpa using Ne.symm hI
   refine Zk Z Z (λhN=>?_) (λhN=>?_)
   ·refine Qt ?_;have g3:a.ed.length<=i:=by have hC:¬(i:Int)<(a.ed.length:Int):=hN;omega
    rw[Ls g3]at hf;refine Ql<|Qb<|Qk ⟨[_],Lb,(gv.O G oa).O O oa,bp,⟨va,vm,ve,a,vu,unc,bm,m,bl,n,rv⟩,Z,Z,Z,Z,og,⟨hY.J O hZ,h6,?_,?_,hL,hV,hA,λs U=>QO (hf.own s U) (LA (qP a.ed s) oa) (λb hb hm=>?_)⟩,ha.J O g2⟩
    ·have h9:Zv [bl,bm] ↑w7 va vm ve a:=((((h.I hg).up (L':=[bl,bm]) (λb hb=>.inr (by simp only[oN,oJ,or_false]at hb;omega))).I J).st (G.S oe)).st (O.S oe);exact h9.up oe
    ·have h9:Qu [bl,bm] ↑w7 vu unc:=((((hu.I hg).up (L':=[bl,bm]) (λb hb=>.inr (by simp only[oN,oJ,or_false]at hb;omega))).I J).st (G.S oe)).st (O.S oe);exact h9.up oe
    have:=(Qi (hf.own s U) b hb).1;simp only[oH]at hm;omega
   refine Qf ?_;have V:i<a.ed.length:=by have hC:(i:Int)<(a.ed.length:Int):=hN;omega
   have hw:a.ed.take (i+1)=a.ed.take i++[a.ed[i]'V]:=Ln V;have ga:=hok.ed _ (Lm V);refine Zg (a.ed[i]'V) λe he=>?_;rw[he]at hw ga;have hto:e.2.2=(e.2.2.toNat:Int):=oa
   have hy:e.2.2.toNat<n:=oa
   have g4:=qP (a.ed.take i) e.2.2.toNat;rw[LH]at g4;have hO:=Qff (a.ed.take i) e ga.2.2.2.1;have g5:qn [bl,bm] ↑w7 ve a.ed:=((((h.ed.I hg).up (L':=[bl,bm]) (λb hb=>.inr (by simp only[oN,oJ,or_false]at hb;omega))).I J).st (G.S oe)).st (O.S oe);refine Qd<|Qn<|Qc<|xie g5 Z Z V λk6 hC=>?_;rw[he]at hC;refine x (QF hC Z Z)<|QV [sS 0,sS 0,sS 0] λg6 w8 g7 g8 g9=>Q6 (Qp e) g9 oz λw9 ka hP=>xe ?_;have h0:sW w7 w9:=g7.O ka g8;have k9:=h0.size;have gb:=hf.I h0;have kb:=gb.own _ hy;have hD:∀b∈ob (rv e.2.2.toNat),↑w6<=b/\b<w7.heap.size:=λb hb=>⟨(Qi (hf.own _ hy) b hb).1,QW (hf.own _ hy) b hb⟩;have gc:bp∉ob (rv e.2.2.toNat):=λhb=>oq (hD _ hb)
   have ge:bm∉ob (rv e.2.2.toNat):=λhb=>oq (hD _ hb)
   have hQ:g6∉ob (rv e.2.2.toNat):=λhb=>oq (hD _ hb)
   have gg:=((hY.J O hZ).I h0);have gh:=hL.I h0;have gi:=hA e.2.2.toNat hy;rw[<-hto]at gi;refine Ur (xd (ob (rv e.2.2.toNat)) w9) [oB 0,oB 1,oB 2,oB 3,oB 4,oB 5,oB 6,oB 7,oB 8,oB 9,oB 10,oB 11,oB 12,oB 13,oB 14,oC 15,oC 16,oC 17] mixed ol od (xd.Y _ _) ?_;refine p Qx<|p (YT Z)<|p (QH Z)<|pq (λ_ hc=>Qj (gg.J hc gc) Z Z) <|
    p (QH rfl)<|pq (λ_ hc=>Qj (hP.J hc hQ) Z Z)<|p Qx<|p (YT Z)<|p (QH Z) <|
    pq (λ_ hc=>Qj (gg.J hc gc) Z Z)<|p (QH Z)<|pq (λ_ hc=>Qj (hP.J hc hQ) Z Z) <|
    pq (λ_ hc=>(JA (k:=e.2.2) (gh.J hc ge) Z Z).D (O0 (λv=>Result.ok (Next.value v) _) gi))<|p (QH Z)<|pq (λ_ hc=>Qj (hP.J hc hQ) Z Z) <|
    pk<|Q3 [[sS e.1]] λma kc gj mc ke=>⟨(xd.Y _ _).D gj,?_⟩
   have hp:sW w9 kc:=(xd.Y _ _).D gj;have mf:=hp.size;refine pk<|Q0 (m:=1) (news:=[sS e.1]) (Qm kb hp) Z Z Z (ke.at (L:=[]) oe) oo oa oa λhR mg kf hE kg=>⟨hp.any.Q hE,?_⟩;have kh:=(gh.I hp).J hE ge;refine pkk<|YV (k:=e.2.2) kh Z Z λmh gk ki=>pe ?_;have kj:∀b∈ob hR,b∈ob (rv e.2.2.toNat)\/↑w9<=b:=λb hb=>(kg b hb).imp id (λh=>oa);have gl:=gb.app hy (Qh.snoc kf) (hp.any.Q hE) kj;have gm:=gl.J gk (λi hi b hb=>by have:=(Qi (gl.own i hi) b hb).1;simp only[oH];omega);have kk:XB (YG (a.ed.take i)) e.2.2.toNat (YG (a.ed.take i) e.2.2.toNat++[e.1])=YG (a.ed.take (i+1)):=by rw[hw];exact funext hO
   rw[kk]at gm;refine Qr<|QC Z Z<|Qa<|xe<|⟨(i+1,XB rv e.2.2.toNat hR,xt m e.2.2 hR),og,Lb,V,?_,ki,gm,λs U=>?_⟩
   ·exact(((O.D h0).D hp).Z hE (λb hb=>.inr (hD b hb).1)).Q gk
   simp only[];rw[JC];by_cases gn:s=e.2.2.toNat
   ·subst gn;rw[OZ hto,Zx]
   rw[OY oa,ZQ _ _ gn];exact hA s U
  refine Qf ?_;have hq:j<rm.length:=by have h8:(j:Int)<(rm.length:Int):=hK;omega
  have kn:=gq _ (Lm hq);have hw:rm.take (j+1)=rm.take j++[rm[j]'hq]:=Ln hq;refine Zg (rm[j]'hq) λs U=>?_;rw[U]at kn hw;have hO:s=(s.toNat:Int):=oa
  have mj:((rm.take j).foldl cut (oI n true)).length=n:=by rw[qb];simp
  refine Qd<|Qn<|Qc<|xii (i:=j) ((hX.I J).st G) Z Z hq λmo h8=>?_;rw[U]at h8;refine x (Qq h8 Z)<|Qb<|Qr<|Qa<|Z8 Z<|Qs Z (Y.J G h6) Z Z<|Qa<|x (QE (i:=s.toNat) Z (O0 sS hO) oa) <|
   Qo<|yG (i:=s.toNat) ha Z Z oa λw7 O ko=>xe ?_
  refine Qr<|QC Z Z<|Qa<|xe<|⟨j+1,oa,Lb,hq,G.Q O,?_⟩;rw[hw,Mw];exact ko
 refine Qf ?_;have V:k<n:=by have mq:(k:Int)<(n:Int):=hW;omega
 refine Qd<|Qn<|Ql<|Qb<|Qr<|Qa<|Z8 Z<|Qs Z (Y.J h7 h6) Z Z<|Qa<|x (QE (i:=k) Z Z oa) <|
  Qo<|yG (i:=k) hJ Z Z (by rw[Qrk];exact V) λw6 G ha=>xe ?_
 have kq:(bA n (λi=>decide (i<k))).set k true=bA n (λi=>decide (i<k+1)):=Qrj oe (λi _ hi=>by
  by_cases e:i<k
  ·simp[e];omega
  simp[e];omega)
 rw[kq]at ha;refine Qr<|QC Z Z<|Qa<|xe ?_;exact⟨k+1,oa,Lb,V,h7.Q G,ha⟩
theorem jE {l:LI}(h:i<l.length):xh (l++r) i=xh l i:=by
 unfold xh;simp[oQ,Oa h]
theorem U9 {q:Pz}(hA:PzA [] ↑w bp q)(hq:PzQ q)(hB:QN ↑w q.bl 4 (lf.map Value.bool))(hl:lf.length=q.n):
  QT sV 226 [sP bp] w λr w'=>sW w w'/\∃b,r=sL b q.n q.n/\↑w<=b/\QN ↑w' b 3 ((dsts q.a lf).map (Value.int .i64))/\(dsts q.a lf).length=q.n:=by
 have hn:=hq.n;have kw:=hq.ok.st1;have gc:=hq.ok.mr;have kx:=hq.ok.mr_le;have kz:=hq.ok.ed_le;have hO:q.a.st.toNat=q.n:=oa
 have gv:=QlL (lf:=lf) hq.ok hn;have ge:(dsL q.a.ed lf q.n 0 (ds0 q.a lf)).1=dsts q.a lf:=by unfold dsts;rw[hO]
 refine Zg (dsts q.a lf) λDD gx=>?_;rw[gx]at ge ⊢;refine Zn func226 ?_;refine Qc<|Qb<|Ql<|Z8 Z<|Q9 Z<|Qs Z hA.B Z Z<|Qo<|Y5 (n:=q.n) (O0 sS hn) (O0 sS hn) oa λbO w1 gg hF hP=>Qb ?_;rw[Qii]at hP;refine Qd<|Ql<|QG (L:=[]) (hP.arr oe (n:=q.n) (cap:=q.n) (sz:=1) (by simp[gA]) oa (Lr _)) rfl<|Qa<|xe<|QY (α:=Nat) [(4,4),(19,25)] (λz=>[(19,sS z)]) (λz w'=>z<=q.n/\sW w w'/\QN ↑w' bO 3 ((gA q.n (λj=>if j<z then -1 else 0)).map (Value.int .i64))) (λz=>q.n - z) 0 Lb ⟨Lp _,gg,hP⟩ ?_
 rintro j g I ⟨hj,ho,h4⟩;refine Zk rfl Z (λhQ=>?_) (λhQ=>?_)
 ·refine Qt ?_;have hR:j=q.n:=by have gy:¬(j:Int)<(q.n:Int):=hQ;omega
  have gz:gA q.n (λi=>if i<j then -1 else 0)=((q.a.mr.take 0).foldl (ds1 lf) (oI q.n (-1),[])).1:=by
   apply L5
   ·simp[gA]
   intro i h1 h2;have:i<q.n:=by simpa[gA]using h1
   simp[gA];omega
  rw[gz]at h4;refine Qc<|Qb<|Qd<|Ql<|Z8 Z<|Q9 Z<|Qs Z (hA.I ho).B Z Z<|QG (hA.I ho).a.mr Z<|Qa<|xe<|QY (α:=Nat×O7) [(5,5),(7,7),(32,50)] (λz=>[(5,z.2),(32,sS z.1)]) (λz w'=>z.1<=q.a.mr.length/\sW w w'/\I.heap.size<=↑w'/\QN ↑w' bO 3 (((q.a.mr.take z.1).foldl (ds1 lf) (oI q.n (-1),[])).1.map (Value.int .i64)) /\
   Qh 3 ↑I w' z.2 ((q.a.mr.take z.1).foldl (ds1 lf) (oI q.n (-1),[])).2) (λz=>q.a.mr.length - z.1) (0,nS) oy ⟨Lp _,ho,Lr _,h4,QM _ _ _ _⟩ ?_
  rintro⟨k,vl⟩ g w3 ⟨hk,h5,gh,hp,hf⟩;simp only[]at hk hp hf;have gi:=QdO (lf:=lf) (λx hx=>(gc x hx).1) k;rw[hO]at gi;refine Zk Z Z (λhS=>?_) (λhS=>?_)
  ·refine Qt ?_;have g0:q.a.mr.length<=k:=by have hG:¬(k:Int)<(q.a.mr.length:Int):=hS;omega
   have e0:(q.a.mr.take k).foldl (ds1 lf) (oI q.n (-1),[])=ds0 q.a lf:=by rw[Ls g0];unfold ds0;rw[hO]
   rw[e0]at hp hf;have g2:bO<I.heap.size:=h4.lt;refine Qd<|Qc<|Qb<|QY (α:=Nat×Nat×O7×LI×LI) [(5,5),(8,8),(10,10),(51,100)] (λz=>[(5,z.2.2.1),(8,sS z.2.1)])
    (λz w'=>sW w w'/\I.heap.size<=↑w'/\QN ↑w' bO 3 (z.2.2.2.1.map (Value.int .i64))/\Qh 3 ↑I w' z.2.2.1 z.2.2.2.2/\DsI q.n z.2.2.2/\z.1+z.2.1=q.n/\(dsL q.a.ed lf z.1 z.2.1 z.2.2.2).1=DD) (λz=>q.n - z.2.1) (q.n,0,vl,(ds0 q.a lf).1,(ds0 q.a lf).2) oy
    ⟨h5,gh,hp,hf,gv,Z,ge⟩ ?_
   rintro⟨f,i,vl,o,l⟩ g w4 ⟨hg,hT,h6,U,hr,g3,V⟩;simp only[]at hT h6 U hr g3 V;have g4:=hr.le;have gj:=hr.ok.len;simp only[]at g4 gj;have hH:=hA.I hg;refine Qd<|Ql<|Qa<|QG (L:=[]) (QO U oa oe) rfl<|ZT rfl rfl<|xe<|Zp Z (λhU=>?_) (λhU=>?_)
   ·refine Qt ?_;have g5:¬i<l.length:=by have g6:¬(i:Int)<(l.length:Int):=hU;omega
    rw[QlI g5]at V;simp only[]at V;subst V;refine Ql<|Qb<|Qk ⟨[sL bO q.n q.n],Lb,hg,bO,Z,hF,h6,gj⟩
   refine Qf ?_;have hu:i<l.length:=by have g6:(i:Int)<(l.length:Int):=hU;omega
   refine Exists.elim (Nu (show f≠0 by omega)) λf' g7=>?_;subst g7;rw[dsL,OZ hu]at V;have gk:=Zo hu;have hsr:=hr.ok.q _ (XH hu);have hs0:=hr.s0 _ (XH hu);refine Zg (xh l i) λs hs=>?_;rw[hs]at V hsr gk;simp only[]at hsr hs0;rw[hs]at hs0;have gl:s=(s.toNat:Int):=oa
   have gm:=hH.g s.toNat oa;rw[<-gl]at gm;have g8:=hH.R s.toNat oa;have k0:=qP q.a.ed s.toNat;refine Qd<|Qn<|Qd<|ZK [] (Xj 0 11 [])<|p Qx<|p (YT Z)<|p (QH Z)<|pq (λ_ hc=>Qj (hH.B.I hc) Z Z)<|p Qx<|p Qx <|
    pii (i:=i) Z (QO (L:=[]) U oa oe) rfl rfl hu λk4 gn=>?_
   rw[gk]at gn;refine pq (λ_ hc=>Qq (gn.I hc) Z)<|pq (λ_ hc=>(JA (k:=s) (hH.M.I hc) Z Z).D (O0 (λv=>Result.ok (Next.value v) _) gm))<|p (λ_=>Y4 g8 Z)<|p Qx<|pe ?_;have hI:sW w4 { w4 with drawn:=w4.drawn+1 }:=xd.Y _ _
   refine QY (α:=Nat×O7×LI×LI) [(5,5),(10,10),(67,100)] (λz=>[(5,z.2.1),(67,sS z.1)])
    (λz w'=>z.1<=(YG q.a.ed s.toNat).length/\sW w w'/\I.heap.size<=↑w'/\QN ↑w' bO 3 (z.2.2.1.map (Value.int .i64))/\Qh 3 ↑I w' z.2.1 z.2.2.2/\DsI q.n z.2.2/\0<=xh z.2.2.1 s.toNat/\i<z.2.2.2.length/\xh z.2.2.2 i=s /\
     ((YG q.a.ed s.toNat).drop z.1).foldl (VZ lf s) z.2.2=(YG q.a.ed s.toNat).foldl (VZ lf s) (o,l)) (λz=>(YG q.a.ed s.toNat).length - z.1) (0,vl,o,l) oy
    ⟨Lp _,hg.D hI,LA hT hI.size,h6.I hI,Qm U hI,hr,hs0,hu,hs,Z⟩ ?_
   rintro⟨m,hJ,o2,l2⟩ g w5 ⟨hm,G,hK,hv,hw,hh,hV,h7,hL,J⟩;simp only[]at hm hK hv hw hh hV h7 hL J;have gq:=hA.I G;have g9:=hh.le;have ka:=hh.ok.len;simp only[]at g9 ka;refine Zk Z Z (λhW=>?_) (λhW=>?_)
   ·refine Qt ?_;have kb:(YG q.a.ed s.toNat).length<=m:=by have hM:¬(m:Int)<((YG q.a.ed s.toNat).length:Int):=hW;omega
    rw[Lx kb]at J;simp only[List.foldl_nil]at J;rw[<-J]at V;refine Qr<|Qa<|QC Z Z<|Qb<|⟨(f',i+1,hJ,o2,l2),og,oy,G,hK,hv,hw,hh,og,V⟩
   refine Qf ?_;have h0:m<(YG q.a.ed s.toNat).length:=by have hM:(m:Int)<((YG q.a.ed s.toNat).length:Int):=hW;omega
   have gr:=VM (Lm h0);have kc:=QZ h0;rw[kc,LP]at J;refine Zg ((YG q.a.ed s.toNat)[m]'h0) λy hy=>?_;rw[hy]at gr J;have ke:0<=y/\y<(q.n:Int):=by
    obtain⟨e,he,h1,_⟩:=gr;have:=hq.ok.ed e he;omega
   have h3:y=(y.toNat:Int):=oa
   have h8:y.toNat<o2.length:=oa
   have hX:s.toNat<o2.length:=oa
   have kf:=hh.ok.le _ (XH hX);simp only[]at kf;have hE:=QlK (lf:=lf) hh hsr hV ke;have kg:=qN (l:=lf) (s:=y) oa;refine Qd<|Qn<|Qc<|xii (i:=m) ((gq.R s.toNat oa)) Z Z h0 λk5 hM=>?_;rw[hy]at hM;refine x (Qq hM Z)<|Qb<|QX (α:=Bool) [(71,84)] (λz=>[(84,.bool z)]) (λz w'=>w'=w5/\z=(lft lf y && decide (xh o2 y.toNat<0))) ol ?_ ?_
   ·refine Qr<|Qa<|Z8 Z<|Qs Z gq.B Z Z<|Qa<|x (QE (i:=y.toNat) Z (O0 sS h3) oa)<|x (J1 (i:=y.toNat) (hB.I G) Z oa)<|?_;rw[kg];cases lft lf y with
    | true =>
     refine Qa<|Qa<|Qa<|x (QE (i:=y.toNat) Z (O0 sS h3) oa)<|x (zS (i:=y.toNat) hv Z h8)<|ZT Z Z<|QB Z<|xe ?_;exact⟨_,Lb,Z,by rw[Zo h8];rfl⟩
    | false =>
     refine Qa<|Zs<|YN<|QB Z<|xe ?_;exact⟨_,Lb,Z,Z⟩
   rintro z g k6 ⟨rfl,rfl⟩;refine Q5 Z (λh9=>?_) (λh9=>?_)
   ·rw[LD,decide_eq_true_eq]at h9;have hY:VZ lf s (o2,l2) y=(o2.set y.toNat (xh o2 s.toNat+1),l2++[y]):=by unfold VZ;rw[OZ h9]
    rw[hY]at J hE;have kh:=Zo hX;have gs:=Zo h7;rw[hL]at gs;refine Ql<|Qa<|Qa<|Qa<|Qa<|xii (i:=i) (QO (L:=[]) hw oa oe) rfl rfl h7 λk9 gt=>?_;rw[gs]at gt;refine x (Qq gt Z)<|x (QE (i:=s.toNat) Z (O0 sS gl) oa)<|x (zS (i:=s.toNat) hv Z hX)<|x (Xy Z Z ⟨oa,oa⟩) <|
     x (QE (i:=y.toNat) Z (O0 sS h3) oa)<|Qo<|Kt (i:=y.toNat) hv Z Z h8 λw6 O hN=>xe ?_
    rw[kh]at hN;have ki:=O.size;have kj:∀b∈ob hJ,b∉[bO]:=λb hb=>by have:=Qi hw b hb;simp only[oH];omega
    have hC:Qh 3 ↑I w6 hJ l2:=Qg hw O kj;have kk:sW w w6:=G.O O hF;refine Qr<|Qa<|Qa<|Qo<|Q3 [[sS y]] λma w7 hD mc kn=>Qo<|Q0 (m:=1) (news:=[sS y]) (Qm hC hD) Z Z Z (kn.at (L:=[]) oe) oo oa (oq hD.size) λhZ w8 ko ga mf =>
     Qb ?_
    have mg:=hD.size;have mh:=ga.size;refine Qr<|QC Z Z<|Qa<|xe<|⟨(m+1,hZ,_,l2++[y]),og,oy,h0,(kk.D hD).Z ga (λb hb=>.inr (ov (Qi hC b hb) gg.size ho.size)),oa,(hN.I hD).J ga (λhb=>oq (Qi hC _ hb)),Qh.snoc ko,hE.1,hE.2,by simp only[oO];omega,by rw[jE h7];exact hL,J⟩
   have hY:VZ lf s (o2,l2) y=(o2,l2):=by
    unfold VZ;rw[OY];intro hc;rw[hc.1,O2 hc.2]at h9;cases h9
   rw[hY]at J;refine Qf<|Qr<|QC Z Z<|Qa<|xe ?_;exact⟨(m+1,hJ,o2,l2),og,oy,h0,G,hK,hv,hw,hh,hV,h7,hL,J⟩
  refine Qf ?_;have Y:k<q.a.mr.length:=by have hG:(k:Int)<(q.a.mr.length:Int):=hS;omega
  have kq:=gc _ (Lm Y);have kr:q.a.mr.take (k+1)=q.a.mr.take k++[q.a.mr[k]'Y]:=Ln Y;have ha:(q.a.mr.take (k+1)).foldl (ds1 lf) (oI q.n (-1),[])=ds1 lf ((q.a.mr.take k).foldl (ds1 lf) (oI q.n (-1),[])) (q.a.mr[k]'Y):=by rw[kr,Mw];rfl
  have kt:((q.a.mr.take k).foldl (ds1 lf) (oI q.n (-1),[])).1.length=q.n/\((q.a.mr.take k).foldl (ds1 lf) (oI q.n (-1),[])).2.length<=q.a.mr.length:=by
   rw[gi];exact⟨J6 _ _,LA (LO _ _) (by rw[LH];omega)⟩
  refine Zg ((q.a.mr.take k).foldl (ds1 lf) (oI q.n (-1),[])) λz hz=>?_;rw[hz]at hp hf ha kt;refine Zg (q.a.mr[k]'Y) λy hy=>?_;rw[hy]at kq ha;have h3:y=(y.toNat:Int):=oa
  have h8:y.toNat<z.1.length:=oa
  have gu:=hA.I h5;refine Qd<|Qn<|Qc<|xii (i:=k) gu.a.mr Z Z Y λmj hG=>?_;rw[hy]at hG;refine x (Qq hG Z)<|Qb<|Ql<|Z8 Z<|Qs Z gu.B Z Z<|Qa<|x (QE (i:=y.toNat) Z (O0 sS h3) oa)<|x (J1 (i:=y.toNat) (hB.I h5) Z oa)<|xe ?_;rw[(qN (l:=lf) (s:=y) oa)];refine Q5 Z (λgb=>?_) (λgb=>?_)
  ·have e1:ds1 lf z y=(z.1.set y.toNat 0,z.2++[y]):=by unfold ds1;rw[OZ gb]
   rw[e1]at ha;refine Ql<|Qa<|x (QE (i:=y.toNat) Z (O0 sS h3) oa)<|Qo<|Kt (i:=y.toNat) hp Z Z h8 λw4 hg h6=>xe ?_;have hT:=hg.size;have g2:bO<I.heap.size:=h4.lt;have U:Qh 3 ↑I w4 vl z.2:=Qg hf hg (λb hb=>by have:=Qi hf b hb;simp only[oH];omega);refine Qr<|Qa<|Qa<|Qo<|Q3 [[sS y]] λmo w5 G mq ku=>Qo<|Q0 (m:=1) (news:=[sS y]) (Qm U G) Z Z Z (ku.at (L:=[]) oe) oo oa (oq G.size) λhZ w6 hC O ms =>
    Qb ?_
   have hK:=G.size;have ki:=O.size;refine Qr<|QC Z Z<|Qa<|xe<|⟨(k+1,hZ),og,oy,Y,((h5.O hg hF).D G).Z O (λb hb=>.inr (ou (Qi U b hb) ho.size)),oa,?_,?_⟩
   ·simp only[];rw[ha];exact(h6.I G).J O (λhb=>oq (Qi U _ hb))
   simp only[];rw[ha];exact Qh.snoc hC
  have e1:ds1 lf z y=z:=by unfold ds1;rw[OY (by rw[gb];decide)]
  rw[e1]at ha;refine Qf<|Qr<|QC Z Z<|Qa<|xe ?_;exact⟨(k+1,vl),og,oy,Y,h5,gh,by simp only[];rw[ha];exact hp,by simp only[];rw[ha];exact hf⟩
 refine Qf ?_;have hR:j<q.n:=by have gy:(j:Int)<(q.n:Int):=hQ;omega
 refine Qd<|Qn<|Ql<|Qb<|Qr ?_;have kv:(gA q.n (λi=>if i<j then -1 else 0)).set j (-1)=gA q.n (λi=>if i<j+1 then -1 else 0):=Qfk (by rw[OZ oa]) (λi _ hi=>by
  by_cases e:i<j
  ·rw[OZ e,OZ oa]
  rw[OY e,OY oa])
 refine Qa<|Qa<|x (QE (i:=j) Z Z oa)<|Qo<|yH (i:=j) h4 Z Z hR kv λw6 O hN=>xe ?_;refine Qr<|QC Z Z<|Qa<|xe ?_;exact⟨j+1,oa,Lb,hR,ho.O O hF,hN⟩
abbrev rmC (rk rs:Int)(x:Int×Int):LV:=[sS x.1,sS rk,sS rs,sS x.2]
theorem Qgk (rk rs:Int)(x:Int×Int):(rmC rk rs x).length=4:=rfl
abbrev RmO (base:Nat)(w:O6)(v:O7)(rk rs:Int)(l:xD):Prop:=w.ownsRow base 323 4 v l.length (l.flatMap (rmC rk rs))
theorem RmO.snoc {v:O7}{rk rs:Int}{l:xD}{x:Int×Int}(h:w.ownsRow base 323 4 v (l.length+1) (l.flatMap (rmC rk rs)++rmC rk rs x)):RmO base w v rk rs (l++[x]):=by
 unfold RmO;rw[Le,LJ];simpa using h
theorem QkE {k:Nat}(h:k<a.ed.length):(a.ed.take (k+1)).foldl (Js ul lf) []=Js ul lf ((a.ed.take k).foldl (Js ul lf) []) (a.ed[k]'h):=by
 rw[Ln h,Mw];rfl
theorem Qj9 {q:Pz}(hA:PzA [] ↑w bp q)(hq:PzQ q)(hB:QN ↑w q.bl 4 (lf.map Value.bool))(hl:lf.length=q.n)(rk:Int):
  QT sV 263 [sP bp,sS rk] w λr w'=>sW w w'/\RmO ↑w w' r rk 2 (lost q.a q.unc lf):=by
 have hn:=hq.n;have hU:=hq.ok.ed_le;refine Zn func263 ?_;refine Qc<|Qb<|Qc<|Qb<|Qd<|Ql<|Z8 Z<|Q9 Z<|Qs Z hA.B Z Z<|QG hA.a.ed Z<|Qa<|xe<|QY (α:=Nat×O7) [(5,5),(7,8),(15,72)] (λz=>[(5,z.2),(15,sS z.1)]) (λz w'=>z.1<=q.a.ed.length/\sW w w'/\RmO ↑w w' z.2 rk 2 ((q.a.ed.take z.1).foldl (Js q.unc lf) [])) (λz=>q.a.ed.length - z.1) (0,nS) oy ⟨Lp _,xd.C _ _,QM _ _ _ _⟩ ?_;rintro⟨k,vo⟩ g w1 ⟨hk,hj,U⟩;have hm:=(yN (a:=q.a) (ul:=q.unc) (lf:=lf) (q.a.ed.take k) [] (λe V=>Ma V) (λp hp=>by cases hp)).2;rw[LH]at hm;refine Zk rfl Z (λho=>?_) (λho=>?_)
 ·refine Qt ?_;have hH:q.a.ed.length<=k:=by have Y:¬(k:Int)<(q.a.ed.length:Int):=ho;omega
  rw[Ls hH]at U;refine Ql<|Qb<|Qk ⟨[_],Lb,hj,U⟩
 refine Qf ?_;have I:k<q.a.ed.length:=by have Y:(k:Int)<(q.a.ed.length:Int):=ho;omega
 have hI:=hq.ok.ed _ (Lm I);have G:=QkE (ul:=q.unc) (lf:=lf) I;refine Zg ((q.a.ed.take k).foldl (Js q.unc lf) []) λout hout=>?_;rw[hout]at U G hm;refine Zg (q.a.ed[k]'I) λe V=>?_;rw[V]at hI G;simp only[List.length_nil]at hm;have hJ:e.1=(e.1.toNat:Int):=oa
 have hK:e.2.2=(e.2.2.toNat:Int):=oa
 refine Qd<|Qn<|Qc<|xie (hA.I hj).a.ed Z Z I λhV Y=>?_;rw[V]at Y;refine x (QF Y Z Z)<|QV [sS 0,sS 0,sS 0] λb7 w2 hL hM J=>Q6 (Qp e) J oz λw3 hN ha=>xe ?_;have h7:sW w1 w3:=hL.O hN hM;have hr:=hj.D h7;have hf:=hA.I hr;have h8:=hB.I hr;refine Qd<|QX (α:=Bool) [(19,47)] (λz=>[(47,.bool z)]) (λz w'=>sW w3 w'/\(z=true↔(lft lf e.1=false\/lft lf e.2.2=true\/e.2.1∉q.unc))) ol ?_ ?_
 ·refine ZK [] (Xj 0 29 [26])<|p Qx<|p (YT Z)<|p (QH Z)<|pq (λ_ hc=>Qj (hf.B.I hc) Z Z)<|p (QH Z)<|pq (λ_ hc=>Qj (ha.I hc) Z Z) <|
   p (λ_=>QE (i:=e.1.toNat) Z (O0 sS hJ) oa)<|pq (v:=.bool (lft lf e.1)) (λ_ hc=>(J1 (i:=e.1.toNat) (h8.I hc) Z oa).D (by rw[(qN (l:=lf) (s:=e.1) oa)]))<|pB (λ_=>Zi rfl) (λO=>?_) (λO=>?_)
  ·refine p Qx<|ps<|ps<|ps<|ps<|ps<|ps<|ps<|ps<|p (YS Z)<|p Qx<|ps<|ps<|ps<|ps<|ps<|ps<|ps<|ps<|p (YS Z)<|pe ?_;exact⟨_,Lb,xd.Y _ _,by simp at O;simp[O]⟩
  refine p Qx<|p Qx<|p (YT Z)<|p (QH Z)<|pq (λ_ hc=>Qj (hf.B.I hc) Z Z)<|p (QH Z)<|pq (λ_ hc=>Qj (ha.I hc) Z Z) <|
   p (λ_=>QE (i:=e.2.2.toNat) Z (O0 sS hK) oa)<|?_
  refine pqB (b:=lft lf e.2.2) (λ_ hc=>(J1 (i:=e.2.2.toNat) (h8.I hc) Z oa).D (by rw[(qN (l:=lf) (s:=e.2.2) oa)])) (λhs=>?_) (λhs=>?_)
  ·refine p (YS Z)<|p Qx<|ps<|ps<|ps<|ps<|ps<|ps<|ps<|ps<|p (YS Z)<|pe ?_;exact⟨_,Lb,xd.Y _ _,by simp[hs]⟩
  refine p (YS Z)<|p Qx<|p Qx<|p (YT Z)<|p (QH Z)<|pq (λ_ hc=>Qj (hf.B.I hc) Z Z) <|
   p (QH rfl)<|pq (λ_ hc=>Qj (ha.I hc) Z Z)<|pk<|xg<|(ZG (hf.u.I (xd.Y _ _)) e.2.1).S ?_
  rintro r4 w4 ⟨rfl,rfl⟩;refine⟨xd.Y _ _,?_⟩;refine p (λ_=>yy Z)<|p (YS Z)<|pe ?_;exact⟨_,Lb,xd.Y _ _,by simp at O;simp[O,hs]⟩
 rintro z g w4 ⟨hu,hz⟩;have h9:=hr.D hu;have hv:=Qm (Qm U h7) hu;have J:=ha.I hu;refine Q5 rfl (λhg=>?_) (λhg=>?_)
 ·refine Qt ?_;have e1:Js q.unc lf out e=out:=by unfold Js;rw[OZ (hz.1 hg)]
  rw[e1]at G;refine Qr<|QC Z Z<|Qa<|xe ?_;exact⟨(k+1,vo),og,oy,I,h9,by simp only[];rw[G];exact hv⟩
 refine Qf ?_;have hC:¬(lft lf e.1=false\/lft lf e.2.2=true\/e.2.1∉q.unc):=λh=>by rw[hz.2 h]at hg;cases hg
 have hD:Zw [] ↑w4 vo out.length 4 (out.flatMap (rmC rk 2)):=QO hv oa oe;refine Qd<|Ql<|QG hD Z<|Qb<|QX (α:=Bool) [(50,62)] (λz=>[(62,.bool z)]) (λz w'=>sW w4 w'/\(z=true↔out.getLast?.map (·.1)=some e.1)) ol ?_ ?_
 ·refine ZK [] (Xj 0 13 [])<|p Qx<|pb (λ_=>Ya Z Z) (λhw=>?_) (λhw=>?_)
  ·have hW:0<out.length:=by have hO:(0:Int)<(out.length:Int):=hw;omega
   have hE:out.getLast?=some (out[out.length - 1]'oa):=by rw[List.getLast?_eq_getElem?,LE]
   refine Zg (out[out.length - 1]'oa) λy hy=>?_;rw[hy]at hE;refine p Qx<|p Qx<|p Qx<|p (λ_=>JH Z Z ⟨oa,oa⟩)<|Go.Lg.pig (g:=rmC rk 2) (i:=out.length - 1) Z (Qgk rk 2) hD Z (O0 sS (show(out.length:Int) - 1=((out.length - 1:Nat):Int) by omega)) oa λhX hF=>?_;rw[hy]at hF;refine p (λ_=>ZB Z)<|pq (λ_ hc=>Qq ((hF.fld 0 (sS y.1) Z).I hc) Z)<|p (QH Z)<|pq (λ_ hc=>Qj (J.I hc) Z Z) <|
    p (λ_=>Zc Z Z)<|p (YS Z)<|pe ?_
   exact⟨_,Lb,xd.Y _ _,by rw[hE];simp⟩
  have h0:out=[]:=Lu (by have hO:¬(0:Int)<(out.length:Int):=hw;omega);refine p Qx<|ps<|ps<|ps<|ps<|ps<|ps<|ps<|ps<|ps<|p (YS Z)<|pe ?_;exact⟨_,Lb,xd.Y _ _,by simp[h0]⟩
 rintro z2 g w5 ⟨h3,hG⟩;have h4:=h9.D h3;have h5:=Qm hv h3;have J:=J.I h3;refine Q5 rfl (λhh=>?_) (λhh=>?_)
 ·refine Qt ?_;have e1:Js q.unc lf out e=out:=by unfold Js;rw[OY hC,OZ (hG.1 hh)]
  rw[e1]at G;refine Qr<|QC Z Z<|Qa<|xe ?_;exact⟨(k+1,vo),og,oy,I,h4,by simp only[];rw[G];exact h5⟩
 refine Qf ?_;have hP:¬out.getLast?.map (·.1)=some e.1:=λh=>by rw[hG.2 h]at hh;cases hh
 have e1:Js q.unc lf out e=out++[(e.1,e.2.1)]:=by unfold Js;rw[OY hC,OY hP]
 rw[e1]at G;refine Qr<|Qa<|Qs Z J Z Z<|Qa<|Qs Z J Z Z<|x (QD ⟨Z,Z,Z,Z,La⟩) <|
  Qo<|Q3 [rmC rk 2 (e.1,e.2.1)] λhY w6 h6 hZ hQ =>
  Qo<|Q0 (m:=1) (news:=rmC rk 2 (e.1,e.2.1)) (Qm h5 h6) Z Z Z (hQ.at (L:=[]) oe) oo oa (ou h4.size h6.size) λhR w7 hS hT ga=>Qb<|Qr<|QC Z Z<|Qa<|xe ?_
 exact⟨(k+1,hR),og,oy,I,(h4.D h6).Z hT (λb hb=>.inr (Qi h5 b hb).1),by simp only[];rw[G];exact RmO.snoc hS⟩
theorem Qa6 (lf:Lf)(d:Int):∀(l:LI) (i:Nat),JN lf i (l++[d])=JN lf i l++if lf.getD (i+l.length) false=true/\d<0 then[((i+l.length:Nat):Int)]else[]
 | [],i=>by
  simp only[Ox,JN,List.length_nil,OC]
 | a::l,i=>by
  have ih:=Qa6 lf d l (i+1);rw[show i+1+l.length=i+(a::l).length by simp;omega]at ih;simp only[Og,JN,ih];by_cases h:lf.getD i false=true/\a<0
  ·rw[OZ h,OZ h,Mq]
  rw[OY h,OY h]
abbrev blP (l:LI):xD:=l.map λs=>(s,-1)
theorem Qdf {q:Pz}(hA:PzA [] ↑w bp q)(V:PzQ q)(hB:QN ↑w q.bl 4 (lf.map Value.bool))(hl:lf.length=q.n)(rk:Int):
  QT sV 264 [sP bp,sS rk] w λr w'=>sW w w'/\RmO ↑w w' r rk 3 (blP (JN lf 0 (dsts q.a lf)))/\(JN lf 0 (dsts q.a lf)).length<=q.n:=by
 have hn:=V.n;have h6:=V.ok.st1;refine Zn func264 ?_;refine Qc<|Qb<|Qc<|Qb<|Qd<|Ql<|Qw<|(U9 hA V hB hl).S ?_;rintro r1 Y ⟨hm,b,rfl,hb,ho,ha⟩;refine Zg (dsts q.a lf) λD hD=>?_;rw[hD]at ho ha ⊢;have hp:Qu [] ↑Y (sL b q.n q.n) D:=by
  have h:=ho.arr (L:=[]) oe (n:=q.n) (cap:=q.n) (sz:=1) (by simp[ha]) oa (Lr _);unfold Qu;rw[ha];exact h
 refine QG hp Z<|Qa<|xe<|QY (α:=Nat×O7) [(5,7),(11,33)] (λz=>[(5,z.2),(11,sS z.1)]) (λz w'=>z.1<=D.length/\sW Y w'/\RmO ↑Y w' z.2 rk 3 (blP (JN lf 0 (D.take z.1)))) (λz=>D.length - z.1) (0,nS) oy ⟨Lp _,xd.C _ _,QM _ _ _ _⟩ ?_;rintro⟨k,vo⟩ g w2 ⟨hk,O,J⟩;have hr:=(qg lf (D.take k) 0).2;rw[LH]at hr;have he:=hm.D O;refine Zk rfl Z (λhf=>?_) (λhf=>?_)
 ·refine Qt ?_;have hu:D.length<=k:=by have hv:¬(k:Int)<(D.length:Int):=hf;omega
  rw[Ls hu]at J;refine Ql<|Qb<|Qk ⟨[_],Lb,he,Za J hm.size,oq (qg lf D 0).2⟩
 refine Qf ?_;have G:k<D.length:=by have hv:(k:Int)<(D.length:Int):=hf;omega
 have hw:D.take (k+1)=D.take k++[D[k]'G]:=Ln G;have I:=Qa6 lf (D[k]'G) (D.take k) 0;rw[<-hw,LH,LY,M9 oa]at I;refine Zg (D[k]'G) λd hd=>?_;rw[hd]at I;refine Zg (JN lf 0 (D.take k)) λout hout=>?_;rw[hout]at I J hr;have hg:k<lf.length:=oa
 have hy:lf[k]'hg=lf.getD k false:=by simp[oQ,hg]
 refine Qd<|Qn<|Ql<|xii (i:=k) (hp.I O) Z Z G λh7 hs=>?_;rw[hd]at hs;refine x (Qq hs Z)<|x Qe<|Qb<|QX (α:=Bool) [(16,26)] (λz=>[(26,.bool z)]) (λz w'=>w'=w2/\(z=true↔lf.getD k false=true/\d<0)) ol ?_ ?_
 ·refine Qr<|Qa<|Z8 Z<|Qs Z (hA.I he).B Z Z<|Qa<|x (QE (i:=k) Z Z oa)<|xB (b:=lf.getD k false) ((J1 (i:=k) (hB.I he) Z hg).D (by rw[hy])) (λhh=>?_) (λhh=>?_)
  ·refine Qa<|Qa<|ZT Z Z<|QB Z<|xe ?_;exact⟨_,Lb,Z,by rw[hh];simp⟩
  refine Qa<|YN<|QB Z<|xe ?_;exact⟨_,Lb,Z,by rw[hh];simp⟩
 rintro z g w3 ⟨rfl,hz⟩;refine Q5 rfl (λU=>?_) (λU=>?_)
 ·rw[OZ (hz.1 U)]at I;refine Qr<|Qa<|Qa<|Qa<|x (QD ⟨Z,Z,Z,Z,La⟩)<|Qo<|Q3 [rmC rk 3 ((k:Int),-1)] λh8 w4 hj h9 h0 =>
   Qo<|Q0 (m:=1) (news:=rmC rk 3 ((k:Int),-1)) (Qm J hj) Z Z Z (h0.at (L:=[]) oe) oo (by rw[Lo];omega) (ou O.size hj.size) λh3 w5 h4 h5 hC=>Qb<|Qr<|QC Z Z<|Qa<|xe ?_
  refine⟨(k+1,h3),og,oy,G,(O.D hj).Z h5 (λb hb=>.inr (Qi J b hb).1),?_⟩;simp only[];rw[I,show blP (out++[(k:Int)])=blP out++[((k:Int),-1)] by simp];exact RmO.snoc h4
 rw[OY (λh=>by rw[hz.2 h]at U;cases U),LK]at I;refine Qf<|Qr<|QC Z Z<|Qa<|xe ?_;exact⟨(k+1,vo),og,oy,G,O,by simp only[];rw[I];exact J⟩
def nxR (a:Qz)(ul:LI)(lf:Lf):Int×xD:=if(lost a ul lf).length≠0 then(2,lost a ul lf) else(3,blP (JN lf 0 (dsts a lf)))
theorem QnO (a:Qz)(ul:LI)(lf:Lf):(nxR a ul lf).2.map (·.1)=nxs a ul lf:=by
 unfold nxR nxs;split
 ·rfl
 rw[MF];exact List.map_id _
theorem Qj8 {q:Pz}(hA:PzA [] ↑w bp q)(I:PzQ q)(Y:QN ↑w q.bl 4 (lf.map Value.bool))(hl:lf.length=q.n)(rk:Int):
  QT sV 223 [sP bp,sS rk,.bool true] w λr w'=>sW w w'/\RmO ↑w w' r rk (nxR q.a q.unc lf).1 (nxR q.a q.unc lf).2/\(nxR q.a q.unc lf).2.length<=1000000:=by
 have he:=(QbO q.a q.unc lf).2;have hk:=I.ok.ed_le;have hn:=I.n;have hm:=I.ok.st1;have G:nxR q.a q.unc lf=if(lost q.a q.unc lf).length≠0 then(2,lost q.a q.unc lf) else(3,blP (JN lf 0 (dsts q.a lf))):=rfl
 refine Zg (nxR q.a q.unc lf) λNR hf=>?_;rw[hf]at G ⊢;refine Zn func223 ?_;refine Qc<|Qb<|Qd<|Ql<|Qa<|Qw<|(Qj9 hA I Y hl rk).S ?_;rintro r1 w1 ⟨J,U⟩;refine Zg (lost q.a q.unc lf) λL hL=>?_;rw[hL]at U G he;refine Qb<|QX (α:=Bool) [(11,17)] (λz=>[(17,.bool z)]) (λz w'=>w'=w1/\(z=true↔L.length≠0)) ol ?_ ?_
 ·refine Qr<|Qa<|QG (L:=[]) (QO U oa oe) rfl<|xb (Ya rfl rfl) (λV=>?_) (λV=>?_)
  ·refine Qa<|YN<|QB Z<|xe ?_;exact⟨_,Lb,Z,by have ha:(0:Int)<(L.length:Int):=V;simp;intro e;subst e;simp at ha⟩
  refine Qa<|Qa<|x (Zi Z)<|QB Z<|xe ?_;have ha:¬(0:Int)<(L.length:Int):=V;have hg:L.length=0:=oa
  exact⟨_,Lb,Z,by rw[hg];simp⟩
 rintro z g w2 ⟨rfl,hz⟩;refine Q5 rfl (λO=>?_) (λO=>?_)
 ·rw[OZ (hz.1 O)]at G;refine Ql<|Qb ?_;subst G;exact Qk ⟨[_],Lb,J,U,by show L.length<=_;omega⟩
 rw[OY (λh=>by rw[hz.2 h]at O;cases O)]at G;refine Qf<|Ql<|Qa<|Qw<|(Qdf (hA.I J) I (Y.I J) hl rk).S ?_;rintro r3 w3 ⟨hh,hj,ho⟩;refine Qb ?_;subst G;exact Qk ⟨[_],Lb,J.D hh,Za hj J.size,by show(blP _).length<=_;rw[Lo];omega⟩
structure JP (base:Nat)(w:O6)(n:Nat)(f:Nat->O7)(g:Nat->List Ed):Prop where
 own:∀i,i<n->Ye 179 base w (f i) (g i)
 dj:∀i j,i<n->j<n->i≠j->Dj (f i) (f j)
theorem JP.app {f:Nat->O7}{g:Nat->List Ed}{l:List Ed}(h:JP base w n f g)(hi:i<n)(U:Ye 179 base w' v' l)(V:xd (ob (f i)) w w')
  (Y:∀b∈ob v',b∈ob (f i)\/↑w<=b):JP base w' n (XB f i v') (XB g i l):=by
 refine⟨λj G=>?_,λj k G J I=>?_⟩
 ·by_cases e:j=i
  ·subst e;rw[Zx,Zx];exact U
  rw[ZQ _ _ e,ZQ _ _ e];exact Qg (h.own j G) V (h.dj j i G hi e)
 have key:∀j,j<n->j≠i->Dj v' (f j):=λj G e b hb O=>by
  rcases Y b hb with h1|h1
  ·exact h.dj i j hi G (Ne.symm e) b h1 O
  have:=QW (h.own j G) b O;omega
 by_cases e1:j=i
 ·subst e1;rw[Zx,ZQ _ _ (Ne.symm I)];exact key k J (Ne.symm I)
 rw[ZQ _ _ e1];by_cases e2:k=i
 ·subst e2;rw[Zx];exact(key j G e1).symm
 rw[ZQ _ _ e2];exact h.dj j k G J I
theorem JP.J {f:Nat->O7}{g:Nat->List Ed}(h:JP base w n f g)(G:xd X w w')(hX:∀i,i<n->∀b∈ob (f i),b∉X):JP base w' n f g :=
 ⟨λi hi=>Qg (h.own i hi) G (hX i hi),h.dj⟩
theorem JP.I {f:Nat->O7}{g:Nat->List Ed}(h:JP base w n f g)(G:sW w w'):JP base w' n f g:=h.J G (λ_ _ _ _=>oe)
def Ue (es:List Ed)(s:Nat):List Ed:=QK es (s:Int)
theorem qA (es:List Ed)(e:Ed)(G:0<=e.1):XB (Ue es) e.1.toNat (Ue es e.1.toNat++[e])=Ue (es++[e]):=by
 funext s;unfold Ue QK;rw[LW];by_cases h:s=e.1.toNat
 ·subst h;rw[Zx];have:e.1=(e.1.toNat:Int):=oa
  simp[<-this]
 rw[ZQ _ _ h];have:¬e.1=(s:Int):=oa
 simp[this]
theorem Qc0 (es:List Ed)(s:Nat):(Ue es s).length<=es.length:=Yg es _
def QfP (num:LI)(m:List (Int×O7)):Prop:=∀s:Nat,s<num.length->xq m (s:Int)=if xh num s<0 then none else some (sS (xh num s))
theorem VN (l:LI)(k:Int):ZZ l k=xh l k.toNat:=rfl
structure Vb (b4 mb:Nat)(r2:O7)(wS:O6)(c:Cs)(m:List (Int×O7))(vo vk ve:O7)(w:O6):Prop where
 st:xd [b4,mb] wS w
 B4:QN ↑w b4 53 [r2,sS 0,vk,ve]
 M:ZV XS ↑w mb m
 nm:QfP c.num m
 o:Qh 3 ↑wS w vo c.ord
 k:Qh 3 ↑wS w vk c.mk'
 e:Ye 179 ↑wS w ve c.ed
 d1:Dj vo vk
 d2:Dj vo ve
 d3:Dj vk ve
section
variable {b4 mb:Nat}{r2:O7}{wS:O6}{c:Cs}{m:List (Int×O7)}{w'':O6}
theorem Vb.I (h:Vb b4 mb r2 wS c m vo vk ve w)(G:sW w w'):Vb b4 mb r2 wS c m vo vk ve w' :=
 ⟨h.st.D G,h.B4.I G,h.M.I G,h.nm,Qm h.o G,Qm h.k G,Qm h.e G,h.d1,h.d2,h.d3⟩
theorem Vb.setK (h:Vb b4 mb r2 wS c m vo vk ve w)(Y:b4<wS.heap.size)(lm:mb<↑wS)(ne:mb≠b4){I:O7}{l:LI}(J:xd (ob vk) w w')(O:Qh 3 ↑wS w' I l)
  (U:∀b∈ob I,b∈ob vk\/↑w<=b) (G:xd [b4] w' w'') (V:QN ↑w'' b4 53 [r2,sS 0,I,ve]):Vb b4 mb r2 wS ⟨c.ord,c.num,l,c.ed⟩ m vo I ve w'' :=
 ⟨(h.st.Z J (λb hb=>.inr (Qi h.k b hb).1)).Z G (λb hb=>.inl (by simp at hb;simp[hb])),V,(h.M.J J (QJ h.k lm)).J G (ox ne),h.nm,
  Qg (Qg h.o J h.d1) G (λb hb=>by have:=(Qi h.o b hb).1;simp;omega),Qg O G (λb hb=>by have:=(Qi O b hb).1;simp;omega),
  Qg (Qg h.e J h.d3.symm) G (λb hb=>by have:=(Qi h.e b hb).1;simp;omega),h.d1.grow U (QW h.o),h.d2,(h.d3.symm.grow U (QW h.e)).symm⟩
theorem Vb.setE (h:Vb b4 mb r2 wS c m vo vk ve w)(Y:b4<wS.heap.size)(lm:mb<↑wS)(ne:mb≠b4){I:O7}{l:List Ed}(J:xd (ob ve) w w')(O:Ye 179 ↑wS w' I l)
  (U:∀b∈ob I,b∈ob ve\/↑w<=b) (G:xd [b4] w' w'') (V:QN ↑w'' b4 53 [r2,sS 0,vk,I]):Vb b4 mb r2 wS ⟨c.ord,c.num,c.mk',l⟩ m vo vk I w'' :=
 ⟨(h.st.Z J (λb hb=>.inr (Qi h.e b hb).1)).Z G (λb hb=>.inl (by simp at hb;simp[hb])),V,(h.M.J J (QJ h.e lm)).J G (ox ne),h.nm,
  Qg (Qg h.o J h.d2) G (λb hb=>by have:=(Qi h.o b hb).1;simp;omega),Qg (Qg h.k J h.d3) G (λb hb=>by have:=(Qi h.k b hb).1;simp;omega),
  Qg O G (λb hb=>by have:=(Qi O b hb).1;simp;omega),h.d1,h.d2.grow U (QW h.o),h.d3.grow U (QW h.k)⟩
theorem Vb.setN (h:Vb b4 mb r2 wS c m vo vk ve w)(lm:mb<↑wS)(ne:mb≠b4){l:LI}{I:List (Int×O7)}(G:xd [mb] w w')(J:ZV XS ↑w' mb I)(O:QfP l I):Vb b4 mb r2 wS ⟨c.ord,l,c.mk',c.ed⟩ I vo vk ve w' :=
 ⟨h.st.Z G (λb hb=>.inl (by simp at hb;simp[hb])),h.B4.J G (ox ne.symm),J,O,Qg h.o G (λb hb=>by have:=(Qi h.o b hb).1;simp;omega),
  Qg h.k G (λb hb=>by have:=(Qi h.k b hb).1;simp;omega),Qg h.e G (λb hb=>by have:=(Qi h.e b hb).1;simp;omega),h.d1,h.d2,h.d3⟩
theorem Vb.setO (h:Vb b4 mb r2 wS c m vo vk ve w)(O:b4<wS.heap.size)(lm:mb<↑wS){I:O7}{l:LI}(G:xd (ob vo) w w')(U:Qh 3 ↑wS w' I l)
  (J:∀b∈ob I,b∈ob vo\/↑w<=b):Vb b4 mb r2 wS ⟨l,c.num,c.mk',c.ed⟩ m I vk ve w' :=
 ⟨h.st.Z G (λb hb=>.inr (Qi h.o b hb).1),h.B4.J G (QJ h.o O),h.M.J G (QJ h.o lm),h.nm,U,Qg h.k G h.d1.symm,Qg h.e G h.d2.symm,
  (h.d1.symm.grow J (QW h.k)).symm,(h.d2.symm.grow J (QW h.e)).symm,h.d3⟩
end
theorem QfP.set {num:LI}{m:List (Int×O7)}(h:QfP num m){k:Nat}(I:k<num.length){v:Int}(J:0<=v):QfP (num.set k v) (xt m (k:Int) (sS v)):=by
 intro s G;rw[M2]at G;rw[JC];by_cases e:s=k
 ·subst e;have:xh (num.set s v) s=v:=by unfold xh;simp[oQ,I]
  rw[OZ rfl,this,OY oa]
 rw[OY oa];have:xh (num.set k v) s=xh num s:=by unfold xh;simp[oQ,List.getElem?_set_ne (Ne.symm e)]
 rw[this];exact h s G
theorem QcR (i:Nat)(c:Cs)(m:LI)(e:Ed):Zu i ⟨c.ord,c.num,m,c.ed⟩ e=⟨(Zu i c e).ord,(Zu i c e).num,m,(Zu i c e).ed⟩/\(Zu i c e).mk'=c.mk':=by
 unfold Zu;split <;> exact⟨Z,Z⟩
theorem Qb2 (i:Nat):∀(l:List Ed) (c:Cs) (m:LI),l.foldl (Zu i) ⟨c.ord,c.num,m,c.ed⟩=⟨(l.foldl (Zu i) c).ord,(l.foldl (Zu i) c).num,m,(l.foldl (Zu i) c).ed⟩/\(l.foldl (Zu i) c).mk'=c.mk'
 | [],c,m=>⟨Z,Z⟩
 | e::l,c,m=>by
  have h1:=QcR i c m e;have h2:=Qb2 i l (Zu i c e) m;rw[LP,LP,h1.1,h2.1];exact⟨Z,h2.2.D h1.2⟩
theorem Qaq (i:Nat)(c:Cs)(e:Ed):∃r,(Zu i c e).ord=c.ord++r:=by
 unfold Zu;split
 ·exact⟨_,rfl⟩
 exact⟨[],oe⟩
theorem QdB (i:Nat):∀(l:List Ed) (c:Cs),∃r,(l.foldl (Zu i) c).ord=c.ord++r
 | [],c=>⟨[],oe⟩
 | e::l,c=>by
  obtain⟨G,h1⟩:=Qaq i c e;obtain⟨r2,h2⟩:=QdB i l (Zu i c e);exact⟨G++r2,by rw[LP,h2,h1,LC]⟩
theorem QhR {c:Cs}(hi:i<c.ord.length):zy a i c=Yo a i ((QK a.ed (xh c.ord i)).foldl (Zu i) c):=by
 unfold zy;rw[VN,MD];obtain⟨r,G⟩:=QdB i (QK a.ed (xh c.ord i)) c;unfold Yo;have I:ZZ ((QK a.ed (xh c.ord i)).foldl (Zu i) c).ord (i:Int)=ZZ c.ord (i:Int):=by
  rw[VN,VN,G];simp only[OD];exact jE hi
 rw[I];split
 ·rw[(Qb2 i _ c _).1,((Qb2 i (QK a.ed (xh c.ord i)) c c.mk').2)]
 rfl
theorem yD {q:Pz}(hA:PzA [] ↑w bp q)(hq:PzQ q)(hB:QN ↑w q.bl 4 (lf.map Value.bool))(hl:lf.length=q.n):
  QT sV 227 [sP bp] w λr w'=>sW w w'/\∃v o,r=.tuple #[v,o]/\Xu ↑w ↑w' v (jZ q.a lf)/\o.oneCell'=true:=by
 have hn:=hq.n;have hst1:=hq.ok.st1;have kf:=hq.ok.ed_le;have hf:jZ q.a lf=if q.a.st=0\/lft lf 0=false then⟨q.a.al,0,[],[]⟩else YB (rstr q.a lf):=rfl
 refine Zg (jZ q.a lf) λSA pn=>?_;rw[pn]at hf ⊢;refine Zn func227 ?_;refine Qc<|QV [nS,sS 0,nS,nS] λb2 w1 kg hb2 h9=>Qb ?_;have hl2:=h9.lt;have kh:=hA.I kg;refine Ql<|Z8 Z<|Q9 Z<|Qs Z kh.B Z Z<|Qw<|(Z0 kh.a.al).S ?_;rintro r2 w2 ⟨hM,hv⟩;have hz2:=hM.size;have hN:=Qh.ints (L:=[]) hv hA.a.al.le oe;refine x (QD ⟨hN.cells,La⟩)<|QV [nS,sS 0,nS,nS] λb4 w3 po pp hC =>
  Q6 [r2,sS 0,nS,nS] hC ⟨hN.one,Z,Z,Z,La⟩ λw4 pt hC=>xe ?_
 have U:sW w2 w4:=po.O pt pp;have V:=kg.D hM;have hD:=V.D U;have hl4:=hC.lt;have hz24:=U.size;have gj:=hA.I hD;have pu:∀b∈ob r2,b<w2.heap.size:=QW hv;refine Qd<|QX (α:=Bool) [(22,36)] (λz=>[(36,.bool z)]) (λz w'=>w'=w4/\(z=true↔(q.a.st=0\/lft lf 0=false))) ol ?_ ?_
 ·refine Qr<|Qa<|Z8 Z<|Q9 Z<|Qs Z gj.B Z Z<|xb (Zc Z Z) (λgk=>?_) (λgk=>?_)
  ·refine Qa<|Zs<|Zs<|Kd<|QB Z<|xe ?_;exact⟨_,Lb,Z,by simp[gk]⟩
  have gl:(0:Int).toNat<lf.length:=by
   have:0<q.n:=oa
   simp;omega
  have pw:=qN (l:=lf) (s:=0) gl;refine Qa<|Qa<|Z8 Z<|Qs Z gj.B Z Z<|x (QE (i:=0) Z Z (by simp at gl;omega))<|x (v:=.bool (lft lf 0)) ((J1 (i:=0) (hB.I hD) Z gl).D (by rw[<-pw];rfl))<|x (Zi Z)<|QB Z<|xe ?_;exact⟨_,Lb,Z,by simp[gk]⟩
 rintro z g w4 ⟨rfl,hz⟩;refine Q5 rfl (λhO=>?_) (λhO=>?_)
 ·rw[OZ (hz.1 hO)]at hf;subst hf;refine Qc<|Q7 hC Z Z<|Q6 [r2,sS 0,nS,nS] ((h9.I hM).I U) ⟨hN.one,Z,Z,Z,La⟩ λw6 hE h9=>Qb<|Qk ⟨[.agg #[r2,sS 0,nS,nS],nS],⟨Kh h9,Z,La⟩,hD.O hE oa,_,_,Z,?_,Z⟩;exact⟨r2,_,_,Z,λL' hF=>⟨Qh.ints (Qg (Qm hv U) hE (λb hb=>by have:=(Qi hv b hb).1;simp;omega)) hA.a.al.le (λb hb=>oq (hF b hb)),Zw.nil _ _ _,Zw.nil _ _ _⟩⟩
 have ki:¬(q.a.st=0\/lft lf 0=false):=λh=>by rw[hz.2 h]at hO;cases hO
 rw[OY ki]at hf;have pz:0<q.a.st:=by have:=hq.ok.st0;omega
 have kj:(rstr q.a lf).st.toNat=q.n:=by show q.a.st.toNat=q.n;omega
 unfold YB at hf;rw[OY (show ¬(rstr q.a lf).st=0 from λh=>ki (.inl h)),kj]at hf;refine Qf<|Ql<|Z8 Z<|Q9 Z<|Qs Z gj.B Z Z<|Qo<|Y5 (n:=q.n) (O0 sS hn) (O0 sS hn) oa λbE w6 hE p0 gm=>Qb ?_;rw[UF]at gm;have hlE:=gm.lt;have kk:=hA.I (hD.D hE);refine Qd<|Ql<|Z8 Z<|Q9 Z<|Qs Z kk.B Z Z<|QG kk.a.ed Z<|Qa<|xe<|QY (α:=Nat×(Nat->O7)) [(7,7),(50,74)] (λz=>[(50,sS z.1)]) (λz w'=>z.1<=q.a.ed.length/\xd [bE] w6 w'/\QN ↑w' bE 51 ((oM q.n).map z.2)/\JP ↑w6 w' q.n z.2 (Ue ((q.a.ed.take z.1).filter λe=>lft lf e.2.2))) (λz=>q.a.ed.length - z.1) (0,λ_=>nS) Lb
  ⟨Lp _,xd.C _ _,gm,⟨λi _=>QM _ _ _ _,λi j _ _ _=>Dj.nil _⟩⟩ ?_
 rintro⟨k,rv⟩ g w7 ⟨hk,hP,kn,Y⟩;have hG:sW w4 w7:=hE.O hP p0;have gn:=hD.D hG;have hz7:=hP.size;have ko:=hA.I gn;refine Zk rfl Z (λgq=>?_) (λgq=>?_)
 ·refine Qt ?_;have p4:q.a.ed.length<=k:=by have hQ:¬(k:Int)<(q.a.ed.length:Int):=gq;omega
  rw[Ls p4]at Y;have Y:JP ↑w6 w7 q.n rv (Ue (rstr q.a lf).ed):=Y;have kq:(rstr q.a lf).ed.length<=q.a.ed.length:=LO _ _;refine Qc<|Qo<|Z1 XS λmb w8 gr p5 p6=>Qo<|Yy (k:=(0:Int)) p6 Z Z λG gs kr=>Qa<|Qb ?_;have J:sW w7 G:=gr.O gs p5;have p7:=J.size;have hS:=kr.lt;refine Qc<|Qo<|Q3 [[sS 0]] λkt gt hw hb77 p8=>Qb<|Qd<|Qc<|Qb ?_;have gu:mb≠b4:=oa
  have hH:b4<G.heap.size:=oa
  have p9:=gn.D J;have gv:∀b∈[b4,mb],↑w2<=b:=λb hb=>by simp only[oN,oJ,or_false]at hb;omega
  have qf:PzA [b4,mb] ↑G bp q:=((hA.I V).up (λb hb=>.inr (gv b hb))).I (U.D (hG.D J));have hlw:=hB.lt;have ku:∀s,s<q.n->qn [b4,mb] ↑G (rv s) (Ue (rstr q.a lf).ed s):=λs hs=>QO (Qm (Y.own s hs) J) (oq (Qc0 (rstr q.a lf).ed s)) (λb hb hm=>by
   have h1:=(Qi (Y.own s hs) b hb).1;have h2:=QW (Y.own s hs) b hb;simp only[oN,oJ,or_false]at hm;omega)
  have hJ:=kn.I J;have kv:∀b,b<↑w2->b∉[b4,mb]:=λb hb hm=>oq (gv b hm)
  have qj:bE∉[b4,mb]:=by simp only[oN,oJ,or_false];omega
  have ql:QN ↑G b4 53 [r2,sS 0,nS,nS]:=((hC.I hG)).I J;have q4:QN ↑G b2 53 [nS,sS 0,nS,nS]:=((h9.I hM).I U).I (hG.D J);have q5:=Qm hv (U.D (hG.D J));have j1:Qh 3 ↑G gt (sL kt 1 1) [0]:=p8.own (n:=1) (sz:=1) Z oa oa;have kw:QfP (Z3 (rstr q.a lf)).num (xt [] (0:Int) (sS 0)):=by
   have h0:QfP (oI q.n (-1)) ([]:List (Int×O7)):=λs hs=>by
    have j2:s<q.n:=by simpa using hs
    have:xh (oI q.n (-1)) s=-1:=by unfold xh;simp[oQ,j2]
    rw[this];rfl
   have h1:=h0.set (k:=0) (by simp;omega) (v:=0) (Ms _);unfold Z3;rw[kj];exact h1
  have gx:∀e∈(rstr q.a lf).ed,0<=e.1/\e.1<q.a.st/\0<=e.2.2/\e.2.2<q.a.st:=λe he=>by have:=(Kp hq.ok lf).ed e he;exact⟨this.1,this.2.1,this.2.2.2.1,this.2.2.2.2⟩
  have kx:Uu q.a.st (Z3 (rstr q.a lf)):=Qhq (a:=rstr q.a lf) pz;have kz:(rstr q.a lf).mr=q.a.mr:=rfl;refine Zg (rstr q.a lf) λR hR=>?_;rw[hR]at hf ku kw gx kx kz kq;have j3:R.al=q.a.al:=by rw[<-hR];rfl
  have hnN:q.a.st.toNat=q.n:=oa
  refine QY (α:=Nat×Cs×List (Int×O7)×O7×O7×O7) [(9,10),(12,14),(78,142)] (λz=>[(9,z.2.2.2.1),(10,sS z.1)])
   (λz w'=>Vb b4 mb r2 G z.2.1 z.2.2.1 z.2.2.2.1 z.2.2.2.2.1 z.2.2.2.2.2 w'/\z.1<=z.2.1.ord.length/\Uu q.a.st z.2.1/\z.2.1.mk'.length<=z.1/\z.2.1.ed.length<=z.1*131072/\Xg R (q.n - z.1) z.1 z.2.1=Xg R q.n 0 (Z3 R)) (λz=>q.n - z.1) (0,Z3 R,xt [] (0:Int) (sS 0),sL kt 1 1,nS,nS) oy
   ⟨⟨hw.any,ql.I hw,kr.I hw,kw,j1,QM _ _ _ _,QM _ _ _ _,Dj.nil' _,Dj.nil' _,Dj.nil' _⟩,Lp _,kx,Lp _,Lp _,Z⟩ ?_
  rintro⟨i,c,m,vo,vk,ve⟩ g j4 ⟨hI,hi,hc,za,z0,gy⟩;simp only[]at hI hi hc za z0 gy;have hcle:=hc.le;have hT:=Qh.ints (L:=[]) hI.o oa oe;refine Qd<|Ql<|Qa<|QG hT Z<|ZT Z Z<|xe<|Zp Z (λz1=>?_) (λz1=>?_)
  ·refine Qt ?_;have z2:c=Xg R q.n 0 (Z3 R):=by rw[<-gy,Qa2 oa]
   refine Ql<|QG hT Z<|Q9 Z<|Qo<|Qv hI.B4 Z Z oe rfl λhy V hg=>xe ?_;have z3:=Qh.ints (L:=[]) hI.k oa oe;have z4:=Ye.eds (L:=[]) hI.e (oq hc.el) oe;refine Qc<|Q7 hg Z Z<|Qa<|Q6 [r2,sS c.ord.length,vk,ve] ((q4.J hI.st (kv _ oa)).J V (by simp;omega)) ⟨hN.one,Z,z3.one,z4.one,La⟩ λw13 hU hB13=>Qb ?_;have k0:xd [b4,mb] G hy:=hI.st.Z V (λb hb=>.inl (by simp at hb;simp[hb]));have hfin:sW w w13:=(p9.Z k0 (λb hb=>.inr (oq (gv b hb)))).O hU oa;refine Qk ⟨[.agg #[r2,sS c.ord.length,vk,ve],vo],⟨Kh hB13,Z,La⟩,hfin,_,_,Z,?_,hT.one⟩;rw[<-z2]at hf;subst hf;have k1:=Qg (Qg hI.k V (λb hb=>by have:=(Qi hI.k b hb).1;simp;omega)) hU (λb hb=>by have:=(Qi hI.k b hb).1;simp;omega);have k2:=Qg (Qg hI.e V (λb hb=>by have:=(Qi hI.e b hb).1;simp;omega)) hU (λb hb=>by have:=(Qi hI.e b hb).1;simp;omega);have k3:=Qg (Qg q5 k0 (λb hb=>kv b (pu b hb))) hU (λb hb=>by have:=(Qi hv b hb).1;simp;omega);exact⟨r2,vk,ve,Z,λL' hF=>⟨by rw[j3];exact Qh.ints k3 hA.a.al.le (λb hb=>oq (hF b hb)),Qh.ints k1 (by show c.mk'.length<=_;omega) (λb hb=>oq (hF b hb)),Ye.eds k2 (by show c.ed.length<=_;have:=hc.el;omega) (λb hb=>oq (hF b hb))⟩⟩
  have I:i<c.ord.length:=oa
  refine Qf ?_;have k5:=Zo I;have hsr:=hc.ord _ (XH I);have hj:=QhR (a:=R) I;refine Zg (xh c.ord i) λs0 hs0=>?_;rw[hs0]at k5 hsr hj;have k6:s0=(s0.toNat:Int):=oa
  have gz:s0.toNat<q.n:=oa
  have hos0:Ue R.ed s0.toNat=QK R.ed s0:=by unfold Ue;rw[<-k6]
  have hV:=ku s0.toNat gz;rw[hos0]at hV;have hosl:=Yg R.ed s0;have k9:∀e∈QK R.ed s0,0<=e.2.2/\e.2.2<q.a.st:=λe he=>⟨(gx e (Zy he).1).2.2.1,(gx e (Zy he).1).2.2.2⟩;refine Zg (QK R.ed s0) λos hos=>?_;rw[hos]at hV hosl k9 hj;refine Qd<|Qn<|Qd<|Ql<|Qa<|Qa<|xii (i:=i) hT Z Z I λa87 ma=>?_;rw[k5]at ma;refine x (Qq ma Z)<|x (QE (i:=s0.toNat) Z (O0 sS k6) gz)<|ZD (u:=rv s0.toNat) (hJ.J hI.st qj) Z (Vi gz)<|QG (hV.st hI.st) Z<|Qa<|xe<|QY (α:=Nat×Cs×List (Int×O7)×O7×O7) [(9,9),(12,14),(92,126)] (λz=>[(9,z.2.2.2.1),(92,sS z.1)])
   (λz w'=>Vb b4 mb r2 G z.2.1 z.2.2.1 z.2.2.2.1 vk z.2.2.2.2 w'/\z.1<=os.length/\Uu q.a.st z.2.1/\z.2.1.mk'=c.mk'/\z.2.1.ed.length=c.ed.length+z.1/\(∃r,z.2.1.ord=c.ord++r)/\(os.drop z.1).foldl (Zu i) z.2.1=os.foldl (Zu i) c) (λz=>os.length - z.1) (0,c,m,vo,ve) oy
   ⟨hI,Lp _,hc,Z,Z,⟨[],oe⟩,rfl⟩ ?_
  rintro⟨k4,d,m4,hW,hX⟩ g hy ⟨hh,hk4,O,g0,mc,hY,h3⟩;simp only[]at hh hk4 O g0 mc hY h3;have hcle4:=O.le;have hoA4:=Qh.ints (L:=[]) hh.o oa oe;have g2:i<d.ord.length:=by obtain⟨r,hr⟩:=hY;rw[hr,Le];omega
  have mf:xh d.ord i=s0:=by obtain⟨r,hr⟩:=hY;rw[hr,jE I];exact hs0
  refine Zk Z Z (λh93=>?_) (λh93=>?_)
  ·refine Qt ?_;rw[Lx oa,NP]at h3;rw[<-h3]at hj;have mg:=qf.st hh.st;have hg4:d.ord[i]'g2=s0:=by rw[Zo g2];exact mf
   have hmkC:Yo R i d=if s0∈q.a.mr then⟨d.ord,d.num,d.mk'++[(i:Int)],d.ed⟩else d:=by
    unfold Yo;rw[VN,MD,mf,kz]
   rw[hmkC]at hj;have hZ:Xg R (q.n - (i+1)) (i+1) (zy R i c)=Xg R q.n 0 (Z3 R):=by
    rw[<-gy];obtain⟨t,ht⟩:∃t,q.n - i=t+1:=⟨q.n - i - 1,oa⟩;rw[ht,Xg,OZ I,show q.n - (i+1)=t by omega]
   have hm4l:=O0 oY g0;refine Qd<|ZK [] (Xj 0 10 [9])<|p Qx<|p (YT Z)<|p (QH Z)<|p (QH Z)<|pq (λ_ hc=>Qj (mg.B.I hc) Z Z)<|p Qx <|
    p Qx<|pii (i:=i) Z hoA4 Z Z g2 λa134 mh=>?_
   rw[hg4]at mh;refine pq (λ_ hc=>Qq (mh.I hc) Z)<|pk<|xg<|(ZG (mg.a.mr.I (xd.Y _ _)) s0).S ?_;rintro r16 w16 ⟨rfl,rfl⟩;refine⟨xd.Y _ _,pe ?_⟩;have ha:=hh.I (xd.Y [] hy);refine Zp Z (λg3=>?_) (λg3=>?_)
   ·rw[OY g3]at hj;refine Qf<|Qr<|Qa<|QC Z Z<|Qb ?_;rw[hj]at hZ;exact⟨(i+1,d,m4,hW,vk,hX),og,oy,ha,og,O,og,og,hZ⟩
   rw[OZ g3]at hj;refine Qr<|Qs Z ha.B4 Z Z<|Qa<|Qo<|Q3 [[sS i]] λb140 w17 hs17 hb140 hB140=>?_;have hK:=ha.I hs17;refine Qo<|Q0 (news:=[sS i]) (L:=[]) hK.k Z Z Z (hB140.at oe) oo oa hK.st.size λmj w18 mo mq hn18=>?_;have hk18:Qh 3 ↑G w18 mj (d.mk'++[(i:Int)]):=Qh.snoc mo;refine Q9 Z<|Qo<|Qv (hK.B4.J mq (QJ hK.k hH)) Z Z oe (QA mo) λw19 hs19 hB19=>xe ?_;have hI19:=hK.setK hH hS gu mq hk18 hn18 hs19 hB19;refine Qr<|Qa<|QC Z Z<|Qb ?_;rw[hj]at hZ;exact⟨(i+1,⟨d.ord,d.num,d.mk'++[(i:Int)],d.ed⟩,m4,hW,mj,hX),og,oy,hI19,og,⟨O.nl,O.sum,O.ord,O.num,O.el⟩,by simp only[oO,oL];omega,og,hZ⟩
  refine Qf ?_;have ga:k4<os.length:=oa
  have hdr:=QZ ga;rw[hdr,LP]at h3;have hto:=k9 _ (Lm ga);refine Zg (os[k4]'ga) λe he=>?_;rw[he]at h3 hto;have gb:e.2.2=(e.2.2.toNat:Int):=oa
  have gc:e.2.2.toNat<d.num.length:=by rw[O.nl];omega
  have ms:=hh.nm e.2.2.toNat gc;rw[<-gb]at ms;have mt:ZZ d.num e.2.2=xh d.num e.2.2.toNat:=rfl;refine Qd<|Qn<|Qc<|xie (hV.st hh.st) Z Z ga λa94 mu=>?_;rw[he]at mu;refine x (QF mu Z Z)<|QV [sS 0,sS 0,sS 0] λg4 w20 hs20 g5 hg=>Q6 (Qp e) hg oz λge hs21 hg=>xe ?_;have mv:sW hy ge:=hs20.O hs21 g5;have ha:=hh.I mv;have hl12:=hg.lt;have hz21:=mv.size;have hIz:=hh.st.size;have hc5:Uu q.a.st (Zu i d e):=QcQ O hto.1 hto.2 (oq O.el);have mw:Zu i d e=⟨(Yz d e).ord,(Yz d e).num,(Yz d e).mk',(Yz d e).ed++[((i:Int),e.2.1,ZZ (Yz d e).num e.2.2)]⟩:=yk gc;refine QX (α:=O7) [(13,14),(96,102)] (λz=>[(13,sS (if xh d.num e.2.2.toNat<0 then 0 else xh d.num e.2.2.toNat)),(14,.bool (!decide (xh d.num e.2.2.toNat<0)))]) (λz w'=>w'=ge) ol ?_ ?_
  ·refine Qr<|Qa<|Qs Z hg Z Z<|x (v:=.tuple #[sS (if xh d.num e.2.2.toNat<0 then 0 else xh d.num e.2.2.toNat),.bool (!decide (xh d.num e.2.2.toNat<0))]) ((Vl (k:=e.2.2) ha.M Z Z).D (O0 (λv=>Result.ok (Next.value v) _) ?_))<|Qa<|QS Z Z<|QS Z Z<|x Qe<|Qb ?_
   ·rw[ms];by_cases ho:xh d.num e.2.2.toNat<0
    ·simp[ho]
    simp[ho]
   exact⟨.bool true,oy,Z⟩
  rintro z5 g ge rfl;refine QX (α:=O7×List (Int×O7)×Int) [(9,9),(13,13),(103,115)] (λz=>[(9,z.1),(13,sS z.2.2)]) (λz w'=>xh (Yz d e).num e.2.2.toNat=z.2.2/\Vb b4 mb r2 G (Yz d e) z.2.1 z.1 vk hX w'/\QN ↑w' g4 179 (Qp e)/\ge.heap.size<=↑w') ol ?_ ?_
  ·refine Ql<|x (Zi Z)<|xe<|Q5 Z (λg6=>?_) (λg6=>?_)
   ·have ho:xh d.num e.2.2.toNat<0:=by simpa using g6
    have hL:Yz d e=⟨d.ord++[e.2.2],d.num.set e.2.2.toNat d.ord.length,d.mk',d.ed⟩:=by unfold Yz;rw[mt,OZ ho]
    have hcg:xh (Yz d e).num e.2.2.toNat=(d.ord.length:Int):=by rw[hL];unfold xh;simp[oQ,gc]
    refine Ql<|QG (Qh.ints (L:=[]) ha.o oa oe) rfl<|Qb<|Ql<|Qs rfl hg rfl rfl<|Qa<|Qo<|YV (k:=e.2.2) ha.M rfl rfl λw22 g7 hM22=>xe ?_;have my:=ha.nm.set gc (v:=(d.ord.length:Int)) oa;rw[<-gb]at my;have hI6:=ha.setN hS gu g7 hM22 my;have gg:=hg.J g7 (by simp;omega);refine Qr<|Qa<|Qs Z gg Z Z<|Qo<|Q3 [[sS e.2.2]] λb114 w23 g8 hb114 hB114=>?_;have g9:=hI6.I g8;refine Qo<|Q0 (news:=[sS e.2.2]) (L:=[]) g9.o Z Z Z (hB114.at oe) oo (by show d.ord.length+1<=_;omega) g9.st.size λmz w24 ho24 U hn24=>Qb ?_;have hk24:Qh 3 ↑G w24 mz (d.ord++[e.2.2]):=Qh.snoc ho24;have hb12o:g4∉ob hW:=λhb=>oq (QW hh.o g4 hb)
    have h4:=g9.setO hH hS U hk24 hn24;have:=g7.size;have:=g8.size;have:=U.size;refine⟨(mz,xt m4 e.2.2 (sS d.ord.length),(d.ord.length:Int)),oy,hcg,?_,(gg.I g8).J U hb12o,oa⟩;simp only[];rw[hL];exact h4
   have ho:¬xh d.num e.2.2.toNat<0:=by simpa using g6
   have hL:Yz d e=d:=by unfold Yz;rw[mt,OY ho]
   have kf:(if xh d.num e.2.2.toNat<0 then 0 else xh d.num e.2.2.toNat)=xh (Yz d e).num e.2.2.toNat:=by rw[hL,OY ho]
   refine Qf<|⟨(hW,m4,if xh d.num e.2.2.toNat<0 then 0 else xh d.num e.2.2.toNat),oy,kf.symm,?_,hg,Lr _⟩
   rw[hL];exact ha
  rintro⟨vo5,m5,tn⟩ g w25 ⟨m0,h4,gg,hz25⟩;simp only[]at h4 m0;have m1:(Yz d e).ed=d.ed:=by unfold Yz;split <;> rfl
  have hgN:ZZ (Yz d e).num e.2.2=xh (Yz d e).num e.2.2.toNat:=rfl;rw[hgN,m1,m0]at mw;have heN:Ye 179 ↑G w25 hX d.ed:=by have:=h4.e;rw[m1]at this;exact this
  refine Qr<|Qs Z h4.B4 Z Z<|Qa<|Qs Z gg Z Z<|Qa<|x (QD ⟨Z,Z,Z,La⟩) <|
   Qo<|Q3 [Qp ((i:Int),e.2.1,tn)] λb123 w26 m2 hb123 hB123=>?_
  have gh:=h4.I m2;refine Qo<|Q0 (m:=1) (news:=Qp ((i:Int),e.2.1,tn)) (L:=[]) (Qm heN m2) Z Z Z (hB123.at oe) (λu hu=>by simp only[Qp,oN,oJ,or_false]at hu;rcases hu with rfl|rfl|rfl <;> rfl) (oq O.el) gh.st.size λm3 w27 m6 m7 hn27=>?_
  have hk27:Ye 179 ↑G w27 m3 (d.ed++[((i:Int),e.2.1,tn)]):=Ye.snoc m6;refine Q9 Z<|Qo<|Qv (gh.B4.J m7 (QJ gh.e hH)) Z Z oe (QA m6) λw28 hs28 hB28=>xe ?_;have m8:=gh.setE hH hS gu m7 hk27 hn27 hs28 hB28;rw[<-mw]at m8;refine Qr<|QC Z Z<|Qa<|xe<|⟨(k4+1,Zu i d e,m5,vo5,m3),og,oy,m8,og,hc5,?_,?_,?_,h3⟩
  ·simp only[];rw[<-g0];exact(QcR i d [] e).2
  ·simp only[];rw[QcS,mc];omega
  simp only[];obtain⟨r1,h1⟩:=Qaq i d e;obtain⟨r2',h2⟩:=hY;exact⟨r2'++r1,by rw[h1,h2,LC]⟩
 refine Qf ?_;have I:k<q.a.ed.length:=by have hQ:(k:Int)<(q.a.ed.length:Int):=gq;omega
 have m9:=hq.ok.ed _ (Lm I);have htk:q.a.ed.take (k+1)=q.a.ed.take k++[q.a.ed[k]'I]:=Ln I;have h5:(q.a.ed.take (k+1)).filter (λe=>lft lf e.2.2)=(q.a.ed.take k).filter (λe=>lft lf e.2.2)++if lft lf (q.a.ed[k]'I).2.2=true then[q.a.ed[k]'I]else[]:=by
  rw[htk,LW];congr 1;by_cases h:lft lf (q.a.ed[k]'I).2.2=true
  ·simp[h]
  simp[h]
 have hfll:((q.a.ed.take k).filter (λe=>lft lf e.2.2)).length<=k:=LA (LO _ _) (by rw[LH];omega);refine Zg ((q.a.ed.take k).filter (λe=>lft lf e.2.2)) λkept hkept=>?_;rw[hkept]at h5 Y hfll;refine Zg (q.a.ed[k]'I) λe he=>?_;rw[he]at m9 h5;have pc:e.1=(e.1.toNat:Int):=oa
 have gb:e.2.2=(e.2.2.toNat:Int):=oa
 have hp:e.1.toNat<q.n:=oa
 refine Qd<|Qn<|Qc<|xie ko.a.ed Z Z I λa52 hQ=>?_;rw[he]at hQ;refine x (QF hQ Z Z)<|QV [sS 0,sS 0,sS 0] λb7 w8 gr hb7 h6=>Q6 (Qp e) h6 oz λG gs h6=>xe ?_;have J:sW w7 G:=gr.O gs hb7;have p7:=J.size;have ka:=Y.I J;have hJ:=kn.I J;refine Qd<|ZK [] (Xj 0 8 [])<|p Qx<|p (YT Z)<|p (QH Z)<|pq (λ_ hc=>Qj ((ko.I J).B.I hc) Z Z)<|p (QH Z)<|pq (λ_ hc=>Qj (h6.I hc) Z Z) <|
  p (λ_=>QE (i:=e.2.2.toNat) Z (O0 sS gb) oa)<|pq (v:=.bool (lft lf e.2.2)) (λ_ hc=>(J1 (i:=e.2.2.toNat) ((hB.I (gn.D J)).I hc) Z oa).D (by rw[(qN (l:=lf) (s:=e.2.2) oa)]))<|pe ?_
 have h7:sW G { G with drawn:=G.drawn+1 }:=xd.Y _ _
 refine Q5 rfl (λkb=>?_) (λkb=>?_)
 ·rw[OZ kb]at h5;have kc:∀b∈ob (rv e.1.toNat),↑w6<=b/\b<w7.heap.size:=λb hb=>⟨(Qi (Y.own _ hp) b hb).1,QW (Y.own _ hp) b hb⟩;have pd:bE∉ob (rv e.1.toNat):=λhb=>oq (kc _ hb)
  have ke:b7∉ob (rv e.1.toNat):=λhb=>oq (kc _ hb)
  have kq:=Qc0 kept e.1.toNat;refine Ur (xd (ob (rv e.1.toNat)) G) [oB 0,oB 1,oB 2,oB 3,oB 4,oB 5,oB 6,oB 7,oB 8,oC 9,oC 10,oB 11,oC 12] mixed ol od (h7.any.Q (xd.Y _ _)) ?_;refine p Qx<|p (QH Z)<|pq (λ_ hc=>Qj (h6.J hc ke) Z Z)<|p Qx<|p (QH Z) <|
   pq (λ_ hc=>Qj (h6.J hc ke) Z Z)<|p (λ_=>QE (i:=e.1.toNat) Z (O0 sS pc) hp)<|pq (λ_ hc=>Qj (u:=rv e.1.toNat) (hJ.J hc pd) Z (Vi hp)) <|
   pq (λ_ hc=>Zj (h6.J hc ke) Z Z)<|pk<|Q3 [Qp e] λb71 gt hw hb71 hB71=>⟨(h7.any.Q (xd.Y _ _)).Q hw.any,?_⟩
  have h8:sW G gt:=(h7.D (xd.Y _ _)).D hw;have hz10:=h8.size;refine pk<|Q0 (m:=1) (news:=Qp e) (L:=[]) (Qm (ka.own _ hp) h8) Z Z Z (hB71.at oe) (λu hu=>by simp only[Qp,oN,oJ,or_false]at hu;rcases hu with rfl|rfl|rfl <;> rfl) oa oa λvr j4 pf gi hn11=>⟨h8.any.Q gi,?_⟩
  have hlen:((oM q.n).map rv).length=q.n:=oe
  refine p (λ_=>QE (i:=e.1.toNat) Z (O0 sS pc) hp)<|pkk<|Qv (j:=0+e.1.toNat*1) (u:=vr) ((hJ.I h8).J gi pd) Z Z (by rw[hlen];omega) (QA pf) λhy V hBE12=>pe ?_;have g5:QN ↑hy bE 51 ((oM q.n).map (XB rv e.1.toNat vr)):=by
   have e1:=Kl id q.n rv e.1.toNat vr;simp only[id]at e1;rw[<-e1];simpa using hBE12
  have hvn:∀b∈ob vr,b∈ob (rv e.1.toNat)\/↑G<=b:=λb hb=>(hn11 b hb).imp id (λh=>oa);have pg:=ka.app hp (Ye.snoc pf) (h8.any.Q gi) hvn;have ph:=pg.J V (λi hi b hb=>by have:=(Qi (pg.own i hi) b hb).1;simp only[oH];omega);rw[qA kept e m9.1,<-h5]at ph;refine Qr<|QC Z Z<|Qa<|xe ?_;exact⟨(k+1,XB rv e.1.toNat vr),og,Lb,I,(((hP.D J).D h8).Z gi (λb hb=>.inr (kc b hb).1)).Q V,g5,ph⟩
 rw[OY (by rw[kb];decide),LK]at h5;refine Qf<|Qr<|QC Z Z<|Qa<|xe ?_;exact⟨(k+1,rv),og,Lb,I,(hP.D J).D h7,(hJ.I h7),by simp only[];rw[h5];exact ka.I h7⟩
def EdR (L:LN)(H:xG)(v:O7)(n:Nat)(ed:List Ed):Prop :=
 ∃rv:Nat->O7,Zw L H v (oM n).length 1 ((oM n).flatMap λi=>[rv i])/\∀i:Nat,i<n->qn L H (rv i) (QK ed i)
theorem EdR.I {L:LN}{w w':O6}{v:O7}{n:Nat}{ed:List Ed}(h:EdR L ↑w v n ed)(G:sW w w'):EdR L ↑w' v n ed :=
 let⟨rv,h1,h2⟩:=h;⟨rv,h1.I G,λi hi=>(h2 i hi).I G⟩
theorem yw (n:Nat)(rv:Nat->O7):((oM n).flatMap λi=>[rv i])=(oM n).map rv:=by
 induction oM n with
 | nil=>rfl
 | cons x l ih=>rw[LR,ih];rfl
theorem QN.ne {H:xG}{a b T':Nat}{I:LV}(h:QN H a T cs)(G:QN H b T' I)(hT:T≠T'):a≠b:=λe=>by
 subst e;unfold QN at h G;rw[h]at G;injection G with h1
 injection h1 with h2 h3
 exact hT h3
abbrev slN (b n:Nat):O7:=sL b n n
theorem JP.edr {b:Nat}{f:Nat->O7}(h:JP base w n f (Ue ed))(G:QN ↑w b T ((oM n).map f))(I:n<=4096)(hl:ed.length<=1000000):EdR [] ↑w (slN b n) n ed:=by
 refine⟨f,?_,λi hi=>QO (h.own i hi) (oq (Yg ed i)) oe⟩;rw[yw];have:=G.arr (L:=[]) oe (n:=(oM n).length) (cap:=n) (sz:=1) oe (by simp;omega) oe;rw[Mg]at this ⊢;exact this
structure ObA (H:xG)(vr vk vz vm:O7)(a:Qz)(o:LI):Prop where
 r:EdR [] H vr a.st.toNat a.ed
 k:Qu [] H vk (kpt a o)
 z:Qu [] H vz (ers a o)
 m:Qu [] H vm a.mr
theorem ObA.I {w w':O6}{vr vk vz vm:O7}{a:Qz}{o:LI}(h:ObA ↑w vr vk vz vm a o)(G:sW w w'):ObA ↑w' vr vk vz vm a o:=⟨h.r.I G,h.k.I G,h.z.I G,h.m.I G⟩
abbrev QaE:LV:=[nS,nS,nS,nS]
instance:Bw sV 201 QaE [(0,1),(1,1),(2,1),(3,1)]:={}
def obP (base n:Nat)(vm:O7)(i:Nat)(v:O7)(w:O6):Prop :=
 if i=2 then ∃b,v=slN b n/\base<=b/\QN ↑w b 51 ((oM n).map λ_=>nS) else
 if i=5 then ∃b,v=.agg #[slN b n,ZY,ZY,vm]/\base<=b/\QN ↑w b 51 ((oM n).map λ_=>nS) else
 ∃b,v=sP b/\base<=b/\QN ↑w b 201 QaE
theorem QnK {v:O7}(h:obP base n vm i v w)(G:sW w w'):obP base n vm i v w':=by
 unfold obP at *
 repeat' split at h
 all_goals simp_all only[if_true,if_false]
 all_goals exact(let⟨b,h1,h2,I⟩:=h;⟨b,h1,h2,I.I G⟩)
theorem QkO (o:LI){k:Nat}(h:k<a.al.length):((a.al.take (k+1)).filter λv=>decide (v∈o))=((a.al.take k).filter λv=>decide (v∈o))++if a.al[k]'h∈o then[a.al[k]'h]else[]:=by
 rw[Ln h,LW];congr 1;by_cases e:a.al[k]'h∈o <;> simp[e]
theorem Qlz (o:LI){k:Nat}(h:k<a.al.length):((a.al.take (k+1)).filter λv=>!decide (v∈o))=((a.al.take k).filter λv=>!decide (v∈o))++if a.al[k]'h∈o then[]else[a.al[k]'h]:=by
 rw[Ln h,LW];congr 1;by_cases e:a.al[k]'h∈o <;> simp[e]
theorem Qe1 (h:Zv [] ↑w va vm ve a)(hO:Qu [] ↑w vo o)(hok:QL a):
  QT sV 94 [.agg #[va,sS a.st,vm,ve],vo] w λr w'=>sW w w'/\∃vr vk vz,r=.agg #[vr,vk,vz,vm]/\ObA ↑w' vr vk vz vm a o/\Qh 3 ↑w w' vk (kpt a o):=by
 have kv:=hok.st0;have kw:=hok.st1;obtain⟨n,hn⟩:∃n:Nat,a.st=n:=⟨a.st.toNat,oa⟩;have g3:a.st.toNat=n:=oa
 have kx:=hok.ed_le;have kz:=h.al.le;have g4:=hok.ed;refine Zn func94 ?_;refine Qc<|Zd [va,sS a.st,vm,ve] λb2 w1 gb k0 h8=>QV QaE λb4 w2 h0 k4 gc=>xe ?_;have hF:=gb.D h0;have k5:=gc.lt;have k6:=gb.size;refine Qd<|VC (α:=Nat×Nat) (sW w2) [oB 0,oB 1,oB 3,oB 4] (λi=>if i=5 then[2]else[]) [2,5,6] [oC 7] [(12,12),(15,15),(5,5)] (obP ↑w2 n vm)
  (λz=>[(15,.agg #[slN z.1 n,ZY,ZY,vm]),(5,.pointer (some ⟨z.2,0,none⟩))]) (λz w'=>QN ↑w' z.1 51 ((oM n).map λ_=>nS)/\QN ↑w' z.2 201 QaE/\↑w2<=z.1/\↑w2<=z.2)
  mixed ol od (xd.Y _ _) (λ_ _ h1 h2=>h1.D h2) (λ_ _ _ _ h hs=>QnK h hs) ?_ ?_
 ·rintro g w' ⟨_,⟨b6,e1,g5,g6⟩,⟨b7,e2,g7,g8⟩,_⟩ _;exact⟨(b6,b7),⟨e1,e2,La⟩,g6,g8,g5,g7⟩
 refine p (QH Z)<|pq (λ_ hc=>Qj ((h8.I h0).I hc) Z Z)<|p (QH Z)<|pq (λ_ hc=>Qj ((h8.I h0).I hc) Z Z)<|pe ⟨⟨?_,?_,?_,La⟩,?_⟩
 ·intro g w' hc _;refine Y5 (n:=n) (O0 sS hn) (O0 sS hn) oa λb Y ha hb hB=>⟨ha,⟨b,Z,LA hc.size hb,?_⟩,λc h3=>by rw[Lc.1 (show c∈[b] from h3)];exact⟨hb,hB.lt⟩⟩;rw[<-UF];exact hB
 ·rintro g w' hc ⟨⟨b,e2,hb,hB⟩,_⟩;refine xv (ZE [(0,[slN b n]),(3,[vm])] ⟨O0 Value.cells e2,Z,h.mr.cells,Z,La⟩) ?_;exact⟨xd.C _ _,⟨b,Z,hb,hB⟩,λc h3=>by cases h3⟩
 ·intro g w' hc _;exact Y0 (us:=QaE) Z λb Y ha hb hB=>⟨ha,⟨b,Z,LA hc.size hb,hB⟩,λc h3=>by rw[Lc.1 (show c∈[b] from h3)];exact⟨hb,hB.lt⟩⟩
 rintro⟨bI,b5⟩ g w3 ge ⟨hG,hH,gg,h9⟩;simp only[]at hG hH gg h9;have hI:=QN.ne hG hH oh;refine pk<|qI [slN bI n,ZY,ZY,vm] hH ⟨Z,Z,Z,h.mr.one,La⟩ λw4 hJ gh=>⟨ge.O hJ h9,pe ?_⟩;have hA:sW w2 w4:=ge.O hJ h9;have gi:=hG.J hJ (by simp only[oH];exact hI);have k9:=gi.lt;have ma:=gh.lt;have g9:=(h8.I h0).I hA;refine Qd<|Qc<|Qs Z g9 Z Z<|QG (h.ed.I (hF.D hA)) Z<|Qa<|xe<|QY (α:=Nat×(Nat->O7)) [(7,7),(19,37)] (λz=>[(19,sS z.1)]) (λz w'=>z.1<=a.ed.length/\xd [bI] w4 w'/\QN ↑w' bI 51 ((oM n).map z.2)/\JP ↑w4 w' n z.2 (Ue (a.ed.take z.1))) (λz=>a.ed.length - z.1) (0,λ_=>nS) Lb
  ⟨Lp _,xd.C _ _,gi,⟨λi _=>QM _ _ _ _,λi j _ _ _=>Dj.nil _⟩⟩ ?_
 rintro⟨k,rv⟩ g Y ⟨hk,ha,hL,ho⟩;simp only[]at hk hL ho;have mc:=ha.size;have hM:sW w2 Y:=hA.O ha gg;have hN:=hF.D hM;have ka:=(h8.I h0).I hM;have gj:=gh.J ha (by simp only[oH];exact hI.symm);refine Zk rfl Z (λhP=>?_) (λhP=>?_)
 ·refine Qt ?_;have kb:a.ed.length<=k:=by have hQ:¬(k:Int)<(a.ed.length:Int):=hP;omega
  rw[Ls kb]at ho;refine Qd<|Qc<|Qs Z ka Z Z<|QG (h.al.I hN) Z<|Qa<|xe<|QY (α:=Nat×O7×O7) [(9,9),(41,60)] (λz=>[(41,sS z.1)]) (λz w'=>z.1<=a.al.length/\xd [b5] Y w'/\QN ↑w' b5 201 [slN bI n,z.2.1,z.2.2,vm]/\Qh 3 ↑Y w' z.2.1 ((a.al.take z.1).filter λv=>decide (v∈o))/\Qh 3 ↑Y w' z.2.2 ((a.al.take z.1).filter λv=>!decide (v∈o))/\Dj z.2.1 z.2.2) (λz=>a.al.length - z.1) (0,ZY,ZY) Lb
   ⟨Lp _,xd.C _ _,gj,QM _ _ _ _,QM _ _ _ _,Dj.nil _⟩ ?_
  rintro⟨j,vk,vz⟩ g w6 ⟨hj,hf,hu,hp,hq,h4⟩;simp only[]at hj hu hp hq h4;have mf:=hf.size;have kc:sW w2 w6:=hM.O hf h9;have hC:=hF.D kc;have hw:=Qi hp;have h5:=Qi hq;have gk:((a.al.take j).filter λv=>decide (v∈o)).length<=j:=LA (LO _ _) (by rw[LH];omega);have gl:((a.al.take j).filter λv=>!decide (v∈o)).length<=j:=LA (LO _ _) (by rw[LH];omega);refine Zk Z Z (λhR=>?_) (λhR=>?_)
  ·refine Qt ?_;have ke:a.al.length<=j:=by have hQ:¬(j:Int)<(a.al.length:Int):=hR;omega
   rw[Ls ke]at hp hq gk gl;have gm:(kpt a o).length<=1099511627776:=LA gk oa;have gn:(ers a o).length<=1099511627776:=LA gl oa;have hK:Qu [] ↑w6 vk (kpt a o):=Qh.ints hp gm oe;have hZ:Qu [] ↑w6 vz (ers a o):=Qh.ints hq gn oe;refine Qc<|Q7 hu Z Z<|Q6 [slN bI n,vk,vz,vm] ((gc.I hA).J ha om |>.J hf om) ⟨rfl,hK.one,hZ.one,h.mr.one,La⟩ λw7 hg kf=>xe ?_;have hS:∀v:O7,(∀b∈ob v,↑Y<=b)->∀b∈ob v,b∉[b4]:=λv hv b hb G=>by have:=hv b hb;rw[Lc.1 G]at this;omega
   refine Qk ⟨[.agg #[slN bI n,vk,vz,vm]],⟨Kh kf,La⟩,hC.O hg oa,slN bI n,vk,vz,Z,⟨?_,?_,?_,?_⟩,Za (Qg hp hg (hS vk λb hb=>(hw b hb).1)) hN.size⟩
   ·rw[g3];refine((ho.J hf λi hi b hb=>?_).J hg λi hi b hb=>?_).edr ((hL.J hf (by simp only[oH];exact hI)).J hg om) oa oa
    ·have:=(Qi (ho.own i hi) b hb).1;simp only[oH];omega
    have:=(Qi (ho.own i hi) b hb).1;simp only[oH];omega
   ·exact Qh.ints (Qg hp hg (hS vk λb hb=>(hw b hb).1)) gm oe
   ·exact Qh.ints (Qg hq hg (hS vz λb hb=>(h5 b hb).1)) gn oe
   exact h.mr.I (hC.O hg oa)
  have J:j<a.al.length:=by have hQ:(j:Int)<(a.al.length:Int):=hR;omega
  have hh:=QkO (a:=a) o J;have hy:=Qlz (a:=a) o J;refine Qf<|Qd<|Qn<|Qc<|xii (i:=j) (h.al.I hC) Z Z J λmg gq=>?_;refine Zg (a.al[j]'J) λv hv=>?_;rw[hv]at gq hh hy;refine x (Qq gq Z)<|Qb<|Ql<|Qa<|Qw<|(ZG (hO.I hC) v).S ?_;rintro r6 w7 ⟨rfl,rfl⟩;refine xe<|Q5 Z (λhT=>?_) (λhT=>?_)
  ·have hvo:v∈o:=O3 hT;rw[OZ hvo]at hh hy;rw[LK]at hy;refine Qr<|Qs Z hu Z Z<|Qa<|Qo<|Q3 [[sS v]] λmh w8 I mj kg =>
    Qo<|Q0 (m:=1) (news:=[sS v]) (L:=[]) (Qm hp I) Z Z Z (kg.at oe) oo oa (oq I.size) λv8 w9 U O h6=>?_
   have kh:=I.size;have hU:b5∉ob vk:=λG=>oq (hw b5 G).1
   refine Q9 Z<|Qo<|Qv (u:=v8) ((hu.I I).J O hU) Z Z (Mc Z) (QA U) λhV V hW=>xe ?_;refine Qr<|QC Z Z<|Qa<|xe ?_;have hX:∀b∈ob v8,b∉[b5]:=λb hb G=>by
    have:=(Qi U b hb).1;rw[Lc.1 G]at this;omega
   refine⟨(j+1,v8,vz),by show a.al.length - (j+1)<a.al.length - j;omega,Lb,J,((hf.D I).Z O λb hb=>.inr (hw b hb).1).Q V,hW,?_,?_,?_⟩
   ·simp only[];rw[hh];exact Qh.snoc (Qg U V hX)
   ·simp only[];rw[hy];exact Qg (Qg (Qm hq I) O λb hb G=>h4 b G hb) V λb hb G=>by
     have:=(h5 b hb).1;rw[Lc.1 G]at this;omega
   intro b hb G;rcases h6 b hb with h1|h1
   ·exact h4 b h1 G
   have:=(h5 b G).2;omega
  have hvo:v∉o:=O5 hT;rw[OY hvo]at hh hy;rw[LK]at hh;refine Qr<|Qs Z hu Z Z<|Qa<|Qo<|Q3 [[sS v]] λmo w8 I mq hD =>
   Qo<|Q0 (m:=1) (news:=[sS v]) (L:=[]) (Qm hq I) Z Z Z (hD.at oe) oo oa (oq I.size) λv8 w9 U O h6=>?_
  have kh:=I.size;have hU:b5∉ob vz:=λG=>oq (h5 b5 G).1
  refine Q9 Z<|Qo<|Qv (u:=v8) ((hu.I I).J O hU) Z Z (Mc Z) (QA U) λhV V hW=>xe ?_;refine Qr<|QC Z Z<|Qa<|xe ?_;have hX:∀b∈ob v8,b∉[b5]:=λb hb G=>by
   have:=(Qi U b hb).1;rw[Lc.1 G]at this;omega
  refine⟨(j+1,vk,v8),by show a.al.length - (j+1)<a.al.length - j;omega,Lb,J,((hf.D I).Z O λb hb=>.inr (h5 b hb).1).Q V,hW,?_,?_,?_⟩
  ·simp only[];rw[hh];exact Qg (Qg (Qm hp I) O λb hb G=>h4 b hb G) V λb hb G=>by
    have:=(hw b hb).1;rw[Lc.1 G]at this;omega
  ·simp only[];rw[hy];exact Qh.snoc (Qg U V hX)
  intro b hb G;rcases h6 b G with h1|h1
  ·exact h4 b hb h1
  have:=(hw b hb).2;omega
 refine Qf ?_;have J:k<a.ed.length:=by have hQ:(k:Int)<(a.ed.length:Int):=hP;omega
 have hh:a.ed.take (k+1)=a.ed.take k++[a.ed[k]'J]:=Ln J;have gr:=g4 _ (Lm J);refine Zg (a.ed[k]'J) λe he=>?_;rw[he]at hh gr;have gs:e.1=(e.1.toNat:Int):=oa
 have hr:e.1.toNat<n:=oa
 have ki:(Ue (a.ed.take k) e.1.toNat).length<=(a.ed.take k).length:=Yg _ _;rw[LH]at ki;refine Qd<|Qn<|Qc<|xie (h.ed.I hN) Z Z J λms gt=>?_;rw[he]at gt;refine x (QF gt Z Z)<|QV [sS 0,sS 0,sS 0] λb7 w6 hf kj kk=>Q6 (Qp e) kk oz λw7 hg hY=>xe ?_;have h7:sW Y w7:=hf.O hg kj;have mt:=h7.size;have gu:=ho.I h7;have hE:∀b∈ob (rv e.1.toNat),↑w4<=b/\b<Y.heap.size:=λb hb=>⟨(Qi (ho.own _ hr) b hb).1,QW (ho.own _ hr) b hb⟩;have gv:bI∉ob (rv e.1.toNat):=λhb=>oq (hE _ hb)
 have gx:b5∉ob (rv e.1.toNat):=λhb=>oq (hE _ hb)
 have ga:b7∉ob (rv e.1.toNat):=λhb=>oq (hE _ hb)
 have gy:=hL.I h7;have hD:=gj.I h7;refine Ur (xd (ob (rv e.1.toNat)) w7) [oB 0,oB 1,oB 2,oB 3,oB 4,oB 5,oB 6,oB 7,oB 8,oB 9,oB 10,oC 11,oC 12,oB 13,oC 14] mixed ol od (xd.Y _ _) ?_;refine p (QH Z)<|pq (λ_ hc=>Qj (hD.J hc gx) Z Z)<|p (QH Z)<|pq (λ_ hc=>Qj (hY.J hc ga) Z Z) <|
  p (QH rfl)<|pq (λ_ hc=>Qj (hD.J hc gx) Z Z)<|p (QH Z)<|pq (λ_ hc=>Qj (hY.J hc ga) Z Z) <|
  p (λ_=>QE (i:=e.1.toNat) Z (O0 sS gs) hr)<|pq (λ_ hc=>Qj (u:=rv e.1.toNat) (gy.J hc gv) Z (Vi hr))<|pq (λ_ hc=>Zj (hY.J hc ga) Z Z) <|
  pk<|Q3 [Qp e] λmu w8 I mv kn=>⟨((xd.Y _ _).D I).any,?_⟩
 have hz:sW w7 w8:=(xd.Y _ _).D I;have mw:=hz.size;refine pk<|Q0 (m:=1) (news:=Qp e) (Qm (gu.own _ hr) hz) Z Z Z (by have:=kn.at (L:=[]) oe;simpa using this) (ZN.all (us:=Qp e) ⟨rfl,rfl,rfl,La⟩) oa oa λvr w9 U O h6=>⟨hz.any.Q O,?_⟩;have ko:((oM n).map rv).length=n:=oe
 have kq:=Ye.snoc U;refine p (λ_=>QE (i:=e.1.toNat) Z (O0 sS gs) hr)<|pkk<|Qv (j:=0+e.1.toNat*1) (u:=vr) ((gy.I hz).J O gv) Z Z (by rw[ko];omega) (QA U) λhV V kr=>pe ?_;have kt:QN ↑hV bI 51 ((oM n).map (XB rv e.1.toNat vr)):=by
  have e1:=Kl id n rv e.1.toNat vr;simp only[id]at e1;rw[<-e1];simpa using kr
 have ku:∀b∈ob vr,b∈ob (rv e.1.toNat)\/↑w7<=b:=λb hb=>(h6 b hb).imp id (λh=>oa);have gz:=gu.app hr kq (hz.any.Q O) ku;have g0:=gz.J V (λi hi b hb=>by have:=(Qi (gz.own i hi) b hb).1;simp only[oH];omega);have g2:=qA (a.ed.take k) e gr.1;rw[<-hh]at g2;rw[g2]at g0;refine Qr<|QC Z Z<|Qa<|xe<|⟨(k+1,XB rv e.1.toNat vr),by show a.ed.length - (k+1)<a.ed.length - k;omega,Lb,J,?_,kt,g0⟩;exact(((ha.D h7).D hz).Z O (λb hb=>.inr (hE b hb).1)).Q V
end Go.Lg
namespace Go.Proofs
open Go.Proofs.Tryz
open Go.Shelf
def Tryz.sortI_ren:Go.Shelf.Ren:=⟨λ|5=>62|8=>141|7=>140|19=>220|20=>221|10=>211|11=>212|12=>213|13=>214|14=>215|15=>216|16=>217|17=>218|18=>219|30=>257|31=>258|32=>259|33=>260|34=>261|35=>262|40=>286|n=>n,λ|23=>47|25=>3|3=>3|32=>246|22=>47|0=>0|44=>317|46=>319|4=>4|36=>311|35=>310|41=>205|5=>5|9=>9|53=>363|57=>367|63=>389|64=>379|n=>n,λ|n=>n⟩
theorem Tryz.sortI:Go.Proofs.SlLaysM.n5 sV Tryz.sortI_ren:=lyS
def Tryz.cmpI_ren:Go.Shelf.Ren:=⟨λ|43=>161|n=>n,λ|22=>47|23=>3|3=>3|4=>4|0=>0|n=>n,λ|n=>n⟩
theorem Tryz.cmpI:Go.Proofs.SlLaysE.n43 sV Tryz.cmpI_ren:=lyS
def Tryz.delI_ren:Go.Shelf.Ren:=⟨λ|10=>63|6=>142|n=>n,λ|22=>47|23=>3|25=>141|3=>3|4=>4|0=>0|n=>n,λ|n=>n⟩
theorem Tryz.delI:Go.Proofs.SlLaysH.n10 sV Tryz.delI_ren:=lyS
end Go.Proofs
namespace Go.Lg
open Go.Lg Go.Sort Go.Lib
abbrev iC:Int->O7:=Value.int .i64
theorem Kr {e:Nat}{l:LI}{cur:Array O7}(I:w.heap[g]?=some (.cells cur e (0,0)))(J:cur.toList.take (l.length*1)=l.map iC):Holds iC w g 0 l.toArray:=by
 intro j G;rw[L3]at G;have h1:cur.toList[j]?=some (iC l[j]):=by
  have h2:(cur.toList.take (l.length*1))[j]?=(l.map iC)[j]?:=by rw[J]
  rw[L6,OZ oa,MO,LE G]at h2;exact h2
 have O:l.toArray[j]! = l[j]:=by simp[G]
 constructor
 ·show(match w.heap[g]? with|some (.cells c _ _)=>if(none:Option _).isSome then none else c[0+j]?|_=>none)=_
  rw[I,O];simp only[Ob,Option.isSome_none,Ov,if_false];rw[<-MX,h1]
 show(match w.heap[g]? with|some (.cells _ _ (lo,hi))=>decide (lo<=0+j) && decide (0+j<hi)|_=>false)=false
 rw[I];simp
theorem UK {e:Nat}{cap k:Nat}{cur:Array O7}{os:xG}{d:Array Int}(U:base<=g)(J:w.heap[g]?=some (.cells cur e (0,0)))(hh:d.size<=cap)(V:cap<=maxLen)(Y:cur.size=cap*1)(hk:k<=d.size):
  xd [g] w (grow (putRow iC (Sort.ahead w n) g 0 d) os)/\Qh e base (grow (putRow iC (Sort.ahead w n) g 0 d) os) (sL g k cap) (d.toList.take k):=by
 have ha:g<w.heap.size:=(LM.1 J).1;have G:(grow (putRow iC (Sort.ahead w n) g 0 d) os).heap=w.heap.modify g (onCells (putCells iC 0 d))++os:=rfl;have he:(d.toList.take k).length=k:=by simp;omega
 refine⟨⟨Z,Z,Z,?_,λi hi hn=>?_⟩,?_⟩
 ·rw[G,NG,MP];omega
 ·rw[G,MK,MP,OZ hi,M7,OY (λe=>hn (by simp[e]))]
 unfold Qh;rw[he];refine⟨by simp;omega,.inr ⟨g,cap,putCells iC 0 d cur,Z,U,?_,oa,V,by simp[putCells,Y],?_⟩⟩
 ·rw[G,MK,MP,OZ ha,M7,OZ rfl,J];rfl
 apply Nw;intro j;rw[L6,MO,L6];by_cases O:j<k
 ·rw[OZ oa,OZ O];have hf:j<cur.size:=oa
  have I:j<d.size:=oa
  rw[MX,MX,MS I];simp only[putCells,Array.getElem?_mapIdx,Array.getElem?_eq_getElem hf,OJ,Nat.zero_le,Ob,true_and,OZ I,OS];rw[getElem!_pos d j I]
 rw[OY oa,OY O];rfl
theorem Kn {v:O7}{l:LI}(h:Qh 3 base w v l)(hl:l.length<=1099511627776):
  QT sV 62 [v] w λ_ w'=>xd (ob v) w w'/\Qh 3 base w' v (l.mergeSort λx y=>decide (x<=y)):=by
 unfold QT;rcases h.2 with⟨rfl,O⟩|⟨g,cap,cur,rfl,U,G,hj,V,Y,ha⟩
 ·have hf:l=[]:=Lu O;subst hf;have hc:=AnyM.slices_Sort_int_none Tryz.sortI none 0 w;change Calls sV 62 _ _ _ at hc;refine Calls.mono hc λe w' I=>?_;obtain⟨rfl,rfl⟩:=I;exact⟨xd.C _ _,by rw[List.mergeSort_nil];exact h⟩
 have hh:g<w.heap.size:=(LM.1 G).1;have hc:=AnyM.slices_Sort_int Tryz.sortI g 0 cap l w (Kr G ha) hh oa;change Calls sV 62 _ _ _ at hc;refine Calls.mono hc λe w' I=>?_;obtain⟨rfl,n,os,rfl⟩:=I;have J:=(Nl l (λx y=>decide (x<=y))).length_eq;have:=UK (e:=3) (n:=n) (k:=l.length) (os:=os) (d:=(l.mergeSort λx y=>decide (x<=y)).toArray) U G (by simp;omega) V Y oe;refine⟨this.1,?_⟩;have h2:=this.2;simp only[List.take_of_length_le (Nat.le_of_eq J)]at h2;unfold Qh at h2 ⊢;rw[J]at h2 ⊢;exact h2
theorem Qjw {v:O7}{l:LI}(h:Qh 3 base w v l)(hl:l.length<=1099511627776):
  QT sV 62 [v] w λ_ w'=>xd (ob v) w w'/\∃l',l'.length=l.length/\(∀x,x∈l'↔x∈l)/\Qh 3 base w' v l' :=
 (Kn h hl).S λ_ _ ⟨h1,h2⟩=>⟨h1,_,(Nl l _).length_eq,λ_=>(Nl l _).mem_iff,h2⟩
theorem yb (l:LI):∀m,m<=l.length->∀x,x∈compactUpTo l.toArray m↔x∈l.take m
 | 0,_,x=>by simp[compactUpTo]
 | m+1,h,x=>by
  have I:m<l.length:=oa
  have hx:l.toArray[m]! = l[m]:=by simp[I]
  rw[compactUpTo_succ,Lk,(yb l m oa x),Ln I,Lk,hx,Lc];by_cases G:keeps l.toArray m=true
  ·rw[OZ G,Lc]
  rw[OY G];refine⟨λh=>.inl (h.resolve_right oe),λh=>.inl (h.elim id λe=>?_)⟩;simp only[keeps,decide_eq_true_eq,not_or]at G;have J:m≠0:=by simpa using G.1
  have h1:l.toArray[m]! = l.toArray[m - 1]!:=by simpa using G.2
  have h2:l.toArray[m - 1]! = l[m - 1]:=by simp[show m - 1<l.length by omega]
  rw[e,<-hx,h1,h2];rw[List.mem_take_iff_getElem];exact⟨m - 1,oa,Z⟩
theorem QoV {v:O7}{l:LI}(h:Qh 3 base w v l)(hl:l.length<=1099511627776):
  QT sV 161 [v] w λr w'=>xd (ob v) w w'/\∃l',l'.length<=l.length/\(∀x,x∈l'↔x∈l)/\Qh 3 base w' r l':=by
 rcases h.2 with⟨rfl,J⟩|⟨g,cap,cur,rfl,O,G,U,V,Y,ha⟩
 ·have hf:l=[]:=Lu J;subst hf;refine Zn func161 ?_;refine Qc<|Qb<|Qd<|Ql<|x (Qaz Z)<|ZT Z Z<|xe<|Zh Z (λ_=>?_) (λh8=>O1 oh h8);refine Ql<|Qb<|Qk ⟨[nS],Lb,xd.C _ _,[],Lr _,λx=>Iff.rfl,h⟩
 unfold QT;have hc:=AnyE.slices_Compact Tryz.cmpI iC (λ_=>Z) (.intD _ _ .i64) (.intD _ _ .i64) 0 (λw=>od) g 0 cap l.toArray w (Kr G ha) (by simp;omega) (ox U);change Calls sV 161 _ _ _ at hc;rw[L3]at hc;refine Calls.mono hc λe w' he=>?_;obtain⟨rfl,q,rfl⟩:=he;have I:=yb l l.length (Lr _);rw[ON]at I;have hh:(compactUpTo l.toArray l.length).length<=l.length:=by
  unfold compactUpTo;rw[Lo];exact LA (LO _ _) oe
 generalize compactUpTo l.toArray l.length=u at *;have:=UK (e:=3) (n:=q) (k:=u.length) (os:=#[]) (d:=(u++oI (l.length - u.length) 0).toArray) O G (by simp;omega) V Y oe;rw[grow_empty]at this;refine⟨this.1,u,hh,I,?_⟩;have h2:=this.2;have h3:(u++oI (l.length - u.length) 0).toArray.toList.take u.length=u:=oe
 rw[h3]at h2;exact h2
structure VwV where
 b:Nat
 va:O7
 vm:O7
 ve:O7
 vo:O7
 vu:O7
 vr:O7
 a:Qz
 o:LI
 un:LI
abbrev Qm0 (V:VwV):LV:=[V.va,sS V.a.st,V.vm,V.ve,V.vo,V.vu,V.vr]
structure VwA (H:xG)(V:VwV):Prop where
 blk:QN H V.b 236 (Qm0 V)
 a:Zv [] H V.va V.vm V.ve V.a
 o:Qu [] H V.vo V.o
 u:Qu [] H V.vu V.un
 r:EdR [] H V.vr V.a.st.toNat V.a.ed
 ok:QL V.a
theorem VwA.I {w w':O6}{V:VwV}(h:VwA ↑w V)(G:sW w w'):VwA ↑w' V:=⟨h.blk.I G,h.a.I G,h.o.I G,h.u.I G,h.r.I G,h.ok⟩
abbrev Qsg:LV:=[nS,sS 0,nS,nS,nS,nS,nS]
instance:Bw sV 236 Qsg [(0,4),(4,1),(5,1),(6,1)]:={}
theorem Qp1 (h:Zv [] ↑w va vm ve a)(hO:Qu [] ↑w vo o)(hU:Qu [] ↑w vu un)(hok:QL a):
  QT sV 131 [.agg #[va,sS a.st,vm,ve],vo,vu] w λr w'=>sW w w'/\∃V:VwV,r=.pointer (some ⟨V.b,0,none⟩)/\VwA ↑w' V/\V.a=a/\V.o=o/\V.un=un:=by
 have gl:=hok.st0;have gm:=hok.st1;obtain⟨n,hn⟩:∃n:Nat,a.st=n:=⟨a.st.toNat,oa⟩;have hJ:a.st.toNat=n:=oa
 have gn:=hok.ed_le;have hK:=hok.ed;refine Zn func131 ?_;refine Qc<|Zd [va,sS a.st,vm,ve] λb3 U hv gq hj=>Qb ?_;have hw:sW U { U with drawn:=U.drawn+1 }:=xd.Y _ _
 refine Qd<|ZK [] (Xj 0 9 [5,7])<|pq (λ_ hc=>Zj (hj.I hc) Z Z)<|p Qx<|p Qx<|p (QH Z)<|pq (λ_ hc=>Qj (hj.I hc) Z Z) <|
  pk<|Y5 (n:=n) (O0 sS hn) (O0 sS hn) oa λbI w2 hy hL hm=>⟨hw.D hy,?_⟩
 rw[UF]at hm;have hz:=hw.D hy;refine p (λ_=>ZE [(0,[va,sS a.st,vm,ve]),(1,[vo]),(2,[vu]),(3,[slN bI n])] ⟨Z,Z,hO.cells,Z,hU.cells,Z,Z,Z,La⟩)<|pk<|zg (us:=[va,sS a.st,vm,ve,vo,vu,slN bI n]) Z λb7 w3 ho gr h0=>⟨hz.D ho,p ZH<|pe ?_⟩;have hp:=hz.D ho;have hM:=hv.D hp;have gs:=hm.lt;have hN:↑U<=bI:=hL;have gt:=h0.lt;have hP:=hm.I ho;have hQ:=hj.I hp;refine Qd<|Qc<|Qs Z hQ Z Z<|QG (h.ed.I hM) Z<|Qa<|xe<|QY (α:=Nat×(Nat->O7)) [(9,9),(21,43)] (λz=>[(21,sS z.1)]) (λz w'=>z.1<=a.ed.length/\xd [bI] w3 w'/\QN ↑w' bI 51 ((oM n).map z.2)/\JP ↑w3 w' n z.2 (Ue (a.ed.take z.1))) (λz=>a.ed.length - z.1) (0,λ_=>nS) Lb
  ⟨Lp _,xd.C _ _,hP,⟨λi _=>QM _ _ _ _,λi j _ _ _=>Dj.nil _⟩⟩ ?_
 rintro⟨k,rv⟩ g w5 ⟨hk,hf,hq,I⟩;simp only[]at hk hq I;have gu:=hf.size;have hR:sW U w5:=hp.O hf hN;have Y:=hv.D hR;have h3:=h0.J hf om;refine Zk rfl Z (λhr=>?_) (λhr=>?_)
 ·refine Qt ?_;have hS:a.ed.length<=k:=by have hT:¬(k:Int)<(a.ed.length:Int):=hr;omega
  rw[Ls hS]at I;have hV:EdR [] ↑w5 (slN bI n) n a.ed:=I.edr hq oa oa;refine Ql<|Qb<|Qk ⟨[sP b7],Lb,Y,⟨b7,va,vm,ve,vo,vu,slN bI n,a,o,un⟩,Z,⟨h3,h.I Y,hO.I Y,hU.I Y,by rw[hJ];exact hV,hok⟩,Z,Z,Z⟩
 refine Qf ?_;have J:k<a.ed.length:=by have hT:(k:Int)<(a.ed.length:Int):=hr;omega
 have h4:a.ed.take (k+1)=a.ed.take k++[a.ed[k]'J]:=Ln J;have h5:=hK _ (Lm J);refine Zg (a.ed[k]'J) λe he=>?_;rw[he]at h4 h5;have h6:e.1=(e.1.toNat:Int):=oa
 have G:e.1.toNat<n:=oa
 have hW:(Ue (a.ed.take k) e.1.toNat).length<=(a.ed.take k).length:=Yg _ _;rw[LH]at hW;refine Qd<|Qn<|Qc<|xie (h.ed.I Y) Z Z J λgv h7=>?_;rw[he]at h7;refine x (QF h7 Z Z)<|QV [sS 0,sS 0,sS 0] λb9 w6 hX hY hZ=>Q6 (Qp e) hZ oz λw7 ga hs=>xe ?_;have ha:sW w5 w7:=hX.O ga hY;have gx:=ha.size;have h8:=I.I ha;have hg:∀b∈ob (rv e.1.toNat),↑w3<=b/\b<w5.heap.size:=λb hb=>⟨(Qi (I.own _ G) b hb).1,QW (I.own _ G) b hb⟩;have h9:bI∉ob (rv e.1.toNat):=λhb=>oq (hg _ hb)
 have hA:b7∉ob (rv e.1.toNat):=λhb=>oq (hg _ hb)
 have hu:b9∉ob (rv e.1.toNat):=λhb=>oq (hg _ hb)
 have hB:=hq.I ha;have hC:=h3.I ha;refine Ur (xd (ob (rv e.1.toNat)) w7) [oB 0,oB 1,oB 2,oB 3,oB 4,oB 5,oB 6,oB 7,oB 8,oB 9,oB 10,oB 11,oB 12,oB 13,oB 14,oC 15,oC 16,oB 17,oC 18] mixed ol od (xd.Y _ _) ?_;refine p Qx<|p (YT Z)<|p (QH Z)<|pq (λ_ hc=>Qj (hC.J hc hA) Z Z)<|p (QH Z)<|pq (λ_ hc=>Qj (hs.J hc hu) Z Z) <|
  p Qx<|p (YT Z)<|p (QH Z)<|pq (λ_ hc=>Qj (hC.J hc hA) Z Z)<|p (QH Z)<|pq (λ_ hc=>Qj (hs.J hc hu) Z Z) <|
  p (λ_=>QE (i:=e.1.toNat) Z (O0 sS h6) G)<|pq (λ_ hc=>Qj (u:=rv e.1.toNat) (hB.J hc h9) Z (Vi G))<|pq (λ_ hc=>Zj (hs.J hc hu) Z Z) <|
  pk<|Q3 [Qp e] λgy w8 hD gz gb=>⟨((xd.Y _ _).D hD).any,?_⟩
 have O:sW w7 w8:=(xd.Y _ _).D hD;have g0:=O.size;refine pk<|Q0 (m:=1) (news:=Qp e) (Qm (h8.own _ G) O) Z Z Z (by have:=gb.at (L:=[]) oe;simpa using this) (ZN.all (us:=Qp e) ⟨rfl,rfl,rfl,La⟩) oa oa λvr w9 hE hh gc=>⟨O.any.Q hh,?_⟩;have ge:((oM n).map rv).length=n:=oe
 have gg:=Ye.snoc hE;refine p (λ_=>QE (i:=e.1.toNat) Z (O0 sS h6) G)<|pkk<|Qv (j:=0+e.1.toNat*1) (u:=vr) ((hB.I O).J hh h9) Z Z (by rw[ge];omega) (QA hE) λgh hF gi=>pe ?_;have gj:QN ↑gh bI 51 ((oM n).map (XB rv e.1.toNat vr)):=by
  have e1:=Kl id n rv e.1.toNat vr;simp only[id]at e1;rw[<-e1];simpa using gi
 have gk:∀b∈ob vr,b∈ob (rv e.1.toNat)\/↑w7<=b:=λb hb=>(gc b hb).imp id (λh=>oa);have hG:=h8.app G gg (O.any.Q hh) gk;have hH:=hG.J hF (λi hi b hb=>by have:=(Qi (hG.own i hi) b hb).1;simp only[oH];omega);have hI:=qA (a.ed.take k) e h5.1;rw[<-h4]at hI;rw[hI]at hH;refine Qr<|QC Z Z<|Qa<|xe<|⟨(k+1,XB rv e.1.toNat vr),by show a.ed.length - (k+1)<a.ed.length - k;omega,Lb,J,?_,gj,hH⟩;exact(((hf.D ha).D O).Z hh (λb hb=>.inr (hg b hb).1)).Q hF
theorem Qj1 {v:O7}{l:LI}{n:Int}(h:Qu L ↑w v l)(V:∀x∈l,0<=x/\x<n)(hi:YD l):
  QT sV 167 [v,sS n] w λr w'=>r=sS 0/\w'=w:=by
 have hg:=h.le;refine Zn func167 ?_;refine Qc<|Qb<|Qd<|Ql<|QG h Z<|Qa<|xe<|QY (α:=Nat) [(4,6),(9,34)] (λz=>[(9,sS z)]) (λz w'=>z<=l.length/\w'=w) (λz=>l.length - z) 0 Lb ⟨Lp _,Z⟩ ?_;rintro k g Y ⟨hk,rfl⟩;refine Zk rfl Z (λJ=>?_) (λJ=>?_)
 ·refine Qt<|Qc<|Qb<|Qk ⟨[_],Lb,Z,Z⟩
 have G:k<l.length:=by have I:(k:Int)<(l.length:Int):=J;omega
 have hh:=V _ (Lm G);refine Qf<|Qd<|Qn<|Ql<|xii (i:=k) h Z Z G λhj ha=>x (Qq ha Z)<|x Qe<|Qb<|Qn<|QX (α:=Unit) [(14,21)] (λ_=>[(14,.bool false)]) (λ_ w'=>w'=Y) ol ?_ ?_
 ·refine Qr<|Qa<|xb (YF Z Z) (λI=>O1 I oa) (λI=>?_);refine Qa<|Qa<|Qa<|x (Yn Z Z)<|QB Z<|Qb<|⟨(),⟨O0 Value.bool (O4 oa),La⟩,Z⟩
 rintro _ g2 w2 rfl;refine ZC rfl<|QX (α:=Unit) [(22,33)] (λ_=>[(22,.bool false)]) (λ_ w'=>w'=w2) ol ?_ ?_
 ·refine Qr<|Qa<|xb (Ya Z Z) (λO=>?_) (λO=>?_)
  ·have hm:0<k:=by have hn:(0:Int)<(k:Int):=O;omega
   have U:k - 1<l.length:=oa
   have he:((k:Int) - 1)=((k - 1:Nat):Int):=oa
   have ho:=Mn.1 hi (k - 1) k U G oa;refine Qa<|Qa<|Qa<|Qa<|x (JH Z Z ⟨oa,oa⟩)<|xii (i:=k - 1) h Z (show Go.Lg.ev _ _=_ from O0 sS he) U λhp hf =>
    x (Qq hf Z)<|x (Jl Z Z)<|QB Z<|Qb<|⟨(),⟨O0 Value.bool (O4 oa),La⟩,Z⟩
  refine Qa<|Zs<|Zs<|Kd<|QB Z<|Qb<|⟨(),Lb,Z⟩
 rintro _ g3 w3 rfl;refine ZC rfl<|Qf<|Qr<|QC Z Z<|Qa<|xe ?_;exact⟨k+1,oa,Lb,G,Z⟩
theorem QeY (h:Zv L ↑w va vm ve a)(J:Qu L ↑w vo o)(hok:QL a)(O:∀x∈o,0<=x/\x<32)(hi:YD o):
  QT sV 93 [.agg #[va,sS a.st,vm,ve],vo] w λr w'=>r=sS 0/\sW w w':=by
 refine Zn func93 ?_;refine Qc<|Zd [va,sS a.st,vm,ve] λV Y G ha U=>Qb ?_;have hA:=Xb (h.I G);rw[(ZA a).2 hok]at hA;refine Qd<|Qc<|Q7 U Z Z<|Qw<|hA.S ?_;rintro r2 w2 ⟨rfl,I⟩;refine Qb<|Ql<|ZS Z Z<|xe<|ZC rfl<|Qf<|Ql<|Qw<|(Qj1 ((J.I G).I I) O hi).S ?_;rintro r3 w3 ⟨rfl,rfl⟩;refine Qb<|Qk ⟨[_],Lb,Z,G.D I⟩
def pkB (l:LI):List UInt8:=l.map λx=>UInt8.ofNat (x.toNat+1)
def pkA (l:LI):ByteArray:=⟨(pkB l).toArray⟩
theorem Qnw {l m:LI}(hl:∀x∈l,0<=x/\x<100)(I:∀x∈m,0<=x/\x<100)(h:pkA l=pkA m):l=m:=by
 have h1:pkB l=pkB m:=by
  have:=O0 (λb:ByteArray=>b.data.toList) h;simpa[pkA]using this
 clear h;induction l generalizing m with
 | nil =>
  cases m with
  | nil=>rfl
  | cons y m=>cases h1
 | cons x l ih =>
  cases m with
  | nil=>cases h1
  | cons y m =>
   obtain⟨h2,J⟩:=List.cons.inj h1;have O:=O0 UInt8.toNat h2;have U:=hl x Lj;have V:=I y Lj;rw[XC oa,XC oa]at O;rw[show x=y by omega,ih (λz G=>hl z (Lh _ G)) (λz G=>I z (Lh _ G)) J]
theorem QfE {v:O7}{r:Nat}(h:w.ownsRow base 5 1 v n cs)(Y:r<128)(hn:n+1<=1000000000)(hb:base<=↑w):
  QT sV 240 [v,.int .i32 (r:Int)] w λv' w'=>xd (ob v) w w'/\w'.ownsRow base 5 1 v' (n+1) (cs++[.int .u8 (r:Int)]):=by
 refine Zn func240 ?_;refine Qc<|Qb<|Qd<|Ql<|x (Yi (n:=(r:Int)) Z (show inK .u32 (r:Int) from⟨oa,oa⟩))<|x (Jl Z Z)<|xe<|Zh rfl (λI=>?_) (λI=>O1 (show(r:Int)<=127 by omega) I);refine Ql<|Qa<|x (Yi (n:=(r:Int)) Z (show inK .u8 (r:Int) from⟨oa,oa⟩))<|Qo<|Q3 [[.int .u8 (r:Int)]] λb11 w1 G ha J =>
  Qo<|Q0 (m:=1) (news:=[.int .u8 (r:Int)]) (L:=[]) (Qm h G) Z Z Z (J.at oe) oo oa (oq G.size) λO w2 U V he=>Qb<|Qk ⟨[O],Lb,G.any.Q V,U⟩
theorem Qbg {U:O6}{b:Nat}{G:List UInt8}{p:O7}(h0:sW U w)(hb:↑U<=b)(hp:p=.pointer none\/p=me b)(h:Bl p b G w){r:Nat}(hr:r<128)(hl:G.length+1<=1000000000):
  QT sV 169 [me b,.int .i32 (r:Int)] w λ_ w'=>sW U w'/\Bl (me b) b (G++[UInt8.ofNat r]) w':=by
 refine Zn func169 ?_;refine Qc<|x Qe<|Qb<|Ql<|Qw<|(KY h0 hb hp h).S ?_;rintro r1 w1 ⟨rfl,hh,v,I,J⟩;refine xe ?_;have hq:=I.lt;have hj:Zw [] ↑w1 v G.length 1 (Lib.byteCells G):=QO J oa oe;refine Ql<|Z8 Z<|Qs Z I Z Z<|QG hj Z<|Qb<|Ql<|Qa<|Z8 Z<|Qs Z I Z Z<|Qa<|Qw<|(QfE J hr hl oa).S ?_;rintro O Y ⟨ha,hk⟩;have V:Y.ownsRow (b+1) 5 1 O (G++[UInt8.ofNat r]).length (Lib.byteCells (G++[UInt8.ofNat r])):=by
  have e:(UInt8.ofNat r).toNat=r:=XC oa;simpa[Lib.byteCells,e]using hk
 have hm:Zw [] ↑Y O (G++[UInt8.ofNat r]).length 1 (Lib.byteCells (G++[UInt8.ofNat r])):=QO V (by simp;omega) oe;refine Z8 rfl<|Q9 Z<|Qo<|Qv (I.J ha (λhc=>oq (Qi J b hc).1)) Z Z oe hm.one λw4 he hf=>xe ?_;have hg:=Qg V he (λc hc=>by have:=(Qi V c hc).1;simp;omega);have hn:Zw [] ↑w4 O (G++[UInt8.ofNat r]).length 1 (Lib.byteCells (G++[UInt8.ofNat r])):=QO hg (by simp;omega) oe;have hs:(G++[UInt8.ofNat r]).length=G.length+1:=oe
 refine Ql<|Z8 Z<|Qs Z hf Z Z<|QG hn Z<|Qa<|x (JH Z Z ⟨oa,oa⟩)<|x Qe<|Qb<|Qk ⟨[_,.nilIface],oy,((hh.Z ha (λc hc=>.inr ?_)).O he hb),O,hf,hg⟩;have:=(Qi J c hc).1;omega
theorem QbB {v:O7}{l:LI}(h:Qu L ↑w v l)(hb:∀x∈l,0<=x/\x<100)(hl:l.length<=1000000):
  QT sV 96 [v] w λr w'=>r=.string (pkA l)/\sW w w':=by
 refine Zn func96 ?_;refine Qc<|Qb<|Qc<|QV [.pointer none,nS] λI w1 hf Y hg=>xe ?_;refine Qd<|Ql<|QG h Z<|Qa<|xe<|QY (α:=Nat×O7) [(5,5),(8,16)] (λz=>[(8,sS z.1)]) (λz w'=>z.1<=l.length/\sW w w'/\(z.2=.pointer none\/z.2=me I)/\Bl z.2 I (pkB (l.take z.1)) w') (λz=>l.length - z.1) (0,.pointer none) Lb
  ⟨Lp _,hf,.inl Z,⟨_,hg,QM _ _ _ _⟩⟩ ?_
 rintro⟨k,p⟩ g w2 ⟨hk,O,U,J⟩;simp only[]at hk U J;refine Zk rfl Z (λV=>?_) (λV=>?_)
 ·refine Qt ?_;have hh:l.length<=k:=by have hj:¬(k:Int)<(l.length:Int):=V;omega
  rw[Ls hh]at J;refine Qc<|Vc<|(VG O Y U J).S ?_;rintro r3 w3 ⟨rfl,hm⟩;refine Qb<|Qk ⟨[_],Lb,Z,hm⟩
 have G:k<l.length:=by have hj:(k:Int)<(l.length:Int):=V;omega
 have hn:=hb _ (Lm G);have ha:pkB (l.take (k+1))=pkB (l.take k)++[UInt8.ofNat ((l[k]'G).toNat+1)]:=by
  rw[Ln G];unfold pkB;rw[Lv];rfl
 refine Qf<|Qd<|Qn<|Qc<|xii (i:=k) (h.I O) Z Z G λhu he=>?_;refine Zg (l[k]'G) λs hs=>?_;rw[hs]at he hn ha;have ho:s+1=((s.toNat+1:Nat):Int):=oa
 have hv:(pkB (l.take k)).length<=1000000:=by unfold pkB;rw[Lo,LH];omega
 refine x (Qq he Z)<|Qb<|Qr<|Qa<|QC Z Z<|x (Yi (n:=s+1) Z (show inK .i32 (s+1) from⟨oa,oa⟩))<|Qo<|xf ?_;refine(show QT _ _ [me I,.int .i32 (s+1)] _ _ by rw[ho];exact Qbg O Y U J oa oa).S ?_;rintro r4 w4 ⟨hq,hr⟩;refine xe<|Qr<|QC Z Z<|Qa<|xe<|⟨(k+1,me I),by show l.length - (k+1)<l.length - k;omega,Lb,G,hq,.inr Z,?_⟩;simp only[];rw[ha];exact hr
theorem Qci {l:LI}(I:l.Pairwise (·<=·)):∀m,m<=l.length->YD (compactUpTo l.toArray m)
 | 0,_=>by simp[compactUpTo,YD]
 | m+1,h=>by
  have J:m<l.length:=oa
  have hx:l.toArray[m]! = l[m]:=by simp[J]
  rw[compactUpTo_succ];by_cases G:keeps l.toArray m=true
  ·rw[OZ G];refine Mu.2 ⟨Qci I m oa,oe,λx O y U=>?_⟩;rw[Lc.1 U,hx];have h1:=(yb l m oa x).1 O;obtain⟨i,hi,e⟩:=List.mem_take_iff_getElem.1 h1;have Y:i<m:=oa
   have h2:m - 1<l.length:=oa
   have h3:l[m - 1]≠l[m]:=by
    simp only[keeps,decide_eq_true_eq]at G;rcases G with G|G
    ·have:m=0:=by simpa using G
     omega
    intro e2;have V:l.toArray[m - 1]! = l[m - 1]:=by simp[h2]
    exact G (by rw[hx,V,e2])
   have h5:l[i]<=l[m - 1]:=by
    by_cases e3:i=m - 1
    ·subst e3;exact Ms _
    exact Mn.1 I i (m - 1) oa h2 oa
   have h6:=Mn.1 I (m - 1) m h2 J oa;omega
  rw[OY G,LK];exact Qci I m oa
theorem QoU {v:O7}{l:LI}(h:Qh 3 base w v l)(hl:l.length<=1099511627776)(J:l.Pairwise (·<=·)):
  QT sV 161 [v] w λr w'=>xd (ob v) w w'/\∃l',YD l'/\(∀x,x∈l'↔x∈l)/\Qh 3 base w' r l':=by
 rcases h.2 with⟨rfl,O⟩|⟨g,cap,cur,rfl,U,G,V,Y,ha,hf⟩
 ·have hh:l=[]:=Lu O;subst hh;refine Zn func161 ?_;refine Qc<|Qb<|Qd<|Ql<|x (Qaz Z)<|ZT Z Z<|xe<|Zh Z (λ_=>?_) (λh8=>O1 oh h8);refine Ql<|Qb<|Qk ⟨[nS],Lb,xd.C _ _,[],.nil,λx=>Iff.rfl,h⟩
 unfold QT;have hc:=AnyE.slices_Compact Tryz.cmpI iC (λ_=>Z) (.intD _ _ .i64) (.intD _ _ .i64) 0 (λw=>od) g 0 cap l.toArray w (Kr G hf) (by simp;omega) (ox V);change Calls sV 161 _ _ _ at hc;rw[L3]at hc;refine Calls.mono hc λe w' he=>?_;obtain⟨rfl,q,rfl⟩:=he;have I:=yb l l.length (Lr _);rw[ON]at I;have hi:=Qci J l.length (Lr _);have hj:(compactUpTo l.toArray l.length).length<=l.length:=by
  unfold compactUpTo;rw[Lo];exact LA (LO _ _) oe
 generalize compactUpTo l.toArray l.length=u at *;have:=UK (e:=3) (n:=q) (k:=u.length) (os:=#[]) (d:=(u++oI (l.length - u.length) 0).toArray) U G (by simp;omega) Y ha oe;rw[grow_empty]at this;refine⟨this.1,u,hi,I,?_⟩;have h2:=this.2;have h3:(u++oI (l.length - u.length) 0).toArray.toList.take u.length=u:=oe
 rw[h3]at h2;exact h2
theorem Qdp (l:LI):(l.mergeSort λx y=>decide (x<=y)).Pairwise (·<=·):=
 (List.pairwise_mergeSort (λa b c h1 h2=>by simp only[decide_eq_true_eq]at *;omega) (λa b=>by simp only[Bool.or_eq_true,decide_eq_true_eq];omega) l).imp λh=>ox h
theorem QaI {l:LI}(hd:l.Nodup)(hb:∀x∈l,0<=x/\x<(n:Int)):(l.mergeSort λx y=>decide (x<=y))=srt n l:=by
 have G:=Nl l (λx y=>decide (x<=y));refine Qjs ?_ (λx=>G.mem_iff) hb;have h1:=Qdp l;have h2:(l.mergeSort λx y=>decide (x<=y)).Nodup:=G.nodup_iff.2 hd;exact(h1.and h2).imp λ⟨I,J⟩=>oa
theorem Qq1 {l:LI}(h:l.Nodup):(ya l s).Nodup:=by
 unfold ya;split
 ·rename_i G;rw[Ml];exact⟨h,oe,λa I b hb e=>G (by rw[List.mem_singleton.1 hb]at e;exact e ▸ I)⟩
 exact h
theorem Qq2 {l:LI}(h:∀x∈l,0<=x/\x<(n:Int))(G:0<=s/\s<(n:Int)):∀x∈ya l s,0<=x/\x<(n:Int):=by
 unfold ya;split
 ·intro x hx;rcases Lk.1 hx with hx|hx
  ·exact h x hx
  rw[Lc.1 hx];exact G
 exact h
theorem Ux.nd {l0 l:LI}(h:Ux n l0 l)(G:l0.Nodup):l.Nodup:=by
 obtain⟨m,rfl,h1,_,I⟩:=h.ex;rw[Ml];exact⟨G,h1,λa J b hb e=>I b hb (e ▸ J)⟩
structure RcI (base n b7 bs b8:Nat)(w0:O6)(vl:O7)(l:LI)(w:O6):Prop where
 st:sW w0 w
 k7:QN ↑w b7 301 [slN bs n]
 ks:QN ↑w bs 4 ((flg n l).map Value.bool)
 k8:QN ↑w b8 47 [vl]
 o:Qh 3 base w vl l
 z:base<=↑w
theorem RcI.I {base n I J O:Nat}{U w w':O6}{vl:O7}{l:LI}(h:RcI base n I J O U vl l w)(G:sW w w'):RcI base n I J O U vl l w' :=
 ⟨h.st.D G,h.k7.I G,h.ks.I G,h.k8.I G,Qm h.o G,LA h.z G.size⟩
theorem Qaw {I:Nat}{w0:O6}{vl:O7}{l:LI}(h:RcI base n U G I w0 vl l w)(hw:↑w0<=G/\↑w0<=I)(h7:U<base)(hn:G<base)(h8:I<base)(h0:0<=s)(h1:s<(n:Int))(hl:l.length<=100000):
  QT sV 239 [sS s,sP U,sP I] w λ_ w'=>∃vl',RcI base n U G I w0 vl' (ya l s) w'/\∀b T cs,b<base->b≠G->b≠I->QN ↑w b T cs->QN ↑w' b T cs:=by
 have hk:s=(s.toNat:Int):=oa
 have hf:=Qi h.o;refine Zn func239 ?_;refine Qc<|ZD h.k7 Z Z<|Qa<|x (QE (i:=s.toNat) Z (O0 sS hk) oa)<|ZD h.ks Z (je h0 h1)<|x (Zi Z)<|xe<|Q5 rfl (λhg=>?_) (λhg=>?_)
 ·have hh:s∉l:=by simpa using hg
  have he:ya l s=l++[s]:=by unfold ya;rw[OZ hh]
  refine Qc<|ZD h.k7 Z Z<|Qa<|x (QE (i:=s.toNat) Z (O0 sS hk) oa)<|Qo<|Qv (j:=0+s.toNat*1) (u:=.bool true) h.ks Z Z (by rw[Lo,U6];omega) Z λw1 O ho=>xe ?_;have hp:U≠G:=QN.ne h.k7 h.ks oh;have n8s:I≠G:=QN.ne h.k8 h.ks oh;have hq:U≠I:=QN.ne h.k7 h.k8 oh;have hr:QN ↑w1 G 4 ((flg n (l++[s])).map Value.bool):=by
   rw[<-(z6 (n:=n) (l:=l) h0),NI];simpa using ho
  have hs:=Qg h.o O λb hb hm=>by have:=(hf b hb).1;rw[Lc.1 hm]at this;omega
  have h3:=O.size;have hz:=h.z;refine Qr<|ZD (h.k8.J O (by simp only[oH];exact n8s)) Z Z<|Qa<|Qo<|Q3 [[sS s]] λh4 w2 J h5 hu =>
   Qo<|Q0 (m:=1) (news:=[sS s]) (L:=[]) (Qm hs J) Z Z Z (hu.at oe) oo oa (oq J.size) λv3 w3 hj V h6=>?_
  have h9:=J.size;have ha:∀{y:Nat},y<base->y∉ob vl:=λhy hm=>oq (hf _ hm).1
  have g3:=Qi hj;refine Qo<|Qv (u:=v3) (((h.k8.J O (by simp only[oH];exact n8s)).I J).J V (ha h8)) Z Z (Mc Z) (QA hj) λw4 Y hv=>xe ?_;have hA:=V.size;have hC:=Y.size;refine⟨[],La,v3,?_,λb T cs y1 y2 y3 hB=>(((hB.J O (by simp only[oH];exact y2)).I J).J V (ha y1)).J Y (by simp only[oH];exact y3)⟩;rw[he];refine⟨(((h.st.Z O λb hb=>?_).D J).Z V λb hb=>?_).Z Y λb hb=>?_,?_,?_,hv,?_,oa⟩
  ·rw[Lc.1 hb];exact .inr hw.1
  ·exact .inr (oq (hf b hb).1)
  ·rw[Lc.1 hb];exact .inr hw.2
  ·exact(((h.k7.J O (by simp only[oH];exact hp)).I J).J V (ha h7)).J Y (by simp only[oH];exact hq)
  ·exact((hr.I J).J V (ha hn)).J Y (by simp only[oH];exact n8s.symm)
  exact Qh.snoc (Qg hj Y λb hb hm=>by have:=(g3 b hb).1;rw[Lc.1 hm]at this;omega)
 have hh:s∈l:=by simpa using hg
 have he:ya l s=l:=by unfold ya;rw[OY (not_not_intro hh)]
 refine Qf ?_;exact⟨[],La,vl,by rw[he];exact h,λ_ _ _ _ _ _ hB=>hB⟩
theorem Qo4 {ev l:LI}{e:Ed}:jG (okR ev) l e=if e.2.1∈ev then ya l e.2.2 else l:=by
 unfold jG ya okR;by_cases h1:e.2.1∈ev
 ·rw[OZ h1];by_cases h2:e.2.2∉l
  ·rw[OZ h2,OZ ⟨O2 h1,h2⟩]
  rw[OY h2,OY λh=>h2 h.2]
 rw[OY h1,OY λh=>h1 (O3 h.1)]
theorem Qc5 {vf vv:O7}{fr ev:LI}(hr:EdR [] ↑w vr a.st.toNat a.ed)(hok:QL a)(hF:Qu [] ↑w vf fr)(hH:∀x∈fr,0<=x/\x<a.st)(ki:fr.length<=1000000)(hV:Qu [] ↑w vv ev):
  QT sV 168 [.agg #[vr,vk,vz,vm],vf,vv] w λr w'=>sW w w'/\Qh 3 ↑w w' r (rch a fr ev):=by
 have kj:=hok.st0;have kk:=hok.st1;obtain⟨n,hn⟩:∃n:Nat,a.st.toNat=n:=⟨_,Z⟩;have gk:a.st=(n:Int):=oa
 have kn:=hok.ed_le;obtain⟨rv,h0,hI⟩:=hr;rw[hn]at h0 hI;have gl:rch a fr ev=srt n (bfs (okR ev) a.ed ((ddp fr).length+n) 0 (ddp fr)):=by unfold rch cls;rw[hn]
 rw[gl];have gm:=hok.ed;rw[gk]at hH;refine Zn func168 ?_;refine Qc<|Zd [vr,vk,vz,vm] λb3 w1 gn ko h3=>Qb ?_;have kq:=h3.lt;refine Qc<|Qs Z h3 Z Z<|QG h0 Z<|Qo<|Y5 (n:=n) (O0 (λk:Nat=>sS (k:Int)) Mg) (O0 (λk:Nat=>sS (k:Int)) Mg) oa λO w2 gq kr gr =>
  QV [ZY] λb7 w3 hJ kt hK=>Qo<|Qv (u:=slN O n) hK Z Z (Mc Z) Z λw4 h4 gs=>xe ?_
 have hL:QN ↑w2 O 4 ((flg n []).map Value.bool):=by
  have e:(oI n (Value.bool false).cells.toList).flatten=(flg n []).map Value.bool:=by
   simp only[flg,oJ,decide_false,List.map_map];apply L5
   ·simp[Value.cells]
   intro i h1 h2;simp[Value.cells]
  rw[<-e];exact gr
 have ku:=h4.size;have kv:=hL.lt;have kw:=hK.lt;refine Qc<|QV [ZY] λU V hp kx hM=>xe ?_;have kz:=hM.lt;have k0:=hp.size;have hN:sW w1 w4:=(gq.D hJ).O h4 oa;have h5:sW w V:=(gn.D hN).D hp;have gt:=(h3.I hN).I hp;have gu:RcI ↑V n b7 O U w ZY (ddp (fr.take 0)) V:=⟨h5,gs.I hp,((hL.I hJ).J h4 om).I hp,hM,QM _ _ _ _,Lr _⟩;have hb:↑w<=O/\↑w<=U:=⟨oa,oa⟩;have gv:w.heap.size<=V.heap.size:=h5.size;refine Qc<|x (Zl (l:=[]) (l':=[_,_]))<|Qb<|Qd<|Ql<|QG (hF.I h5) Z<|Qa<|xe<|QY (α:=Nat×O7) [(11,11),(22,29)] (λz=>[(22,sS z.1)]) (λz w'=>z.1<=fr.length/\RcI ↑V n b7 O U w z.2 (ddp (fr.take z.1)) w'/\(ddp (fr.take z.1)).Nodup/\(∀x∈ddp (fr.take z.1),0<=x/\x<(n:Int))/\QN ↑w' b3 201 [vr,vk,vz,vm]) (λz=>fr.length - z.1) (0,ZY) Lb ⟨Lp _,gu,by simp[ddp],by simp[ddp],gt⟩ ?_;rintro⟨k,vl⟩ g w6 ⟨hk,ha,hf,hg,hO⟩;simp only[]at hk ha hf hg;have hP:(ddp (fr.take k)).length<=n:=xM n _ hf hg;refine Zk rfl Z (λh6=>?_) (λh6=>?_)
 ·refine Qt ?_;have gx:fr.length<=k:=by have hq:¬(k:Int)<(fr.length:Int):=h6;omega
  rw[Ls gx]at ha hf hg hP;refine Zg (ddp fr) λl0 gy=>?_;rw[gy]at ha hf hg hP ⊢;refine Zg (bfs (okR ev) a.ed (l0.length+n) 0 l0) λR hR=>?_;rw[hR];refine Qd<|Qc<|Qb<|QY (α:=Nat×O7×LI) [(12,12),(14,14),(30,57)] (λz=>[(12,sS z.1)]) (λz w'=>z.1<=z.2.2.length/\RcI ↑V n b7 O U w z.2.1 z.2.2 w'/\Ux n l0 z.2.2/\bfs (okR ev) a.ed (l0.length+n - z.1) z.1 z.2.2=R/\QN ↑w' b3 201 [vr,vk,vz,vm]) (λz=>l0.length+n+1 - z.1) (0,vl,l0) Lb ⟨Lp _,ha,Ux.zero _ _,hR,hO⟩ ?_;rintro⟨i,vi,l⟩ g w7 ⟨hi,G,hu,Y,hQ⟩;simp only[]at hi G hu Y;have k4:=hu.len;have hS:=hu.all hg;have hT:Qu [] ↑w7 vi l:=Qh.ints G.o oa oe;refine Qd<|Ql<|ZD G.k8 Z Z<|QG hT Z<|ZT Z Z<|xe<|Zp Z (λh7=>?_) (λh7=>?_)
  ·refine Qt ?_;have gz:¬i<l.length:=by have hq:¬(i:Int)<(l.length:Int):=h7;omega
   rw[Qec gz]at Y;subst Y;have hU:=Qi G.o;refine Qc<|ZD G.k8 Z Z<|Qw<|(Kn G.o oa).S ?_;rintro _ w8 ⟨hW,hX⟩;refine xe<|Qc<|ZD (G.k8.J hW λhm=>oq (hU _ hm).1) Z Z<|Qb<|Qk ⟨[vi],Lb,G.st.Z hW λb hb=>.inr (oq (hU b hb).1),?_⟩;rw[QaI (hu.nd hf) hS]at hX;exact Za hX gv
  have I:i<l.length:=by have hq:(i:Int)<(l.length:Int):=h7;omega
  have hh:=hS _ (XH I);have g0:l0.length+n - i=(l0.length+n - (i+1))+1:=oa
  rw[g0,bfs,OZ I]at Y;have hY:=Zo I;refine Zg (xh l i) λs hs=>?_;rw[hs]at hh Y hY;have hZ:s=(s.toNat:Int):=oa
  have ga:s.toNat<n:=oa
  have hE:=hI s.toNat ga;have k5:=Yg a.ed s;have g2:QK a.ed (s.toNat:Nat)=QK a.ed s:=by rw[<-hZ]
  rw[g2]at hE;have g3:s.toNat<(oM n).length:=by rw[Mg];exact ga
  refine Qf<|Qd<|Qn<|Qd<|ZK [] (Xj 0 10 [])<|p (QH Z)<|pq (λ_ hc=>Qj (hQ.I hc) Z Z)<|pq (λ_ hc=>Qj (G.k8.I hc) Z Z)<|p Qx<|Lg.pii (i:=i) Z hT Z Z I λk6 gb=>?_;rw[hY]at gb;refine pq (λ_ hc=>Qq (gb.I hc) Z)<|Lg.pig (g:=λj:Nat=>[rv j]) (i:=s.toNat) Z (λ_=>Z) (h0.I G.st) Z (show Go.Lg.ev _ _=_ from O0 sS hZ) g3 λk9 gc=>?_;rw[Mx]at gc;refine pq (λ_ hc=>Qq (u:=rv s.toNat) (gc.I hc) Z)<|p (λ_=>Y4 hE Z)<|p Qx<|pe ?_;have ge:sW w7 { w7 with drawn:=w7.drawn+1 }:=xd.Y _ _
  refine QY (α:=Nat×O7×LI) [(14,14),(45,57)] (λz=>[(45,sS z.1)]) (λz w'=>z.1<=(QK a.ed s).length/\RcI ↑V n b7 O U w z.2.1 z.2.2 w'/\Ux n l0 z.2.2/\l.length<=z.2.2.length/\((QK a.ed s).drop z.1).foldl (jG (okR ev)) z.2.2=(QK a.ed s).foldl (jG (okR ev)) l/\QN ↑w' b3 201 [vr,vk,vz,vm]) (λz=>(QK a.ed s).length - z.1) (0,vi,l) Lb ⟨Lp _,G.I ge,hu,Lr _,Z,hQ.I ge⟩ ?_;rintro⟨j,vj,lj⟩ g w8 ⟨hj,hw,hv,h8,J,h9⟩;simp only[]at hj hw hv h8 J;have ma:=hv.len;refine Zk Z Z (λhA=>?_) (λhA=>?_)
  ·refine Qt ?_;have g4:(QK a.ed s).length<=j:=by have hq:¬(j:Int)<((QK a.ed s).length:Int):=hA;omega
   rw[Lx g4]at J;have g5:lj=(QK a.ed s).foldl (jG (okR ev)) l:=J;rw[<-g5]at Y;refine Qr<|Qa<|QC Z Z<|Qb<|⟨(i+1,vj,lj),by show l0.length+n+1 - (i+1)<l0.length+n+1 - i;omega,Lb,by show i+1<=lj.length;omega,hw,hv,Y,h9⟩
  have ho:j<(QK a.ed s).length:=by have hq:(j:Int)<((QK a.ed s).length:Int):=hA;omega
  have g6:=Zy (Lm ho);have hB:=gm _ g6.1;rw[QZ ho,LP]at J;refine Zg ((QK a.ed s)[j]'ho) λe he=>?_;rw[he]at hB J;refine Qf<|Qd<|Qn<|Qc<|xie (hE.I hw.st) Z Z ho λmc gg=>?_;rw[he]at gg;refine x (QF gg Z Z)<|QV [sS 0,sS 0,sS 0] λmf w9 g7 g8 g9=>Q6 (Qp e) g9 oz λka kb gh=>xe ?_;have hC:sW w8 ka:=g7.O kb g8;have hD:=hw.I hC;have kc:=hv.edge (okR ev) (e:=e) ⟨hB.2.2.2.1,oa⟩;have ke:lj.length<=(jG (okR ev) lj e).length:=by unfold jG;split <;> simp
  have hy:=Qo4 (ev:=ev) (l:=lj) (e:=e);refine Ql<|Qs Z gh Z Z<|Qw<|(ZG (hV.I hD.st) e.2.1).S ?_;rintro _ mg ⟨rfl,rfl⟩;refine xe<|Q5 Z (λhG=>?_) (λhG=>?_)
  ·rw[OZ (O3 hG)]at hy;refine Qr<|Qa<|Qs Z gh Z Z<|Qo<|xc (first:=[]) (capt:=[sP b7,sP U]) Z<|(Qaw hD hb oa oa oa hB.2.2.2.1 (show e.2.2<(n:Int) by omega) oa).S ?_;rintro _ mh ⟨kf,gi,kg⟩;refine xe<|Qr<|QC Z Z<|Qa<|xe ?_;rw[<-hy]at gi;refine⟨(j+1,kf,jG (okR ev) lj e),by show(QK a.ed s).length - (j+1)<(QK a.ed s).length - j;omega,Lb,ho,gi,kc,LA h8 ke,J,?_⟩;exact kg b3 _ _ oa oa oa (h9.I hC)
  rw[OY (O5 hG)]at hy;rw[hy]at J;refine Qf<|Qr<|QC Z Z<|Qa<|xe ?_;exact⟨(j+1,vj,lj),by show(QK a.ed s).length - (j+1)<(QK a.ed s).length - j;omega,Lb,ho,hD,hv,h8,J,h9.I hC⟩
 have I:k<fr.length:=by have hq:(k:Int)<(fr.length:Int):=h6;omega
 have hz:ddp (fr.take (k+1))=ya (ddp (fr.take k)) (fr[k]'I):=by unfold ddp;rw[Ln I,Mw];rfl
 have hh:=hH _ (Lm I);refine Qf<|Qd<|Qn<|Qc<|xii (i:=k) (hF.I ha.st) Z Z I λmj gj=>?_;refine Zg (fr[k]'I) λs hs=>?_;rw[hs]at gj hz hh;refine x (Qq gj Z)<|Qb<|Qr<|Qa<|Qa<|Qo<|xc (first:=[]) (capt:=[sP b7,sP U]) Z<|(Qaw ha hb oa oa oa hh.1 hh.2 oa).S ?_;rintro _ w7 ⟨v7,G,kh⟩;refine xe<|Qr<|QC Z Z<|Qa<|xe<|⟨(k+1,v7),by show fr.length - (k+1)<fr.length - k;omega,Lb,I,?_,?_,?_,?_⟩
 ·show RcI _ _ _ _ _ _ _ (ddp (fr.take (k+1))) _;rw[hz];exact G
 ·show(ddp (fr.take (k+1))).Nodup;rw[hz];exact Qq1 hf
 ·show ∀x∈ddp (fr.take (k+1)),_;rw[hz];exact Qq2 hg hh
 exact kh b3 _ _ oa oa oa hO
theorem Qdw {l:LI}{k:Nat}(v:Int)(h:k<l.length):hop ed (l.take (k+1)) v=hop ed (l.take k) v++((QK ed (l[k]'h)).filter λe=>decide (e.2.1=v)).map (·.2.2):=by
 unfold hop;rw[Ln h,LJ,LR,NN,LK]
theorem QaR {k:Nat}(v:Int)(h:k<es.length):((es.take (k+1)).filter λe=>decide (e.2.1=v)).map (·.2.2)=((es.take k).filter λe=>decide (e.2.1=v)).map (·.2.2)++if(es[k]'h).2.1=v then[(es[k]'h).2.2]else[]:=by
 rw[Ln h,LW,Lv];congr 1;by_cases e:(es[k]'h).2.1=v <;> simp[e]
theorem Qla (hok:QL a)(l:LI)(v:Int):∀x∈hop a.ed l v,0<=x/\x<a.st:=by
 intro x hx;obtain⟨s,_,hx⟩:=Mh.1 hx;obtain⟨e,G,rfl⟩:=Lt.1 hx;have:=hok.ed e (Zy (LB.1 G).1).1;omega
theorem QbZ (ed:List Ed)(v:Int):∀(l:LI),(hop ed l v).length<=l.length*ed.length
 | []=>by simp[hop]
 | s::l=>by
  have h1:=QbZ ed v l;have h2:(((QK ed s).filter λe=>decide (e.2.1=v)).map (·.2.2)).length<=ed.length:=by
   rw[Lo];exact LA (LO _ _) (Yg ed s)
  unfold hop at *;rw[LR,Le,LS,OU];omega
theorem QeV (h:ObA ↑w vr vk vz vm a o)(hok:QL a)(U:0<a.st):
  QT sV 95 [.agg #[vr,vk,vz,vm]] w λr w'=>sW w w'/\Qh 3 ↑w w' r (rch a [0] (ers a o)):=by
 obtain⟨rv,V,_⟩:=h.r;refine Zn func95 ?_;refine Qc<|Zd [vr,vk,vz,vm] λb1 w1 Y hg I=>Qb<|Qd<|Qc<|Qs Z I Z Z<|QG V Z<|x (Zc Z Z)<|xe<|Zh rfl (λJ=>O1 J (by rw[Mg];omega)) (λJ=>?_);refine Qf<|Qc<|Q7 I Z Z<|Qo<|Q3 [[sS 0]] λb8 w2 O hh ha=>?_;have G:=Y.D O;have hF:Qu [] ↑w2 (sL b8 1 1) [0]:=ha.arr oe (n:=1) (cap:=1) (sz:=1) rfl oh (Lr _);refine Qs rfl (I.I O) Z Z<|Qw<|(Qc5 (h.r.I G) hok hF (λx hx=>by rw[Lc.1 hx];exact⟨Ms _,U⟩) oe (h.z.I G)).S ?_;rintro r3 w3 ⟨he,hf⟩;refine Qb<|Qk ⟨[_],Lb,G.D he,Za hf G.size⟩
theorem Qh1 (h:ObA ↑w vr vk vz vm a o)(hok:QL a)(hE:Qu [] ↑w ve est)(h7:∀x∈est,0<=x/\x<a.st)(hS:est.length<=9)(h8:a.ed.length<=1000)(v:Int):
  QT sV 98 [.agg #[vr,vk,vz,vm],ve,sS v] w λr w'=>sW w w'/\Qh 3 ↑w w' r (pnx a (ers a o) est v):=by
 have hT:=hok.st0;obtain⟨n,hn⟩:∃n:Nat,a.st.toNat=n:=⟨_,Z⟩;have hU:a.st=(n:Int):=oa
 obtain⟨rv,hv,hw⟩:=h.r;rw[hn]at hv hw;have h9:∀k,k<=est.length->(hop a.ed (est.take k) v).length<=9000:=λk hk=>by
  have h1:=QbZ a.ed v (est.take k);have h2:(est.take k).length<=9:=by rw[LH];omega
  have h3:(est.take k).length*a.ed.length<=9*1000:=Nj h2 h8;omega
 refine Zn func98 ?_;refine Qc<|Zd [vr,vk,vz,vm] λb3 w1 hg hV hh=>Qb<|Qc<|Qb<|Qd<|Ql<|QG (hE.I hg) Z<|Qa<|xe<|QY (α:=Nat×O7) [(7,7),(9,9),(11,11),(14,38)] (λz=>[(7,z.2),(14,sS z.1)]) (λz w'=>z.1<=est.length/\sW w1 w'/\Qh 3 ↑w1 w' z.2 (hop a.ed (est.take z.1) v)) (λz=>est.length - z.1) (0,ZY) oy ⟨Lp _,xd.C _ _,QM _ _ _ _⟩ ?_;rintro⟨k,vl⟩ g w2 ⟨hk,J,hf⟩;simp only[]at hk hf;have G:=hg.D J;have hA:=h9 k hk;refine Zk rfl Z (λhm=>?_) (λhm=>?_)
 ·refine Qt ?_;have hB:est.length<=k:=by have ho:¬(k:Int)<(est.length:Int):=hm;omega
  rw[Ls hB]at hf hA;have hL:=Qh.ints (L:=[]) hf oa oe;refine Qc<|Q7 (hh.I J) Z Z<|Qa<|Qs Z (hh.I J) Z Z<|Qw<|(Qc5 (h.r.I G) hok hL (Qla hok est v) oa (h.z.I G)).S ?_;rintro r3 w3 ⟨hC,hD⟩;refine Qb<|Qk ⟨[_],Lb,G.D hC,Za hD G.size⟩
 have O:k<est.length:=by have ho:(k:Int)<(est.length:Int):=hm;omega
 have hy:=Qdw (ed:=a.ed) v O;have hF:=h7 _ (Lm O);refine Qf<|Qd<|Qn<|Qc<|xii (i:=k) (hE.I G) Z Z O λhW hz=>?_;refine Zg (est[k]'O) λs hs=>?_;rw[hs]at hz hy hF;have hG:s=(s.toNat:Int):=oa
 have h0:s.toNat<n:=oa
 have hp:=hw s.toNat h0;rw[show((s.toNat:Nat):Int)=s by omega]at hp;have hH:s.toNat<(oM n).length:=by rw[Mg];exact h0
 have hX:=Yg a.ed s;refine x (Qq hz Z)<|Qb<|Qc<|Qs Z (hh.I J) Z Z<|Qa<|xo (g:=λj:Nat=>[rv j]) (i:=s.toNat) (λ_=>Z) (hv.I G) Z (O0 sS hG) hH λhY h4=>?_;rw[Mx]at h4;refine x (Qq (u:=rv s.toNat) h4 Z)<|QG hp Z<|Qa<|xe<|QY (α:=Nat×O7) [(7,7),(11,11),(24,37)] (λz=>[(7,z.2),(24,sS z.1)]) (λz w'=>z.1<=(QK a.ed s).length/\sW w1 w'/\Qh 3 ↑w1 w' z.2 (hop a.ed (est.take k) v++(((QK a.ed s).take z.1).filter λe=>decide (e.2.1=v)).map (·.2.2))) (λz=>(QK a.ed s).length - z.1) (0,vl) oy ⟨Lp _,J,by simp only[List.take_zero,List.filter_nil,OI,Oq];exact hf⟩ ?_;rintro⟨j,vj⟩ g w4 ⟨hj,U,I⟩;simp only[]at hj I;have hI:=hg.D U;refine Zk rfl Z (λhq=>?_) (λhq=>?_)
 ·refine Qt ?_;have hJ:(QK a.ed s).length<=j:=by have ho:¬(j:Int)<((QK a.ed s).length:Int):=hq;omega
  rw[Ls hJ,<-hy]at I;refine Qr<|QC Z Z<|Qa<|xe ?_;exact⟨(k+1,vj),by show est.length - (k+1)<est.length - k;omega,oy,O,U,I⟩
 have V:j<(QK a.ed s).length:=by have ho:(j:Int)<((QK a.ed s).length:Int):=hq;omega
 have Y:=QaR v V;have hZ:(hop a.ed (est.take k) v++(((QK a.ed s).take j).filter λe=>decide (e.2.1=v)).map (·.2.2)).length<=10000:=by
  rw[Le,Lo];have h1:=LO (λe:Ed=>decide (e.2.1=v)) ((QK a.ed s).take j);rw[LH]at h1;omega
 refine Zg ((QK a.ed s)[j]'V) λe he=>?_;rw[he]at Y;refine Qf<|Qd<|Qn<|Qc<|xie (hp.I hI) Z Z V λga h5=>?_;rw[he]at h5;refine x (QF h5 Z Z)<|QV [sS 0,sS 0,sS 0] λb11 w5 hK hM hN=>Q6 (Qp e) hN oz λw6 hO h6=>xe ?_;have ha:sW w4 w6:=hK.O hO hM;have gb:=U.size;have gc:=ha.size;refine Qc<|Qs Z h6 Z Z<|Qa<|x (Zc Z Z)<|xe<|Zp rfl (λhr=>?_) (λhr=>?_)
 ·rw[OY hr,LK]at Y;refine Qf<|Qr<|QC Z Z<|Qa<|xe ?_;exact⟨(j+1,vj),by show(QK a.ed s).length - (j+1)<(QK a.ed s).length - j;omega,oy,V,U.D ha,by simp only[];rw[Y];exact Qm I ha⟩
 rw[OZ hr]at Y;refine Qr<|Qa<|Qs Z h6 Z Z<|Qo<|Q3 [[sS e.2.2]] λge w7 hu gg hP =>
  Qo<|Q0 (m:=1) (news:=[sS e.2.2]) (L:=[]) (Qm I (ha.D hu)) Z Z Z (hP.at oe) oo oa (oq hu.size) λv8 w8 hQ hR gh=>Qb<|Qr<|QC Z Z<|Qa<|xe ?_
 refine⟨(j+1,v8),by show(QK a.ed s).length - (j+1)<(QK a.ed s).length - j;omega,oy,V,((U.D ha).D hu).Z hR λb hb=>.inr (Qi I b hb).1,?_⟩;simp only[];rw[Y,<-LC];exact Qh.snoc hQ
theorem QeW {b:Nat}{mr:LI}(G:QN ↑w b 201 [vr,vk,vz,vm])(I:Qu [] ↑w vm mr)(s:Int):
  QT sV 171 [sS s,sP b] w λr w'=>r=.bool (decide (s∈mr))/\sW w w':=by
 refine Zn func171 ?_;refine Qc<|Qb<|Qc<|Qs Z G Z Z<|Qa<|Qw<|(ZG I s).S ?_;rintro J O ⟨rfl,rfl⟩;refine Qb<|Qk ⟨[_],Lb,Z,xd.C _ _⟩
theorem Qh2 (h:ObA ↑w vr vk vz vm a o)(hE:Qu [] ↑w ve est):
  QT sV 97 [.agg #[vr,vk,vz,vm],ve] w λr w'=>r=.bool (mkd a est)/\sW w w':=by
 refine Zn func97 ?_;refine Qc<|Zd [vr,vk,vz,vm] λJ V G Y O=>Qb<|Ql<|x (Zl (l:=[]) (l':=[.tmp 2]))<|Qw<|(Qcf (q:=λs=>decide (s∈a.mr)) (cap:=[sP J]) (hE.I G) (λe w4 I=>QeW (O.I I) ((h.m.I G).I I) e)).S ?_;rintro r2 w2 ⟨rfl,U⟩;refine Qb<|Qk ⟨[_],Lb,Z,G.D U⟩
abbrev Kf:LV:=[nS,sS 0,nS,nS]
def KnP (m:List (ByteArray×O7))(tup:List (LI)):Prop :=
 ∀u:LI,(∀x∈u,0<=x/\x<100)->xq m (pkA u)=if u∈tup then some (sS (tup.idxOf u:Int)) else none
theorem KnP.add {m:List (ByteArray×O7)}{tup:List (LI)}(h:KnP m tup)(J:u∉tup)(O:∀x∈u,0<=x/\x<100):KnP (xt m (pkA u) (sS (tup.length:Int))) (tup++[u]):=by
 intro v I;rw[JC];by_cases e:u=v
 ·subst e;rw[OZ rfl,OZ oe,Mf,OY J];simp
 rw[OY (λU=>e (Qnw O I U)),h v I];by_cases G:v∈tup
 ·rw[OZ G,OZ (by simp[G]),Mf,OZ G]
 rw[OY G,OY (by simp[G,Ne.symm e])]
structure PjO (n:Nat)(s:Sy):Prop where
 v:∀t∈s.tup,Ss n t
 d:s.tup.Nodup
theorem PjO.le {s:Sy}(h:PjO n s):s.tup.length<=2 ^ n:=zP n _ h.d h.v
theorem PjO.add {s:Sy}(h:PjO n s)(G:Ss n u):PjO n (Vm s u):=by
 unfold Vm;split
 ·exact h
 rename_i I;refine⟨λt ht=>?_,?_⟩
 ·rcases Lk.1 ht with ht|ht
  ·exact h.v t ht
  rw[Lc.1 ht];exact G
 rw[Ml];exact⟨h.d,oe,λa J b hb e=>I (by rw[List.mem_singleton.1 hb]at e;exact e ▸ J)⟩
theorem QbA (a:Qz)(i:Nat)(t:LI)(s:Sy):(zz a i t s).tup=s.tup/\(zz a i t s).ed=s.ed/\(zz a i t s).mk'.length<=s.mk'.length+1:=by
 unfold zz;split
 ·exact⟨Z,Z,oe⟩
 exact⟨Z,Z,oa⟩
theorem Qp9 (s:Sy)(u:LI):(Vm s u).mk'=s.mk'/\(Vm s u).ed=s.ed:=by unfold Vm;split <;> exact⟨Z,Z⟩
theorem QtA (h:n<=9):2 ^ n<=512:=Nt oh h
theorem jP (h:Zv [] ↑w va vm ve a)(hO:Qu [] ↑w vo o)(hok:QL a)(ph:∀x∈o,0<=x/\x<32)(pn:YD o)(h9:a.st<=9)(po:a.ed.length<=1000):
  QT sV 40 [.agg #[va,sS a.st,vm,ve],vo] w λr w'=>sW w w'/\∃vp vt,r=.tuple #[vp,vt,sS 0]/\vt.oneCell'=true/\Xu ↑w ↑w' vp (ZI a o):=by
 have hst0:=hok.st0;obtain⟨n,hn⟩:∃n:Nat,a.st.toNat=n:=⟨_,Z⟩;have hna:a.st=(n:Int):=oa
 have hp9:=QtA (n:=n) oa;have hall:=hok.al_le;have hr:prj a o=if a.st=0 then⟨[],[],[]⟩else j6 a (kpt a o) (ers a o) (2 ^ n) 0 (pj0 a (ers a o)):=by unfold prj;rw[hn]
 refine Zn func40 ?_;refine Qc<|Zd [va,sS a.st,vm,ve] λb0 w1 kh hb0 gk=>QV Kf λb4 w2 hN hb4 ki=>x Qe<|Qb ?_;have gl:=kh.D hN;have hl4:=ki.lt;have hz1:=kh.size;refine Qd<|Qc<|Q7 (gk.I hN) Z Z<|Qa<|Qw<|(QeY (h.I gl) (hO.I gl) hok ph pn).S ?_;rintro r3 w3 ⟨rfl,hz⟩;have h5:=gl.D hz;refine Qb<|Ql<|ZS Z Z<|xe<|ZC rfl<|Qf<|Qc<|Q7 ((gk.I hN).I hz) Z Z<|Qa<|Qw<|(Qe1 (h.I h5) (hO.I h5) hok).S ?_;rintro r5 w5 ⟨hP,vr,I,vz,rfl,hk,h6⟩;have kj:(kpt a o).length<=1099511627776:=LA (LO _ _) oa;have pp:vr.oneCell'=true:=by obtain⟨rv,h1,_⟩:=hk.r;exact h1.one
 refine QV QaE λb8 w6 pt pu pw=>Q6 [vr,I,vz,vm] pw ⟨pp,hk.k.one,hk.z.one,h.mr.one,La⟩ λw7 pz hQ=>xe ?_;have h0:sW w5 w7:=pt.O pz pu;have p0:=(h5.D hP).D h0;have kk:=hk.I h0;have hl8:=hQ.lt;have hz3:=hz.size;have hz5:=hP.size;refine Qc<|Qs Z hQ Z Z<|x (QD ⟨hk.k.cells,La⟩)<|QV Kf λb2 w8 p4 gm p5=>Q6 [I,sS 0,ZY,ZY] p5 ⟨hk.k.one,Z,Z,Z,La⟩ λw9 p6 gn=>xe ?_;have ho:sW w7 w9:=p4.O p6 gm;have kn:=p0.D ho;have p7:=kk.I ho;have hl2:=gn.lt;have ko:=(((ki.I hz).I hP).I h0).I ho;have p8:=hQ.I ho;refine Qd<|Qc<|Q9 Z<|x (Qj ((((gk.I hN).I hz).I hP).I (h0.D ho)) Z Z)<|x (Zc Z Z)<|xe<|Zh rfl (λgq=>?_) (λgq=>?_)
 ·rw[OZ gq]at hr;refine Qc<|Q7 gn Z Z<|Q6 [I,sS 0,ZY,ZY] ko ⟨hk.k.one,Z,Z,Z,La⟩ λw10 kq p9=>x Qe<|Qb<|Qk ⟨[.agg #[I,sS 0,ZY,ZY],ZY,sS 0],⟨Kh p9,Z,Z,La⟩,kn.O kq oa,_,ZY,Z,Z,?_⟩;have U:ZI a o=⟨kpt a o,0,[],[]⟩:=by unfold ZI;rw[hr];rfl
  rw[U];refine⟨I,ZY,ZY,Z,λL' h7=>⟨?_,Zw.nil _ _ _,Zw.nil _ _ _⟩⟩;exact Qh.ints (Qg (Qm h6 (h0.D ho)) kq λb hb V=>by have:=(Qi h6 b hb).1;rw[Lc.1 V]at this;have:=hz.size;omega) kj λb hb=>ou (h7 b hb) h5.size
 have qf:a.st≠0:=gq;rw[OY qf]at hr;have hn0:0<n:=oa
 refine Qf<|Qc<|Q7 p8 Z Z<|Qw<|(QeV p7 hok oa).S ?_;rintro hR kr ⟨kt,hS⟩;have hU:Ss n (rch a [0] (ers a o)):=by unfold rch cls;rw[hn];exact qw _ _
 have qj:(rch a [0] (ers a o)).length<=9:=by unfold rch cls;rw[hn];exact LA (Qgc _ _) oa
 have ql:pj0 a (ers a o)=⟨[rch a [0] (ers a o)],[],[]⟩:=rfl;rw[ql]at hr;refine Zg (rch a [0] (ers a o)) λt0 q4=>?_;rw[q4]at hS hU qj hr;have ku:=Qh.ints (L:=[]) hS oa oe;have hz11:=kt.size;refine Qo<|Yj (us:=[[hR]]) Z Z oh oe ⟨ku.cells,rfl,La⟩ λY w12 kv hb37 gr=>Qb ?_;have hl37:=gr.lt;refine Qc<|Qo<|Z1 XJ λhg q5 hV hb38 kw=>?_;have hl38:=kw.lt;have j1:Zw [] ↑q5 (sL Y 1 1) 1 1 [hR]:=(gr.I hV).arr oe (n:=1) (cap:=1) (sz:=1) rfl oh (Lr _);refine Qa<|xi (i:=0) j1 Z Z oh λa40 j2=>x (Qq (u:=hR) j2 Z)<|Qw<|(QbB ((ku.I kv).I hV) (λx hx=>oq (hU.2 x hx)) oa).S ?_;rintro r14 j3 ⟨rfl,hW⟩;have hz14:=hW.size;refine Qo<|Yy (k:=pkA t0) (kw.I hW) Z Z λwS gs j4=>Qa<|Qb ?_;have hzS:=gs.size;have za:sW kr j3:=(kv.D hV).D hW;have kx:sW kr wS:=za.O gs oa;have h8:sW w9 wS:=kt.D kx;have z0:sW w wS:=kn.D h8;have hX:∀b∈[b2,hg,Y],b∈([]:LN)\/↑w7<=b:=λb hb=>by
  simp only[oN,oJ,or_false]at hb;rcases hb with rfl|rfl|rfl
  ·exact .inr gm
  ·exact .inr oa
  exact .inr oa
 have kz:sW w7 wS:=ho.D h8;have hY:∀{w':O6},xd [b2,hg,Y] wS w'->ObA ↑w' vr I vz vm a o:=λ{w'} hs=>kk.I (kz.Z hs hX);have gt:∀{w':O6},xd [b2,hg,Y] wS w'->QN ↑w' b8 201 [vr,I,vz,vm]:=λ{w'} hs=>hQ.I (kz.Z hs hX);have hB:SyN ↑w9 b2 hg Y wS:=⟨oa,oa,oa,oa,oa,oa⟩;have z1:zH ↑w9 b2 hg Y I wS ⟨[t0],[],[]⟩ (xt [] (pkA t0) (sS 0)) [(hR,t0)] (sL Y 1 1) ZY ZY wS:=by
  refine⟨xd.C _ _,gn.I h8,j4,?_,λb hb=>by simp[ob]at hb;exact .inl hb,QM _ _ _ _,QM _ _ _ _,Z,λp U=>?_,λp U b hb=>?_,Dj.nil' _,Dj.nil' _,Dj.nil' _⟩
  ·exact(((gr.I hV).I hW).J gs (by simp;omega)).own (n:=1) (sz:=1) Z oa oa
  ·simp only[oH]at U;subst U;exact Qm hS kx
  simp only[oH]at U;subst U;have:=(Qi hS) b hb;refine⟨oa,?_,by simp[ob],by simp[ob]⟩;simp[ob];omega
 have z2:KnP (xt [] (pkA t0) (sS 0)) [t0]:=by
  have z3:KnP [] []:=λu _=>Z;have:=z3.add (u:=t0) oe (λx hx=>oq (hU.2 x hx));simpa using this
 have z4:PjO n ⟨[t0],[],[]⟩:=⟨λt ht=>by rw[Lc.1 ht];exact hU,oe⟩;generalize hT:j6 a (kpt a o) (ers a o) (2 ^ n) 0 ⟨[t0],[],[]⟩=T at hr;have hkl:(kpt a o).length<=1000:=LA (LO _ _) oa;have hA:ZI a o=⟨kpt a o,T.tup.length,T.mk',T.ed⟩:=by unfold ZI;rw[hr]
 rw[hA];refine Qd<|Qc<|Qb<|QY (α:=Nat×Sy×List (ByteArray×O7)×List TV×O7×O7×O7) [(5,6),(10,10),(12,12),(14,17),(44,111)] (λz=>[(10,z.2.2.2.2.1),(12,sS z.1)])
  (λz w'=>zH ↑w9 b2 hg Y I wS z.2.1 z.2.2.1 z.2.2.2.1 z.2.2.2.2.1 z.2.2.2.2.2.1 z.2.2.2.2.2.2 w'/\PjO n z.2.1/\KnP z.2.2.1 z.2.1.tup/\z.1<=z.2.1.tup.length/\z.2.1.mk'.length<=z.1/\z.2.1.ed.length<=z.1*1000/\j6 a (kpt a o) (ers a o) (2 ^ n - z.1) z.1 z.2.1=T)
  (λz=>2 ^ n - z.1) (0,⟨[t0],[],[]⟩,_,_,_,ZY,ZY) oy ⟨z1,z4,z2,Lp _,Lp _,Lp _,hT⟩ ?_
 rintro⟨i,s,m,qs,vt,vk,vd⟩ g k0 ⟨hI,hC,k4,hi,z5,k5,gu⟩;simp only[]at hI hC k4 hi z5 k5 gu;have hle:=hC.le;have hql:qs.length=s.tup.length:=by rw[<-hI.q];simp
 have gv:∀p∈qs,Ss n p.2:=λp U=>hC.v p.2 (by rw[<-hI.q];exact LL U);have hqn:∀p∈qs,p.2.length<=9:=λp U=>oq (XW p.2 0 n (gv p U).1 (gv p U).2)
 have zh:=QO (L:=[]) hI.t oa oe;refine Qd<|Ql<|Qa<|QG zh Z<|ZT Z Z<|xe<|Zp rfl (λh47=>?_) (λh47=>?_)
 ·have hend:s=T:=by rw[<-gu,Qj2 oa]
  refine Qt ?_;have hK1:=Qh.ints (L:=[]) hI.k oa oe;have hE1:=Ye.eds (L:=[]) hI.e oa oe;refine Ql<|QG zh Z<|Q9 Z<|Qo<|Qv hI.A Z Z oe rfl λgx hv hB17=>xe ?_;have hB4':QN ↑gx b4 53 Kf:=((ko.I h8).J hI.st (by simp;omega)).J hv (by simp;omega);refine Qc<|Q7 hB17 Z Z<|Qa<|Q6 [I,sS qs.length,vk,vd] hB4' ⟨hk.k.one,Z,hK1.one,hE1.one,La⟩ λk6 h3 hB418=>x Qe<|Qb ?_;have hfin17:sW w gx:=(z0.Z hI.st (λb hb=>by rcases hX b hb with h1|h1;cases h1;exact .inr oa)).O hv oa
  have hfin:sW w k6:=hfin17.O h3 oa;refine Qk ⟨[.agg #[I,sS qs.length,vk,vd],vt,sS 0],⟨Kh hB418,Z,Z,La⟩,hfin,_,vt,Z,QA hI.t,?_⟩;rw[<-hend];have e1:(qs.length:Int)=s.tup.length:=by rw[hql]
  have k1:=Qg (Qg hI.k hv (λb hb=>by have:=(Qi hI.k b hb).1;simp;omega)) h3 (λb hb=>by have:=(Qi hI.k b hb).1;simp;omega);have k2:=Qg (Qg hI.e hv (λb hb=>by have:=(Qi hI.e b hb).1;simp;omega)) h3 (λb hb=>by have:=(Qi hI.e b hb).1;simp;omega);refine⟨I,vk,vd,by rw[e1],λL' h7=>⟨?_,Qh.ints k1 (by show s.mk'.length<=_;omega) (λb hb=>oq (h7 b hb)),Ye.eds k2 (by show s.ed.length<=_;omega) (λb hb=>oq (h7 b hb))⟩⟩;have k9:∀{c:Nat},↑w7<=c->c∉ob I:=λhc V=>oq (Qi h6 _ V).2
  have hn4:b4∉ob I:=λV=>oq (Qi h6 _ V).1
  exact Qh.ints (Qg (Qg (Qg (Qm h6 (h0.D (ho.D h8))) hI.st λb hb V=>by
   rcases hX b V with h1|h1
   ·cases h1
   exact k9 h1 hb) hv λb hb V=>k9 gm ((Lc.1 V) ▸ hb)) h3 λb hb V=>hn4 ((Lc.1 V) ▸ hb)) kj λb hb=>ou (h7 b hb) h5.size
 have hlt:i<s.tup.length:=oa
 have he:i<qs.length:=oa
 have ma:=Qpl hI.q he;have mc:=gv (qs[i]'he) (Lm he);obtain⟨t,hD⟩:∃t,(qs[i]'he).2=t:=⟨_,Z⟩;rw[hD]at ma mc;have htb:∀x∈t,0<=x/\x<a.st:=λx hx=>oq (mc.2 x hx)
 have htl:t.length<=9:=by have:=hqn _ (Lm he);rw[hD]at this;exact this
 refine Qf ?_;have mf:j6 a (kpt a o) (ers a o) (2 ^ n - (i+1)) (i+1) ((kpt a o).foldl (JJ a (ers a o) i t) (zz a i t s))=T:=by
  rw[<-gu];obtain⟨f,hf⟩:∃f,2 ^ n - i=f+1:=⟨2 ^ n - i - 1,oa⟩;rw[hf,j6,OZ hlt,ma,show 2 ^ n - (i+1)=f by omega]
 have htI:Qu [] ↑k0 (qs[i]'he).1 t:=by rw[<-hD];exact Qh.ints (hI.el (qs[i]'he) (Lm he)) (by rw[hD];omega) oe
 refine Qd<|Qn<|QX (α:=O7) [(50,61)] (λz=>[]) (λz w'=>zH ↑w9 b2 hg Y I wS (zz a i t s) m qs vt z vd w') ol ?_ ?_
 ·refine Qd<|ZK [] (Xj 0 6 [5])<|pq (λ_ hc=>Zj ((gt hI.st).I hc) Z Z)<|p Qx<|p Qx<|Lg.pig Z KO zh Z Z he λa53 h53 =>
   pq (λ_ hc=>Qq (h53.I hc) Z)<|pk<|xg<|(Qh2 ((hY hI.st).I (xd.Y _ _)) (htI.I (xd.Y _ _))).S ?_
  rintro r17 gx ⟨rfl,hv⟩;have mg:=(xd.Y [] k0).D hv;refine⟨mg,?_⟩;refine pe ?_;have gy:=hI.I mg;refine Q5 Z (λgz=>?_) (λgz=>?_)
  rotate_left
  ·refine Qf<|⟨vk,La,?_⟩;unfold zz;rw[OY (by rw[gz];simp)];exact gy
  refine Qr<|Qs Z gy.A Z Z<|Qa<|Qo<|Q3 [[sS i]] λb59 k6 h3 hb59 hB59=>?_;have hE:=gy.I h3;refine Qo<|Q0 (news:=[sS i]) (L:=[]) hE.k Z Z Z (hB59.at oe) oo oa hE.st.size λmh w19 ho19 mj hn19=>?_;have mo:Qh 3 ↑wS w19 mh (s.mk'++[(i:Int)]):=Qh.snoc ho19;refine Q9 Z<|Qo<|Qv (hE.A.J mj (QJ hE.k oa)) Z Z oe (Qh.ints (L:=[]) mo (by simp;omega) oe).one λw20 hs20 hB20=>xe ?_;refine⟨mh,La,?_⟩;unfold zz;rw[OZ gz];exact hE.setK hB mj mo hn19 hs20 hB20
 rintro hZ g3 w21 g0;obtain⟨ga,hed2,hmk2⟩:=QbA a i t s;have hsk2:PjO n (zz a i t s):=⟨by rw[ga];exact hC.v,by rw[ga];exact hC.d⟩;have hveI:=(hY g0.st).k;refine Qd<|Qc<|Qs Z (gt g0.st) Z Z<|QG hveI Z<|Qa<|xe<|QY (α:=Nat×Sy×List (ByteArray×O7)×List TV×O7×O7) [(10,10),(14,17),(65,107)] (λz=>[(10,z.2.2.2.2.1),(65,sS z.1)])
  (λz w'=>zH ↑w9 b2 hg Y I wS z.2.1 z.2.2.1 z.2.2.2.1 z.2.2.2.2.1 hZ z.2.2.2.2.2 w'/\PjO n z.2.1/\KnP z.2.2.1 z.2.1.tup/\z.1<=(kpt a o).length/\z.2.1.mk'=(zz a i t s).mk'/\z.2.1.ed.length<=i*1000+z.1/\s.tup.length<=z.2.1.tup.length /\
   (∃h:i<z.2.2.2.1.length,(z.2.2.2.1[i]'h).2=t)/\((kpt a o).drop z.1).foldl (JJ a (ers a o) i t) z.2.1=(kpt a o).foldl (JJ a (ers a o) i t) (zz a i t s))
  (λz=>(kpt a o).length - z.1) (0,zz a i t s,m,qs,vt,vd) oy
  ⟨g0,hsk2,by rw[ga];exact k4,Lp _,Z,by rw[hed2];simpa using k5,by rw[ga];exact Lr _,⟨he,hD⟩,Z⟩ ?_
 rintro⟨j,G,m4,ha,gb,gc⟩ g4 hF ⟨J,hG,hw,hj,ge,mq,g2,⟨hq,h4⟩,hh⟩;simp only[]at J hG hw hj ge mq g2 hh hq h4;have ms:ha.length=G.tup.length:=by rw[<-J.q];simp
 have hle4:=hG.le;have mt:=QO (L:=[]) J.t oa oe;refine Zk rfl Z (λg5=>?_) (λg5=>?_)
 ·have hje:(kpt a o).length<=j:=by have h18:¬(j:Int)<((kpt a o).length:Int):=g5;omega
  rw[Lx hje]at hh;have hrun4':G=(kpt a o).foldl (JJ a (ers a o) i t) (zz a i t s):=hh;rw[<-hrun4']at mf;refine Qt<|Ql<|QG mt Z<|x (Ya Z Z)<|xe<|Zh Z (λmu=>O1 (show(4096:Int)<(ha.length:Int) from mu) oa) (λmu=>?_);refine Qf<|Qr<|Qa<|QC Z Z<|Qb<|⟨(i+1,G,m4,ha,gb,hZ,gc),by show 2 ^ n - (i+1)<2 ^ n - i;omega,oy,J,hG,hw,by show i+1<=G.tup.length;omega,by show G.mk'.length<=i+1;rw[ge];omega,by show G.ed.length<=(i+1)*1000;omega,mf⟩
 have gg:j<(kpt a o).length:=by have h18:(j:Int)<((kpt a o).length:Int):=g5;omega
 rw[QZ gg,LP]at hh;obtain⟨v,mv⟩:∃v,(kpt a o)[j]=v:=⟨_,Z⟩;rw[mv]at hh;refine Qf<|Qd<|Qn<|Qc<|xii ((hY J.st).k) Z Z gg λa67 mw=>?_;rw[mv]at mw;refine x (Qq mw Z)<|Qb ?_;have htI4:Qu [] ↑hF (ha[i]'hq).1 t:=by rw[<-h4];exact Qh.ints (J.el (ha[i]'hq) (Lm hq)) (by rw[h4];omega) oe
 refine Qd<|ZK [] (Xj 0 8 [6])<|pq (λ_ hc=>Zj ((gt J.st).I hc) Z Z)<|p Qx<|p Qx<|Lg.pig Z KO mt Z Z hq λa72 h72 =>
  pq (λ_ hc=>Qq (h72.I hc) Z)<|p Qx<|pk<|xg<|(Qh1 ((hY J.st).I (xd.Y _ _)) hok (htI4.I (xd.Y _ _)) htb htl po v).S ?_
 rintro vx w23 ⟨hs23,gh⟩;have my:=(xd.Y [] hF).D hs23;refine⟨my,p ZH<|pe ?_⟩;have gi:=J.I my;have hz22:=J.st.size;have g8:Ss n (pnx a (ers a o) t v):=by unfold pnx rch cls;rw[hn];exact qw _ _
 have hul:(pnx a (ers a o) t v).length<=9:=by unfold pnx rch cls;rw[hn];exact LA (Qgc _ _) oa
 have hH:JJ a (ers a o) i t G v=if(pnx a (ers a o) t v).length=0 then G else⟨(Vm G (pnx a (ers a o) t v)).tup,(Vm G (pnx a (ers a o) t v)).mk',(Vm G (pnx a (ers a o) t v)).ed++[((i:Int),v,((Vm G (pnx a (ers a o) t v)).tup.idxOf (pnx a (ers a o) t v):Int))]⟩:=rfl
 refine Zg (pnx a (ers a o) t v) λu hu0=>?_;rw[hu0]at gh g8 hul hH;have hJ:=Qh.ints (L:=[]) gh oa oe;have hK:∀x∈u,0<=x/\x<100:=λx hx=>oq (g8.2 x hx)
 refine Qd<|Ql<|QG hJ Z<|x (Zc Z Z)<|xe<|Zh rfl (λg9=>?_) (λg9=>?_)
 ·have ka:u.length=0:=by have h79:(u.length:Int)=0:=g9;omega
  rw[OZ ka]at hH;rw[hH]at hh;refine Qt<|Qr<|QC Z Z<|Qa<|xe ?_;exact⟨(j+1,G,m4,ha,gb,gc),by show(kpt a o).length - (j+1)<(kpt a o).length - j;omega,oy,gi,hG,hw,gg,ge,by show G.ed.length<=i*1000+(j+1);omega,g2,⟨hq,h4⟩,hh⟩
 have ka:¬u.length=0:=λe=>g9 (by show(u.length:Int)=0;omega);rw[OY ka]at hH;rw[hH]at hh;have mz:=Qi gh;refine Qf<|QX (α:=Unit) [(16,17),(79,85)] (λz=>[(16,sS (if u∈G.tup then(G.tup.idxOf u:Int) else 0)),(17,.bool (decide (u∈G.tup)))]) (λz w'=>sW w23 w') ol ?_ ?_
 ·refine Qr<|Qa<|Qa<|Qw<|(QbB hJ hK oa).S ?_;rintro r24 w24 ⟨rfl,gj⟩;by_cases O:u∈G.tup
  ·refine x (qD (k:=pkA u) ((gi.I gj).M) Z Z (by rw[hw u hK,OZ O]))<|Qa<|QS rfl rfl<|QS rfl rfl<|x Qe<|Qb<|⟨(),⟨O0 sS (OZ O).symm,O0 Value.bool (O2 O).symm,La⟩,gj⟩
  refine x (Qay (k:=pkA u) ((gi.I gj).M) Z Z (by rw[hw u hK,OY O]))<|Qa<|QS rfl rfl<|QS rfl rfl<|x Qe<|Qb<|⟨(),⟨O0 sS (OY O).symm,O0 Value.bool (O4 O).symm,La⟩,gj⟩
 rintro _ g6 w25 kb;have kc:=gi.I kb;have hxA25:=hJ.I kb;have hadd:∀b∈ob vx,b∉ob gb/\b∉ob hZ/\b∉ob gc:=λb hb=>by
  have h1:=(mz b hb).1;have h1':↑hF<=b:=h1;exact⟨λhL=>oq (QW J.t b hL),λhL=>oq (QW J.k b hL),λhL=>oq (QW J.e b hL)⟩
 refine QX (α:=List (ByteArray×O7)×List TV×O7) [(10,10),(16,16),(86,97)] (λz=>[(10,z.2.2),(16,sS ((Vm G u).tup.idxOf u:Int))])
  (λz w'=>zH ↑w9 b2 hg Y I wS (Vm G u) z.1 z.2.1 z.2.2 hZ gc w'/\KnP z.1 (Vm G u).tup/\∃h:i<z.2.1.length,(z.2.1[i]'h).2=t) ol ?_ ?_
 ·refine Ql<|x (Zi Z)<|xe<|Q5 Z (λke=>?_) (λke=>?_)
  rotate_left
  ·have O:u∈G.tup:=by simpa using ke
   refine Qf ?_;have e1:Vm G u=G:=by unfold Vm;rw[OZ O]
   have e2:(if u∈G.tup then(G.tup.idxOf u:Int) else 0)=((Vm G u).tup.idxOf u:Int):=by rw[e1,OZ O]
   refine⟨(m4,ha,gb),⟨Z,O0 sS e2,La⟩,?_,?_,hq,h4⟩
   ·rw[e1];exact kc
   rw[e1];exact hw
  have O:u∉G.tup:=by simpa using ke
  have htA6:=QO (L:=[]) kc.t oa oe;refine Ql<|QG htA6 Z<|Qb<|Ql<|Qa<|Qw<|(QbB hxA25 hK oa).S ?_;rintro r26 w26 ⟨rfl,m0⟩;have m1:=kc.I m0;refine Qa<|Qo<|YV (k:=pkA u) m1.M Z Z λw27 m2 hm27=>xe ?_;have hx27:=Qg (Qm (Qm gh kb) m0) m2 (λb hb=>by have:=(mz b hb).1;have h1':↑hF<=b:=this;simp;omega);refine Qr<|Qa<|Qa<|Qo<|Yj (us:=[[vx]]) Z Z oh oe ⟨hJ.cells,rfl,La⟩ λb96 w28 m3 hb96 hB96=>?_;have kf:=(m1.setM hB m2 hm27).I m3;refine Qo<|Q0 (news:=[vx]) (L:=[]) kf.t Z Z Z (hB96.at oe) (λy hy=>by simp only[oH]at hy;subst hy;exact hJ.one) oa (ou kf.st.size hB.nS) λm6 w29 ho29 hs29 hn29=>Qb ?_;have hk29:zG 47 ↑w9 w29 m6 (ha++[(vx,u)]):=zG.snoc ho29;have hIA:=kf.setT hB (u:=u) (Za (Qm hx27 m3) (by show wS.heap.size<=↑hF;omega)) hadd hs29 hk29 hn29;have e1:Vm G u=⟨G.tup++[u],G.mk',G.ed⟩:=by unfold Vm;rw[OY O]
  have e2:(ha.length:Int)=((Vm G u).tup.idxOf u:Int):=by
   rw[e1];simp only[];rw[Mf,OY O,<-ms];simp
  refine⟨(xt m4 (pkA u) (sS (ha.length:Int)),ha++[(vx,u)],m6),⟨Z,O0 sS e2,La⟩,?_,?_,by simp;omega,?_⟩
  ·rw[e1];exact hIA
  ·rw[e1];simp only[];rw[ms];exact hw.add O hK
  simp only[];rw[L8 hq];exact h4
 rintro⟨m5,qs5,vt5⟩ g7 w30 ⟨kg,m7,m8,m9⟩;simp only[]at kg m7 m8 m9;obtain⟨hmk5,hedA⟩:=Qp9 G u;have hed5:(Vm G u).ed.length<=i*1000+j:=by rw[hedA];exact mq
 have pc:=hG.add g8;have hlA:G.tup.length<=(Vm G u).tup.length:=by unfold Vm;split <;> simp
 refine Qr<|Qs Z kg.A Z Z<|Qa<|Qa<|Qa<|x (QD ⟨Z,Z,Z,La⟩)<|Qo<|Q3 [Qp ((i:Int),v,((Vm G u).tup.idxOf u:Int))] λb104 w31 hs31 hb104 hB104=>?_;have hM:=kg.I hs31;refine Qo<|Q0 (news:=Qp ((i:Int),v,((Vm G u).tup.idxOf u:Int))) (L:=[]) hM.e Z Z Z (hB104.at oe) (ZN.all (us:=Qp _) ⟨rfl,rfl,rfl,La⟩) oa hM.st.size λpd w32 ho32 pf hn32=>?_;have pg:Ye 179 ↑wS w32 pd ((Vm G u).ed++[((i:Int),v,((Vm G u).tup.idxOf u:Int))]):=Ye.snoc ho32;refine Q9 rfl<|Qo<|Qv (hM.A.J pf (QJ hM.e oa)) Z Z oe (Ye.eds (L:=[]) pg (by simp;omega) oe).one λw33 hs33 hB33=>xe ?_;refine Qr<|QC Z Z<|Qa<|xe<|⟨(j+1,_,m5,qs5,vt5,pd),by show(kpt a o).length - (j+1)<(kpt a o).length - j;omega,oy,(hM.setE hB pf pg hn32 hs33 hB33),⟨pc.v,pc.d⟩,m7,gg,?_,?_,LA g2 hlA,⟨m8,m9⟩,hh⟩
 ·simp only[];rw[hmk5];exact ge
 simp only[oO,oL];omega
theorem zZ {V:VwV}(h:VwA ↑w V)(e:Int):
  QT sV 135 [.pointer (some ⟨V.b,0,none⟩),sS e] w λr w'=>r=.bool (decide (e∈V.o))/\w'=w:=by
 refine Zn func135 ?_;refine Qc<|Qb<|Ql<|Z8 Z<|Qs Z h.blk Z Z<|Qa<|Qw<|(ZG h.o e).S ?_;rintro G I ⟨rfl,rfl⟩;refine Qb<|Qk ⟨[_],Lb,Z,Z⟩
theorem QeA {V:VwV}{b:Nat}(h:VwA ↑w V)(G:QN ↑w b 128 [.pointer (some ⟨V.b,0,none⟩)])(e:Int):
  QT sV 256 [sS e,sP b] w λr w'=>r=.bool (decide (e∈V.a.mr))/\sW w w':=by
 refine Zn func256 ?_;refine Qc<|Qb<|Qc<|ZD G Z Z<|Z8 Z<|Q9 Z<|Qs Z h.blk Z Z<|Qa<|Qw<|(ZG h.a.mr e).S ?_;rintro I J ⟨rfl,rfl⟩;refine Qb<|Qk ⟨[_],Lb,Z,xd.C _ _⟩
theorem Qaf {V:VwV}{vl:O7}{l:LI}(h:VwA ↑w V)(hl:Qu [] ↑w vl l):
  QT sV 206 [.pointer (some ⟨V.b,0,none⟩),vl] w λr w'=>r=.bool (mkd V.a l)/\sW w w':=by
 refine Zn func206 ?_;refine Qc<|Zd [.pointer (some ⟨V.b,0,none⟩)] λJ Y G ha O=>Qb<|Ql<|x (Zl (l:=[]) (l':=[.tmp 2]))<|Qw<|(Qcf (q:=λs=>decide (s∈V.a.mr)) (cap:=[sP J]) (hl.I G) (λe w4 I=>QeA ((h.I G).I I) (O.I I) e)).S ?_;rintro r2 w2 ⟨rfl,U⟩;refine Qb<|Qk ⟨[_],Lb,Z,G.D U⟩
theorem QeB {V:VwV}{b:Nat}(h:VwA ↑w V)(G:QN ↑w b 128 [.pointer (some ⟨V.b,0,none⟩)])(e:Int):
  QT sV 138 [sS e,sP b] w λr w'=>r=.bool (!decide (e∈V.o))/\w'=w:=by
 refine Zn func138 ?_;refine Qc<|Qb<|Qc<|ZD G Z Z<|Qa<|Qw<|(zZ h e).S ?_;rintro I J ⟨rfl,rfl⟩;refine x (Zi Z)<|Qb<|Qk ⟨[_],Lb,Z,Z⟩
end Go.Lg
