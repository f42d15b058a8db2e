/- Merged out of 59 texts. -/
import Derived.Test.YtpfnhheoeaiomaaGreatDoorPdc
import Derived.Shelf.SlSortCmp.NoneTotal
import Derived.Ground.SlsfProg
import Derived.Tactics
import Derived.ArgAppend
import Derived.Sort.Grow
import Derived.Deep.Draws
import Derived.Sort.Statements
import Derived.Shelf.Lay
import Derived.Tactics2
set_option maxHeartbeats 40000000
set_option maxRecDepth 100000
set_option linter.all false
open Go Go.Lg
open Go.Value renaming int->oB
open Go.IntKind renaming i64->oC
open _root_.List renaming mem_singleton->oF,replicate->oG,not_mem_nil->oH,range->oJ,mem_cons->oK,length_singleton->oL,length_append->oM,range'->oN,getD->oO,length_cons->oQ,map_cons->oS,flatMap_cons->oT,length->oW,cons_append->oZ,getElem?_append_left->Oa,size_toArray->Od,append_assoc->Of,nil_append->Ok,append_nil->Ol,singleton_append->Oo,mem_filter->Ot,mem_map->Ow,mem_range'_1->Ox,length_drop->OD,length_take->OE,filter_cons->OF,map_nil->OG,flatMap_nil->OI,map->OQ
open _root_.Bool renaming and_eq_true->oI,false_eq_true->Oi
open _root_.Array renaming replicate->oP
open _root_.Nat renaming zero_add->oX,add_zero->Ou,le_refl->Oz,lt_or_ge->OK,sub_zero->OL,pow_succ->OM,succ_mul->ON,mul_one->OO
open _root_.Int renaming toNat_natCast->Ov
open _root_.Option renaming map_some->OC
open Go renaming World->OZ,Value->O0,Operand->O1,Program->O2
open Go.Proofs Go.Proofs.Tryz
open Go.Proofs.Tryz renaming prog->sV
variable {w w' W':OZ}{L L' ds ns av:LN}{n t i sz base T N j E m g id B kt ty G lo hi et gp bp off:Nat}{a:QD}{l o u un al ul out rs:LI}{cs us cap capt:LV}{α:Type}{y:O1}{va ve vm z vt vl vs vk v' vx vb vr vo vu:O0}{f:Fr}{P:O2}{aa:List QD}{c:CL}{fn:Func}{s:Int}{lf:Lf}{es ed:List Ed}{K:xw}{d:xD}{pS:String}{af:xA}{gd:xp}{k':IntKind}{q:Prop}{ks:List KV}
namespace Go.Lg
theorem QcN {a b:LI}(U:Qu [] ↑w va a)(hb:Qu [] ↑w vb b)(hl:a.length+b.length<=1000):
  QS sV 84 [va,vb] w λr w'=>sW w w'/\∃l,l.length<=a.length+b.length/\(∀x,x∈l↔x∈a\/x∈b)/\Qh 3 ↑w w' r l:=by
 refine Zl func84 ?_;refine Qc<|Qb<|Ql<|Qw<|(ZT U).S ?_;rintro v1 w1 ⟨G,I⟩;have ho:=G.size;refine Qa<|Qo<|Qah I O (hb.I G) O (VW b) oa oa λV J Y he hp=>Qb ?_;have S:Qh 3 ↑w J V (a++b):=by
  unfold Qh;rw[Lc,Lv];exact Y
 have hf:sW w J:=G.O he (λc E=>.inr (Qi I c E).1);have hq:(a++b).length=a.length+b.length:=Lc;refine Ql<|Qw<|(Qhc S oa).S ?_;rintro r3 w3 ⟨hg,l3,hr,hh,T⟩;have hj:sW w w3:=hf.O hg (λc E=>.inr (Qi S c E).1);refine xe<|Ql<|Qw<|(Qmb T oa).S ?_;rintro r4 w4 ⟨hk,l4,hs,hm,hn⟩;refine Qb<|Qk ⟨[_],La,hj.O hk (λc E=>.inr (Qi T c E).1),l4,oa,λx=>by rw[hm,hh,Le],hn⟩
theorem zF {v:O0}(h:Qu [] ↑w v al)(hb:∀e∈al,0<=e/\e<32)(hi:Yw al)(hn:ns.length=27)(S:∀n∈ns,n<256):
  QS sV 85 [v,sT (bys ns),sS 3] w λr w'=>sW w w'/\∃a:QD,Y5 ↑w ↑w' r a/\GdA a/\a.al=al:=by
 refine Zl func85 ?_;refine Qc<|Zc (bys ns) λb4 w1 hh hj E=>QT [nS,sS 0,nS,nS] λb6 w2 G hr T=>xe ?_;obtain⟨s0,hk⟩:∃s0,ns.getD 0 0=s0:=⟨_,O⟩;have U:ns[0]?=some s0:=by
  rw[<-hk,List.getD_eq_getElem?_getD,LE oa];rfl
 have hs:s0<256:=S s0 (Mj U);have q0:(bys ns)[0]?=some (.int .u8 (s0:Int)):=by
  unfold bys;rw[ME,U];rfl
 have ht:=E.lt;have hu:=T.lt;refine Qc<|Qs O (E.I G) O q0<|Qa<|x (Yc (k':=.u8) O ⟨oa,oa⟩)<|x (zd (a:=(s0:Int)) (b:=3) O O oa oa)<|Q7 O<|Qo<|Qv (u:=.int .u8 ((s0 % 3:Nat):Int)) (E.I G) O (OT (Value.int .u8) (by omega:(s0:Int) % 3=((s0 % 3:Nat):Int))) (by rw[Xk];omega) O λw3 I V =>
  xe ?_
 have J:sW w w3:=(hh.D G).Q I hj;rw[QjH]at V;have Y:(ns.set 0 (s0 % 3)).length=27:=by rw[MV];exact hn
 have ha:(ns.set 0 (s0 % 3)).getD 0 0=s0 % 3:=Qhe oa;refine Ql<|Q3 V O (by rw[Xk];exact Y)<|Qw<|(QfQ (h.I J) hb hi Y (QkE S oa)).S ?_;rintro r4 w4 ⟨he,a,hA,hok,_,hm,hc⟩;obtain⟨a0,k0,k1,k2,k3⟩:=hc (by rw[ha];omega);rw[ha]at k2;obtain⟨us,hv,hf,ho⟩:=Xy hA;have hp:QK ↑w4 b6 53 [nS,sS 0,nS,nS]:=(T.J I ol).I he;have hw:=I.size;refine Qo<|ZJ (us:=us) hp O (show Go.Lg.ev _ _=_ from hv) hf O ho λw5 hg hq=>xe ?_;refine Qk ⟨[sT us],⟨⟨_,O,Z4 hf (hq.at (L:=[]) od).cells⟩,Z⟩,(J.D he).Q hg oa,a,?_,GdA.of k0 k1 k2 k3 (Nat.mod_lt _ og),hm⟩;show Y5 _ _ (sT us) _;rw[<-hv];exact(XQ hA oa hg).S J.size
open Go.Sort
theorem QnF {b:Nat}(e:Int)(w:OZ)(E:QK ↑w b T [va])(hA:Qu L ↑w va al):
  QS sV 86 ([sS e]++[sP b]) w λr w'=>r=.bool (decide (e∉al))/\w'=w:=by
 refine Zl func86 ?_;refine Qc<|Qb<|Qc<|ZB E O O<|Qa<|Qw<|(ZG hA e).S ?_;rintro G I ⟨rfl,rfl⟩;refine x (Zj O)<|Qb<|Qk ⟨[_],La,?_,O⟩;show Value.bool (!decide (e∈al))=_;rw[decide_not]
theorem jb {b:Nat}(e:Int)(w:OZ)(G:QK ↑w b T [va])(hA:Qu L ↑w va al):
  FnGives sV 86 #[sP b] #[iC e] (.bool (decide (e∉al))) w:=by
 have h:=QnF e w G hA;unfold QS at h;unfold FnGives;refine Calls.mono h λe' w' E=>?_;cases e' with
 | returned v =>
  obtain⟨rfl,rfl⟩:=E;exact⟨O,0,O⟩
 | _=>exact E.elim
theorem Qhv {os:xz}{d:Array Int}:O3 [g] w (grow (putRow iC (Sort.ahead w n) g 0 d) os):=by
 have E:(grow (putRow iC (Sort.ahead w n) g 0 d) os).heap=w.heap.modify g (onCells (putCells iC 0 d))++os:=rfl;refine⟨O,O,O,?_,λi hi G=>?_⟩
 ·rw[E,Nv,MF];omega
 rw[E,MA,MF,OS hi,MU,OR (λe=>G (by simp[e]))]
theorem Ql1 {b:Nat}{v:O0}(h:Qh 3 base w v l)(hl:l.length<=1099511627776)(J:QK ↑w b T [va])(hb:b∉ob v)(hA:Qu (ob v) ↑w va al):
  QS sV 63 [v,.func (.func 86) #[] #[sP b]] w λr w'=>O3 (ob v) w w'/\Qh 3 base w' r (l.filter λx=>decide (x∈al)):=by
 have eg:∀args w,(callFunc 86 args).run sV w=.ok (.enter 86 args) w:=enters_of func86 oc O;rcases h.2 with⟨rfl,h0⟩|⟨g,cap,cur,rfl,ha,S,hh,hj,hm,hn⟩
 ·have ho:l=[]:=Ls h0;subst ho;refine Zl func63 ?_;refine Qc<|Qb<|Ql<|Qa<|Qw<|(Qdk (cap:=[sP b]) (q:=λ_=>true) (Qu.fl (Qal [] ↑w)) (λe G=>by cases G)).S ?_;rintro r1 w1 ⟨rfl,U⟩;refine Qb<|Qe<|Ql<|x (Zd O O)<|xe<|Zh O (λ_=>?_) (λh8=>OU O h8);refine Ql<|Qb<|Qk ⟨[nS],La,U,Qm h U⟩
 unfold QS;have V:=λ(n:Nat) (os:xz) (d:Array Int)=>Qhv (w:=w) (g:=g) (n:=n) (os:=os) (d:=d);have hp:b∉[g]:=hb;have hq:Qu [g] ↑w va al:=hA;have I:=AnyE.slices_DeleteFunc Tryz.delI iC (λ_=>O) (λx=>decide (x∉al)) 86 #[sP b] eg 0 (λw=>oc) g 0 cap l.toArray w
  (λW x E=>by
   have Y:sW w W:=⟨E.os,E.tape,E.output,E.size,λk hk _=>E.block k hk⟩;exact jb x W (J.I Y) (hA.I Y))
  (λn os dk x _=>jb x _ (J.J (V n os dk) hp) (hq.st (V n os dk)))
  (JV S hn) (by simp;omega) (ou hh)
 change Calls sV 63 _ _ _ at I;rw[LT]at I;refine Calls.mono I λe w' G=>?_;obtain⟨rfl,q,rfl⟩:=G;have hf:(l.toArray.toList.filter λx=>!decide (x∉al))=l.filter λx=>decide (x∈al):=by
  refine List.filter_congr λx _=>?_;by_cases hx:x∈al <;> simp[hx]
 rw[hf];have hr:=LJ (λx=>decide (x∈al)) l;generalize (l.filter λx=>decide (x∈al))=u at *;have:=VU (e:=3) (n:=q) (k:=u.length) (os:=#[]) (d:=(u++oG (l.length - u.length) 0).toArray) ha S (by simp;omega) hj hm od;rw[grow_empty]at this;refine⟨this.1,?_⟩;have h2:=this.2;have h3:(u++oG (l.length - u.length) 0).toArray.toList.take u.length=u:=od
 rw[h3]at h2;exact h2
theorem QbR {e:Int}{q:Bool}(h:QS sV gp ([sS e]++cap) w λr w'=>r=.bool q/\w'=w):FnGives sV gp cap.toArray #[iC e] (.bool q) w:=by
 unfold QS at h;unfold FnGives;have e0:#[iC e]++cap.toArray=([iC e]++cap).toArray:=od
 rw[e0];refine Calls.mono h λe' w' E=>?_;cases e' with
 | returned v =>
  obtain⟨rfl,rfl⟩:=E;exact⟨O,0,O⟩
 | _=>exact E.elim
theorem QeZ [Fu sV gp fn]{p:Int->Bool}{v:O0}(eg:∀args w,(callFunc gp args).run sV w=.ok (.enter gp args) w)(h:Qh 3 base w v l)(hl:l.length<=1099511627776)
  (G:∀(e:Int) (W:OZ),O3 (ob v) w W->QS sV gp ([sS e]++cap) W λr w'=>r=.bool (p e)/\w'=W):
  QS sV 63 [v,.func (.func gp) #[] cap.toArray] w λr w'=>O3 (ob v) w w'/\Qh 3 base w' r (l.filter λx=>!p x):=by
 rcases h.2 with⟨rfl,Y⟩|⟨g,cp,cur,rfl,ha,S,hh,hj,hm,hn⟩
 ·have ho:l=[]:=Ls Y;subst ho;refine Zl func63 ?_;refine Qc<|Qb<|Ql<|Qa<|Kz<|(Qdk (cap:=cap) (q:=λ_=>true) (Qu.fl (Qal [] ↑w)) (λe I=>by cases I)).S ?_;rintro r1 w1 ⟨rfl,T⟩;refine Qb<|Qe<|Ql<|x (Zd O O)<|xe<|Zh O (λ_=>?_) (λh8=>OU O h8);refine Ql<|Qb<|Qk ⟨[nS],La,T,Qm h T⟩
 unfold QS;have hp:=λ(n:Nat) (os:xz) (d:Array Int)=>Qhv (w:=w) (g:=g) (n:=n) (os:=os) (d:=d);have U:∀(e:Int) (W:OZ),O3 [g] w W->QS sV gp ([sS e]++cap) W λr w'=>r=.bool (p e)/\w'=W:=G;have J:=AnyE.slices_DeleteFunc Tryz.delI iC (λ_=>O) p gp cap.toArray eg 0 (λw=>oc) g 0 cp l.toArray w
  (λW x E=>QbR (U x W ⟨E.os,E.tape,E.output,E.size,λk G _=>E.block k G⟩))
  (λn os dk x _=>QbR (U x _ (hp n os dk)))
  (JV S hn) (by simp;omega) (ou hh)
 change Calls sV 63 _ _ _ at J;rw[LT]at J;refine Calls.mono J λe w' I=>?_;obtain⟨rfl,q,rfl⟩:=I;have hf:(l.toArray.toList.filter λx=>!p x)=l.filter λx=>!p x:=rfl;rw[hf];have hq:=LJ (λx=>!p x) l;generalize (l.filter λx=>!p x)=u at *;have:=VU (e:=3) (n:=q) (k:=u.length) (os:=#[]) (d:=(u++oG (l.length - u.length) 0).toArray) ha S (by simp;omega) hj hm od;rw[grow_empty]at this;refine⟨this.1,?_⟩;have V:=this.2;have h3:(u++oG (l.length - u.length) 0).toArray.toList.take u.length=u:=od
 rw[h3]at V;exact V
theorem yG {V:jD}(h:jE ↑w V):
  QS sV 60 [.pointer (some ⟨V.b,0,none⟩)] w λr w'=>sW w w'/\Qh 3 ↑w w' r (kpt V.a V.o):=by
 refine Zl func60 ?_;refine Qc<|Zc [.pointer (some ⟨V.b,0,none⟩)] λY w1 G hc I=>Qb ?_;have E:=h.I G;refine Qc<|ZB I O O<|ZY O<|Q7 O<|Qs O E.blk O O<|Qw<|(ZT E.a.al).S ?_;rintro v2 w2 ⟨J,S⟩;have hge:=Qi S;refine x (Zk (l:=[]) (l':=[.tmp 1]))<|Qw<|(QeZ (gp:=138) (cap:=[sP Y]) (p:=λe=>!decide (e∈V.o)) (enters_of func138 oc O) S E.a.al.le
  (λe W hW=>have T:=J.O hW λb hb=>.inr (hge b hb).1;QcL (E.I T) (I.I T) e)).S ?_
 rintro v3 w3 ⟨ha,U⟩;refine Qb ?_;have e:(V.a.al.filter λx=>!!decide (x∈V.o))=kpt V.a V.o:=by unfold kpt;simp
 rw[e]at U;exact Qk ⟨[_],La,G.D (J.O ha λb hb=>.inr (hge b hb).1),Q9 U G.size⟩
theorem QgH {b:Nat}{v:Int}(G:QK ↑w b 3 [sS v])(e:Ed):
  QS sV 210 [sT (Qp e),sP b] w λr w'=>r=.bool (decide (e.2.1=v))/\sW w w':=by
 refine Zl func210 ?_;refine Qc<|Zc (Qp e) λJ S E T I=>Qb<|Qc<|Qs O I O O<|ZB (G.I E) O O<|x (Zd O O)<|Qb<|Qk ⟨[_],La,O,E⟩
theorem Qow [Fu sV gp fn]{q:Ed->Bool}{v:O0}{l:List Ed}(h:Uq L ↑w v l)
  (G:∀(e:Ed) (E:OZ),sW w E->QS sV gp ([sT (Qp e)]++cap) E λr w'=>r=.bool (q e)/\sW E w'):
  QS sV 209 [v,.func (.func gp) #[] cap.toArray] w λr w'=>r=.bool (l.any q)/\sW w w':=by
 refine Zl func209 ?_;refine Qc<|Qb<|Ql<|Qa<|Kz<|(ixG (c:=Qp) ⟨_,O,func159⟩ (λ_=>O) (ldA λ_=>O) h λe _=>G e).S ?_;rintro J E ⟨rfl,I⟩;refine x (Yh O O)<|Qb<|Qk ⟨[_],La,OT Value.bool (Ue q l 0),I⟩
theorem QgI {V:jD}{b c:Nat}{v:Int}(h:jE ↑w V)(S:QK ↑w c 128 [.pointer (some ⟨V.b,0,none⟩)])(T:QK ↑w b 3 [sS v])(s:Int)(h0:0<=s)(h1:s<V.a.st):
  QS sV 208 [sS s,sP c,sP b] w λr w'=>r=.bool ((QO V.a.ed s).any λe=>decide (e.2.1=v))/\sW w w':=by
 obtain⟨rv,hA,hE⟩:=h.r;have G:s=(s.toNat:Int):=oa
 have E:s.toNat<(oJ V.a.st.toNat).length:=by rw[L5];omega
 have I:=hE s.toNat (by rw[L5]at E;exact E);rw[<-G]at I;refine Zl func208 ?_;refine Qc<|Qb<|Qc<|ZB S O O<|ZY O<|Qs O h.blk O O<|Qa<|O6 (g:=λj:Nat=>[rv j]) (i:=s.toNat) (λ_=>O) hA O (show Go.Lg.ev _ _=_ from OT sS G) E λha J=>?_;rw[Mt]at J;refine x (Qq J O)<|x (Zk (l:=[]) (l':=[.tmp 2]))<|Qw<|(Qow (q:=λe=>decide (e.2.1=v)) (cap:=[sP b]) I (λe w1 U=>QgH (T.I U) e)).S ?_;rintro r2 w2 ⟨rfl,Y⟩;refine Qb<|Qk ⟨[_],La,O,Y⟩
theorem Qa3 {V:jD}{b c:Nat}{v:Int}(h:jE ↑w V)(I:QK ↑w c 128 [.pointer (some ⟨V.b,0,none⟩)])(J:QK ↑w b 3 [sS v])(hl:Qu [] ↑w vl l)(hb:∀s∈l,0<=s/\s<V.a.st):
  QS sV 207 [vl,sP c,sP b] w λr w'=>r=.bool (psb V.a v l)/\sW w w':=by
 refine Zl func207 ?_;refine Qc<|Qb<|Ql<|x (Zk (l:=[]) (l':=[.tmp 1,.tmp 2]))<|Qw<|(QdH (q:=λs=>(QO V.a.ed s).any λe=>decide (e.2.1=v)) (cap:=[sP c,sP b]) (Qu.fl hl) (λs G T E=>QgI (h.I E) (I.I E) (J.I E) s (hb s G).1 (hb s G).2)).S ?_;rintro r2 U ⟨rfl,S⟩;refine Qb<|Qk ⟨[_],La,O,S⟩
theorem QgK {V:jD}{c:Nat}{vy:O0}{X Y:LI}(h:jE ↑w V)(I:QK ↑w c 128 [.pointer (some ⟨V.b,0,none⟩)])(hx:Qu [] ↑w vx X)(J:Qu [] ↑w vy Y):
  QS sV 205 [vx,vy,sP c] w λr w'=>r=.bool (Qbq V.a X Y)/\sW w w':=by
 refine Zl func205 ?_;refine Qc<|Qb<|QW (α:=Unit) [(5,14)] (λ_=>[(5,.bool (Qbq V.a X Y))]) (λ_ w'=>sW w w') oh ?_ ?_
 ·refine Qr<|ZB I O O<|Qa<|Qw<|(yF h hx).S ?_;rintro U w1 ⟨G,E⟩;unfold Qbq;cases hb:mkd V.a X with
  | true =>
   rw[hb]at G;subst G;refine Qa<|ZB (I.I E) O O<|Qa<|Qw<|(yF (h.I E) (J.I E)).S ?_;rintro r2 w2 ⟨rfl,S⟩;refine x (Zj O)<|Qz O<|Qb<|⟨(),La,E.D S⟩
  | false =>
   rw[hb]at G;subst G;refine Qa<|Zw<|Jr<|Qz O<|Qb<|⟨(),La,E⟩
 rintro _ g w3 T;exact Qk ⟨[_],La,O,T⟩
instance:Bw sV 46 [nS,nS,nS,nS,nS] [(0,1),(1,1),(2,1),(3,1),(4,1)]:={}
end Go.Lg
namespace Go.Proofs
open Go.Proofs.Tryz
open Go.Shelf
def Tryz.sortRm_ren:Go.Shelf.Ren:=⟨λ|6=>224|15=>141|14=>265|28=>220|29=>221|20=>287|21=>288|22=>289|23=>290|24=>291|25=>292|26=>293|27=>294|46=>311|47=>258|48=>259|49=>312|50=>313|57=>322|n=>n,λ|22=>144|24=>323|25=>329|3=>3|39=>246|0=>0|53=>317|55=>319|4=>4|46=>311|45=>310|50=>205|5=>5|9=>9|66=>363|70=>367|76=>389|77=>379|n=>n,λ|n=>n⟩
theorem Tryz.sortRm:Go.Proofs.SlLaysF0.n6 sV Tryz.sortRm_ren:=lyS
end Go.Proofs
namespace Go.Lg
open Go.Lg Go.Sort
abbrev Rz:={ x:Int×Int×Int×Int // 0<=x.1/\x.1<4096 }
instance:Inhabited Rz:=⟨⟨(0,0,0,0),og⟩⟩
abbrev qe (x:Rz):LV:=[sS x.1.1,sS x.1.2.1,sS x.1.2.2.1,sS x.1.2.2.2]
abbrev RzO (base:Nat)(w:OZ)(v:O0)(l:List Rz):Prop:=w.ownsRow base 323 4 v l.length (l.flatMap qe)
theorem QpR (x y:Rz)(W:OZ):Calls sV 225 #[sT (qe x),sT (qe y)] W λe w'=>e=.returned (sS (x.1.1 - y.1.1))/\∃q os',w'=grow (W.drewN q) os':=by
 have E:IntKind.i64.wrap (x.1.1 - y.1.1)=x.1.1 - y.1.1:=Xz ⟨oq x.2 y.2,oq x.2 y.2⟩
 go_enter func225,ntmps225
 go_wp2
 go_ret;exact⟨by rw[<-E];rfl,0,_,by rw[alloc_eq_grow,alloc_eq_grow,grow_grow];rfl⟩
theorem jX (x:Rz):(qe x).length=4:=rfl
theorem jW:∀l:List Rz,(l.flatMap qe).length=l.length*4
 | []=>rfl
 | x::l=>by rw[LK,Lc,jW l,jX,LL];omega
theorem Qek {l:List Rz}(J:j<l.length*4):(l.flatMap qe)[j]?=some ((flatK qe 4 l.toArray)[j]!):=by
 have E:j / 4<l.length:=Nat.div_lt_of_lt_mul oa;have G:j % 4<4:=Nat.mod_lt _ og;rw[get_flatK _ _ _ _ (ou J)];have S:(l.flatMap qe)[j]?=(qe (l[j / 4]'E))[j % 4]?:=by
  rw[<-(X5 qe 4 jX l (j / 4) E),LZ,OS G,MI];congr 1;omega
 rw[S];have T:(l.toArray)[j / 4]! = l[j / 4]'E:=by simp[E]
 rw[T];have I:j % 4<(qe (l[j / 4]'E)).length:=G;exact(LE I).D (OT some (getElem!_pos (qe (l[j / 4]'E)) (j % 4) I).symm)
theorem Qhf:SWO (ltOf λx y:Rz=>x.1.1 - y.1.1) where
 irrefl x:=by unfold ltOf;simp
 trans x y z h1 h2:=by unfold ltOf at *;simp at *;omega
 ntrans x y z h1 h2:=by unfold ltOf at *;simp at *;omega
def qd (l:List Rz):List Rz:=(pdq (ltOf λx y:Rz=>x.1.1 - y.1.1) l.toArray 0 l.toArray.size (Go.Lib.bitLen l.toArray.size) true true).toList
theorem qY (l:List Rz):(qd l).length=l.length:=by
 unfold qd;simpa using((pdq_sorts (ltOf λx y:Rz=>x.1.1 - y.1.1) Qhf l.toArray 0 l.toArray.size (Go.Lib.bitLen l.toArray.size) true true (Lo _) (Lp _) (Or.inl rfl)).1.1)
theorem Qft {v:O0}{l:List Rz}(h:RzO base w v l)(hl:l.length<=1099511627776):
  QS sV 224 [v,.func (.func 225) #[] #[]] w λ_ w'=>O3 (ob v) w w'/\RzO base w' v (qd l):=by
 unfold QS;rcases h.2 with⟨rfl,h0⟩|⟨g,cap,cur,rfl,hf,J,hh,hm,ho,hp⟩
 ·have hq:l=[]:=Ls h0;subst hq;have I:=AnyF.slices_SortFunc_none Tryz.sortRm none 0 (.func (.func 225) #[] #[]) w;change Calls sV 224 _ _ _ at I;refine Calls.mono I λe w' S=>?_;obtain⟨rfl,rfl⟩:=S;rw[show qd []=[] from Ls (qY [])];exact⟨O3.Y _ _,h⟩
 have Y:g<w.heap.size:=(LH.1 J).1;have hH:HoldsK qe 4 w g 0 l.toArray:=by
  intro j E;rw[size_flatK,LT]at E;have h1:=Qek E;rw[<-hp,LZ,OS E]at h1;constructor
  ·show(match w.heap[g]? with|some (.cells c _ _)=>if(none:Option _).isSome then none else c[0+j]?|_=>none)=_
   rw[J];simp only[oX,Option.isSome_none,Oi,if_false];rw[<-MK,h1];rfl
  show(match w.heap[g]? with|some (.cells _ _ (lo,hi))=>decide (lo<=0+j) && decide (0+j<hi)|_=>false)=false
  rw[J];simp
 have eg:∀args w,(callFunc 225 args).run sV w=.ok (.enter 225 args) w:=enters_of func225 oc O;have I:=AnyQ.slices_SortFunc_eq Tryz.sortRm 4 isAgg323 sizeOf323 qe jX (λx v hv=>by simp at hv;rcases hv with rfl|rfl|rfl|rfl <;> rfl) (λx y=>x.1.1 - y.1.1) Qhf 225 #[] g 0 cap l.toArray w eg (λm os dk _ x y=>QpR x y _) hH Y (by simp;omega)
 change Calls sV 224 _ _ _ at I;rw[LT]at I;refine Calls.mono I λe w' S=>?_;obtain⟨rfl,n,os,rfl⟩:=S;refine Zg (qd l).toArray λG T=>?_;have U:G.size=l.length:=by rw[<-T];simpa using qY l
 have hr:qd l=G.toList:=by rw[<-T]
 have ha:pdq (ltOf λx y:Rz=>x.1.1 - y.1.1) l.toArray 0 l.toArray.size (Go.Lib.bitLen l.toArray.size) true true=G:=by rw[<-T];unfold qd;simp
 rw[LT]at ha;rw[ha,hr];have V:(sortWorldK qe 4 w g 0 n G os).heap=w.heap.modify g (onCells (putCells id 0 (flatK qe 4 G)))++os:=rfl;refine⟨⟨rfl,O,O,?_,λk hk hn=>?_⟩,?_⟩
 ·rw[V,Nv,MF];omega
 ·rw[V,MA,MF,OS hk,MU,OR (λe=>hn (by simp[ob,e]))]
 refine⟨jW _,.inr ⟨g,cap,putCells id 0 (flatK qe 4 G) cur,by simp[U],hf,?_,by simp[U];exact hh,hm,by simp[putCells,ho],?_⟩⟩
 ·rw[V,MA,MF,OS Y,MU,OS rfl,J];rfl
 apply Nj;intro j;rw[LZ];by_cases E:j<G.toList.length*4
 ·rw[OS E,Qek E,MK];have hs:j<cur.size:=by simp[U]at E;omega
  have ht:j<(flatK qe 4 G).size:=by simpa using E
  simp only[putCells,Array.getElem?_mapIdx,Array.getElem?_eq_getElem hs,OC,Nat.zero_le,oX,true_and,OS ht,OL,id]
 rw[OR E,Mm];rw[jW];omega
theorem Qnw (G:Q8 a)(S:a.st=(n:Int))(hl:lf.length=n):∀x∈nxs a ul lf,0<=x/\x<(n:Int):=λx hx=>by
 have E:=QhZ x hx;have T:x.toNat<n:=by
  refine Decidable.byContradiction λh=>?_;unfold lft at E;simp[oO,List.getElem?_eq_none (show lf.length<=x.toNat by omega)]at E
 unfold nxs at hx;split at hx
 ·obtain⟨p,I,rfl⟩:=Ly.1 hx;obtain⟨_,e,J,U,_⟩:=(Qan a ul lf).1 p I;have:=G.ed e J;omega
 have:=((Ul lf (dsts a lf) 0).1 x hx).2;omega
abbrev Q4:=Int×Int×Int×Int
abbrev q4C (x:Q4):LV:=[sS x.1,sS x.2.1,sS x.2.2.1,sS x.2.2.2]
def Qm6 (x:Q4):Rz:=if h:0<=x.1/\x.1<4096 then⟨x,h⟩else default
theorem Qa8:∀l:List Rz,(l.map (·.1)).map Qm6=l
 | []=>rfl
 | x::l=>by
  rw[LU,LU,Qa8 l];congr 1;unfold Qm6;rw[dif_pos x.2]
theorem QlN (l:List Rz):(l.map (·.1)).flatMap q4C=l.flatMap qe:=by rw[List.flatMap_map]
def rmR (rk:Int)(r:Int×xu):List Q4:=r.2.map λp=>(p.1,rk,r.1,p.2)
def rmL (a:QD)(ul:LI):Nat->Int->Lf->List Q4
 | 0,_,_=>[]
 | f+1,rk,lf=>if(nxs a ul lf).length=0 then[]else rmR rk (nxR a ul lf)++rmL a ul f (rk+1) ((nxs a ul lf).foldl cut lf)
theorem Qhj {f:Nat}{rk:Int}(h:(nxs a ul lf).length=0):rmL a ul f rk lf=[]:=by
 cases f with
 | zero=>rfl
 | succ f=>rw[rmL,OS h]
theorem Qhi {f:Nat}{rk:Int}(h:(nxs a ul lf).length≠0):rmL a ul (f+1) rk lf=rmR rk (nxR a ul lf)++rmL a ul f (rk+1) ((nxs a ul lf).foldl cut lf):=by rw[rmL,OR h]
def rmF (fb:LI):List Q4:=fb.map λy=>(y,1,1,-1)
def rmA (a:QD)(fb ul:LI):List Q4:=rmF fb++rmL a ul (a.st.toNat+1) 2 (lf0 a.st.toNat fb)
def rmS (a:QD)(fb ul:LI):List Q4:=(qd ((rmA a fb ul).map Qm6)).map (·.1)
def kpI (lf:Lf)(n:Nat):LN:=(oJ n).filter λi=>lf.getD i false
def kpK (lf:Lf)(n:Nat):LI:=(kpI lf n).map λi:Nat=>(i:Int)
def kpD (lf:Lf)(D:LI)(n:Nat):LI:=(kpI lf n).map λi=>O4 D i
theorem Qpy (h:lf.getD n false=true):kpI lf (n+1)=kpI lf n++[n]:=by
 unfold kpI;rw[Nb,LR,L7,OS h];rfl
theorem Qpz (h:lf.getD n false=false):kpI lf (n+1)=kpI lf n:=by
 unfold kpI;rw[Nb,LR,L7,OR (by rw[h];decide)];exact LF _
structure QaV (L:LN)(H:xz)(c0 c1 c2:O0)(a:QD)(fb ul:LI):Prop where
 k:Qu L H c0 (kpK (Qbr a fb ul) a.st.toNat)
 d:Qu L H c1 (kpD (Qbr a fb ul) (dsts a (Qbr a fb ul)) a.st.toNat)
 r:Zs L H c2 (rmS a fb ul).length 4 ((rmS a fb ul).flatMap q4C)
theorem QaV.st {L:LN}{w w':OZ}{c0 G I:O0}{a:QD}{fb ul:LI}(h:QaV L ↑w c0 G I a fb ul)(E:O3 L w w'):QaV L ↑w' c0 G I a fb ul:=⟨h.k.st E,h.d.st E,h.r.st E⟩
theorem QaV.up {L L':LN}{H:xz}{c0 G I:O0}{a:QD}{fb ul:LI}(h:QaV L H c0 G I a fb ul)(E:∀b∈L',b∈L\/H.size<=b):QaV L' H c0 G I a fb ul:=⟨h.k.up E,h.d.up E,h.r.up E⟩
theorem QmE {rk rs:Int}:∀(l:xu),(∀x∈l.map (·.1),0<=x/\x<4096)->∃lz:List Rz,lz.flatMap qe=l.flatMap (rmC rk rs)/\lz.length=l.length/\lz.map (·.1)=rmR rk (rs,l)
 | [],_=>⟨[],O,O,O⟩
 | x::l,h=>by
  obtain⟨lz,E,G,I⟩:=QmE (rk:=rk) (rs:=rs) l (λy J=>h y (Lj _ J));exact⟨⟨(x.1,rk,rs,x.2),h x.1 Ll⟩::lz,by rw[LK,LK,E],by simp[G],by rw[LU,I];rfl⟩
theorem Qew:∀l:List Rz,∀u∈l.flatMap qe,u.oneCell'=true
 | [],u,h=>by cases h
 | x::l,u,h=>by
  rw[LK,Le]at h;rcases h with h|h
  ·simp only[qe,oK,oH,or_false]at h;rcases h with rfl|rfl|rfl|rfl <;> rfl
  exact Qew l u h
theorem RzO.snoc {v:O0}{l m:List Rz}(h:w.ownsRow base 323 4 v (l.length+m.length) (l.flatMap qe++m.flatMap qe)):RzO base w v (l++m):=by
 unfold RzO;rw[Lc,LD];exact h
abbrev Ks (k d r:O0)(n:Int):LV:=[k,d,r,sS n,nS,sS 0,nS,nS,nS]
structure ReI (b10:Nat)(q:Pz)(wB:OZ)(lf:Lf)(rn:Int)(vr:O0)(lz:List Rz)(w:OZ):Prop where
 st:O3 [b10,q.bl] wB w
 B10:QK ↑w b10 148 (Ks (nS) (nS) vr rn)
 R:RzO ↑wB w vr lz
 F:QK ↑w q.bl 4 (lf.map Value.bool)
 n:lf.length=q.n
section
variable {b10:Nat}{q:Pz}{wB w'':OZ}{rn:Int}{lz:List Rz}
theorem ReI.I (h:ReI b10 q wB lf rn vr lz w)(E:sW w w'):ReI b10 q wB lf rn vr lz w':=⟨h.st.D E,h.B10.I E,Qm h.R E,h.F.I E,h.n⟩
theorem ReI.cut (h:ReI b10 q wB lf rn vr lz w)(l:q.bl<↑wB)(ne:b10≠q.bl)(E:O3 [q.bl] w w'){G:Lf}(I:QK ↑w' q.bl 4 (G.map Value.bool))(J:G.length=q.n):ReI b10 q wB G rn vr lz w' :=
 ⟨h.st.O E (λb hb=>.inl (by simp only[oF]at hb;simp[hb])),h.B10.J E (ou ne),Qg h.R E (λb hb=>by have:=(Qi h.R b hb).1;simp only[oF];omega),I,J⟩
theorem ReI.app (h:ReI b10 q wB lf rn vr lz w)(l:q.bl<↑wB)(U:b10<wB.heap.size)(ne:b10≠q.bl){E:O0}{I:List Rz}{J:Int}(S:O3 (ob vr) w w')(hR:RzO ↑wB w' E I)(G:O3 [b10] w' w'')
  (T:QK ↑w'' b10 148 (Ks (nS) (nS) E J)):ReI b10 q wB lf J E I w'':=by
 have hge:=Qi h.R;exact⟨(h.st.O S (λb hb=>.inr (hge b hb).1)).O G (λb hb=>.inl (by simp only[oF]at hb;simp[hb])),T,Qg hR G (λb hb=>by have:=(Qi hR b hb).1;simp only[oF];omega),
  (h.F.J S (λhb=>oo (hge _ hb).1)).J G (ou ne.symm),h.n⟩
theorem ReI.rounds (h:ReI b10 q wB lf rn vr lz w)(J:b10<wB.heap.size)(ne:b10≠q.bl){G:Int}(E:O3 [b10] w w')(I:QK ↑w' b10 148 (Ks (nS) (nS) vr G)):ReI b10 q wB lf G vr lz w' :=
 ⟨h.st.O E (λb hb=>.inl (by simp only[oF]at hb;simp[hb])),I,Qg h.R E (λb hb=>by have:=(Qi h.R b hb).1;simp only[oF];omega),h.F.J E (ou ne.symm),h.n⟩
end
theorem Qfy {vf:O0}{forb unc:LI}(h:Zp [] ↑w va vm ve a)(hok:Q8 a)(hf:Qu [] ↑w vf forb)(ke:∀x∈forb,0<=x/\x<a.st)(hfl:forb.length<=4096)(hu:Qu [] ↑w vu unc):
  QS sV 143 [.agg #[va,sS a.st,vm,ve],vf,vu,.bool true] w λr w'=>sW w w'/\∃c0 c1 c2 c3 sa sm se o,r=.agg #[c0,c1,c2,c3,sa,sS (jO a forb unc).st,sm,se,o] /\
   ZK [c0,c1,c2,c3,o]/\∀L:LN,(∀b∈L,b<↑w)->Zp L ↑w' sa sm se (jO a forb unc)/\QaV L ↑w' c0 c1 c2 a forb unc:=by
 have hst0:=hok.st0;have hst1:=hok.st1;obtain⟨n,hn⟩:∃n:Nat,a.st=n:=⟨a.st.toNat,oa⟩;have h6:a.st.toNat=n:=oa
 have hQ:jO a forb unc=QcU a (zb a unc (n+1) (lf0 n forb)):=by unfold jO Qbr;rw[h6]
 have mv:rmA a forb unc=rmF forb++rmL a unc (n+1) 2 (lf0 n forb):=by unfold rmA;rw[h6]
 have gj:Qbr a forb unc=zb a unc (n+1) (lf0 n forb):=by unfold Qbr;rw[h6]
 refine Zg (jO a forb unc) λSA mw=>?_;rw[mw]at hQ ⊢;refine Zl func143 ?_;refine Qc<|Zc [va,sS a.st,vm,ve] λb4 w1 kf hb4 my=>QT (Ks (nS) (nS) (nS) 0) λb8 w2 kg hb8 kh=>xe ?_;have hR:=kf.D kg;have hl8:=kh.lt;have hz1:=kf.size;refine Qc<|Q3 (my.I kg) O O<|Qa<|Qa<|Qw<|(Qg7 (h.I hR) hok hn (hf.I hR) ke (hu.I hR)).S ?_;rintro r3 w3 ⟨ki,bp,q,rfl,mz,m0,m1,hbl,hP,hF⟩;refine Qb ?_;subst mz m0 m1;have hq:PzQ q:=⟨hok,hn⟩;have m2:=hR.D ki;have hlF:=hF.lt;refine Qc<|QT (Ks (nS) (nS) (nS) 0) λb10 J h7 m3 kj=>xe ?_;have gk:=m2.D h7;have hz4:=h7.size;have hS:=kj.lt;have hr:b10≠q.bl:=oa
 have gl:q.bl<J.heap.size:=oa
 have m4:PzA [b10,q.bl] ↑J bp q:=(hP.up (λb hb=>by
  simp only[oK,oH,or_false]at hb;rcases hb with rfl|rfl
  ·exact .inr m3
  exact .inl od)).I h7
 have m5:=Qlp q.n forb;have h8:∀{w'},O3 [b10,q.bl] J w'->PzA [] ↑w' bp q:=λhs=>(m4.st hs).up od;refine Qe<|Ql<|QG (hf.I gk) O<|Qa<|xe<|QX (α:=Nat×Int×O0×List Rz) [(12,12),(25,39)] (λz=>[(25,sS z.1)]) (λz w'=>z.1<=forb.length/\ReI b10 q J (lf0 q.n forb) z.2.1 z.2.2.1 z.2.2.2 w'/\z.2.2.2.length=z.1/\(z.2.1=0\/z.2.1=1)/\z.2.2.2.map (·.1)=rmF (forb.take z.1)) (λz=>forb.length - z.1) (0,0,nS,[]) La
  ⟨Lo _,⟨O3.Y _ _,kj,QL _ _ _ _,hF.I h7,m5⟩,O,.inl O,O⟩ ?_
 rintro⟨k,rn,vr,lz⟩ g w5 ⟨hk,hI,gm,hT,hU⟩;simp only[]at hk hI gm hT hU;have m6:Qu [] ↑w5 vf forb:=((hf.up (L':=[b10,q.bl]) (λb hb=>by
  simp only[oK,oH,or_false]at hb;exact .inr oa)).I gk |>.st hI.st).up od
 refine Zi rfl O (λgn=>?_) (λgn=>?_)
 ·refine Qt ?_;have hcl:=Ql5 (lf0 q.n forb);have m7:forb.length<=k:=by have hV:¬(k:Int)<(forb.length:Int):=gn;omega
  rw[Lq m7]at hU;refine Qe<|Qc<|Qb<|QX (α:=Nat×Nat×Int×O0×List Rz×Lf) [(13,14),(16,16),(40,71)] (λz=>[(13,sS z.2.1)])
   (λz w'=>ReI b10 q J z.2.2.2.2.2 z.2.2.1 z.2.2.2.1 z.2.2.2.2.1 w'/\z.2.1+z.1=q.n+3/\z.2.2.2.2.1.length<=4096+z.2.1*1000000/\zb q.a q.unc z.1 z.2.2.2.2.2=zb q.a q.unc (q.n+1) (lf0 q.n forb)/\Vw z.2.2.2.2.2+1<=z.1/\z.2.2.2.2.1.map (·.1)++rmL q.a q.unc z.1 (z.2.1:Int) z.2.2.2.2.2=rmA q.a forb q.unc) (λz=>z.1) (q.n+1,2,rn,vr,lz,lf0 q.n forb) La ⟨hI,oe,oe,O,oe,by rw[mv];simp only[hU];rfl⟩ ?_
  rintro⟨f,rank,rn,vr,lz,lf⟩ g w6 ⟨hI,m8,gm,h9,m9,hA⟩;simp only[]at hI m8 gm h9 m9 hA;refine Qe<|Qn<|Ql<|Qa<|Qa<|Qw<|(QhG (h8 hI.st) hq hI.F hI.n rank).S ?_;rintro r7 w7 ⟨hW,hB,kk⟩;have hg:=Qla q.a q.unc lf;have kn:=λ(f:Nat) (h:(nxs q.a q.unc lf).length≠0)=>Qhi (a:=q.a) (ul:=q.unc) (f:=f) (rk:=(rank:Int)) (lf:=lf) h;refine Zg (nxR q.a q.unc lf) λNR pc=>?_;rw[pc]at hB kk hg kn;obtain⟨rs,l⟩:=NR;simp only[]at hB kk hg;refine Qb ?_;have T:=hI.I hW;have ko:Zs [] ↑w7 r7 l.length 4 (l.flatMap (rmC rank rs)):=QM hB oa od;have go:(nxs q.a q.unc lf).length=l.length:=by rw[<-hg,Lm]
  have gq:=Qnw (ul:=q.unc) hok hn hI.n;rw[<-hg]at gq;refine Qe<|Ql<|QG ko O<|x (Zd O O)<|xe<|Zh O (λgr=>?_) (λgr=>?_)
  ·refine Qt ?_;have hC:l.length=0:=by have h49:(l.length:Int)=0:=gr;omega
   rw[QfA (by rw[go];exact hC)]at h9;rw[Qhj (by rw[go];exact hC),LF]at hA;rw[<-h9]at hQ gj;refine Qc<|Q7 O<|Qs O T.B10 O O<|Qw<|(Qft T.R oa).S ?_;rintro r8 U ⟨ha,gs⟩;have pd:rmS q.a forb q.unc=(qd lz).map (·.1):=by unfold rmS;rw[<-hA,Qa8]
   refine xe ?_;have hge:=Qi T.R;have gt:O3 [b10,q.bl] J U:=T.st.O ha (λb hb=>.inr (hge b hb).1);have gu:QK ↑U b10 148 (Ks (nS) (nS) vr rn):=T.B10.J ha (λhb=>oo (hge _ hb).1);have kq:QK ↑U q.bl 4 (lf.map Value.bool):=T.F.J ha (λhb=>oo (hge _ hb).1);have kr:=QA gs;have hz8:=gt.size;refine Qe<|Ql<|Qw<|(Ug (h8 gt) hq kq T.n).S ?_;rintro r9 G ⟨V,bD,rfl,hbD,kt,hX⟩;refine Zg (dsts q.a lf) λD hD=>?_;rw[hD]at kt hX;have ku:Qu [b10] ↑G (sL bD q.n q.n) D:=by
    have S:=kt.arr (L:=[b10]) ol (n:=q.n) (cap:=q.n) (sz:=1) (by simp[hX]) oa (Lp _);unfold Qu;rw[hX];exact S
   have pf:=gt.D V;have hz9:=V.size;have pg:=kq.I V;refine QG ku O<|Qa<|xe<|QX (α:=Nat×O0×O0×LI×LI) [(17,18),(79,107)] (λz=>[(79,sS z.1)])
    (λz w'=>z.1<=D.length/\O3 [b10] G w'/\QK ↑w' b10 148 (Ks z.2.1 z.2.2.1 vr rn)/\Qh 3 ↑G w' z.2.1 z.2.2.2.1/\Qh 3 ↑G w' z.2.2.1 z.2.2.2.2/\Dj z.2.1 z.2.2.1/\z.2.2.2.1.length<=z.1/\z.2.2.2.2.length<=z.1/\z.2.2.2.1=kpK lf z.1/\z.2.2.2.2=kpD lf D z.1) (λz=>D.length - z.1) (0,nS,nS,[],[]) La
    ⟨Lo _,O3.Y _ _,gu.I V,QL _ _ _ _,QL _ _ _ _,Dj.nil' _,Lp _,Lp _,O,O⟩ ?_
   rintro⟨i,vk,vd,lk,ld⟩ g hE ⟨hi,Y,hG,hK,hh,hY,ph,hld,hZ,ga⟩;simp only[]at hi hG hK hh hY ph hld hZ ga;have hz10:=Y.size;have gb:O3 [b10,q.bl] J hE:=pf.O Y (λb hb=>.inl (by simp only[oF]at hb;simp[hb]));have kv:QK ↑hE q.bl 4 (lf.map Value.bool):=pg.J Y (ou hr.symm);refine Zi O O (λgv=>?_) (λgv=>?_)
   ·refine Qt<|Ql<|Qw<|(zg (h8 gb) hq kv T.n).S ?_;rintro r11 pj ⟨hp,_,o,rfl,⟨sa,sm,se,rfl,gx⟩,gy⟩;rw[<-hQ]at gx;have ht:=gx [] od;refine Qa<|QQ O O<|QQ O O<|Q7 O<|Qo<|JW (us:=[sa,sS SA.st,sm,se]) (hG.I hp) O (by rw[<-hQ];rfl) O od ⟨ht.al.one,rfl,ht.mr.one,ht.ed.one,Z⟩ rfl λw12 gc pn =>
     Q7 rfl<|Qo<|Qv (j:=8) (u:=o) pn O O od gy λw13 ge po=>xe ?_
    have pp:b8∉[b10,q.bl]:=by simp only[oK,oH,or_false];omega
    have kw:b8∉[b10]:=ol
    have pt:=(((((kh.I (ki.D h7)).J gb pp).I hp).J gc kw).J ge kw);refine Qc<|Q3 po O O<|Q5 [vk,vd,vr,sS rn,sa,sS SA.st,sm,se,o] pt ⟨QA hK,QA hh,kr,O,ht.al.one,O,ht.mr.one,ht.ed.one,gy,Z⟩ λpu gz pw=>xe ?_;have pz:∀b∈[b10,q.bl],↑w<=b:=λb hb=>by simp only[oK,oH,or_false]at hb;omega
    have p0:sW w pu:=((((gk.O gb (λb hb=>.inr (pz b hb))).D hp).Q gc oa).Q ge oa).Q gz oa;refine Qk ⟨[.agg #[vk,vd,vr,sS rn,sa,sS SA.st,sm,se,o]],⟨JN pw,Z⟩,p0,vk,vd,vr,sS rn,sa,sm,se,o,O,⟨QA hK,QA hh,kr,O,gy,Z⟩,λL hL=>?_⟩;have gg:∀N,↑J<=N->∀b∈b10::b8::L,b<N:=λN hN b hb=>by
     simp only[oK]at hb;rcases hb with rfl|rfl|hb
     ·omega
     ·omega
     have:=hL b hb;omega
    have S:=gx (b10::b8::L) (gg _ oa);have h2:=((S.st (gc.S od)).st (ge.S od)).st (gz.S od);have p4:i=q.n:=by have p5:¬(i:Int)<(D.length:Int):=gv;omega
    subst p4;have hrl:(qd lz).length=lz.length:=qY lz;have h3:QaV (b10::b8::L) ↑hE vk vd vr q.a forb q.unc:=by
     refine⟨?_,?_,?_⟩
     ·rw[gj,h6,<-hZ];exact Qh.ints hK oa (gg _ oa)
     ·rw[gj,h6,hD,<-ga];exact Qh.ints hh oa (gg _ oa)
     rw[pd,Lm,QlN];have p6:=Qi gs;refine(((QM gs oa (λb hb p7=>oq (p6 b hb).1 (gg _ (Lp _) b p7)):Zs (b10::b8::L) ↑U vr (qd lz).length 4 ((qd lz).flatMap qe)).I V).st (Y.S od))
    have h4:=((((h3.st (hp.any)).st (gc.S od)).st (ge.S od)).st (gz.S od)).up (L':=L) (λb hb=>.inl (by simp[hb]));exact⟨h2.up (λb hb=>.inl (by simp[hb])),h4⟩
   refine Qf ?_;have hv:i<D.length:=by have p5:(i:Int)<(D.length:Int):=gv;omega
   have g0:i<lf.length:=by rw[T.n,<-hX];exact hv
   have p8:lf[i]'g0=lf.getD i false:=by simp[oO,g0]
   refine Qe<|Qn<|Ql<|xii (i:=i) (ku.st Y) O O hv λa82 kx=>?_;refine Zg (D[i]'hv) λd hd=>?_;rw[hd]at kx;refine x (Qq kx O)<|x Qd<|Qb<|Ql<|ZY O<|Qs O (h8 gb).B O O<|Qa<|x (QE (i:=i) O O oa)<|x (v:=.bool (lf.getD i false)) ((JB (i:=i) kv O g0).D (by rw[p8]))<|xe<|Q0 O (λg2=>?_) (λg2=>?_)
   ·have hH:∀{v:O0} {l:LI} {w':OZ},Qh 3 ↑G w' v l->b10∉ob v:=λho E=>oo (Qi ho b10 E).1
    refine Qc<|Q7 O<|Qs O hG O O<|Qa<|Qo<|Q2 [[sS i]] λb95 y1 hw hb95 p9=>Qo<|QZ (m:=1) (news:=[sS i]) (L:=[]) (Qm hK hw) O O O (p9.at od) om oa (oo hw.size) λhJ y2 kz gh qf =>
     Q7 rfl<|Q7 O<|Qo<|Qv (j:=0) (u:=hJ) ((hG.I hw).J gh (hH hK)) O O od (QA kz) λy3 g3 k0=>xe ?_
    have qj:Qh 3 ↑G y2 hJ (lk++[(i:Int)]):=Qh.snoc kz;have hzy1:=hw.size;have hzy2:=gh.size;have hzy3:=g3.size;have ql:Qh 3 ↑G y2 vd ld:=Qg (Qm hh hw) gh (λb hb E=>hY b E hb);have k4:Dj hJ vd:=λb hb E=>by
     rcases qf b hb with S|S
     ·exact hY b S E
     have:=QU hh b E;omega
    have k5:∀{v:O0} {l:LI},Qh 3 ↑G y2 v l->Qh 3 ↑G y3 v l:=λho=>Qg ho g3 (λb hb E=>by simp only[oF]at E;subst E;exact hH ho hb);have k6:=k5 qj;have g4:=k5 ql;have q0:O3 [b10] G y3:=(((Y.D hw).O gh (λb hb=>.inr (Qi hK b hb).1))).V g3;refine Qr<|Q7 O<|Qs O k0 O O<|Qa<|Qo<|Q2 [[sS d]] λb103 y4 hz hb103 q4=>Qo<|QZ (m:=1) (news:=[sS d]) (L:=[]) (Qm g4 hz) O O O (q4.at od) om oa (oo hz.size) λg5 y5 k9 g6 q5 =>
     Q7 rfl<|Q7 O<|Qo<|Qv (j:=1) (u:=g5) ((k0.I hz).J g6 (hH g4)) O O od (QA k9) λy6 g7 j1=>xe ?_
    have ma:Qh 3 ↑G y5 g5 (ld++[d]):=Qh.snoc k9;have mc:=Qpy (lf:=lf) (n:=i) g2;have j2:O4 D i=d:=by unfold O4;simp[oO,hv,hd]
    have mf:Qh 3 ↑G y5 hJ (lk++[(i:Int)]):=Qg (Qm k6 hz) g6 (λb hb E=>k4 b hb E);have hzy4:=hz.size;refine Qr<|QB O O<|Qa<|xe<|⟨(i+1,hJ,g5,_,_),oe,La,hv,(((q0.D hz).O g6 (λb hb=>.inr (Qi g4 b hb).1))).V g7,j1,Qg mf g7 (λb hb E=>by simp only[oF]at E;subst E;exact hH mf hb),Qg ma g7 (λb hb E=>by simp only[oF]at E;subst E;exact hH ma hb),λb hb E=>?_,by simp only[oM,oL];omega,by simp only[oM,oL];omega,by simp only[];unfold kpK;rw[mc,Lv,hZ];rfl,by simp only[];unfold kpD;rw[mc,Lv,ga,<-j2];rfl⟩;rcases q5 b E with S|S
    ·exact k4 b hb S
    have:=QU k6 b hb;omega
   refine Qf<|Qr<|QB O O<|Qa<|xe ?_;have mg:=Qpz (lf:=lf) (n:=i) g2;exact⟨(i+1,vk,vd,lk,ld),oe,La,hv,Y,hG,hK,hh,hY,oe,oe,by unfold kpK;rw[mg];exact hZ,by unfold kpD;rw[mg];exact ga⟩
  refine Qf ?_;have hC:¬l.length=0:=λe=>gr (by show(l.length:Int)=0;omega);have g8:(nxs q.a q.unc lf).length≠0:=by rw[go];exact hC
  have j3:=Qh0 g8;refine Exists.elim (Nh (show f≠0 by omega)) λf' j4=>?_;subst j4;rw[Qfz g8,<-hg]at h9;rw[kn f' g8,<-hg]at hA;rw[<-hg]at j3;refine Exists.elim (QmE (rk:=(rank:Int)) (rs:=rs) l (λx hx=>oo (gq x hx))) λln h5=>?_;refine Qe<|Ql<|QG ko O<|Qa<|xe<|QX (α:=Nat) [(16,16),(51,62)] (λz=>[(51,sS z)]) (λz w'=>z<=l.length/\O3 [q.bl] w7 w'/\ReI b10 q J (((l.take z).map (·.1)).foldl cut lf) rn vr lz w') (λz=>l.length - z) 0 La ⟨Lo _,O3.Y _ _,T⟩ ?_;rintro j g U ⟨hj,ha,I⟩;have hT:∀b∈ob r7,b≠q.bl:=λb hb e=>oq (Qi hB b hb).1 hI.st.size
  have za:RmO ↑w6 U r7 rank rs l:=Qg hB ha (λb hb E=>hT b hb (ou E));have mh:Zs [q.bl] ↑U r7 l.length 4 (l.flatMap (rmC rank rs)):=QM za oa (λb hb E=>hT b hb (ou E));refine Zi O O (λg9=>?_) (λg9=>?_)
  ·refine Qt ?_;have z0:l.length<=j:=by have gi:¬(j:Int)<(l.length:Int):=g9;omega
   rw[Lq z0]at I;obtain⟨ad,cap7,z2,_,z3⟩:∃ad cap,r7=.slice (some ad) l.length cap/\l.length<=cap/\At [q.bl] ↑U ad (l.flatMap (rmC rank rs)):=by
    rcases mh.2.2 with⟨_,h0⟩|S
    ·exact OU h0 hC
    exact S
   refine Qc<|Q7 O<|Qs O I.B10 O O<|Qa<|Qo<|QZ (m:=l.length) (news:=l.flatMap (rmC rank rs)) (L:=[q.bl]) I.R O z2 (by rw[<-h5.1,jW,h5.2.1]) z3 (by rw[<-h5.1];exact Qew ln) oa I.st.size λka z4 mj mo hn22 =>
    Q7 rfl<|Q7 O<|Qo<|Qv (j:=2) (u:=ka) (I.B10.J mo (λhb=>oo (Qi I.R _ hb).1)) O O od (QA mj) λw23 z5 hB23=>xe ?_
   have hR22:RzO ↑J z4 ka (lz++ln):=RzO.snoc (by rw[h5.1,h5.2.1];exact mj);have mq:=I.app gl hS hr mo hR22 z5 hB23;refine Qr<|Qa<|Q7 O<|Qo<|Qv (j:=3) (u:=sS rank) mq.B10 O O od rfl λw24 hs24 hB24=>xe ?_;have hI24:=mq.rounds hS hr hs24 hB24;have hra:(-9223372036854775808:Int)<=(rank:Int)+1:=oa
   have hrb:(rank:Int)+1<=9223372036854775807:=oa
   refine Qr<|Qa<|x (Xd O O ⟨hra,hrb⟩)<|Qb<|⟨(f',rank+1,(rank:Int),ka,lz++ln,(l.map (·.1)).foldl cut lf),oe,La,hI24,oe,by simp only[oM];omega,h9,oe,by simp only[List.map_append,h5.2.2];rw[LC];exact hA⟩
  refine Qf ?_;have he:j<l.length:=by have gi:(j:Int)<(l.length:Int):=g9;omega
  have htk:l.take (j+1)=l.take j++[l[j]'he]:=Lh he;have ms:((l.take (j+1)).map (·.1)).foldl cut lf=cut (((l.take j).map (·.1)).foldl cut lf) (l[j]'he).1:=by rw[htk,Lv,Mh];rfl
  have hxr:=gq (l[j]'he).1 (LG (Lk he));refine Zg (l[j]'he) λy hy=>?_;rw[hy]at ms hxr;have hyn:y.1=(y.1.toNat:Int):=oa
  refine Qe<|Qn<|Qc<|O6 (g:=rmC rank rs) (i:=j) (Qel rank rs) mh O O he λa53 gi=>?_;rw[hy]at gi;refine x (QF gi O O)<|QT [sS 0,sS 0,sS 0,sS 0] λb16 G V hb16 kb=>Q5 (rmC rank rs y) kb oy λhE Y kb=>xe ?_;have mt:sW U hE:=V.Q Y hb16;have kc:=I.I mt;have hnn:=I.n;refine ZH [] (Y0 0 8 [7])<|p Qx<|p (YE O)<|p (QH O)<|pq (λ_ hc=>Qj ((h8 kc.st).B.I hc) O O)<|p (QH O)<|pq (λ_ hc=>Qj (kb.I hc) O O) <|
   p (λ_=>QE (i:=y.1.toNat) O (OT sS hyn) oa)<|pkk<|zi (i:=y.1.toNat) (kc.F.I (O3.X _ _)) O O oa λpj hp hF11=>pe ?_
  refine Qr<|QB O O<|Qa<|xe<|⟨j+1,oa,La,he,((ha.D mt).D (O3.X _ _)).V hp,?_⟩;rw[ms];exact(kc.I (O3.X _ _)).cut gl hr hp hF11 (by rw[Qe0];exact hnn)
 refine Qf ?_;have hM:k<forb.length:=by have hV:(k:Int)<(forb.length:Int):=gn;omega
 have hxk:=ke _ (Lk hM);refine Zg (forb[k]'hM) λy hy=>?_;rw[hy]at hxk;refine Qe<|Qn<|Qc<|xii (i:=k) m6 O O hM λa27 hV=>?_;rw[hy]at hV;refine x (Qq hV O)<|Qb<|Qc<|Q7 O<|Qs O hI.B10 O O<|Qa<|x (QC ⟨O,O,O,O,Z⟩)<|Qo<|Q2 [[sS y,sS 1,sS 1,sS (-1)]] λb34 w6 hs6 hb34 hB34=>?_;have hO:=hI.I hs6;refine Qo<|QZ (m:=1) (news:=[sS y,sS 1,sS 1,sS (-1)]) (L:=[]) hO.R O O O (hB34.at od) om oa hO.st.size λv7 w7 mu hW hn7 =>
  Q7 rfl<|Q7 O<|Qo<|Qv (j:=2) (u:=v7) (hO.B10.J hW (λhb=>oo (Qi hO.R _ hb).1)) O O od (QA mu) λU ha gu=>xe ?_
 have hR7:RzO ↑J w7 v7 (lz++[⟨(y,1,1,-1),oe⟩]):=RzO.snoc mu;have hfk:rmF (forb.take (k+1))=rmF (forb.take k)++[(y,1,1,-1)]:=by unfold rmF;rw[Lh hM,Lv,hy];rfl
 have I:=hO.app gl hS hr hW hR7 ha gu;refine Qr<|Q7 O<|Qo<|Qv (j:=3) (u:=sS 1) I.B10 O O od rfl λG V hB9=>xe ?_;have hI9:=I.rounds hS hr V hB9;refine Qr<|QB O O<|Qa<|xe ?_;exact⟨(k+1,1,v7,_),oe,La,hM,hI9,by simp only[oM,oL];omega,.inr O,by simp only[List.map_append,hU,hfk];rfl⟩
instance:Bw sV 148 (Ks (nS) (nS) (nS) 0) [(0,3),(3,1),(4,4),(8,1)]:={}
theorem Qnd {c:Z3}{pl:QD}{ps:List (LI)}{l:List (LI)}:∀r∈spF c pl ps l,0<=r.st/\r.st<(l.length:Int):=λr G=>by
 unfold spF at G;obtain⟨⟨t,i⟩,I,E⟩:=MO.1 G;have hi:=List.snd_lt_add_of_mem_zipIdx I;simp only[oX]at hi;have J:r.st=(i:Int):=by
  unfold rsn at E;split at E
  ·cases E;rfl
  split at E
  ·cases E;rfl
  cases E
 omega
theorem Qha {c:Z3}(h:YQ c=0):Q8 (spc c).a/\(∀x∈fbs (spc c),0<=x/\x<(spc c).a.st)/\(fbs (spc c)).length<=4096/\(spc c).fb.length<=4096/\Xu c.ev=0:=by
 unfold YQ at h;by_cases G:Z2 c≠0
 ·rw[OS G]at h;exact OU h G
 rw[OR G]at h;have hck:Z2 c=0:=Lt.1 G;have hok:=YI hck;by_cases I:Vd (O5 c.co)≠0
 ·rw[OS I]at h;exact OU h I
 rw[OR I]at h;cases J:xj (O5 c.co) with
 | none=>rw[J]at h;cases h
 | some z =>
  rw[J]at h;by_cases S:Vd (O5 c.co++O5 c.rq)≠0
  ·rw[OS S]at h;exact OU h S
  rw[OR S]at h;cases T:xj (O5 c.co++O5 c.rq) with
  | none=>rw[T]at h;cases h
  | some y =>
   have U:∀a∈O5 c.co++O5 c.rq,Q8 a:=λa E=>by
    rcases Le.1 E with E|E
    ·exact YO hok.co a E
    exact YO hok.rq a E
   have hsp:=(YK U (A:=y.1) (Q:=y.2) T).1;have hl:=Qeg c z.1 z.2 y.2;have Y:=hsp.le;rw[(jT (c:=c) (pl:=z.1) (ps:=z.2) (sa:=y.1) (ts:=y.2) J T)];unfold fbs;refine⟨hsp.okay U,λx hx=>?_,by rw[Lm];simp only[];omega,oe,hok.e0⟩;obtain⟨r,V,rfl⟩:=Ly.1 hx;have:=Qnd r V;rw[hsp.st];exact this
theorem st4 (r:Rsn):(ZW r).length=4:=rfl
theorem QcR (h0:Z0 L ↑w c)(hQ:Kb w 4096):
  QS sV 67 [c.val] w λr w'=>sW w w'/\∃us c0 J T c3 sa sm se o,r=.tuple #[sT us,.agg #[c0,J,T,c3,sa,sS (if YQ c.C=0 then(qy c.C).st else 0),sm,se,o],sS (YQ c.C)]/\us.length=8/\ZK us/\ZK [c0,J,T,c3,sa,sm,se,o] /\
   (YQ c.C≠0->sa=nS/\sm=nS/\se=nS)/\(YQ c.C=0->∀L:LN,(∀b∈L,b<↑w)->Zp L ↑w' sa sm se (qy c.C)/\QaV L ↑w' c0 J T (spc c.C).a (fbs (spc c.C)) (unc c.C.ev)):=by
 have h:=h0.up (L':=[]) od;have ho:qy c.C=jO (spc c.C).a (fbs (spc c.C)) (unc c.C.ev):=rfl;have hR:c.C.ev=c.ev:=rfl;have hp:=Qha (c:=c.C);refine Zg (qy c.C) λSA hT=>?_;rw[hT]at ho ⊢;refine Zg (YQ c.C) λE hE=>?_;rw[hE]at hp ⊢;refine Zg (spc c.C) λS hS=>?_;rw[hS]at hp ho ⊢;rw[hR]at hp ho ⊢;refine Zl func67 ?_;refine Qc<|Zc c.cells λb1 w1 hC gy hD=>QT [nS,sS 0,nS,nS,nS,nS,nS,nS] λb2 w2 h3 gz hq=>QT (Ks (nS) (nS) (nS) 0) λb3 w3 hs g0 ht=>Qb ?_;have h4:=(hC.D h3).D hs;have g2:=hC.size;have g3:=hq.lt;have g4:=ht.lt;have hsp:=yh (h.I h4) (hQ.I h4);rw[hE,hS]at hsp;refine Qc<|Q3 ((hD.I h3).I hs) O O<|Qw<|hsp.S ?_;rintro r4 w4 ⟨hg,v,rfl,⟨us,rfl,h5,h6⟩,hF⟩;have g5:=hg.size;refine Qa<|QQ O O<|QQ O O<|QT [nS,sS 0,nS,nS,nS,nS,nS,nS] λb5 w5 hV hW hh=>Qo<|ZJ (us:=us) hh O O h5 O h6 λw6 hX hh=>Qb ?_;have Y:sW w4 w6:=hV.Q hX hW;have h7:=(h4.D hg).D Y;have hG:=(hq.I (hs.D hg)).I Y;have hH:=(ht.I hg).I Y;have g6:=hh.lt;refine Qe<|Ql<|ZL O O<|xe<|Zh rfl (λhu=>?_) (λhu=>?_)
 ·refine Qc<|x (ZC [] Z)<|x (ZC [] Z)<|Qa<|Q5 [nS,sS 0,nS,nS,nS,nS,nS,nS] hG ⟨O,O,O,O,O,O,O,O,Z⟩ λw7 G hY =>
   Q5 (Ks (nS) (nS) (nS) 0) (hH.J G ol) ⟨O,O,O,O,O,O,O,O,O,Z⟩ λw8 hv hZ=>Qb<|Qk ⟨[.agg #[nS,sS 0,nS,nS,nS,nS,nS,nS],.agg (Ks (nS) (nS) (nS) 0).toArray,sS E],⟨JN (hY.J hv ol),JN hZ,O,Z⟩,(h7.Q G oa).Q hv oa,[nS,sS 0,nS,nS,nS,nS,nS,nS],nS,nS,nS,sS 0,nS,nS,nS,nS,by rw[OR hu];rfl,O,⟨O,O,O,O,O,O,O,O,Z⟩,⟨O,O,O,O,O,O,O,O,Z⟩,λ_=>⟨O,O,O⟩,λe=>OU e hu⟩
 have hw:E=0:=Lt.1 hu;obtain⟨ga,gb,gc,g7,hI⟩:=hp hw;obtain⟨va,vm,ve,v1,v2,v3,v4,cos,rqs,ge,_,_,gg⟩:=hF hw;have gh:us=[va,sS S.a.st,vm,ve,v1,v2,v3,v4]:=by
  have h1:=OT (λv=>match v with|Value.agg a=>a.toList|_=>[]) ge
  simpa using h1
 subst gh;have hJ:=(gg [] od);have gi:=hJ.1.I Y;have hK:=hJ.2.2.2.2.I Y;refine Qf<|Qc<|Qb<|Qe<|Qc<|Qs O hh O O<|QG hK O<|Qa<|xe<|QX (α:=Nat×O0) [(7,7),(9,9),(24,33)] (λz=>[(7,z.2),(24,sS z.1)]) (λz w'=>z.1<=S.fb.length/\sW w6 w'/\Qh 3 ↑w6 w' z.2 ((S.fb.take z.1).map (·.st))) (λz=>S.fb.length - z.1) (0,nS) ov ⟨Lo _,O3.Y _ _,QL _ _ _ _⟩ ?_;rintro⟨k,vf⟩ g w7 ⟨hk,G,U⟩;simp only[]at hk U;refine Zi rfl O (λh8=>?_) (λh8=>?_)
 ·refine Qt ?_;have gj:S.fb.length<=k:=by have hy:¬(k:Int)<(S.fb.length:Int):=h8;omega
  rw[Lq gj]at U;have U:Qh 3 ↑w6 w7 vf (fbs S):=U;have gk:=h7.D G;have gl:=G.size;refine Qc<|Q7 O<|x (Qj ((hD.I (h3.D hs)).I ((hg.D Y).D G)) O O)<|Qw<|(jG (h.ev.I gk)).S ?_;rintro g8 V ⟨ha,vu,rfl,hU⟩;rw[OS hI]at hU;refine Qa<|QQ O O<|QQ O O<|x Qd<|Qb<|Qe<|Ql<|ZL O O<|xe<|Zh O (λgm=>OU hI gm) (λ_=>?_);refine Qf ?_;have h5:(unc c.ev).length<=1099511627776:=Lx (qI _ c.ev 0) h.ev.arr.le;have he:=G.D ha;have gn:=gi.I he;have hz:sW V { V with drawn:=V.drawn+1 }:=O3.X _ _
  have hM:=hh.I he;have hN:b5∉[b2]:=ol
  have g9:=he.size;refine Qe<|ZH [b2] (Y0 0 9 [5,6,7])<|pq (λ_ hc=>Zb (hM.J hc hN) O O)<|p (QH O)<|pq (λ_ hc=>ZQ (us:=[va,sS S.a.st,vm,ve]) (hM.J hc hN) O O O) <|
   p Qx<|p Qx<|pk<|xg<|(Qfy (gn.I hz) ga (((Qh.ints (L:=[]) U oa od).I ha).I hz) gb gc ((Qh.ints (L:=[]) hU h5 od).I hz)).S ?_
  rintro ka kb ⟨go,c0,J,T,c3,sa,sm,se,o,rfl,I,h9⟩;have hj:=hz.D go;refine⟨hj.any,?_⟩;have hO:jO S.a (fbs S) (unc c.ev)=SA:=ho.symm;rw[hO]at h9;have hf:=(h9 [] od).1;refine pk<|UG [va,sS S.a.st,vm,ve,v1,v2,v3,v4] ((hG.I he).I hj) h6 λkc hm hq=>⟨hj.any.V hm,?_⟩;refine pkk<|ZJ (us:=[c0,J,T,c3,sa,sS SA.st,sm,se,o]) (((hH.I he).I hj).J hm ol) O (by rw[<-hO];rfl) O O ⟨I.1,I.2.1,I.2.2.1,I.2.2.2.1,hf.al.one,O,hf.mr.one,hf.ed.one,I.2.2.2.2.1,Z⟩ λke h2 ht=>p ZA<|pe ?_;have gq:b2∉[b3]:=ol
  refine Qk ⟨[.agg #[va,sS S.a.st,vm,ve,v1,v2,v3,v4],.agg #[c0,J,T,c3,sa,sS SA.st,sm,se,o],sS 0],⟨JN (hq.J h2 gq),JN ht,O,Z⟩,
   (((h7.D he).D hj).Q hm oa).Q h2 oa,_,c0,J,T,c3,sa,sm,se,o,by rw[hw,OS rfl];rfl,O,h6,⟨I.1,I.2.1,I.2.2.1,I.2.2.2.1,hf.al.one,hf.mr.one,hf.ed.one,I.2.2.2.2.1,Z⟩,λe=>OU hw e,λ_ L hL=>?_⟩
  have h1:=h9 (b2::b3::L) (λb hb=>by
   have kf:({ V with drawn:=V.drawn+1 }:OZ).heap.size=V.heap.size:=rfl
   simp only[oK]at hb;rcases hb with rfl|rfl|hb
   ·omega
   ·omega
   have:=hL b hb;omega)
  exact⟨((h1.1.st (hm.S od)).st (h2.S od)).up (λb hb=>.inl (by simp[hb])),((h1.2.st (hm.S od)).st (h2.S od)).up (λb hb=>.inl (by simp[hb]))⟩
 refine Qf ?_;have hn:k<S.fb.length:=by have hy:(k:Int)<(S.fb.length:Int):=h8;omega
 have hP:S.fb.take (k+1)=S.fb.take k++[S.fb[k]'hn]:=Lh hn;have kg:((S.fb.take k).map (·.st)).length=k:=by rw[Lm,LA];omega
 refine Zg (S.fb[k]'hn) λr hr=>?_;rw[hr]at hP;refine Qe<|Qn<|Qc<|O6 (g:=ZW) (i:=k) st4 (hK.I G) O O hn λkh hy=>?_;rw[hr]at hy;refine x (QF hy O O)<|QT [sS 0,sS 0,sS 0,sS 0] λb9 w8 hv gr hA=>Q5 (ZW r) hA oy λw9 gs hA=>xe ?_;have hB:sW w7 w9:=hv.Q gs gr;have ki:=hB.size;have gl:=G.size;refine Qr<|Qa<|Qs O hA O O<|Qo<|Q2 [[sS r.st]] λkj V ha kk gt =>
  Qo<|QZ (m:=1) (news:=[sS r.st]) (L:=[]) (Qm U (hB.D ha)) O O O (gt.at od) om oa (oo ha.size) λgu kn gv gx ko=>Qb<|Qr<|QB O O<|Qa<|xe ?_
 refine⟨(k+1,gu),oe,ov,hn,((G.D hB).D ha).O gx (λb hb=>.inr (Qi U b hb).1),?_⟩;simp only[];rw[hP,Lv];exact Qh.snoc gv
theorem Vk (h0:Z0 L ↑w c)(he:Kb w 4096):
  QS sV 29 [c.val] w λr w'=>sW w w'/\∃sa sm se,r=.tuple #[.agg #[sa,sS (if YQ c.C=0 then(qy c.C).st else 0),sm,se],sS (yL c.C)]/\ZK [sa,sm,se] /\
   (yL c.C≠0->sa=nS/\sm=nS/\se=nS)/\(yL c.C=0->∀L:LN,(∀b∈L,b<↑w)->Zp L ↑w' sa sm se (qy c.C)):=by
 have hf:yL c.C=YQ c.C:=rfl;rw[hf];refine Zl func29 ?_;refine Qc<|Zc c.cells λb1 w1 T hr hg=>QT [nS,sS 0,nS,nS] λb2 w2 U hs G=>Qb ?_;have I:=T.D U;have ht:=T.size;have hu:=G.lt;refine Qc<|Q3 (hg.I U) O O<|Qw<|(QcR ((h0.up (L':=[]) od).I I) (he.I I)).S ?_;rintro r3 w3 ⟨V,us,c0,c1,c2,c3,sa,sm,se,o,rfl,hh,hj,E,hk,hm⟩;refine Zg (if YQ c.C=0 then(qy c.C).st else 0) λN hN=>?_
 rw[hN];refine Qa<|QQ O O<|QQ O O<|QQ O O<|QT [nS,sS 0,nS,nS,nS,nS,nS,nS] λb4 w4 hn hv J=>QT (Ks (nS) (nS) (nS) 0) λb5 w5 Y hw ho =>
  Qo<|ZJ (us:=us) (J.I Y) O O hh O hj λw6 ha hy=>Q5 [c0,c1,c2,c3,sa,sS N,sm,se,o] (ho.J ha (by have:=J.lt;simp only[oF];omega)) ⟨E.1,E.2.1,E.2.2.1,E.2.2.2.1,E.2.2.2.2.1,O,E.2.2.2.2.2.1,E.2.2.2.2.2.2.1,E.2.2.2.2.2.2.2.1,Z⟩ λw7 hp hq=>Qb ?_
 have hz:=J.lt;have S:sW w3 w7:=((hn.D Y).Q ha oa).Q hp oa;refine Qc<|Q7 O<|x (ZQ (us:=[sa,sS N,sm,se]) hq O O O)<|Qa<|Q5 [sa,sS N,sm,se] ((G.I V).I S) ⟨E.2.2.2.2.1,O,E.2.2.2.2.2.1,E.2.2.2.2.2.2.1,Z⟩ λw8 hc G=>Qb<|Qk ⟨[.agg #[sa,sS N,sm,se],sS (YQ c.C)],⟨JN G,O,Z⟩,((I.D V).D S).Q hc oa,sa,sm,se,O,⟨E.2.2.2.2.1,E.2.2.2.2.2.1,E.2.2.2.2.2.2.1,Z⟩,hk,λe L hL=>?_⟩;have h1:=hm e (b2::L) (λb hb=>by
  simp only[oK]at hb;rcases hb with rfl|hb
  ·omega
  have:=hL b hb;omega)
 exact((h1.1.I S).st (hc.S od)).up (λb hb=>.inl (by simp[hb]))
section
variable {s:QD}{l:List VH}
end
section
variable {s:QD}{l:List VH}
end
section
variable {s:QD}{l:List VH}
end
section
variable {p s:QD}{pairs:List (LI)}
end
section
variable {s:QD}{l:List VH}
end
section
variable {s:QD}{l:List VH}{nm:LI}
end
def cnF (ord:LI)(j:Nat)(e:Ed):Ed:=((j:Int),e.2.1,(ord.idxOf e.2.2:Int))
def cnR (a:QD)(ord:LI)(j:Nat):List Ed:=(QO a.ed (Z7 ord j)).map (cnF ord j)
theorem QbS {r:LI}(h:j<l.length):Z7 (l++r) j=Z7 l j:=by unfold Z7;rw[ML];exact z9 h
structure NuI (st:Int)(ord num:LI):Prop where
 nd:ord.Nodup
 bd:∀s∈ord,0<=s/\s<st
 nl:num.length=st.toNat
 nu:∀k,0<=k->k<st->Z7 num k=if k∈ord then(ord.idxOf k:Int) else -1
theorem QcX {st:Int}{c:Cs}(h:NuI st c.ord c.num){e:Ed}(T:0<=e.2.2)(U:e.2.2<st):NuI st (Zq i c e).ord (Zq i c e).num/\(∃r,(Zq i c e).ord=c.ord++r)/\(Zq i c e).mk'=c.mk'/\(Zq i c e).ed=c.ed++[cnF (Zq i c e).ord i e]/\e.2.2∈(Zq i c e).ord:=by
 have G:=h.nu e.2.2 T U;have Y:e.2.2.toNat<c.num.length:=by rw[h.nl];omega
 unfold Zq;by_cases I:e.2.2∈c.ord
 ·rw[OS I]at G;rw[OR (by rw[G];omega)];refine⟨h,⟨[],od⟩,rfl,?_,I⟩;simp only[cnF];rw[G]
 rw[OR I]at G;rw[OS (by rw[G];decide)];have V:(c.ord++[e.2.2]).idxOf e.2.2=c.ord.length:=by rw[Mc,OR I];simp
 refine⟨⟨Kg h.nd I,λs E=>?_,by simp[h.nl],λk k0 k1=>?_⟩,⟨[e.2.2],rfl⟩,rfl,?_,od⟩
 ·rcases Le.1 E with E|E
  ·exact h.bd s E
  simp only[oF]at E;subst E;exact⟨T,U⟩
 ·simp only[];by_cases ek:k=e.2.2
  ·subst ek;rw[OS od,V];unfold Z7;simp[oO,List.getElem?_set_self Y]
  have ha:e.2.2.toNat≠k.toNat:=oa
  have e1:Z7 (c.num.set e.2.2.toNat c.ord.length) k=Z7 c.num k:=by unfold Z7;simp[oO,List.getElem?_set_ne ha]
  rw[e1,h.nu k k0 k1];by_cases J:k∈c.ord
  ·rw[OS J,OS (LM _ J),Mc,OS J]
  rw[OR J,OR (λhc=>by
   rcases Le.1 hc with S|S
   ·exact J S
   simp only[oF]at S;exact ek S)]
 simp only[cnF];rw[V]
theorem qX {st:Int}{i:Nat}:∀(es:List Ed) (c:Cs),NuI st c.ord c.num->(∀e∈es,0<=e.2.2/\e.2.2<st)->NuI st (es.foldl (Zq i) c).ord (es.foldl (Zq i) c).num/\(∃r,(es.foldl (Zq i) c).ord=c.ord++r)/\(es.foldl (Zq i) c).mk'=c.mk' /\
  (es.foldl (Zq i) c).ed=c.ed++es.map (cnF (es.foldl (Zq i) c).ord i)/\∀e∈es,e.2.2∈(es.foldl (Zq i) c).ord
 | [],c,h,_=>⟨h,⟨[],od⟩,rfl,od,λe G=>by cases G⟩
 | e::es,c,h,hb=>by
  obtain⟨I,J⟩:=hb e Ll;obtain⟨S,⟨T,U⟩,V,Y,E⟩:=QcX (i:=i) h I J;obtain⟨k1,⟨r2,k2⟩,k3,k4,k5⟩:=qX (i:=i) es (Zq i c e) S (λd hd=>hb d (Lj _ hd));rw[LO];refine⟨k1,⟨T++r2,by rw[k2,U,LC]⟩,k3.D V,?_,λd hd=>?_⟩
  ·rw[k4,Y,LC,LU];have:cnF (Zq i c e).ord i e=cnF (es.foldl (Zq i) (Zq i c e)).ord i e:=by
    unfold cnF;rw[k2,Mc,OS E]
   rw[this];rfl
  rcases Ln.1 hd with rfl|hd
  ·rw[k2];exact LM _ E
  exact k5 d hd
structure CnG (a:QD)(i:Nat)(c:Cs):Prop where
 nu:NuI a.st c.ord c.num
 le:i<=c.ord.length
 hd:Z7 c.ord 0=0/\0<c.ord.length
 mk2:c.mk'=((oN 0 i).filter λj:Nat=>decide (Z7 c.ord j∈a.mr)).map λj:Nat=>(j:Int)
 ed:c.ed=(oN 0 i).flatMap (cnR a c.ord)
 cl:∀j,j<i->∀e∈QO a.ed (Z7 c.ord j),e.2.2∈c.ord
theorem Ql6 {ord r:LI}(E:j<ord.length)(G:∀e∈QO a.ed (Z7 ord j),e.2.2∈ord):cnR a (ord++r) j=cnR a ord j:=by
 unfold cnR;rw[QbS E];refine List.map_congr_left λe I=>?_;unfold cnF;rw[Mc,OS (G e I)]
theorem CnG.next (U:Q8 a){c:Cs}(h:CnG a i c)(hi:i<c.ord.length):CnG a (i+1) (qi a i c):=by
 unfold qi;have J:(Yi a i c).ord=c.ord:=by unfold Yi;split <;> rfl
 have V:(Yi a i c).num=c.num:=by unfold Yi;split <;> rfl
 have Y:(Yi a i c).ed=c.ed:=by unfold Yi;split <;> rfl
 obtain⟨k1,⟨r,k2⟩,k3,I,S⟩:=qX (st:=a.st) (i:=i) (QO a.ed (Z7 c.ord i)) (Yi a i c) (by rw[J,V];exact h.nu) (λe he=>(U.ed e (ZD he).1).2.2.2);generalize (QO a.ed (Z7 c.ord i)).foldl (Zq i) (Yi a i c)=d at k1 k2 k3 I S;rw[J]at k2;rw[Y]at I;have pre:∀j:Nat,j<=i->Z7 d.ord j=Z7 c.ord j:=λj E=>by rw[k2];exact QbS oa
 refine⟨k1,by rw[k2];simp;omega,⟨by have:=pre 0 oa;rw[show((0:Nat):Int)=0 from rfl]at this;rw[this];exact h.hd.1,by rw[k2];simp;omega⟩,?_,?_,λj E=>?_⟩
 ·rw[k3,Mo,LR,Lv,LS];have e1:((oN 0 i).filter λj:Nat=>decide (Z7 d.ord j∈a.mr))=(oN 0 i).filter λj:Nat=>decide (Z7 c.ord j∈a.mr):=by
   refine List.filter_congr λj E=>?_;rw[Ms]at E;rw[pre j oa]
  rw[e1];unfold Yi;by_cases G:Z7 c.ord i∈a.mr
  ·rw[OS G];simp only[];rw[L7,OS (by rw[pre i (Lp _)];exact OV G),MY,h.mk2];rfl
  rw[OR G];rw[L7,OR (by rw[pre i (Lp _),OX G];simp),MY,h.mk2];simp
 ·rw[I,Mo,LD,LS,h.ed];congr 1
  ·refine Jk λj E=>?_;rw[Ms]at E;rw[k2];exact(Ql6 oa (h.cl j oa)).symm
  simp only[oT,OI,Ol];unfold cnR;rw[pre i (Lp _)]
 by_cases e:j=i
 ·subst e;rw[pre j (Lp _)];exact S
 intro d' T;rw[pre j oa]at T;rw[k2];exact LM _ (h.cl j oa d' T)
theorem jx {a:QD}(G:Q8 a):∀(f i:Nat) (c:Cs),CnG a i c->∃E,CnG a E (Xv a f i c)/\((Xv a f i c).ord.length=E\/E=i+f)
 | 0,i,c,h=>⟨i,h,.inr O⟩
 | f+1,i,c,h=>by
  rw[Xv];split
  ·rename_i hi;obtain⟨E,I,J⟩:=jx G f (i+1) _ (h.next G hi);exact⟨E,I,oa⟩
  exact⟨i,h,.inl (oo h.le)⟩
structure CnP (a:QD)(ord:LI):Prop where
 nd:ord.Nodup
 bd:∀s∈ord,0<=s/\s<a.st
 hd:Z7 ord 0=0/\0<ord.length
 al:(XM a).al=a.al
 st:(XM a).st=(ord.length:Int)
 mk2:(XM a).mr=((oN 0 ord.length).filter λj:Nat=>decide (Z7 ord j∈a.mr)).map λj:Nat=>(j:Int)
 ed:(XM a).ed=(oN 0 ord.length).flatMap (cnR a ord)
 cl:∀j,j<ord.length->∀e∈QO a.ed (Z7 ord j),e.2.2∈ord
theorem Qgg (J:Q8 a)(Y:0<a.st):∃ord,CnP a ord:=by
 have S:0<a.st.toNat:=oa
 have hI:CnG a 0 (YJ a):=by
  refine⟨⟨by simp[YJ],λs I=>by simp[YJ]at I;subst I;omega,by simp[YJ],λk k0 k1=>?_⟩,Lo _,⟨by simp[YJ,Z7],by simp[YJ]⟩,by simp[YJ],by simp[YJ],λj hj=>oa⟩;by_cases ek:k=0
  ·subst ek;rw[OS (by simp[YJ])];unfold Z7 YJ;simp[oO,S]
  rw[OR (by simpa[YJ]using ek)];unfold YJ;have T:0≠k.toNat:=oa
  have U:k.toNat<a.st.toNat:=oa
  unfold Z7;rw[List.getD_eq_getElem?_getD,M4 T];simp[U]
 obtain⟨V,E,h2⟩:=jx J a.st.toNat 0 (YJ a) hI;have ha:(Xv a a.st.toNat 0 (YJ a)).ord.length<=a.st.toNat:=xG _ _ E.nu.nd (λx hx=>oo (E.nu.bd x hx));have hi':V=(Xv a a.st.toNat 0 (YJ a)).ord.length:=by have:=E.le;omega
 subst hi';have G:XM a=⟨a.al,((Xv a a.st.toNat 0 (YJ a)).ord.length:Int),(Xv a a.st.toNat 0 (YJ a)).mk',(Xv a a.st.toNat 0 (YJ a)).ed⟩:=by unfold XM;rw[OR oa]
 refine⟨(Xv a a.st.toNat 0 (YJ a)).ord,E.nu.nd,E.nu.bd,E.hd,by rw[G],by rw[G],?_,?_,E.cl⟩
 ·rw[G];exact E.mk2
 rw[G];exact E.ed
section
variable {p s:QD}{pn xn v:Int}
end
section
variable {s:QD}{l:List VH}
end
theorem Qgh (E:Q8 a):Q8 (XM a):=by
 have h0:=E.st0;have h1:=E.st1;by_cases V:a.st=0
 ·unfold XM;rw[OS V];exact⟨E.al,E.ali,od,od,od,od,od,od⟩
 obtain⟨ord,h⟩:=Qgg E oa;have hl:ord.length<=a.st.toNat:=xG _ _ h.nd (λx hx=>oo (h.bd x hx));refine⟨by rw[h.al];exact E.al,by rw[h.al];exact E.ali,by rw[h.st];omega,by rw[h.st];omega,λs I=>?_,?_,λe S=>?_,?_⟩
 ·rw[h.mk2]at I;simp only[Ow,Ot,Ox]at I;obtain⟨i,⟨hi,_⟩,rfl⟩:=I;rw[h.st];omega
 ·rw[h.mk2];unfold Yw;rw[L8];refine List.Pairwise.sublist MT ?_;exact(Nk (s:=0) (n:=ord.length)).imp (λh=>oa)
 ·rw[h.ed]at S;obtain⟨j,J,hd⟩:=Ma.1 S;rw[Ms]at J;unfold cnR at hd;obtain⟨d,T,rfl⟩:=Ly.1 hd;have:=Mz (h.cl j oa d T);rw[h.st,h.al];unfold cnF;exact⟨oe,oe,((E.ed d (ZD T).1).2.2.1),oe,oe⟩
 rw[h.ed];have key:∀n,((oN 0 n).flatMap (cnR a ord)).Pairwise λx y:Ed=>x.1<y.1\/(x.1=y.1/\x.2.1<y.2.1):=by
  intro n;induction n with
  | zero=>simp
  | succ n ih =>
   rw[Mo,LD,LS,Me];refine⟨ih,?_,λx hx y G=>?_⟩
   ·simp only[oT,OI,Ol];unfold cnR;rw[L8];have Y:(QO a.ed (Z7 ord n)).Pairwise λx y:Ed=>x.1<y.1\/(x.1=y.1/\x.2.1<y.2.1):=List.Pairwise.sublist MT E.edi;refine List.Pairwise.imp_of_mem (λ{x y} hx G ha=>?_) Y;have e1:=(ZD hx).2;have e2:=(ZD G).2;right;exact⟨O,by show x.2.1<y.2.1;omega⟩
   obtain⟨j,J,U⟩:=Ma.1 hx;rw[Ms]at J;simp only[oT,OI,Ol]at G;unfold cnR at U G;obtain⟨d,_,rfl⟩:=Ly.1 U;obtain⟨d',_,rfl⟩:=Ly.1 G;left;show(j:Int)<(n:Int);omega
 exact key _
theorem QfN (E:Q8 a):Q8 ⟨a.al,0,[],[]⟩:=
 ⟨E.al,E.ali,Mx _,(by decide:(0:Int)<=4096),(λs G=>by cases G),List.Pairwise.nil,(λe I=>by cases I),List.Pairwise.nil⟩
theorem Qfn (E:Q8 a)(lf:Lf):Q8 (QcU a lf):=by
 unfold QcU;split
 ·exact QfN E
 exact Qgh (yU E lf)
theorem qV {c:Z3}(h:yL c=0):Q8 (qy c):=Qfn (Qha h).1 _
theorem Qbi {κ:Type}[DecidableEq κ]{l:List κ}{s:κ}(h:s∉l):O9 (l.map λs=>(s,Value.bool true)) s (.bool true)=(l++[s]).map λs=>(s,Value.bool true):=by
 induction l with
 | nil=>rfl
 | cons a l ih =>
  have E:a≠s:=λe=>h (by subst e;exact Ll);show(if a=s then(a,Value.bool true)::(l.map λs=>(s,Value.bool true)) else(a,Value.bool true)::O9 (l.map λs=>(s,Value.bool true)) s (.bool true))=_
  rw[OR E,ih (λG=>h (Lj _ G))];rfl
theorem Qhd {κ:Type}[DecidableEq κ](l:List κ)(s:κ):O8 (l.map λs=>(s,Value.bool true)) s=if s∈l then some (.bool true) else none:=by
 induction l with
 | nil=>rfl
 | cons a l ih =>
  show(if a=s then some (Value.bool true) else O8 (l.map λs=>(s,Value.bool true)) s)=_
  rw[ih];by_cases h:a=s
  ·subst h;simp
  rw[OR h];have E:¬s=a:=λe=>h e.symm;simp[E]
section
variable {κ:Type}[DecidableEq κ]
theorem UB [hm:Mp P t kt et (.bool false)]{enc:κ->O0}[hk:jI P kt enc]{x:O1}{b:Nat}{l:List κ}{s:κ}(h:ZO enc ↑w b (l.map λs=>(s,Value.bool true)))(hx:ev f x=.map (some b))(E:ev f y=enc s):
  (execOp (ev f) ⟨d,.lookup t x y false,ty,pS,af,gd⟩).run P w=.ok (.value (.bool (decide (s∈l)))) w:=by
 rw[X8 h hx E,Qhd];by_cases G:s∈l <;> simp[G]
end
section
variable {κ:Type}{enc:κ->O0}
abbrev setM (K:List κ):List (κ×O0):=K.map λs=>(s,Value.bool true)
def Xw (enc:κ->O0)(H:xz)(b:Nat)(l:List κ):Prop:=∃K:List κ,ZO enc H b (setM K)/\∀x,x∈K↔x∈l
theorem Xw.lt {H:xz}{b:Nat}{l:List κ}(h:Xw enc H b l):b<H.size:=let⟨_,E,_⟩:=h;E.lt
theorem Xw.J {X:LN}{w w':OZ}{b:Nat}{l:List κ}(h:Xw enc ↑w b l)(E:O3 X w w')(hb:b∉X):Xw enc ↑w' b l:=let⟨K,G,I⟩:=h;⟨K,G.J E hb,I⟩
theorem Xw.I {b:Nat}{l:List κ}(h:Xw enc ↑w b l)(E:sW w w'):Xw enc ↑w' b l:=h.J E od
theorem Xw.zero {H:xz}{b:Nat}(h:ZO enc H b []):Xw enc H b []:=⟨[],h,λ_=>Iff.rfl⟩
theorem Qbj [DecidableEq κ]{k:κ}:∀{K:List κ},k∈K->O9 (setM K) k (.bool true)=setM K
 | [],h=>by cases h
 | a::K,h=>by
  show(if a=k then(a,Value.bool true)::setM K else(a,Value.bool true)::O9 (setM K) k (.bool true))=_
  by_cases e:a=k
  ·rw[OS e];rfl
  rw[OR e,Qbj ((Ln.1 h).resolve_left (λh=>e h.symm))];rfl
theorem Xw.put [DecidableEq κ]{H:xz}{b:Nat}{l K:List κ}{k:κ}(h:ZO enc H b (O9 (setM K) k (.bool true)))(G:∀x,x∈K↔x∈l):Xw enc H b (l++[k]):=by
 by_cases E:k∈K
 ·rw[Qbj E]at h;refine⟨K,h,λx=>?_⟩;rw[Le,Lb,<-G x];exact⟨.inl,λhx=>hx.elim id λe=>e ▸ E⟩
 refine⟨K++[k],?_,λx=>by rw[Le,Le,G x]⟩;rw[Qbi E]at h;exact h
end
section
variable {κ:Type}[DecidableEq κ]{enc:κ->O0}{x:O1}{b:Nat}{l:List κ}{k:κ}
theorem j0 [hm:Mp P t kt et (.bool false)][hk:jI P kt enc](h:Xw enc ↑w b l)(hx:ev f x=.map (some b))(E:ev f y=enc k):(execOp (ev f) ⟨d,.lookup t x y false,ty,pS,af,gd⟩).run P w=.ok (.value (.bool (decide (k∈l)))) w:=by
 obtain⟨K,G,I⟩:=h;rw[UB G hx E,bD (I k)]
theorem zk [hm:Mp P t kt et (.bool false)][hk:jI P kt enc]{v:O1}(h:Xw enc ↑w b l)(hx:ev f x=.map (some b))(G:ev f y=enc k)(I:ev f v=.bool true)
  (hK:∀w',O3 [b] w w'->Xw enc ↑w' b (l++[k])->K (QN f d undef) w'):XO P ⟨d,.mapUpdate t x y v,ty,pS,af,gd⟩ f w K:=by
 obtain⟨K,J,S⟩:=h;exact YH J hx G λw' T E=>hK w' T (Xw.put (by rw[I]at E;exact E) S)
theorem Qag [hm:Mp P t kt et (.bool false)][hk:jI P kt enc]{v:O1}(h:Xw enc ↑w b l)(hx:ev f x=.map (some b))(G:ev f y=enc k)(I:ev f v=.bool true)
  (hK:∀w',O3 [b] w w'->Xw enc ↑w' b (l++[k])->K (QN f d undef) w'):XO P ⟨d,.insert t x y v,ty,pS,af,gd⟩ f w K:=by
 obtain⟨K,J,S⟩:=h;exact Yo J hx G λw' T E=>hK w' T (Xw.put (by rw[I]at E;exact E) S)
end
instance ayYv1:Ay sV 156 2 3 1:=⟨oc,oc⟩
def UT:List QD->Int
 | []=>0
 | a::l=>if XX a≠0 then XX a else UT l
def Qjx (kd:Int)(l:List QD):Int:=if UT l≠0 then UT l else if kd≠1/\kd≠2 then 11 else 0
theorem QpW (a b:QD)(kd:Int):Qjx kd [a,b]=lgE a b kd:=by
 unfold Qjx lgE UT;by_cases E:XX a≠0
 ·simp only[OS E]
 rw[OR E,OR E];unfold UT;by_cases G:XX b≠0
 ·simp only[OS G]
 rw[OR G,OR G];unfold UT;simp
theorem Qdh {v:O0}{ps:List AV}(h0:XN L ↑w v ps)(kd:Int):
  QS sV 68 [sS kd,v] w λr w'=>r=sS (Qjx kd (ps.map (·.a)))/\sW w w':=by
 have h:=h0.up (L':=[]) od;have hw:=h.arr.le;have G:Qjx kd (ps.map (·.a))=if UT (ps.map (·.a))≠0 then UT (ps.map (·.a)) else if kd≠1/\kd≠2 then 11 else 0:=rfl
 refine Zg (Qjx kd (ps.map (·.a))) λE hE=>?_;rw[hE]at G ⊢;refine Zl func68 ?_;refine Qc<|Qb<|Qe<|Ql<|QG h.arr O<|Qa<|xe<|QX (α:=Nat) [(4,4),(6,7),(10,19)] (λz=>[(10,sS z)]) (λz w'=>z<=ps.length/\sW w w'/\UT ((ps.drop z).map (·.a))=UT (ps.map (·.a))) (λz=>ps.length - z) 0 La ⟨Lo _,O3.Y _ _,O⟩ ?_;rintro k g w1 ⟨hk,I,hk1⟩;refine Zi rfl O (λU=>?_) (λU=>?_)
 ·refine Qt ?_;have hj:ps.length<=k:=by have hm:¬(k:Int)<(ps.length:Int):=U;omega
  rw[Lr hj]at hk1;have hz:UT (ps.map (·.a))=0:=hk1.symm;rw[OR (ou hz)]at G;refine Qe<|QW (α:=Bool) [(20,25)] (λz=>[(25,.bool z)]) (λz w'=>w'=w1/\z=decide (kd≠1/\kd≠2)) oh ?_ ?_
  ·refine Qr<|Qa<|xb (XI O O) (λV=>?_) (λV=>?_)
   ·refine Qa<|Qa<|ZL O O<|Qz O<|xe ?_;have Y:¬kd=1:=V;exact⟨decide (¬kd=2),La,O,by simp[Y]⟩
   refine Qa<|YG<|Qz O<|xe ?_;have Y:kd=1:=Lt.1 V;exact⟨false,La,O,by simp[Y]⟩
  rintro z g w2 ⟨rfl,hc⟩;refine Q0 O (λha=>?_) (λha=>?_)
  ·rw[OS (OW (hc.symm.D ha))]at G;subst G;refine Qc<|Qb<|Qk ⟨[_],La,O,I⟩
  rw[OR (OY (hc.symm.D ha))]at G;subst G;refine Qf<|Qc<|Qb<|Qk ⟨[_],La,O,I⟩
 have J:k<ps.length:=by have hm:(k:Int)<(ps.length:Int):=U;omega
 have he:=Lk J;rw[L6 J,LU,UT]at hk1;refine Qf<|Qe<|Qn<|Qc<|O6 (g:=Zx) (i:=k) VA (h.I I).arr O O J λhy hf=>?_;refine Zg (ps[k]'J) λq hq=>?_;rw[hq]at hf he hk1;have S:=(h.I I).each q he;refine x (QF hf O O)<|QT [nS,sS 0,nS,nS] λb6 w3 hn ho hp=>Q5 (Zx q) hp ⟨S.al.one,O,S.mr.one,S.ed.one,Z⟩ λw4 hs ht =>
  xe ?_
 have hg:sW w1 w4:=hn.Q hs ho;refine Qc<|Q3 ht O O<|Qw<|(YV (S.I hg)).S ?_;rintro r5 w5 ⟨rfl,hu⟩;refine Qb ?_;have hh:=(I.D hg).D hu;refine Ql<|ZL O O<|xe<|Zh rfl (λT=>?_) (λT=>?_)
 ·rw[OS T]at hk1;have hv:UT (ps.map (·.a))≠0:=by rw[<-hk1];exact T
  rw[OS hv,<-hk1]at G;subst G;refine Ql<|Qb<|Qk ⟨[_],La,O,hh⟩
 rw[OR T]at hk1;refine Qf<|Qr<|QB O O<|Qa<|xe ?_;exact⟨k+1,oa,La,J,hh,hk1⟩
abbrev stI (l:LI):List (Int×O0):=l.map λs=>(s,Value.bool true)
structure Mch (H:xz)(b m1 m2:Nat)(a:QD):Prop where
 B:QK H b 251 [.map (some m1),.map (some m2),sS (fst a)]
 e:ZO Yl H m1 (Kt [] a.ed)
 m:ZO Xq H m2 (stI a.mr)
theorem Mch.J {X:LN}{w w':OZ}{b E G:Nat}{a:QD}(h:Mch ↑w b E G a)(I:O3 X w w')(J:b∉X)(S:E∉X)(T:G∉X):Mch ↑w' b E G a:=⟨h.B.J I J,h.e.J I S,h.m.J I T⟩
theorem Mch.I {b:Nat}(h:Mch ↑w b E G a)(I:sW w w'):Mch ↑w' b E G a:=h.J I od od od
theorem je {b I J:Nat}(h:Mch ↑w b I J a)(S:Q8 a)(s v:Int):
  QS sV 145 [sP b,sS s,sS v] w λr w'=>r=sS (xd a.ed s v)/\sW w w':=by
 have E:xd a.ed s v=(if(xh a.ed s v).isSome=true then(xh a.ed s v).getD 0 else -1):=by rw[QhY];cases xh a.ed s v <;> rfl
 refine Zl func145 ?_;refine Qc<|Qb<|Qe<|Ql<|ZY O<|Qs O h.B O O<|Qa<|Qa<|x (QC ⟨O,O,Z⟩)<|x (QkL (s:=a) (q:=s) (v:=v) h.e S.edi O O) <|
  Qa<|QQ rfl O<|QQ O O<|x Qd<|Qb<|Ql<|xe ?_
 refine Zh rfl (λG=>?_) (λG=>?_)
 ·rw[OS G]at E;refine Ql<|Qb<|Qk ⟨[_],La,by rw[E];rfl,O3.Y _ _⟩
 rw[OR G]at E;refine Qf<|Qc<|Qb<|Qk ⟨[_],La,by rw[E];rfl,O3.Y _ _⟩
theorem QeI {b S:Nat}(h:Mch ↑w b S T a)(s kd:Int):
  QS sV 73 [sP b,sS s,sS kd] w λr w'=>r=.bool (zr a kd s)/\sW w w':=by
 refine Zl func73 ?_;refine Qc<|Qb<|QW (α:=Bool) [(6,20)] (λz=>[(6,.bool z)]) (λz w'=>w'=w/\z=zr a kd s) oh ?_ ?_
 ·refine Qr<|Qa<|xb (Yh O O) (λE=>?_) (λE=>?_)
  ·have G:0<=s:=E;refine Qa<|Qa<|xb (Zd O O) (λI=>?_) (λI=>?_)
   ·refine Qa<|Zw<|Zw<|Qz O<|Qz O<|Qb ?_;have J:kd=1:=I;exact⟨true,La,O,by simp[zr,G,J]⟩
   have J:¬kd=1:=I;refine Qa<|Qa<|ZY O<|Qs O h.B O O<|Qa<|x (UB (s:=s) h.m O O)<|Qz O<|x (Vr O) <|
    Qb<|⟨decide (s∈a.mr),La,O,by simp[zr,G,J]⟩
  have G:¬0<=s:=E;refine Qa<|Zw<|Zw<|Zw<|Jr<|Qz O<|x Qd <|
   xe ?_
  exact⟨false,La,O,by simp[zr];omega⟩
 rintro z g U ⟨rfl,rfl⟩;exact Qk ⟨[_],La,O,O3.Y _ _⟩
theorem Qii {b10 S b11 hf hg U hh hj:Nat}{b:QD}{kd:Int}(hk:QK ↑w b10 152 [sP T])(hm:QK ↑w b11 152 [sP U])
  (V:QK ↑w S 3 [sS kd]) (ha:Mch ↑w T hf hg a) (hb:Mch ↑w U hh hj b) (s t:Int):
  QS sV 72 [.agg #[sS s,sS t],sP b10,sP S,sP b11] w λr w'=>r=.bool (!(zr a kd s == zr b kd t))/\sW w w':=by
 refine Zl func72 ?_;refine Qc<|Zc [sS s,sS t] λb4 J G hn Y=>Qb ?_;have hd:sW J { J with drawn:=J.drawn+1 }:=O3.X _ _
 refine Qe<|ZH [] [oz 0,oz 1,oz 2,oz 3,oz 5,oz 6,oz 7,oz 8,oA 4,oA 9,oz 10,oz 11]<|pq (λ_ E=>Qj ((hk.I G).I E) O O)<|p (λ_=>ZR (i:=0) O O og)<|pq (λ_ E=>Qj (Y.I E) O O)<|pq (λ_ E=>Qj ((V.I G).I E) O O)<|pq (λ_ E=>Qj ((hm.I G).I E) O O) <|
  p (λ_=>ZR (i:=1) O O og)<|pq (λ_ E=>Qj (Y.I E) O O)<|pq (λ_ E=>Qj ((V.I G).I E) O O)<|pk<|xg<|(QeI ((ha.I G).I hd) s kd).S ?_
 rintro r2 w2 ⟨rfl,I⟩;refine⟨hd.D I,?_⟩;refine pk<|xg<|(QeI (((hb.I G).I hd).I I) t kd).S ?_;rintro r3 w3 ⟨rfl,he⟩;refine⟨(hd.D I).D he,?_⟩;refine p (λ_=>Qc2 O O)<|p ZA<|pe ?_;exact Qk ⟨[_],La,O,((G.D hd).D I).D he⟩
theorem jf (h:Zp [] ↑w va vm ve a)(ho:Q8 a):
  QS sV 69 [.agg #[va,sS a.st,vm,ve]] w λr w'=>sW w w'/\∃b E G,r=sP b/\↑w<=b/\↑w<=E/\↑w<=G/\Mch ↑w' b E G a:=by
 have go:=h.ed.le;have gq:=h.mr.le;refine Zl func69 ?_;refine Qc<|Zc [va,sS a.st,vm,ve] λb1 w1 h2 gr h3=>Qb<|Qc<|Qo<|ZU Yl λE w2 hM gs h4=>Qo<|ZU Xq λG w3 h5 gt h9=>x (QC ⟨O,O,O,Z⟩)<|Zc [.map (some E),.map (some G),sS 0] λb11 S ha gu hB =>
  Qb ?_
 have gv:=h4.lt;have gx:=h9.lt;have hg:=(hM.D h5).D ha;have hh:=h3.I hg;have gy:=h3.lt;have hN:ZO Yl ↑S E []:=((h4.J h5 od).J ha od);have hO:ZO Xq ↑S G []:=h9.J ha od;have hn:∀{b:Nat},b∈[b11,E,G]->↑w1<=b:=λhb=>by simp only[oK,oH,or_false]at hb;omega
 have hC:b1∉[b11,E,G]:=λhb=>oo (hn hb)
 have hP:∀b∈[b11,E,G],↑w<=b:=λb hb=>oo (hn hb)
 have hA:∀{w':OZ},O3 [b11,E,G] S w'->Zp [] ↑w' va vm ve a:=λhs =>
  ((((h.I h2).up (L':=[b11,E,G]) (λb hb=>.inr (hn hb))).I hg).st hs).up od
 have hQ:∀b∈[b11],b∈[b11,E,G]:=λb hb=>by simp only[oF]at hb;simp[hb]
 have k1:∀b∈[E],b∈[b11,E,G]:=λb hb=>by simp only[oF]at hb;simp[hb]
 have k2:∀b∈[G],b∈[b11,E,G]:=λb hb=>by simp only[oF]at hb;simp[hb]
 refine QW (α:=Unit) [(12,17)] (λz=>[]) (λz w'=>O3 [b11] S w'/\QK ↑w' b11 251 [.map (some E),.map (some G),sS (fst a)]) oh ?_ ?_
 ·refine Qc<|Qs O hh O O<|x (Zd O O)<|xe<|Zh O (λhp=>?_) (λhp=>?_)
  ·have hf:fst a=-1:=by unfold fst;rw[OS hp]
   refine Qr<|Qa<|ZY O<|Q7 O<|Qo<|Qv (j:=2) (u:=sS (-1)) hB O O od rfl λw5 hR hS=>xe ?_;exact⟨(),Z,hR,by rw[hf];exact hS⟩
  have hf:fst a=0:=by unfold fst;rw[OR hp]
  refine Qf ?_;exact⟨(),Z,O3.Y _ _,by rw[hf];exact hB⟩
 rintro z g w6 ⟨hq,hT⟩;have hr:=hq.S hQ;have hU:ZO Yl ↑w6 E []:=hN.J hq ol;have hV:ZO Xq ↑w6 G []:=hO.J hq ol;have hW:=hh.J hr hC;have h6:=hA hr;refine Qe<|Qc<|Qs O hW O O<|QG h6.ed O<|Qa<|xe<|QX (α:=Nat) [(5,5),(21,36)] (λz=>[(21,sS z)]) (λz w'=>z<=a.ed.length/\O3 [E] w6 w'/\ZO Yl ↑w' E (Kt [] (a.ed.take z))) (λz=>a.ed.length - z) 0 La
  ⟨Lo _,O3.Y _ _,hU⟩ ?_
 rintro k g w7 ⟨hk,T,ht⟩;have hu:O3 [b11,E,G] S w7:=hr.V (T.S k1);have h7:=hA hu;have hD:=hT.J T ol;have hX:=hV.J T ol;have hY:=hh.J hu hC;refine Zi rfl O (λhv=>?_) (λhv=>?_)
 ·refine Qt ?_;have hZ:a.ed.length<=k:=by have hw:¬(k:Int)<(a.ed.length:Int):=hv;omega
  rw[Lq hZ]at ht;refine Qe<|Qc<|Qs O hY O O<|QG h7.mr O<|Qa<|xe<|QX (α:=Nat) [(7,7),(40,49)] (λz=>[(40,sS z)]) (λz w'=>z<=a.mr.length/\O3 [G] w7 w'/\ZO Xq ↑w' G (stI (a.mr.take z))) (λz=>a.mr.length - z) 0 La
   ⟨Lo _,O3.Y _ _,hX⟩ ?_
  rintro j g w8 ⟨hj,U,hy⟩;have hE:O3 [b11,E,G] S w8:=hu.V (U.S k2);have h8:=hA hE;have hF:=hD.J U ol;have ga:=ht.J U ol;refine Zi O O (λhz=>?_) (λhz=>?_)
  ·refine Qt ?_;have gb:a.mr.length<=j:=by have hw:¬(j:Int)<(a.mr.length:Int):=hz;omega
   rw[Lq gb]at hy;refine Ql<|Qb<|Qk ⟨[sP b11],La,(h2.D hg).O hE (λb hb=>.inr (hP b hb)),b11,E,G,O,oa,oa,oa,hF,ga,hy⟩
  have I:j<a.mr.length:=by have hw:(j:Int)<(a.mr.length:Int):=hz;omega
  have hG:a.mr.take (j+1)=a.mr.take j++[a.mr[j]'I]:=Lh I;have hH:(a.mr[j]'I)∉a.mr.take j:=by
   intro hm;obtain⟨i,hi,e⟩:=LP hm;rw[M5]at e;have hi':i<j:=by rw[LA]at hi;omega
   have:=Yw.get ho.mri I hi';omega
  refine Qf<|Qe<|Qn<|Qc<|xii (i:=j) h8.mr O O I λgz hI=>?_;refine Zg (a.mr[j]'I) λs hs=>?_;rw[hs]at hI hG hH;refine x (Qq hI O)<|Qb<|Qr<|Qa<|ZY O<|Qs O hF O O<|Qa<|Qo<|YH (k:=s) hy O O λw9 gc ge=>xe ?_;refine Qr<|QB O O<|Qa<|xe<|⟨j+1,oa,La,I,U.V gc,?_⟩;rw[hG];have hJ:ZO Xq ↑w9 G (O9 ((a.mr.take j).map λs=>(s,Value.bool true)) s (.bool true)):=ge;rw[Qbi hH]at hJ;exact hJ
 have V:k<a.ed.length:=by have hw:(k:Int)<(a.ed.length:Int):=hv;omega
 have hK:=zR (m:=[]) V;refine Qf<|Qe<|Qn<|Qc<|xie (i:=k) h7.ed O O V λg0 hL=>?_;refine Zg (a.ed[k]'V) λe he=>?_;rw[he]at hL hK;refine x (QF hL O O)<|QT [sS 0,sS 0,sS 0] λb5 g2 gg gh gi=>Q5 (Qp e) gi ox λY gj h0 =>
  xe ?_
 have h1:sW w7 Y:=gg.Q gj gh;have gk:=hD.I h1;have gl:ZO Yl ↑Y E (Kt [] (a.ed.take k)):=ht.J h1 od;refine ZH [] (Y0 0 12 [11])<|p Qx<|p (YE O)<|p (QH O)<|pq (λ_ J=>Qj (gk.I J) O O) <|
  p (QH rfl)<|pq (λ_ J=>Qj (h0.I J) O O)<|p (QH O)<|pq (λ_ J=>Qj (h0.I J) O O) <|
  p (λ_=>QC ⟨O,O,Z⟩)<|p (QH O)<|pq (λ_ J=>Qj (h0.I J) O O)<|pkk<|YH (k:=(e.1,e.2.1)) (gl.J (O3.X [] Y) od) rfl rfl λg3 gm gn =>
  pe ?_
 refine Qr<|QB O O<|Qa<|xe<|⟨k+1,oa,La,V,((T.D h1).D (O3.X [] Y)).V gm,?_⟩;rw[hK];exact gn
section
variable {all:xC}
def Qph (all:xC)(pre:xq)(k:Nat)(t:Pt):Bool :=
 Region.noSelect all.toArray && (pre.length+(t.len+1) == all.length) && X1 all.toArray pre (oP all.length false) && (Region.ready .any all.toArray (ZN pre (oP all.length false)) == [k]) && Qhw all.toArray t ((ZN pre (oP all.length false)).setIfInBounds k true)
theorem Qms {Q:Exit->Fr->OZ->Prop}(C:xx)(pre:xq)(k:Nat)(t:Pt)(V:P.follows .mixedOrders=true)(Y:Xi n all=true)(S:Qph all pre k t=true)
  (hC:C { w with drawn:=w.drawn+1 }) (h:XP P all C (λf1 E=>Z1 all f1 (QR all k)=true/\XO P (QR all k) f1 E λG w'=>C w'/\XT P all C (λf w=>Q .normal f w) t G w') pre f { w with drawn:=w.drawn+1 }):W P n (.region id all.toArray true) Q f w:=by
 simp only[Qph,oI,beq_iff_eq]at S;obtain⟨⟨⟨⟨T,hl⟩,hq⟩,I⟩,ht⟩:=S;refine Jn C V Y ?_;have U:=Yz (K:=λf w=>Q .normal f w) (m:=t.len+1) T pre (oP all.length false) f _ hC hq
  (B:=λf1 E=>Z1 all f1 (QR all k)=true/\XO P (QR all k) f1 E λG w'=>C w'/\XT P all C (λf w=>Q .normal f w) t G w')
  (λf1 J=>by
   refine JH (λh0=>(by rw[h0]at I;cases I)) ?_;rw[I];intro j hj o ho;have ha:j=k:=by simpa using hj
   subst ha;rw[ZF ho]at J;rw[J.1,cond_true];exact J.2.S λv w' hx=>⟨.inr (.inr hx.1),VB T t _ _ _ (by simp[YD]) hx.1 ht hx.2⟩) h
 rw[hl]at U;exact U
end
theorem At.sub {H:xz}{a:Addr}(h:At L H a us)(n:Nat):At L H a (us.take n):=
 ⟨λu E=>h.out u (L2 E),λu E=>h.lt u (L2 E),λj u E=>by
  rw[LZ]at E;split at E
  ·exact h.cell j u E
  cases E⟩
abbrev YA (p:Vs):LV:=[sS p.x,sS p.y,sS p.b,sS p.v]
theorem qT (p:Vs):(YA p).length=4:=rfl
theorem QhX:∀(es:List Ed) (s v:Int),(∀e∈es,0<=e.2.2)->-1<=xd es s v
 | [],_,_,_=>Mx _
 | e::es,s,v,h=>by
  rw[xd];split
  ·have:=h e Ll;omega
  exact QhX es s v (λx hx=>h x (Lj _ hx))
theorem QhT (E:Q8 a)(s v:Int):-1<=xd a.ed s v/\(xd a.ed s v<a.st\/xd a.ed s v=-1):=by
 have G:=QhX a.ed s v (λe I=>(E.ed e I).2.2.2.1);refine⟨G,?_⟩;by_cases h:xd a.ed s v<0
 ·right;omega
 left;exact QhV E h
structure VsI (a b:QD)(V:List Vs):Prop where
 nd:(V.map Vs.ky).Nodup
 rg:∀p∈V,-1<=p.x/\(p.x<a.st\/p.x=-1)/\-1<=p.y/\(p.y<b.st\/p.y=-1)
 bk:∀(k:Nat) (h:k<V.length),V[k].b<(k:Int)
def cdV (m:Nat)(p:Int×Int):Int:=(p.1+1)*(m+1)+(p.2+1)
theorem Qoy {x y:Int}(hx:-1<=x/\(x<n\/x=-1))(J:-1<=y/\(y<m\/y=-1)):0<=cdV m (x,y)/\cdV m (x,y)<(((n+1)*(m+1):Nat):Int):=by
 unfold cdV;obtain⟨u,E⟩:∃u:Nat,x+1=u:=⟨(x+1).toNat,oa⟩;obtain⟨v,G⟩:∃v:Nat,y+1=v:=⟨(y+1).toNat,oa⟩;have I:u<=n:=oa
 have S:v<=m:=oa
 show 0<=(x+1)*((m:Int)+1)+(y+1)/\(x+1)*((m:Int)+1)+(y+1)<_;rw[E,G];have T:u*(m+1)+v<(n+1)*(m+1):=by
  have U:u*(m+1)<=n*(m+1):=MN _ I;have V:(n+1)*(m+1)=n*(m+1)+(m+1):=by rw[Mw,NH]
  omega
 have e:((u:Int)*((m:Int)+1)+(v:Int))=((u*(m+1)+v:Nat):Int):=by push_cast;rfl
 rw[e];constructor <;> omega
theorem Qmd {x y G E:Int}(hx:-1<=x)(he:-1<=G)(hy:-1<=y/\(y<m\/y=-1))(hf:-1<=E/\(E<m\/E=-1))(h:cdV m (x,y)=cdV m (G,E)):(x,y)=(G,E):=by
 unfold cdV at h;have J:(x+1)*((m:Int)+1)+(y+1)=(G+1)*((m:Int)+1)+(E+1):=h;obtain⟨u,S⟩:∃u:Nat,x+1=u:=⟨(x+1).toNat,oa⟩;obtain⟨I,T⟩:∃I:Nat,G+1=I:=⟨(G+1).toNat,oa⟩;obtain⟨v,U⟩:∃v:Nat,y+1=v:=⟨(y+1).toNat,oa⟩;obtain⟨v',V⟩:∃v':Nat,E+1=v':=⟨(E+1).toNat,oa⟩;rw[S,T,U,V]at J;have Y:u*(m+1)+v=I*(m+1)+v':=by exact_mod_cast J
 have ha:v<m+1:=oa
 have hc:v'<m+1:=oa
 have e1:u=I:=by
  have a1:(u*(m+1)+v) / (m+1)=u:=by rw[Nat.mul_comm,Nat.mul_add_div oa,Nat.div_eq_of_lt ha,MW]
  have a2:(I*(m+1)+v') / (m+1)=I:=by rw[Nat.mul_comm,Nat.mul_add_div oa,Nat.div_eq_of_lt hc,MW]
  rw[<-a1,<-a2,Y]
 subst e1;have:x=G/\y=E:=⟨oa,oa⟩;rw[this.1,this.2]
theorem VsI.len {b:QD}(I:Q8 a)(hb:Q8 b){V:List Vs}(h:VsI a b V):V.length<=(a.st.toNat+1)*(b.st.toNat+1):=by
 have he:=I.st0;have hf:=hb.st0;have J:=xG ((a.st.toNat+1)*(b.st.toNat+1)) ((V.map Vs.ky).map (cdV b.st.toNat)) (by
  unfold List.Nodup;rw[L8];refine(List.Pairwise.imp_of_mem ?_ h.nd);intro p q G S T e;obtain⟨U,Y,rfl⟩:=Ly.1 G;obtain⟨q',hc,rfl⟩:=Ly.1 S;have E:=h.rg U Y;have r2:=h.rg q' hc;exact T (Qmd E.1 r2.1 ⟨E.2.2.1,oa⟩ ⟨r2.2.2.1,oa⟩ e)) (λx hx=>by
  obtain⟨k,hk,rfl⟩:=Ly.1 hx;obtain⟨p,G,rfl⟩:=Ly.1 hk;have E:=h.rg p G;exact Qoy ⟨E.1,oa⟩ ⟨E.2.2.1,oa⟩)
 simpa using J
theorem Qn7 {V W:List Vs}(h:i<V.length):gV (V++W) i=gV V i:=by unfold gV;simp[oO,Oa h]
theorem Qdr {V:List Vs}(h:i<V.length):gV V i=V[i]'h:=by unfold gV;simp[oO,h]
theorem QiN (E:Q8 a):-1<=fst a/\(fst a<a.st\/fst a=-1):=by
 have:=E.st0;unfold fst;split
 ·exact⟨oa,.inr O⟩
 exact⟨oa,.inl oa⟩
theorem VsI.one {b:QD}(J:Q8 a)(hb:Q8 b):VsI a b [⟨fst a,fst b,-1,0⟩]:=by
 have E:=QiN J;have G:=QiN hb;refine⟨od,λp I=>?_,λk h=>?_⟩
 ·simp only[oF]at I;subst I;exact⟨E.1,E.2,G.1,G.2⟩
 have S:k=0:=by simpa using h
 subst S;exact(by decide:(-1:Int)<0)
theorem VsI.add {b:QD}(J:Q8 a)(hb:Q8 b){V:List Vs}(h:VsI a b V)(hi:i<V.length){p:Vs}{v:Int}(S:(jg a b i p v).ky∉V.map Vs.ky):VsI a b (V++[jg a b i p v]):=by
 refine⟨?_,λq E=>?_,λk U=>?_⟩
 ·rw[Lv,Md];refine⟨h.nd,od,λx hx y G e=>?_⟩;simp only[oS,OG,oF]at G;subst G;subst e;exact S hx
 ·rcases Le.1 E with E|E
  ·exact h.rg q E
  simp only[oF]at E;subst E;have I:=QhT J p.x v;have r2:=QhT hb p.y v;exact⟨I.1,I.2,r2.1,r2.2⟩
 rw[List.getElem_append];split
 ·rename_i T;exact h.bk k T
 have:V.length<=k:=oa
 simp only[List.getElem_singleton,jg];omega
theorem Qih (V:List Vs)(f k:Nat):lgW V (f+1) k=if 0<=(gV V k).b then(gV V k).v::lgW V f (gV V k).b.toNat else[]:=rfl
instance:Bw sV 253 [sS 0,sS 0,sS 0,sS 0] [(0,2),(2,1),(3,1)]:={}
abbrev VsO (base:Nat)(w:OZ)(v:O0)(l:List Vs):Prop:=w.ownsRow base 253 4 v l.length (l.flatMap YA)
theorem VsO.snoc {v:O0}{l:List Vs}{p:Vs}(h:w.ownsRow base 253 4 v (l.length+1) (l.flatMap YA++YA p)):VsO base w v (l++[p]):=by
 unfold VsO;rw[Lc,LD];simpa using h
theorem K4 {p:Prop}{i:Decidable p}(h:(!@decide p i)=true):¬p:=by
 cases i with
 | isTrue E=>cases h
 | isFalse E=>exact E
theorem JZ {p:Prop}{i:Decidable p}(h:(!@decide p i)=false):p:=by
 cases i with
 | isTrue E=>exact E
 | isFalse E=>cases h
structure jH (H:xz)(m:Nat)(V:List Vs):Prop where
 h:∃K:xu,ZO Yl H m (setM K)/\∀k,k∈K↔k=(-1,-1)\/k∈V.map Vs.ky
theorem KC {H:xz}{K:xu}{k:Int×Int}(h:ZO Yl H m (O9 (setM K) k (.bool true))):∃K',ZO Yl H m (setM K')/\∀x,x∈K'↔x=k\/x∈K :=
 let⟨K',a,b⟩:=Xw.put h (λ_=>Iff.rfl)
 ⟨K',a,λx=>(b x).D (by rw[Le,Lb];exact Or.comm)⟩
theorem jH.I {V:List Vs}(h:jH ↑w m V)(E:sW w w'):jH ↑w' m V:=let⟨K,G,I⟩:=h.h;⟨K,G.J E od,I⟩
theorem jh (a b:QD)(i:Nat)(p:Vs)(V:List Vs)(v:Int):((jg a b i p v).ky≠(-1,-1)/\(jg a b i p v).ky∉V.map Vs.ky/\lgA a b i p V v=V++[jg a b i p v])\/(((jg a b i p v).ky=(-1,-1)\/(jg a b i p v).ky∈V.map Vs.ky)/\lgA a b i p V v=V):=by
 unfold lgA;by_cases h:(jg a b i p v).ky≠(-1,-1)/\(jg a b i p v).ky∉V.map Vs.ky
 ·exact .inl ⟨h.1,h.2,OS h⟩
 refine .inr ⟨?_,OR h⟩;by_cases E:(jg a b i p v).ky=(-1,-1)
 ·exact .inl E
 exact .inr (Lt.1 λG=>h ⟨E,G⟩)
theorem Qfv {kb mq ms kc mt mu:Nat}{b:QD}{kd:Int}[Fu sV g fn](hT:Qu [] ↑w vl al)(ke:Mch ↑w kb mq ms a)(kf:Mch ↑w kc mt mu b)(hp:Q8 a)(hq:Q8 b)
  (hk:∀(s t:Int) (w1:OZ),sW w w1->QS sV g ([.agg #[sS s,sS t]]++cap) w1 λr w'=>r=.bool (!(zr a kd s == zr b kd t))/\sW w1 w'):
  QS sV 70 [vl,sP kb,sP kc,.func (.func g) #[] cap.toArray] w λr w'=>sW w w' /\
   match lgL a b kd al ((a.st.toNat+1)*(b.st.toNat+1)+1) 0 [⟨fst a,fst b,-1,0⟩]with|none=>r=.tuple #[Zo,.bool false]|some u=>∃v,r=.tuple #[v,.bool true]/\Qh 3 ↑w w' v u:=by
 have hall:=hT.le;have ha1:=hp.st1;have hb1:=hq.st1;have mv:(a.st.toNat+1)*(b.st.toNat+1)<=4097*4097:=NF oa oa;refine Zg ((a.st.toNat+1)*(b.st.toNat+1)) λN hN=>?_;rw[hN]at mv ⊢;refine Zg (lgL a b kd al (N+1) 0 [⟨fst a,fst b,-1,0⟩]) λR hR=>?_;rw[hR];refine Zl func70 ?_;refine Qc<|x Qd<|Qb<|Qe<|ZH [] (Y0 0 11 [9,10])<|p Qx<|p (YE O)<|p (QH O)<|pq (λ_ E=>Qj (ke.B.I E) O O)<|p Qx<|p (YE O) <|
  p (QH rfl)<|pq (λ_ E=>Qj (kf.B.I E) O O)<|p (λ_=>QC ⟨O,O,Z⟩)<|pk<|YN (us:=[sS 0,sS 0]) O λb10 w1 kg mw my=>⟨(O3.X [] w).D kg,?_⟩
 refine pkk<|UG [sS (fst a),sS (fst b)] my ov λw2 mz hU=>pe ?_;have m0:↑w<=b10:=mw;have m1:sW w w2:=((O3.X [] w).D kg).Q mz m0;have hl10:=hU.lt;refine Qc<|Q3 hU O O<|x (ZC [(0,[sS (fst a),sS (fst b)]),(1,[sS (-1)]),(2,[sS 0])] ⟨O,O,O,O,O,O,Z⟩)<|Qo<|Q2 [YA ⟨fst a,fst b,-1,0⟩] λhC S kh hb29 ki =>
  Qb ?_
 have m2:=m1.D kh;have hl29:=ki.lt;have m3:=hU.I kh;have m4:VsO ↑w S (sL hC 1 1) [⟨fst a,fst b,-1,0⟩]:=ki.own (n:=1) (sz:=4) O oa oa;refine QW (α:=Nat) [(30,33),(12,12)] (λz=>[(12,.map (some z))]) (λz w'=>sW S w'/\↑S<=z/\jH ↑w' z [⟨fst a,fst b,-1,0⟩]) oh ?_ ?_
 ·have hV:sW S { S with drawn:=S.drawn+1 }:=O3.X _ _
  have kj:∀(k:Int×Int),k∈[⟨fst a,fst b,-1,0⟩].map Vs.ky↔k=(fst a,fst b):=λk=>by simp[Vs.ky]
  refine Qms (sW S) [oz 1,oz 3] 0 (.fk [] 2 4 (.pl [oA 4,oz 5,oz 6]) (.pl [oA 2,oz 5,oz 6])) mixed oh oc (O3.X _ _) ?_;refine pq (λ_ E=>Zb (m3.I E) O O)<|p (λ_=>QC ⟨O,O,Z⟩)<|pe ⟨O,ZU Yl λm w4 hr hm hM=>⟨hV.D hr,tf<|pe ⟨⟨O,?_⟩,O,?_⟩⟩⟩
  ·have T:↑S<=m:=hm;refine Yo (k:=(fst a,fst b)) hM O O λw5 he hW=>?_;have hg:=(hV.D hr).Q he T;obtain⟨K1,hX,hY⟩:=KC (K:=[]) hW;refine⟨hg,?_⟩;refine tp<|pk<|Yo (k:=(-1,-1)) hX O O λw6 I hZ=>⟨hg.Q I T,?_⟩;refine p Qx<|p ZA<|pe ?_;obtain⟨K2,ga,gb⟩:=KC hZ;exact⟨m,La,hg.Q I T,T,⟨K2,ga,λk=>by rw[gb,hY,kj];simp⟩⟩
  have T:↑S<=m:=hm;refine Yo (k:=(-1,-1)) hM O O λw5 he hW=>?_;have hg:=(hV.D hr).Q he T;obtain⟨K1,hX,hY⟩:=KC (K:=[]) hW;refine⟨hg,?_⟩;refine tp<|pk<|Yo (k:=(fst a,fst b)) hX O O λw6 I hZ=>⟨hg.Q I T,?_⟩;refine p Qx<|p ZA<|pe ?_;obtain⟨K2,ga,gb⟩:=KC hZ;exact⟨m,La,hg.Q I T,T,⟨K2,ga,λk=>by rw[gb,hY,kj];simp[or_comm]⟩⟩
 rintro m g0 w4 ⟨hr,hm4,m5⟩;have m6:=m2.D hr;have m7:↑w<=m:=oa
 have m8:m∉ob (sL hC 1 1):=by
  intro h;have h':m∈[hC]:=h;simp only[oF]at h';omega
 refine Qe<|Qc<|Qb<|QX (α:=Nat×O0×List Vs×Nat) [(8,9),(11,11),(13,14),(16,17),(34,108)] (λz=>[(8,Zo),(11,z.2.1),(13,sS z.1)]) (λz w'=>z.1<=z.2.2.1.length/\sW w w'/\VsO ↑w w' z.2.1 z.2.2.1/\jH ↑w' m z.2.2.1/\m∉ob z.2.1/\VsI a b z.2.2.1/\z.2.2.2+z.1=N+1/\lgL a b kd al z.2.2.2 z.1 z.2.2.1=R) (λz=>z.2.2.2) (0,sL hC 1 1,[⟨fst a,fst b,-1,0⟩],N+1) ox
  ⟨Lo _,m6,Qm m4 hr,m5,m8,VsI.one hp hq,O,hR⟩ ?_
 rintro⟨i,vV,V,f⟩ g1 w5 ⟨hi,he,gc,kk,kn,hD,hf,J⟩;simp only[]at hi gc kk kn hD hf J;have hVlen:V.length<=N:=by rw[<-hN];exact VsI.len hp hq hD
 have ge:Zs [] ↑w5 vV V.length 4 (V.flatMap YA):=QM gc oa od;refine Qe<|Ql<|Qa<|QG ge O<|ZP O O<|xe<|Zn rfl (λgg=>?_) (λgg=>?_)
 ·refine Qt ?_;have m9:¬i<V.length:=by have gh:¬(i:Int)<(V.length:Int):=gg;omega
  have pc:R=none:=by
   rw[<-J];cases f with
   | zero=>rfl
   | succ f=>rw[lgL,OR m9]
  rw[pc];refine Qc<|x Qd<|Qb<|Qk ⟨[Zo,.bool false],ov,he,O⟩
 have h4:i<V.length:=by have gh:(i:Int)<(V.length:Int):=gg;omega
 refine Exists.elim (show ∃f',f=f'+1 from⟨f - 1,oa⟩) λf' pd=>?_;rw[pd]at J;rw[lgL,OS h4]at J;have pf:=Qdr h4;refine Qf<|Qe<|Qn<|Qe<|Ql<|Qa<|Qa<|O6 (g:=YA) (i:=i) qT ge O O h4 λa43 gi=>?_;rw[<-pf]at gi;refine Zg (gV V i) λpi ko=>?_;rw[ko]at gi J;refine x (ZE O)<|x (QF (us:=[sS pi.x,sS pi.y]) (At.sub (gi.from 0) 2) O O) <|
  Qo<|xc (first:=[]) (capt:=cap) O<|(hk pi.x pi.y w5 he).S ?_
 rintro r6 w6 ⟨rfl,I⟩;refine xe ?_;have hE:=he.D I;have pg:=Qm gc I;have kq:=ge.I I;refine Q0 rfl (λgj=>?_) (λgj=>?_)
 ·have E:lgC a b kd pi=true:=gj;rw[OS E]at J;rw[<-J];refine Qe<|Ql<|Qb<|QX (α:=Nat×Nat×O0×LI) [(8,8),(14,14),(48,66)] (λz=>[(8,z.2.2.1),(14,sS z.2.1)]) (λz w'=>z.2.1<V.length/\sW w6 w'/\Qh 3 ↑w6 w' z.2.2.1 z.2.2.2/\z.2.2.2++lgW V z.1 z.2.1=lgW V (i+1) i/\z.2.1+1<=z.1/\z.2.2.2.length+z.1=i+1) (λz=>z.1) (i+1,i,Zo,[]) ov
   ⟨h4,O3.Y _ _,QL _ _ _ _,O,Lp _,od⟩ ?_
  rintro⟨fu,k,vo,wd⟩ g2 w7 ⟨ht,hF,hG,Y,ph,pj⟩;simp only[]at ht hG Y ph pj;have kr:=kq.I hF;have gk:=Qdr ht;have kt:=hD.bk k ht;have ku:=Qi hG;have hz7:=hF.size;refine Exists.elim (show ∃gl,fu=gl+1 from⟨fu - 1,oa⟩) λgl pn=>?_;rw[pn]at Y;rw[Qih]at Y;refine Qe<|Ql<|Qa<|O6 (g:=YA) (i:=k) qT kr O O ht λa50 gm=>?_;rw[<-gk]at gm kt;refine Zg (gV V k) λG gn=>?_;rw[gn]at gm kt Y;refine x (ZE O)<|x (Qq (gm.fld 2 (sS G.b) O) O)<|x (Yh O O)<|xe<|Zn O (λgo=>?_) (λgo=>?_)
  ·refine Qt ?_;have gq:¬0<=G.b:=go;rw[OR gq,LF]at Y;refine Ql<|Kz<|(yi hG oa).S ?_;rintro r8 w8 ⟨kv,gr⟩;refine xe<|Ql<|x Qd<|Qb ?_;rw[Y]at kv;have po:=hE.size;exact Qk ⟨[vo,.bool true],ov,(hE.D hF).O gr (λb hb=>.inr (oo (ku b hb).1)),vo,O,Q9 kv po⟩
  have gq:0<=G.b:=go;rw[OS gq]at Y;have pp:G.b=(G.b.toNat:Int):=oa
  refine Qf<|Qe<|Qn<|Qr<|Qa<|Qa<|Qa<|O6 (g:=YA) (i:=k) qT kr O O ht λa62 kw=>?_;rw[<-gk,gn]at kw;refine x (ZE O)<|x (Qq (kw.fld 3 (sS G.v) O) O) <|
   Qo<|Q2 [[sS G.v]] λb65 w9 gs hb65 pt=>?_
  have hz9:=gs.size;refine Qo<|QZ (news:=[sS G.v]) (L:=[]) (Qm hG gs) O O O (pt.at od) om oa oa λpu pw pz p0 hn10 =>
   Qb ?_
  have kx:sW w6 pw:=(hF.D gs).O p0 (λb hb=>.inr (ku b hb).1);have p4:=kq.I kx;refine Qr<|Qa<|Qa<|O6 (g:=YA) (i:=k) qT p4 O O ht λa56 kz=>?_;rw[<-gk,gn]at kz;refine x (ZE O)<|x (Qq (kz.fld 2 (sS G.b) O) O)<|x Qd <|
   xe ?_
  refine⟨(gl,G.b.toNat,pu,wd++[G.v]),oe,⟨O,OT sS pp,Z⟩,oe,kx,Qh.snoc pz,?_,oe,by simp only[oM,oL];omega⟩;simp only[];rw[LC];exact Y
 have E:¬lgC a b kd pi=true:=by
  intro h;have p5:lgC a b kd pi=false:=gj;rw[p5]at h;cases h
 rw[OR E]at J;refine Qf<|Ql<|QG (hT.I hE) O<|Qa<|xe<|QX (α:=Nat×O0×List Vs) [(11,11),(16,17),(72,108)] (λz=>[(11,z.2.1),(72,sS z.1)]) (λz w'=>z.1<=al.length/\sW w w'/\VsO ↑w w' z.2.1 z.2.2/\jH ↑w' m z.2.2/\m∉ob z.2.1/\VsI a b z.2.2/\z.2.2=(al.take z.1).foldl (lgA a b i pi) V/\∃W,z.2.2=V++W) (λz=>al.length - z.1) (0,vV,V) ov
  ⟨Lo _,hE,pg,kk.I I,kn,hD,O,[],od⟩ ?_
 rintro⟨j,vU,U⟩ g3 ha ⟨hj,hw,hh,h5,hH,h6,hI,⟨W,h7⟩⟩;simp only[]at hj hh h5 hH h6 hI h7;have hUlen:U.length<=N:=by rw[<-hN];exact VsI.len hp hq h6
 have hUl:V.length<=U.length:=by rw[h7,Lc];omega
 have ho:i<U.length:=oa
 have k0:=Qi hh;refine Zi rfl O (λgt=>?_) (λgt=>?_)
 ·refine Qt ?_;have p6:al.length<=j:=by have gh:¬(j:Int)<(al.length:Int):=gt;omega
  rw[Lq p6]at hI;rw[<-hI]at J;refine Qr<|Qa<|QB O O<|Qb<|⟨(i+1,vU,U,f'),oe,ox,ho,hw,hh,h5,hH,h6,oe,J⟩
 have hy:j<al.length:=by have gh:(j:Int)<(al.length:Int):=gt;omega
 have k4:al.take (j+1)=al.take j++[al[j]'hy]:=Lh hy;have p7:gV U i=pi:=by rw[h7,Qn7 h4];exact ko
 refine Qf<|Qe<|Qn<|Qc<|xii (i:=j) (hT.I hw) O O hy λa74 k5=>?_;refine Zg (al[j]'hy) λv hv=>?_;rw[hv]at k5 k4;have hJ:(al.take (j+1)).foldl (lgA a b i pi) V=lgA a b i pi U v:=by rw[k4,Mh,<-hI];rfl
 refine x (Qq k5 O)<|Qb<|Exists.elim (UF hh oa) λg9 p8=>Exists.elim p8 λcap9 gu=>?_;have p9:Zs [] ↑ha vU U.length 4 (U.flatMap YA):=QM hh oa od;have k6:At [] ↑ha ⟨g9,0+i*4,none⟩ (YA pi):=by
  obtain⟨a9,c9,e1,e2⟩:=Zs.at p9 ho;rw[X5 YA 4 qT U i ho,<-Qdr ho,p7]at e2;rw[gu]at e1;have e3:(⟨g9,0,none⟩:Addr)=a9:=by
   have:=Value.slice.inj e1;exact Option.some.inj this.1
  rw[<-e3,XK]at e2;exact e2
 have qf:At [] ↑ha ⟨g9,0+i*4+0+0*1,none⟩ [sS pi.x]:=by
  have:=k6.fld 0 (sS pi.x) O;rw[XK]at this;exact this
 have qj:At [] ↑ha ⟨g9,0+i*4+0+1*1,none⟩ [sS pi.y]:=by
  have:=k6.fld 1 (sS pi.y) O;rw[XK]at this;exact this
 have ql:=ke.I hw;have q0:=kf.I hw;refine QW (α:=Nat) [(76,94),(17,17)] (λz=>[(17,sP z)]) (λz w'=>sW ha w'/\↑ha<=z/\QK ↑w' z 156 [sS (xd a.ed pi.x v),sS (xd b.ed pi.y v)]) oh ?_ ?_
 ·refine Qgo (α:=Unit) (sW ha) [oz 0,oz 1,oz 2,oz 3,oz 4,oz 5,oz 6,oz 7,oz 9,oz 10,oz 11,oz 12,oz 13,oz 14,oz 15,oz 16] [oA 8,oA 17,oz 18] 19 17 [oA 20] []
   [(76,94)] [(84,84),(93,94)] (λ_=>[(94,.agg #[sS (xd a.ed pi.x v),sS (xd b.ed pi.y v)])]) (λ_ _ _=>True)
   (λv w'=>∃b,v=sP b/\↑ha<=b/\QK ↑w' b 156 [sS 0,sS 0]) mixed oh oc oh O (O3.X _ _) od ?_ ?_ ?_ ?_
  ·rintro v own wa wb ⟨b,rfl,hb,hB⟩ hs hn;exact⟨b,O,hb,hB.J hs (hn b (by simp[ow]))⟩
  ·intro z own wa wb h hs;trivial
  ·rintro z g5 own wz v5 _ q4 ⟨hO,rfl,gv,h8⟩ _;refine pkk<|UG [sS (xd a.ed pi.x v),sS (xd b.ed pi.y v)] h8 ov λw8 gr q5=>pe ?_;exact⟨hO,La,q4.Q gr gv,gv,q5⟩
  refine p Qx<|p Qx<|p Qx<|p (λ_=>QE (show ev _ _=_ from gu) O ho)<|p (QH O) <|
   p (λ_=>ZR (i:=0) O O og)<|pq (λ_ E=>Qq (qf.st E) O)<|p Qx<|p Qx<|p Qx<|p Qx <|
   p (λ_=>QE (show ev _ _=_ from gu) O ho)<|p (QH O)<|p (λ_=>ZR (i:=1) O O og)<|pq (λ_ E=>Qq (qj.st E) O) <|
   p Qx<|pe ⟨λg6 wf j1=>flA [sS 0,sS 0] j1,?_⟩
  refine f2k λx1 p1 c1=>xf<|(je (ql.I c1) hp pi.x v).S ?_;rintro r84 y1 ⟨rfl,k9⟩;refine⟨c1.D k9,[],k9,(λb hb=>by cases hb),?_⟩;refine f2k λx2 p2 c2=>xf<|(je (q0.I c2) hq pi.y v).S ?_;rintro r93 y2 ⟨rfl,ma⟩;refine⟨c2.D ma,[],ma,(λb hb=>by cases hb),?_⟩;refine f3p (λ_=>QC ⟨O,O,Z⟩)<|f2e ?_;exact⟨(),La,Z⟩
 rintro hO g7 hP ⟨hA,gv,h8⟩;have j2:=hw.D hA;refine Exists.elim (h5.I hA).h λK j3=>And.elim (λgx gy=>?_) j3;have hQ:(jg a b i pi v).ky=(xd a.ed pi.x v,xd b.ed pi.y v):=rfl;refine Ql<|Q3 h8 O O<|x (UB (s:=(xd a.ed pi.x v,xd b.ed pi.y v)) gx O O)<|x (Zj O)<|xe<|Q0 rfl (λgz=>?_) (λgz=>?_)
 ·have j4:(xd a.ed pi.x v,xd b.ed pi.y v)∉K:=K4 gz;have hz:=λh=>j4 ((gy _).2 h);rw[<-hQ]at hz;have g4:lgA a b i pi U v=U++[jg a b i pi v]:=by
   rcases jh a b i pi U v with⟨_,_,h⟩|⟨h,_⟩
   ·exact h
   exact OU h hz
  rw[g4]at hJ;have mc:m∉ob vU:=hH;have mf:hO∉m::ob vU:=λhb=>by
   rcases Ln.1 hb with rfl|hb
   ·obtain⟨K0,za,_⟩:=h5.h;have:=za.lt;omega
   have:=(k0 hO hb).2;omega
  have z0:m<hP.heap.size:=gx.lt;have h0:sW hP { hP with drawn:=hP.drawn+1 }:=O3.X _ _
  refine ZH (m::ob vU) (Y0 0 11 [7,8,9])<|p Qx<|pq (λ_ E=>Zb (h8.J E mf) O O)<|p Qx<|pq (λ_ E=>Zb (h8.J E mf) O O) <|
   p Qx<|p Qx<|p (λ_=>ZC [(0,[sS (xd a.ed pi.x v),sS (xd b.ed pi.y v)]),(1,[sS i]),(2,[sS v])] ⟨O,O,O,O,O,O,Z⟩)<|pk<|Q2 [YA (jg a b i pi v)] λb106 w13 h3 hb106 z2=>⟨(h0.D h3).any,?_⟩
  have g8:=hA.D (h0.D h3);have hz13:=(h0.D h3).size;refine pk<|QZ (news:=YA (jg a b i pi v)) (L:=[]) (Qm hh g8) O O O (z2.at od) (λu hu=>by
   simp only[oK,oH,or_false]at hu;rcases hu with rfl|rfl|rfl|rfl <;> rfl) oa (oo g8.size) λmg mh z3 hS z4=>⟨(h0.D h3).any.V (hS.S (λb hb=>Lj _ hb)),?_⟩
  have z5:ZO Yl ↑mh m (setM K):=(gx.J (h0.D h3) od).J hS mc;refine pk<|YH (k:=(xd a.ed pi.x v,xd b.ed pi.y v)) z5 O O λw15 ka hM15=>⟨((h0.D h3).any.V (hS.S (λb hb=>Lj _ hb))).V (ka.S od),?_⟩;refine p ZA<|pe ?_;refine Exists.elim (KC hM15) λK' hKKK'=>And.elim (λhM15' hKK'=>?_) hKKK';have mj:m∉ob mg:=λhb=>by
   rcases z4 m hb with h9|h9
   ·exact mc h9
   have:=z0;omega
  refine Qr<|QB O O<|Qa<|xe ?_;have hs014:sW w mh:=(hw.D g8).O hS (λb hb=>.inr (k0 b hb).1);refine⟨(j+1,mg,U++[jg a b i pi v]),oe,ov,hy,hs014.Q ka m7,Qg (VsO.snoc z3) ka (λb hb mo=>by simp only[oF]at mo;subst mo;exact mj hb),⟨K',hM15',λk=>?_⟩,mj,VsI.add hp hq h6 ho (λh=>hz (.inr h)),hJ.symm,W++[jg a b i pi v],by rw[h7,LC]⟩;rw[hKK',gy,Lv,Le];constructor
  ·rintro(h|h|h)
   ·exact .inr (.inr (by rw[h];simp[hQ]))
   ·exact .inl h
   exact .inr (.inl h)
  rintro(h|h|h)
  ·exact .inr (.inl h)
  ·exact .inr (.inr h)
  exact .inl (by simpa[hQ]using h)
 have hK:(xd a.ed pi.x v,xd b.ed pi.y v)∈K:=JZ gz;have hz:=(gy _).1 hK;rw[<-hQ]at hz;have g4:lgA a b i pi U v=U:=by
  rcases jh a b i pi U v with⟨h1,h2,_⟩|⟨_,h⟩
  ·exact OU hz (λh=>h.elim h1 h2)
  exact h
 rw[g4]at hJ;refine Qf<|Qr<|QB O O<|Qa<|xe ?_;exact⟨(j+1,vU,U),oe,ov,hy,j2,Qm hh hA,h5.I hA,hH,h6,hJ.symm,W,h7⟩
theorem Qns {only:Bool}{e:Ed}(h:(!decide (e.2.1∈o))=false):okV o un only e=false:=by unfold okV;rw[h];rfl
theorem Qnr {only:Bool}{e:Ed}(h:(!decide (e.2.1∈o))=true)(E:(!only)=true):okV o un only e=true:=by unfold okV;rw[h,E];rfl
theorem QhL {only:Bool}{e:Ed}(h:(!decide (e.2.1∈o))=true)(E:(!only)=false):okV o un only e=decide (e.2.1∈un):=by unfold okV;rw[h,E];rfl
structure VcI (bm:Nat)(w0:OZ)(vl:O0)(l:LI)(w:OZ):Prop where
 st:sW w0 w
 m:Xw Xq ↑w bm l
 o:Qh 3 ↑w0 w vl l
 nm:bm∉ob vl
theorem VcI.I {bm:Nat}{G w w':OZ}{vl:O0}{l:LI}(h:VcI bm G vl l w)(E:sW w w'):VcI bm G vl l w':=⟨h.st.D E,h.m.I E,Qm h.o E,h.nm⟩
theorem KB {V:jD}{only:Bool}(h:jE ↑w V)(hl:Qu [] ↑w vl l)(hb:∀x∈l,0<=x/\x<V.a.st)(ki:l.length<=1000000):
  QS sV 132 [.pointer (some ⟨V.b,0,none⟩),vl,.bool only] w λr w'=>sW w w'/\Qh 3 ↑w w' r (vcl V.a V.o V.un l only):=by
 have hok:=h.ok;have kj:=hok.st0;have kk:=hok.st1;obtain⟨n,hn⟩:∃n:Nat,V.a.st.toNat=n:=⟨_,O⟩;have gh:V.a.st=(n:Int):=oa
 have kn:=hok.ed_le;obtain⟨rv,hG,hH⟩:=h.r;rw[hn]at hG hH;have gi:vcl V.a V.o V.un l only=srt n (bfs (okV V.o V.un only) V.a.ed (l.length+n) 0 l):=by unfold vcl cls;rw[hn]
 rw[gi];have gj:=hok.ed;rw[gh]at hb;refine Zg (bfs (okV V.o V.un only) V.a.ed (l.length+n) 0 l) λR hR=>?_;rw[hR];refine Zl func132 ?_;refine Qc<|Qb<|Ql<|Qw<|(ZT hl).S ?_;rintro v1 w1 ⟨hI,h0⟩;refine Qb<|Qc<|Qo<|ZU Xq λbm w2 h2 ko gk=>Qb ?_;have gl:=hI.D h2;have kq:=hI.size;have hJ:bm∉ob v1:=λI=>oo (QU h0 _ I)
 have gm:Qu [] ↑w2 v1 l:=Qh.ints (Qm h0 h2) oa od;refine Qe<|Ql<|QG gm O<|Qa<|xe<|QX (α:=Nat) [(10,10),(19,25)] (λz=>[(19,sS z)]) (λz w'=>z<=l.length/\O3 [bm] w2 w'/\Xw Xq ↑w' bm (l.take z)) (λz=>l.length - z) 0 La ⟨Lo _,O3.Y _ _,.zero gk⟩ ?_;rintro k g w3 ⟨hk,h3,h4⟩;have gn:sW w w3:=gl.Q h3 oa;have hK:=Qg (Qm h0 h2) h3 λb hb I=>hJ (Lb.1 I ▸ hb);have go:Qu [] ↑w3 v1 l:=Qh.ints hK oa od;refine Zi rfl O (λh5=>?_) (λh5=>?_)
 ·refine Qt ?_;have gq:l.length<=k:=by have hg:¬(k:Int)<(l.length:Int):=h5;omega
  rw[Lq gq]at h4;refine Qe<|Qc<|Qb<|QX (α:=Nat×O0×LI) [(7,7),(11,11),(13,13),(26,80)] (λz=>[(7,z.2.1),(11,sS z.1)]) (λz w'=>z.1<=z.2.2.length/\VcI bm w z.2.1 z.2.2 w'/\yq n l z.2.2/\bfs (okV V.o V.un only) V.a.ed (l.length+n - z.1) z.1 z.2.2=R) (λz=>l.length+n+1 - z.1) (0,v1,l) ov ⟨Lo _,⟨gn,h4,hK,hJ⟩,yq.zero _ _,hR⟩ ?_;rintro⟨i,vi,m⟩ g w4 ⟨hi,T,hr,ha⟩;simp only[]at hi T hr ha;have kr:=hr.len;have hL:=hr.all hb;have hM:Qu [] ↑w4 vi m:=Qh.ints T.o oa od;refine Qe<|Ql<|Qa<|QG hM O<|ZP O O<|xe<|Zn O (λh6=>?_) (λh6=>?_)
  ·refine Qt ?_;have gr:¬i<m.length:=by have hg:¬(i:Int)<(m.length:Int):=h6;omega
   rw[Qcq gr]at ha;have ht:=Qi T.o;refine Ql<|Qw<|(JT T.o oa).S ?_;rintro _ w5 ⟨gs,gt⟩;refine xe<|Ql<|Qw<|(Qma gt (by rw[List.length_mergeSort];omega) (QbK m)).S ?_;rintro v6 w6 ⟨h8,l',gu,gv,gx⟩;refine Qb<|Qk ⟨[v6],La,(T.st.O gs λb hb=>.inr (ht b hb).1).O h8 λb hb=>.inr (ht b hb).1,?_⟩;rw[<-ha,<-Qg9 gu (λx=>(gv x).D (Na m _).mem_iff) hL];exact gx
  have G:i<m.length:=by have hg:(i:Int)<(m.length:Int):=h6;omega
  have hv:=hL _ (Xj G);have gy:l.length+n - i=(l.length+n - (i+1))+1:=oa
  rw[gy,bfs,OS G]at ha;have hN:=Zu G;refine Zg (O4 m i) λs hs=>?_;rw[hs]at hv ha hN;have hO:s=(s.toNat:Int):=oa
  have hP:s.toNat<n:=oa
  have hE:=hH s.toNat hP;have kt:=Ya V.a.ed s;have gz:QO V.a.ed (s.toNat:Nat)=QO V.a.ed s:=by rw[<-hO]
  rw[gz]at hE;have g0:s.toNat<(oJ n).length:=by rw[L5];exact hP
  refine Qf<|Qe<|Qn<|Qe<|ZH [] (Y0 0 12 [])<|p Qx<|p (YE O)<|p (QH O)<|pq (λ_ E=>Qj ((h.blk.I T.st).I E) O O)<|p Qx<|p Qx<|Lg.pii (i:=i) O hM O O G λku hQ=>?_;rw[hN]at hQ;refine pq (λ_ E=>Qq (hQ.I E) O)<|Lg.pig (g:=λj:Nat=>[rv j]) (i:=s.toNat) O (λ_=>O) (hG.I T.st) O (show Go.Lg.ev _ _=_ from OT sS hO) g0 λkv hS=>?_;rw[Mt]at hS;refine pq (λ_ E=>Qq (u:=rv s.toNat) (hS.I E) O)<|p (λ_=>YR hE O)<|p Qx<|pe ?_;have g2:sW w4 { w4 with drawn:=w4.drawn+1 }:=O3.X _ _
  refine QX (α:=Nat×O0×LI) [(7,7),(13,13),(43,80)] (λz=>[(7,z.2.1),(43,sS z.1)]) (λz w'=>z.1<=(QO V.a.ed s).length/\VcI bm w z.2.1 z.2.2 w'/\yq n l z.2.2/\m.length<=z.2.2.length/\((QO V.a.ed s).drop z.1).foldl (bfE (okV V.o V.un only)) z.2.2=(QO V.a.ed s).foldl (bfE (okV V.o V.un only)) m) (λz=>(QO V.a.ed s).length - z.1) (0,vi,m) ov ⟨Lo _,T.I g2,hr,Lp _,O⟩ ?_;rintro⟨j,vj,lj⟩ g w5 ⟨hj,hh,ho,h9,J⟩;simp only[]at hj hh ho h9 J;have kw:=ho.len;refine Zi O O (λhA=>?_) (λhA=>?_)
  ·refine Qt ?_;have g3:(QO V.a.ed s).length<=j:=by have hg:¬(j:Int)<((QO V.a.ed s).length:Int):=hA;omega
   rw[Lr g3]at J;have g4:lj=(QO V.a.ed s).foldl (bfE (okV V.o V.un only)) m:=J;rw[<-g4]at ha;refine Qr<|Qa<|QB O O<|Qb<|⟨(i+1,vj,lj),by show l.length+n+1 - (i+1)<l.length+n+1 - i;omega,ov,by show i+1<=lj.length;omega,hh,ho,ha⟩
  have hf:j<(QO V.a.ed s).length:=by have hg:(j:Int)<((QO V.a.ed s).length:Int):=hA;omega
  have g5:=ZD (Lk hf);have hT:=gj _ g5.1;rw[QY hf,LO]at J;refine Zg ((QO V.a.ed s)[j]'hf) λe he=>?_;rw[he]at hT J;refine Qf<|Qe<|Qn<|Qc<|xie (hE.I hh.st) O O hf λkx hU=>?_;rw[he]at hU;refine x (QF hU O O)<|QT [sS 0,sS 0,sS 0] λg6 w6 h8 hV g7=>Q5 (Qp e) g7 ox λS g8 hw=>xe ?_;have g9:sW w5 S:=h8.Q g8 hV;have hB:=hh.I g9;have h7:=h.I hB.st;refine QW (α:=Unit) [(47,71)] (λ_=>[(71,.bool (decide (okV V.o V.un only e=true/\e.2.2∉lj)))]) (λ_ w'=>sW S w') oh ?_ ?_
  ·refine ZH [] (Y0 0 25 [3,22]) ?_;have U:sW S { S with drawn:=S.drawn+1 }:=O3.X _ _
   refine p Qx<|p (QH O)<|pq (λ_ E=>Qj (hw.I E) O O)<|pk<|xg<|(qK (w:={ S with drawn:=S.drawn+1 }) (h7.I U) e.2.1).S ?_
   rintro _ w8 ⟨rfl,rfl⟩;refine⟨U,?_⟩;refine pB (λ_=>Zj O) (λhp=>?_) (λhp=>?_)
   ·refine p Qx<|p Qx<|p (QH O)<|pq (λ_ E=>Qj (hw.I E) O O)<|pq (λ_ E=>j0 (hB.m.I E) O O)<|pB (λ_=>Zj O) (λhC=>?_) (λhC=>?_)
    ·have hW:=K4 hC;refine p (YL O)<|p Qx<|p Qx<|pB (λ_=>Zj O) (λhy=>?_) (λhy=>?_)
     ·refine p Qx<|ps<|ps<|ps<|ps<|ps<|ps<|ps<|p (YL O)<|p (YL O)<|pe ?_;exact⟨(),⟨OT Value.bool (bT ⟨Qnr hp hy,hW⟩),Z⟩,U⟩
     refine p Qx<|p Qx<|p (YE O)<|p (QH O)<|pq (λ_ E=>Qj (h7.blk.I E) O O)<|p (QH O) <|
      pq (λ_ E=>Qj (hw.I E) O O)<|pk<|xg<|(ZG (w:={ S with drawn:=S.drawn+1 }) (h7.u.I U) e.2.1).S ?_
     rintro _ w9 ⟨rfl,rfl⟩;refine⟨U,?_⟩;refine p (YL O)<|p (YL O)<|pe ?_;exact⟨(),⟨OT Value.bool (bD ⟨λhu=>⟨(QhL hp hy).D (OV hu),hW⟩,λhu=>OW ((QhL hp hy).symm.D hu.1)⟩),Z⟩,U⟩
    refine p (YL O)<|p Qx<|ps<|ps<|ps<|ps<|ps<|ps<|ps<|ps<|ps<|ps<|ps<|p (YL O)<|pe ?_;exact⟨(),⟨OT Value.bool (bF λhu=>hu.2 (JZ hC)),Z⟩,U⟩
   refine p Qx<|ps<|ps<|ps<|ps<|ps<|p (YL O)<|p Qx<|ps<|ps<|ps<|ps<|ps<|ps<|ps<|ps<|ps<|ps<|ps<|p (YL O)<|pe ?_;exact⟨(),⟨OT Value.bool (bF λhu=>My ((Qns hp).symm.D hu.1)),Z⟩,U⟩
  rintro _ g w8 hX;have Y:=hB.I hX;have hY:=ho.edge (okV V.o V.un only) (e:=e) ⟨hT.2.2.2.1,oa⟩;have hZ:lj.length<=(bfE (okV V.o V.un only) lj e).length:=by unfold bfE;split <;> simp
  have hz:bfE (okV V.o V.un only) lj e=if okV V.o V.un only e=true/\e.2.2∉lj then lj++[e.2.2]else lj:=rfl
  refine Zn O (λhD=>?_) (λhD=>?_)
  ·rw[OR hD]at hz;rw[hz]at J;refine Qf<|Qr<|QB O O<|Qa<|xe ?_;exact⟨(j+1,vj,lj),by show(QO V.a.ed s).length - (j+1)<(QO V.a.ed s).length - j;omega,ov,hf,Y,ho,h9,J⟩
  rw[OS hD]at hz;rw[hz]at J hY hZ;have ga:=hw.I hX;have ht:=Qi Y.o;refine Ql<|Qs O ga O O<|Qo<|zk (k:=e.2.2) Y.m O O O λw9 hF gb=>xe ?_;have ka:g6∉[bm]:=λI=>by
   have:=hh.m.lt;rw[Lb.1 I]at hV;omega
  have kb:=Qg Y.o hF λb hb I=>Y.nm (Lb.1 I ▸ hb);have gc:sW w w9:=Y.st.Q hF oa;refine Qr<|Qa<|Qs O (ga.J hF ka) O O<|Qo<|Q2 [[sS e.2.2]] λkz wa hq k0 kc =>
   Qo<|QZ (m:=1) (news:=[sS e.2.2]) (L:=[]) (Qm kb hq) O O O (kc.at od) om oa (oq hq.size gc.size) λvb wb ke hv kf=>Qb ?_
  have k4:=hq.size;have k5:=gb.lt;refine Qr<|QB O O<|Qa<|xe<|⟨(j+1,vb,lj++[e.2.2]),by show(QO V.a.ed s).length - (j+1)<(QO V.a.ed s).length - j;omega,ov,hf,⟨(gc.D hq).O hv λb hb=>.inr (ht b hb).1,(gb.I hq).J hv Y.nm,Qh.snoc ke,λI=>?_⟩,hY,Lx h9 hZ,J⟩;rcases kf _ I with h1|h1
  ·exact Y.nm h1
  omega
 have G:k<l.length:=by have hg:(k:Int)<(l.length:Int):=h5;omega
 have ge:l.take (k+1)=l.take k++[l[k]'G]:=Lh G;refine Qf<|Qe<|Qn<|Qc<|xii (i:=k) go O O G λk6 gg=>?_;refine Zg (l[k]'G) λs hs=>?_;rw[hs]at gg ge;refine x (Qq gg O)<|Qb<|Qr<|Qa<|Qa<|Qo<|zk (k:=s) h4 O O O λw4 kg kh=>xe ?_;refine Qr<|QB O O<|Qa<|xe ?_;exact⟨k+1,by show l.length - (k+1)<l.length - k;omega,La,G,h3.V kg,by rw[ge];exact kh⟩
theorem Us {V:jD}{est:LI}(h:jE ↑w V)(hE:Qu [] ↑w ve est)(hy:∀x∈est,0<=x/\x<V.a.st)(hK:est.length<=9)(hz:V.a.ed.length<=1000)(v:Int):
  QS sV 136 [.pointer (some ⟨V.b,0,none⟩),ve,sS v] w λr w'=>sW w w'/\Qh 3 ↑w w' r (vnx V.a V.o V.un est v):=by
 have hok:=h.ok;have hM:=hok.st0;obtain⟨n,hn⟩:∃n:Nat,V.a.st.toNat=n:=⟨_,O⟩;have hN:V.a.st=(n:Int):=oa
 obtain⟨rv,ho,hp⟩:=h.r;rw[hn]at ho hp;have h0:∀k,k<=est.length->(hop V.a.ed (est.take k) v).length<=9000:=λk hk=>by
  have h1:=Qax V.a.ed v (est.take k);have h2:(est.take k).length<=9:=by rw[LA];omega
  have h3:(est.take k).length*V.a.ed.length<=9*1000:=NF h2 hz;omega
 refine Zl func136 ?_;refine Qc<|Qb<|Qc<|Qb<|Qe<|Ql<|QG hE O<|Qa<|xe<|QX (α:=Nat×O0) [(7,7),(9,9),(11,11),(14,40)] (λz=>[(7,z.2),(14,sS z.1)]) (λz w'=>z.1<=est.length/\sW w w'/\Qh 3 ↑w w' z.2 (hop V.a.ed (est.take z.1) v)) (λz=>est.length - z.1) (0,ZS) ov ⟨Lo _,O3.Y _ _,QL _ _ _ _⟩ ?_;rintro⟨k,vl⟩ g w2 ⟨hk,E,Y⟩;simp only[]at hk Y;have h4:=h0 k hk;refine Zi rfl O (λha=>?_) (λha=>?_)
 ·refine Qt ?_;have h5:est.length<=k:=by have hc:¬(k:Int)<(est.length:Int):=ha;omega
  rw[Lq h5]at Y h4;have hL:=Qh.ints (L:=[]) Y oa od;refine Ql<|Qa<|Qw<|(KB (only:=false) (h.I E) hL (QiH hok est v) oa).S ?_;rintro r3 w3 ⟨h6,h7⟩;refine Qb<|Qk ⟨[_],La,E.D h6,Q9 h7 E.size⟩
 have I:k<est.length:=by have hc:(k:Int)<(est.length:Int):=ha;omega
 have hq:=QbO (ed:=V.a.ed) v I;have h8:=hy _ (Lk I);refine Qf<|Qe<|Qn<|Qc<|xii (i:=k) (hE.I E) O O I λhO hr=>?_;refine Zg (est[k]'I) λs hs=>?_;rw[hs]at hr hq h8;have h9:s=(s.toNat:Int):=oa
 have ht:s.toNat<n:=oa
 have hf:=hp s.toNat ht;rw[show((s.toNat:Nat):Int)=s by omega]at hf;have hA:s.toNat<(oJ n).length:=by rw[L5];exact ht
 have hP:=Ya V.a.ed s;refine x (Qq hr O)<|Qb<|Ql<|ZY O<|Qs O (h.blk.I E) O O<|Qa<|O6 (g:=λj:Nat=>[rv j]) (i:=s.toNat) (λ_=>O) (ho.I E) O (OT sS h9) hA λhQ hu=>?_;rw[Mt]at hu;refine x (Qq (u:=rv s.toNat) hu O)<|QG hf O<|Qa<|xe<|QX (α:=Nat×O0) [(7,7),(11,11),(26,39)] (λz=>[(7,z.2),(26,sS z.1)]) (λz w'=>z.1<=(QO V.a.ed s).length/\sW w w'/\Qh 3 ↑w w' z.2 (hop V.a.ed (est.take k) v++(((QO V.a.ed s).take z.1).filter λe=>decide (e.2.1=v)).map (·.2.2))) (λz=>(QO V.a.ed s).length - z.1) (0,vl) ov ⟨Lo _,E,by simp only[List.take_zero,List.filter_nil,OG,Ol];exact Y⟩ ?_;rintro⟨j,vj⟩ g w4 ⟨hj,J,G⟩;simp only[]at hj G;refine Zi rfl O (λhg=>?_) (λhg=>?_)
 ·refine Qt ?_;have hB:(QO V.a.ed s).length<=j:=by have hc:¬(j:Int)<((QO V.a.ed s).length:Int):=hg;omega
  rw[Lq hB,<-hq]at G;refine Qr<|QB O O<|Qa<|xe ?_;exact⟨(k+1,vj),by show est.length - (k+1)<est.length - k;omega,ov,I,J,G⟩
 have S:j<(QO V.a.ed s).length:=by have hc:(j:Int)<((QO V.a.ed s).length:Int):=hg;omega
 have T:=jl v S;have hR:(hop V.a.ed (est.take k) v++(((QO V.a.ed s).take j).filter λe=>decide (e.2.1=v)).map (·.2.2)).length<=10000:=by
  rw[Lc,Lm];have h1:=LJ (λe:Ed=>decide (e.2.1=v)) ((QO V.a.ed s).take j);rw[LA]at h1;omega
 refine Zg ((QO V.a.ed s)[j]'S) λe he=>?_;rw[he]at T;refine Qf<|Qe<|Qn<|Qc<|xie (hf.I J) O O S λhS hv=>?_;rw[he]at hv;refine x (QF hv O O)<|QT [sS 0,sS 0,sS 0] λb11 w5 hC hD hF=>Q5 (Qp e) hF ox λw6 hG hw=>xe ?_;have U:sW w4 w6:=hC.Q hG hD;have hT:=J.size;have hU:=U.size;refine Qc<|Qs O hw O O<|Qa<|x (Zd O O)<|xe<|Zn rfl (λhh=>?_) (λhh=>?_)
 ·rw[OR hh,LF]at T;refine Qf<|Qr<|QB O O<|Qa<|xe ?_;exact⟨(j+1,vj),by show(QO V.a.ed s).length - (j+1)<(QO V.a.ed s).length - j;omega,ov,S,J.D U,by simp only[];rw[T];exact Qm G U⟩
 rw[OS hh]at T;refine Qr<|Qa<|Qs O hw O O<|Qo<|Q2 [[sS e.2.2]] λhV w7 hm hW hH =>
  Qo<|QZ (m:=1) (news:=[sS e.2.2]) (L:=[]) (Qm G (U.D hm)) O O O (hH.at od) om oa (oo hm.size) λv8 w8 hI hJ hX=>Qb<|Qr<|QB O O<|Qa<|xe ?_
 refine⟨(j+1,v8),by show(QO V.a.ed s).length - (j+1)<(QO V.a.ed s).length - j;omega,ov,S,((J.D U).D hm).O hJ λb hb=>.inr (Qi G b hb).1,?_⟩;simp only[];rw[T,<-LC];exact Qh.snoc hI
def Qin (x y:LI):List UInt8:=(YM x++[59])++(YM y++[59])
abbrev koA (x y:LI):ByteArray:=⟨(Qin x y).toArray⟩
theorem Qji (u:Nat):(59:UInt8)∉Lib.decDigits u:=by
 induction u using Nat.strongRecOn with
 | _ u ih =>
  unfold Lib.decDigits;split
  ·intro h;simp only[oF]at h;have:=OT UInt8.toNat h;rw[Xg oa]at this;have E:(59:UInt8).toNat=59:=rfl;omega
  intro h;rcases Le.1 h with h|h
  ·exact ih _ oa h
  simp only[oF]at h;have:=OT UInt8.toNat h;rw[Xg oa]at this;have E:(59:UInt8).toNat=59:=rfl;omega
theorem K5 (l:LI):(59:UInt8)∉YM l:=by
 intro h;obtain⟨n,_,h⟩:=Ma.1 h;rcases Le.1 h with h|h
 ·exact Qji _ h
 exact OU (Lb.1 h) og
theorem jS:∀{a b r r':List UInt8},(59:UInt8)∉a->(59:UInt8)∉b->a++59::r=b++59::r'->a=b/\r=r'
 | [],[],_,_,_,_,h=>ou h
 | [],y::b,_,_,_,hb,h=>by simp at h;exact OU h.1 (by intro e;exact hb (by simp[e]))
 | x::a,[],_,_,E,_,h=>by simp at h;exact OU h.1 (by intro e;exact E (by simp[e]))
 | x::a,y::b,_,_,E,hb,h=>by
  simp only[oZ,List.cons.injEq]at h;have:=jS (λe=>E (Lj _ e)) (λe=>hb (Lj _ e)) h.2;exact⟨by rw[h.1,this.1],this.2⟩
theorem Qlt {x y E G:LI}(I:∀n∈x,0<=n)(J:∀n∈y,0<=n)(S:∀n∈E,0<=n)(T:∀n∈G,0<=n)(h:koA x y=koA E G):x=E/\y=G:=by
 have e:Qin x y=Qin E G:=by
  have:=OT (λb:ByteArray=>b.data.toList) h;simpa using this
 unfold Qin at e;rw[LC,LC]at e;obtain⟨e1,e2⟩:=jS (K5 x) (K5 E) (ou e);obtain⟨U,_⟩:=jS (r:=[]) (r':=[]) (K5 y) (K5 G) e2;exact⟨V4 I S e1,V4 J T U⟩
def kO (lf:Nat->LI)(n:Nat):List UInt8:=(oJ n).flatMap λi=>YM (lf i)++[59]
theorem Qar (lf:Nat->LI)(n:Nat):kO lf (n+1)=kO lf n++(YM (lf n)++[59]):=by
 unfold kO;rw[Nb,LD,M6]
theorem Qio {m:Int}(G:m<=1000000)(hb:∀n∈l,0<=n/\n<m):(YM l).length<=8*l.length:=by
 induction l with
 | nil=>simp[YM]
 | cons x l ih =>
  have I:=ih λn E=>hb n (Lj _ E);have J:=hb x Ll;have S:=J1 7 x.toNat oa;unfold YM at *;rw[LK,Lc,Lc];simp only[oQ,List.length_nil];omega
theorem QfU {k:Nat}(h:k<l.length):YM (l.take (k+1))=YM (l.take k)++Lib.decDigits (l[k]'h).toNat++[32]:=by
 rw[Lh h];unfold YM;rw[LD,M6,LC]
theorem QhR {v:O0}{rv:Nat->O0}{lf:Nat->LI}{m:Int}(hA:Zs [] ↑w v (oJ n).length 1 ((oJ n).flatMap λi=>[rv i]))(hE:∀i,Qu [] ↑w (rv i) (lf i))(ho:Kb w m)(hb:∀i,∀x∈lf i,0<=x/\x<m)(hl:∀i,(lf i).length<=1000)(hn:n<=1000):
  QS sV 133 [v] w λr w'=>r=.string ⟨(kO lf n).toArray⟩/\sW w w':=by
 have hm:=ho.le;refine Zl func133 ?_;refine Qc<|Qb<|Qc<|QT [.pointer none,nS] λE w1 hv J hw=>xe ?_;refine Qe<|Ql<|QG hA O<|Qa<|xe<|QX (α:=Nat×O0) [(5,5),(7,7),(10,26)] (λz=>[(10,sS z.1)]) (λz w'=>z.1<=n/\sW w w'/\(z.2=.pointer none\/z.2=me E)/\Bl z.2 E (kO lf z.1) w'/\(kO lf z.1).length<=8001*z.1) (λz=>n - z.1) (0,.pointer none) La
  ⟨Lo _,hv,.inl O,⟨_,hw,QL _ _ _ _⟩,Lp _⟩ ?_
 rintro⟨k,p⟩ g w2 ⟨hk,V,Y,S,hy⟩;simp only[]at hk Y S hy;refine Zi rfl O (λha=>?_) (λha=>?_)
 ·refine Qt<|Qc ?_;have hz:k=n:=by have G:¬(k:Int)<((oJ n).length:Int):=ha;rw[L5]at G;omega
  rw[hz]at S;refine Qw<|(KZ V J Y S).S ?_;rintro r3 w3 ⟨rfl,h0⟩;refine Qb<|Qk ⟨[_],La,O,h0⟩
 have hc:k<(oJ n).length:=by have G:(k:Int)<((oJ n).length:Int):=ha;omega
 have h1:k<n:=by rw[L5]at hc;exact hc
 have he:=Qar lf k;have h2:=Qio hm (hb k);have h3:=hl k;have hf:=hE k;have hr:=hb k;refine Zg (lf k) λl h4=>?_;rw[h4]at he h2 h3 hf hr;refine Qf<|Qe<|Qn<|Qc<|O6 (g:=λj:Nat=>[rv j]) (i:=k) (λ_=>O) (hA.I V) O O hc λhH ht=>?_;rw[Mt]at ht;refine x (Qq (u:=rv k) ht O)<|Qb<|Qe<|Ql<|QG hf O<|Qa<|xe<|QX (α:=Nat×O0) [(7,7),(16,24)] (λz=>[(16,sS z.1)]) (λz w'=>z.1<=l.length/\sW w w'/\(z.2=.pointer none\/z.2=me E)/\Bl z.2 E (kO lf k++YM (l.take z.1)) w'/\(YM (l.take z.1)).length<=8*z.1) (λz=>l.length - z.1) (0,p) La
  ⟨Lo _,V,Y,by show Bl p E (kO lf k++YM []) w2;rw[show YM []=[] from rfl,LF];exact S,Lp _⟩ ?_
 rintro⟨j,q⟩ g w4 ⟨hj,T,hq,U,h5⟩;simp only[]at hj hq U h5;refine Zi rfl O (λhg=>?_) (λhg=>?_)
 ·refine Qt ?_;have h6:l.length<=j:=by have G:¬(j:Int)<(l.length:Int):=hg;omega
  rw[Lq h6]at U;refine Qr<|Qw<|(Ka T J hq U 59 (by rw[Lc];omega)).S ?_;rintro r5 w5 ⟨h7,h8⟩;refine xe<|Qr<|QB O O<|Qa<|xe<|⟨(k+1,me E),by show n - (k+1)<n - k;omega,La,h1,h7,.inr O,?_,?_⟩
  ·simp only[];rw[he,<-LC];exact h8
  simp only[];rw[he,Lc,Lc,Lu];omega
 have I:j<l.length:=by have G:(j:Int)<(l.length:Int):=hg;omega
 have h9:=hr _ (Lk I);have hh:=QfU I;refine Qf<|Qe<|Qn<|Qc<|xii (i:=j) (hf.I T) O O I λhJ G=>?_;refine Zg (l[j]'I) λs hs=>?_;rw[hs]at G hh h9;have hB:s=(s.toNat:Int):=oa
 have hK:=J1 7 s.toNat oa;refine x (Qq G O)<|Qb<|Qc ?_;have hI:=Qav s.toNat oa w4 (ho.I T);rw[<-hB]at hI;refine Qa<|Qw<|hI.S ?_;rintro r6 w6 ⟨rfl,hu⟩;refine Qw<|(Je (T.D hu) J hq (U.I hu) (⟨(Lib.decDigits s.toNat).toArray⟩:ByteArray) (by show _+(Lib.decDigits s.toNat).toArray.size<=_;rw[Lc,LT];omega)).S ?_;rintro r7 w7 ⟨hC,hD⟩;refine xe<|Qr<|Qw<|(Ka hC J (.inr O) hD 32 (by rw[Lc,Lc];show _+_+(Lib.decDigits s.toNat).length+1<=_;omega)).S ?_;rintro r8 w8 ⟨hF,hG⟩;refine xe<|Qr<|QB O O<|Qa<|xe<|⟨(j+1,me E),by show l.length - (j+1)<l.length - j;omega,La,I,hF,.inr O,?_,?_⟩
 ·simp only[];rw[hh,<-LC,<-LC];exact hG
 simp only[];rw[hh,Lc,Lc,Lu];omega
theorem kO2 (x y:LI):kO (λi=>if i=0 then x else y) 2=Qin x y:=by
 rw[Qar,Qar];rfl
theorem VX {v vy:O0}{x y:LI}{m:Int}(hA:Zs [] ↑w v 2 1 [vx,vy])(hx:Qu [] ↑w vx x)(G:Qu [] ↑w vy y)(E:Kb w m)(I:∀n∈x,0<=n/\n<m)(J:∀n∈y,0<=n/\n<m)(S:x.length<=1000)(T:y.length<=1000):
  QS sV 133 [v] w λr w'=>r=.string (koA x y)/\sW w w':=by
 have:=QhR (n:=2) (rv:=λi=>if i=0 then vx else vy) (lf:=λi=>if i=0 then x else y) (w:=w) (v:=v) hA (λi=>by by_cases e:i=0 <;> simp only[e,if_true,if_false] <;> assumption) E (λi=>by by_cases e:i=0 <;> simp only[e,if_true,if_false] <;> assumption) (λi=>by by_cases e:i=0 <;> simp only[e,if_true,if_false] <;> assumption) oa
 rw[kO2]at this;exact this
theorem zh {v:O0}{b:Nat}(h:b∈ob v):b∈ow v:=by
 cases v with
 | slice a _ _=>cases a <;> exact h
 | _=>cases h
theorem Qda {e:Nat}{v:O0}(h:w.ownsRow base e sz v n cs){b:Nat}(hb:b∈ow v):b∈ob v:=by
 rcases h.2 with⟨rfl,_⟩|⟨g,cp,cur,rfl,_⟩
 ·cases hb
 exact hb
theorem XS {e:Nat}{v:O0}(h:w.ownsRow base e sz v n cs)(b:Nat)(hb:b∈ow v):base<=b/\b<w.heap.size:=Qi h b (Qda h hb)
theorem Vv {e b:Nat}{v:O0}(h:w.ownsRow base e sz v n cs)(E:QK ↑w b T us)(hT:T≠e):b∉ob v:=by
 intro G;rcases h.2 with⟨rfl,_⟩|⟨g,cap,cur,rfl,_,I,_⟩
 ·cases G
 have e1:b=g:=Lb.1 G;subst e1;unfold QK at E;rw[E]at I;injection I with h1
 injection h1 with h2 h3
 exact hT h3
def Pts (L:LN)(H:xz):List (O0×LI)->Prop
 | []=>True
 | r::l=>Qu L H r.1 r.2/\Pts L H l
theorem Pts.I {L:LN}{w w':OZ}(E:sW w w'):∀{l:List (O0×LI)},Pts L ↑w l->Pts L ↑w' l
 | [],_=>trivial
 | _::_,h=>⟨h.1.I E,Pts.I E h.2⟩
theorem Pts.J {L X:LN}{w w':OZ}(E:O3 X w w')(hX:∀b∈X,b∈L):∀{l:List (O0×LI)},Pts L ↑w l->Pts L ↑w' l
 | [],_=>trivial
 | _::_,h=>⟨Zs.J h.1 E hX,Pts.J E hX h.2⟩
theorem Pts.grow {X X' Y:LN}{w w':OZ}(E:O3 Y w w')(G:∀b∈Y,b∈X)(hX:∀b∈X',b∈X\/↑w<=b):∀{l:List (O0×LI)},Pts X ↑w l->Pts X' ↑w' l
 | [],_=>trivial
 | _::_,h=>⟨Zs.grow h.1 E G hX,Pts.grow E G hX h.2⟩
abbrev Yn (N:Nat)(H:xz)(v:O0)(l:LI):Prop:=∀L:LN,(∀b∈L,b<N)->Qu L H v l
theorem Yn.nil (N:Nat)(H:xz):Yn N H (nS) []:=λ_ _=>Zs.nil _ _ _
theorem Yn.S {M:Nat}{H:xz}{v:O0}(h:Yn N H v l)(E:M<=N):Yn M H v l:=λL G=>h L λb hb=>LQ (G b hb) E
theorem Yn.ints {H:xz}{v:O0}(h:Yn N H v l):Qu [] H v l:=h [] λ_ hb=>by cases hb
structure QI {α κ:Type}(T sz:Nat)(cel:α->LV)(enc:κ->O0)(key:α->κ)(pts ptn:α->List (O0×LI))(bm:Nat)(w0:OZ)(vl:O0)(q:List α)(w:OZ):Prop where
 st:sW w0 w
 o:w.ownsRow ↑w0 T sz vl q.length (q.flatMap cel)
 e:∀p∈q,Pts (bm::ob vl) ↑w (pts p)/\∀L:LN,(∀b∈L,b<↑w0)->Pts (L++bm::ob vl) ↑w (ptn p)
 m:Xw enc ↑w bm (q.map key)
 nm:bm∉ob vl
 hb:↑w0<=bm
section
variable {κ:Type}{cel:α->LV}{enc:κ->O0}{key:α->κ}{pts ptn:α->List (O0×LI)}{bm:Nat}{w0 w1 w2 w3:OZ}{vl':O0}{q:List α}{p:α}
theorem QI.I (h:QI T sz cel enc key pts ptn bm w0 vl q w)(E:sW w w'):QI T sz cel enc key pts ptn bm w0 vl q w' :=
 ⟨h.st.D E,Qm h.o E,λp G=>⟨(h.e p G).1.I E,λL I=>((h.e p G).2 L I).I E⟩,h.m.I E,h.nm,h.hb⟩
theorem QI.lt (h:QI T sz cel enc key pts ptn bm w0 vl q w):∀b∈bm::ob vl,b<w.heap.size:=λb hb=>by
 rcases Ln.1 hb with rfl|hb
 ·exact h.m.lt
 exact QU h.o b hb
theorem j8 {vl':O0}(E:∀b∈ob vl',b∈ob vl\/N<=b):∀b∈bm::ob vl',b∈bm::ob vl\/N<=b:=λb hb=>by
 rcases Ln.1 hb with rfl|hb
 ·exact .inl Ll
 exact(E b hb).imp (Lj _) id
theorem j7 (L:LN){vl':O0}(E:∀b∈ob vl',b∈ob vl\/N<=b):∀b∈L++bm::ob vl',b∈L++bm::ob vl\/N<=b:=λb hb=>by
 rcases Le.1 hb with hb|hb
 ·exact .inl (Le.2 (.inl hb))
 exact(j8 E b hb).imp (λh=>Le.2 (.inr h)) id
theorem QI.add (h:QI T sz cel enc key pts ptn bm w0 vl q w)(I:O3 [bm] w w1)(hm:Xw enc ↑w1 bm (q.map key++[key p]))(G:sW w1 w2)(J:O3 (ob vl) w2 w3)(ho:w3.ownsRow ↑w0 T sz vl' (q.length+1) (q.flatMap cel++cel p))
  (U:∀b∈ob vl',b∈ob vl\/↑w2<=b) (V:Pts (bm::ob vl) ↑w (pts p)/\∀L:LN,(∀b∈L,b<↑w0)->Pts (L++bm::ob vl) ↑w (ptn p)):QI T sz cel enc key pts ptn bm w0 vl' (q++[p]) w3:=by
 have hc:=I.size;have he:=G.size;have hf:=h.m.lt;have k:∀(L:LN) {l:List (O0×LI)},Pts (L++bm::ob vl) ↑w l->Pts (L++bm::ob vl') ↑w3 l:=λL {l} hv =>
  ((hv.J I λb hb=>Le.2 (.inr (Ln.2 (.inl (Lb.1 hb))))).I G).grow J (λb hb=>Le.2 (.inr (Lj _ hb))) (j7 L U)
 refine⟨((h.st.O I λb hb=>.inr (by rw[Lb.1 hb];exact h.hb)).D G).O J λb hb=>.inr (Qi h.o b hb).1,?_,λY E=>?_,?_,λha=>?_,h.hb⟩
 ·rw[LD,M6,Lc,Lu];exact ho
 ·rcases Le.1 E with E|E
  ·exact⟨k [] (h.e Y E).1,λL S=>k L ((h.e Y E).2 L S)⟩
  rw[Lb.1 E];exact⟨k [] V.1,λL S=>k L (V.2 L S)⟩
 ·rw[Lv];exact(hm.I G).J J h.nm
 rcases U _ ha with h1|h1
 ·exact h.nm h1
 omega
end
theorem QhE (L:List (LI×LI))(hd:L.Nodup)(h:∀p∈L,Ss n p.1/\Ss n p.2):L.length<=2 ^ (n+n):=by
 have fil:∀r∈L,∀x,x∈r.1↔x∈(r.1++r.2.map (·+(n:Int)))/\x<(n:Int):=λr G x=>by
  constructor
  ·intro hx;exact⟨Le.2 (.inl hx),((h r G).1.2 x hx).2⟩
  rintro⟨hx,he⟩;rcases Le.1 hx with hx|hx
  ·exact hx
  obtain⟨y,I,rfl⟩:=Ly.1 hx;have:=(h r G).2.2 y I;omega
 have fir:∀r∈L,∀x,x∈r.2↔0<=x/\x+(n:Int)∈(r.1++r.2.map (·+(n:Int))):=λr G x=>by
  constructor
  ·intro hx;exact⟨((h r G).2.2 x hx).1,Le.2 (.inr (Ly.2 ⟨x,hx,O⟩))⟩
  rintro⟨h0,hx⟩;rcases Le.1 hx with hx|hx
  ·have:=(h r G).1.2 _ hx;omega
  obtain⟨y,I,e⟩:=Ly.1 hx;have:y=x:=oa
  exact this ▸ I
 have Y:∀p∈L,∀q∈L,p.1++p.2.map (·+(n:Int))=q.1++q.2.map (·+(n:Int))->p=q:=λp E q J e=>by
  have e1:p.1=q.1:=qJ (h p E).1.1 (h q J).1.1 λx=>by rw[fil p E,fil q J,e]
  have e2:p.2=q.2:=qJ (h p E).2.1 (h q J).2.1 λx=>by rw[fir p E,fir q J,e]
  exact Prod.ext e1 e2
 have:=qz (n+n) (L.map λp=>p.1++p.2.map (·+(n:Int))) (by
  unfold List.Nodup;rw[L8];exact hd.imp_of_mem λ{a b} ha hb hc e=>hc (Y a ha b hb e)) λl hl=>by
  obtain⟨p,E,rfl⟩:=Ly.1 hl;obtain⟨⟨h1,U⟩,h3,V⟩:=h p E;refine⟨?_,λx hx=>?_⟩
  ·unfold Yw at *;rw[Me];refine⟨h1,?_,λx hx y I=>?_⟩
   ·rw[L8];exact h3.imp λh=>oa
   obtain⟨z,S,rfl⟩:=Ly.1 I;have:=U x hx;have:=V z S;omega
  rcases Le.1 hx with hx|hx
  ·have:=U x hx;omega
  obtain⟨z,S,rfl⟩:=Ly.1 hx;have:=V z S;omega
 rwa [Lm]at this
theorem zH:∀n:Nat,4 ^ n=2 ^ (n+n)
 | 0=>rfl
 | n+1=>by rw[OM,zH n,show n+1+(n+1)=n+n+1+1 by omega,OM,OM];omega
theorem QmF (h:n<=9):2 ^ (n+n)<=262144:=Lx (Nat.pow_le_pow_right og (show n+n<=18 by omega)) og
theorem Ss.len (h:Ss n l):l.length<=n:=xG n l (h.1.imp λE e=>oa) h.2
structure DqP (n:Nat)(l:List Dq):Prop where
 s:∀d∈l,Ss n d.1/\Ss n d.2.1
 w:∀d∈l,d.2.2.length<=l.length
 d:(l.map λd=>(d.1,d.2.1)).Nodup
theorem DqP.le {l:List Dq}(h:DqP n l):l.length<=2 ^ (n+n):=by
 have:=QhE _ h.d λp E=>by
  obtain⟨d,hd,rfl⟩:=Ly.1 E;exact h.s d hd
 rwa [Lm]at this
theorem yS {l:List Dq}{x y:LI}:Kr l x y=true↔(x,y)∈l.map λd=>(d.1,d.2.1):=by
 unfold Kr;rw[Nq,Ly];exact⟨λ⟨d,E,G⟩=>⟨d,E,by have:=OW G;rw[this.1,this.2]⟩,λ⟨d,E,G⟩=>⟨d,E,OV (by cases G;exact⟨O,O⟩)⟩⟩
theorem DqP.add {l:List Dq}(h:DqP n l){x y w:LI}(hx:Ss n x)(E:Ss n y)(G:w.length<=l.length+1)(I:Kr l x y=false):DqP n (l++[(x,y,w)]):=by
 refine⟨λd hd=>?_,λd hd=>?_,?_⟩
 ·rcases Le.1 hd with hd|hd
  ·exact h.s d hd
  rw[Lb.1 hd];exact⟨hx,E⟩
 ·rw[Lc,Lu];rcases Le.1 hd with hd|hd
  ·have:=h.w d hd;omega
  rw[Lb.1 hd];exact G
 rw[Lv,Md];refine⟨h.d,od,λa J b hb e=>?_⟩;rw[Ns,Lb]at hb;have:=yS.2 (hb ▸ e ▸ J);rw[I]at this;cases this
theorem DqP.one {x y:LI}(hx:Ss n x)(E:Ss n y):DqP n [(x,y,[])]:=
 ⟨λd hd=>by rw[Lb.1 hd];exact⟨hx,E⟩,λd hd=>by rw[Lb.1 hd];exact Lo _,od⟩
theorem QgM (a:QD)(o un l:LI)(v:Int):Ss a.st.toNat (vnx a o un l v):=jR _ _
theorem Qjh {bad:LI->LI->Bool}{f:Nat}{l:List Dq}(h:l.length<=i):dfL a o un bad f i l=none:=by
 cases f with
 | zero=>rfl
 | succ f=>rw[dfL,Mm h]
theorem Qok {bad:LI->LI->Bool}{f:Nat}{l:List Dq}{x:Dq}(h:l[i]?=some x):dfL a o un bad (f+1) i l=if bad x.1 x.2.1=true then some x.2.2 else dfL a o un bad f (i+1) ((kpt a o).foldl (dfE a o un x) l):=by
 rw[dfL,h]
abbrev DqV:=Dq×O0×O0×O0
abbrev dqC (q:DqV):LV:=[q.2.1,q.2.2.1,q.2.2.2]
abbrev dqL (q:List DqV):List Dq:=q.map (·.1)
theorem Qei {f:α->Dq}{q:List α}(h:DqP n (q.map f)){x y:LI}(hx:Ss n x)(J:Ss n y){i:Decidable (koA x y∈q.map λp=>koA (f p).1 (f p).2.1)}:(!@decide _ i)=!Kr (q.map f) x y:=by
 congr 1;have hi:(koA x y∈q.map λp=>koA (f p).1 (f p).2.1)↔Kr (q.map f) x y=true:=by
  rw[yS,Mu,Ly,Ly];constructor
  ·rintro⟨p,G,e⟩;have I:=h.s (f p) (LG G);obtain⟨e1,e2⟩:=Qlt (λz E=>(I.1.2 z E).1) (λz E=>(I.2.2 z E).1) (λz E=>(hx.2 z E).1) (λz E=>(J.2 z E).1) e;exact⟨p,G,by show((f p).1,(f p).2.1)=_;rw[e1,e2]⟩
  rintro⟨p,G,e⟩;have e':((f p).1,(f p).2.1)=(x,y):=e;injection e' with e1 e2
  exact⟨p,G,by rw[e1,e2]⟩
 cases hb:Kr (q.map f) x y with
 | true=>exact OV (hi.2 hb)
 | false=>exact OX λS=>by rw[hi.1 S]at hb;cases hb
abbrev dqP (p:DqV):List (O0×LI):=[(p.2.1,p.1.1),(p.2.2.1,p.1.2.1)]
abbrev dqN (p:DqV):List (O0×LI):=[(p.2.2.2,p.1.2.2)]
abbrev DqI:=QI 361 3 dqC Xl (λp:DqV=>koA p.1.1 p.1.2.1) dqP dqN
abbrev QeB:LV:=[nS,nS,nS]
def dfP (N:Nat)(A B W:LI)(e:Int)(i:Nat)(v:O0)(w:OZ):Prop :=
 if i=4 then Qh 3 N w v A else
 if i=9 then Qh 3 N w v B else
 if i=12 then Qh 3 N w v W else
 if i=14 then ∃b,v=sL b 1 1/\N<=b/\QK ↑w b 3 [sS e]else
 if i=15 then Qh 3 N w v (W++[e]) else
 if i=16 then ∃va vb vw,v=.agg #[va,vb,vw]/\Qh 3 N w va A/\Qh 3 N w vb B/\Qh 3 N w vw (W++[e]) else
 ∃b,v=sP b/\N<=b/\QK ↑w b 361 QeB
theorem Qjg {A B W:LI}{e:Int}(i:Nat)(v:O0)(own:LN)(w w':OZ)(h:dfP N A B W e i v w)(E:O3 own w w')(hb:∀b∈ow v,b∉own)(J:i∈[16]->own=[]):dfP N A B W e i v w':=by
 have k:∀{l:LI},Qh 3 N w v l->Qh 3 N w' v l:=λS=>Qg S E λb U=>hb b (zh U);unfold dfP at *;by_cases e4:i=4
 ·rw[OS e4]at *;exact k h
 rw[OR e4]at *;by_cases e9:i=9
 ·rw[OS e9]at *;exact k h
 rw[OR e9]at *;by_cases e12:i=12
 ·rw[OS e12]at *;exact k h
 rw[OR e12]at *;by_cases e14:i=14
 ·rw[OS e14]at *;obtain⟨b,rfl,G,I⟩:=h;exact⟨b,rfl,G,I.J E (hb b Ll)⟩
 rw[OR e14]at *;by_cases e15:i=15
 ·rw[OS e15]at *;exact k h
 rw[OR e15]at *;by_cases e16:i=16
 ·rw[OS e16]at *;obtain⟨va,vb,vw,rfl,G,I,V⟩:=h;have:=J (by rw[e16];exact Ll);subst this;exact⟨va,vb,vw,O,Qm G E,Qm I E,Qm V E⟩
 rw[OR e16]at *;obtain⟨b,rfl,G,I⟩:=h;exact⟨b,O,G,I.J E (hb b Ll)⟩
theorem Qf9 [Fu sV gp fn]{bad:LI->LI->Bool}{V:jD}{A B:LI}(h:jE ↑w V)(hA:Qu [] ↑w va A)(U:Qu [] ↑w vb B)(hU:Ss V.a.st.toNat A)(hV:Ss V.a.st.toNat B)(h9:V.a.st<=9)(g8:V.a.ed.length<=1000)
  (hk:∀(X Y:LI) (vx vy:O0) (W:OZ),sW w W->Qu [] ↑W vx X->Qu [] ↑W vy Y->QS sV gp ([vx,vy]++cap) W λr w'=>r=.bool (bad X Y)/\sW W w'):
  QS sV 204 [.pointer (some ⟨V.b,0,none⟩),va,vb,.func (.func gp) #[] cap.toArray] w λr w'=>sW w w'/\∃vw,r=.tuple #[vw,.bool (dff V.a V.o V.un A B bad).isSome]/\Yn ↑w ↑w' vw ((dff V.a V.o V.un A B bad).getD []):=by
 have hok:=h.ok;have hst0:=hok.st0;obtain⟨n,hn⟩:∃n:Nat,V.a.st.toNat=n:=⟨_,O⟩;have mg:n<=9:=oa
 have hna:V.a.st=(n:Int):=oa
 rw[hn]at hU hV;have hp18:=QmF mg;have mh:dff V.a V.o V.un A B bad=dfL V.a V.o V.un bad (2 ^ (n+n)+1) 0 [(A,B,[])]:=by unfold dff;rw[hn,zH]
 rw[mh];refine Zg (dfL V.a V.o V.un bad (2 ^ (n+n)+1) 0 [(A,B,[])]) λR hR=>?_;rw[hR];have hAl:=hU.len;have hBl:=hV.len;refine Zl func204 ?_;refine Qc<|x Qd<|Qb<|Ql<|Qa<|x (QC ⟨hA.cells,U.cells,Z⟩)<|Qo<|Q2 [[va,vb,ZS]] λhX w1 mj mo g9=>Qb<|Qc<|Qo<|ZU Xl λbm w2 mq hbm ka=>Qa<|Qa<|Qo<|Yd (us:=[[va],[vb]]) O O og od ⟨hA.cells,rfl,U.cells,rfl,Z⟩ λb24 w3 kb hb24 ms=>?_;have h5:=mq.D kb;have gl:=mj.D h5;have hl20:=g9.lt;have hlm:=ka.lt;refine Kz<|(VX (m:=100) (ms.arr od (n:=2) (cap:=2) (sz:=1) rfl og (Lp _)) (hA.I gl) (U.I gl) (.inl (Mx _)) (λz hz=>oo (hU.2 z hz)) (λz hz=>oo (hV.2 z hz)) oa oa).S ?_;rintro _ w4 ⟨rfl,gm⟩;refine Qo<|Qag (k:=koA A B) (Xw.zero ((ka.I kb).I gm)) O O O λw5 kc mt=>Qa<|Qb ?_;have mu:=gl.D gm;have ke:sW w w5:=mu.Q kc oa;have kf:∀{L:LN} {v:O0} {l:LI},(∀b∈L,↑w<=b)->Qu [] ↑w v l->Qu L ↑w5 v l:=λhL hv=>(hv.up λb hb=>.inr (hL b hb)).I ke;have mv:DqI bm w (sL hX 1 1) [((A,B,[]),va,vb,ZS)] w5:=by
  have hL:∀b∈bm::ob (sL hX 1 1),↑w<=b:=λb hb=>by
   rcases Ln.1 hb with rfl|hb
   ·omega
   rw[Lb.1 hb];exact mo
  have kg:hX≠bm:=oa
  refine⟨ke,(((g9.I h5).I gm).J kc (by simp only[oF];exact kg)).own (n:=1) (sz:=3) O oa oa,λp hp=>?_,mt,λI=>kg (Lb.1 I).symm,oa⟩;rw[Lb.1 hp];exact⟨⟨kf hL hA,kf hL U,Z⟩,λ_ _=>⟨Zs.nil _ _ _,Z⟩⟩
 refine Qe<|Qc<|Qb<|QX (α:=Nat×O0×List DqV) [(8,10),(12,13),(15,16),(27,99)] (λz=>[(10,z.2.1),(12,sS z.1)]) (λz w'=>z.1<=z.2.2.length/\DqI bm w z.2.1 z.2.2 w'/\DqP n (dqL z.2.2)/\dfL V.a V.o V.un bad (2 ^ (n+n)+1 - z.1) z.1 (dqL z.2.2)=R) (λz=>2 ^ (n+n)+1 - z.1) (0,sL hX 1 1,[((A,B,[]),va,vb,ZS)]) ov ⟨Lo _,mv,DqP.one hU hV,hR⟩ ?_;rintro⟨i,vl,q⟩ g w6 ⟨hi,h6,hJ,ha⟩;simp only[]at hi h6 hJ ha;have hql:q.length<=2 ^ (n+n):=by have:=hJ.le;rwa [Lm]at this
 have kh:Zs [] ↑w6 vl q.length 3 (q.flatMap dqC):=QM h6.o oa od;refine Qe<|Ql<|Qa<|QG kh O<|ZP O O<|xe<|Zn rfl (λgn=>?_) (λgn=>?_)
 ·refine Qt ?_;have mw:q.length<=i:=by have hK:¬(i:Int)<(q.length:Int):=gn;omega
  rw[Qjh (by rw[Lm];exact mw)]at ha;refine Qc<|x Qd<|Qb<|Qk ⟨[ZS,.bool false],ov,h6.st,ZS,?_,?_⟩
  ·rw[<-ha];rfl
  rw[<-ha];exact Yn.nil _ _
 have hM:i<q.length:=by have hK:(i:Int)<(q.length:Int):=gn;omega
 have my:2 ^ (n+n)+1 - i=(2 ^ (n+n)+1 - (i+1))+1:=oa
 have hN:=Lk hM;have ki:(dqL q)[i]?=some (q[i]'hM).1:=by rw[ME,LE hM];rfl
 refine Zg (q[i]'hM) λd hp=>?_;rw[hp]at hN ki;rw[my,Qok ki]at ha;obtain⟨⟨kj,kk,_⟩,kn⟩:=h6.e d hN;have mz:=(kn [] (λ_ hb=>by cases hb)).1;have hY:=hJ.s d.1 (LG hN);have m0:=hJ.w d.1 (LG hN);rw[Lm]at m0;have hl1:=hY.1.len;have hl2:=hY.2.len;have hr:∀{v:O0} {l:LI} {L:LN} {H:xz},Qu L H v l->Qu [] H v l:=λhv=>hv.up λb hb=>by cases hb
 refine Qf<|Qe<|Qn<|Ql<|Qa<|O6 (g:=dqC) (i:=i) (λ_=>O) kh O O hM λa35 ko=>?_;rw[hp]at ko;refine x (QF (us:=dqC d) ko O O)<|QT QeB λhZ w7 m1 m2 m3=>Q5 (dqC d) m3 ⟨kj.one,kk.one,mz.one,Z⟩ λw8 m4 go=>xe ?_;have ga:sW w6 w8:=m1.Q m4 m2;have kq:=h6.I ga;refine Qe<|Ql<|Qs O go O O<|Qs O go O O<|Qo<|xc (first:=[]) (capt:=cap) O<|(hk d.1.1 d.1.2.1 _ _ w8 kq.st (hr (kj.I ga)) (hr (kk.I ga))).S ?_;rintro _ w9 ⟨rfl,gq⟩;refine xe ?_;have gb:=kq.I gq;have kr:=go.I gq;have m5:=ga.D gq;refine Q0 rfl (λgr=>?_) (λgr=>?_)
 ·rw[OS gr]at ha;refine Qc<|Qs O kr O O<|x Qd<|Qb<|Qk ⟨[d.2.2.2,.bool true],ov,gb.st,d.2.2.2,?_,?_⟩
  ·rw[<-ha];rfl
  rw[<-ha];exact λL hL=>((kn L hL).1.I m5).up λb hb=>.inl (Le.2 (.inl hb))
 rw[OR (λh:bad d.1.1 d.1.2.1=true=>My (gr.symm.D h))]at ha;refine Qf<|Ql<|Kz<|(yG (h.I gb.st)).S ?_;rintro kt m6 ⟨ku,m7⟩;have hal:=hok.al_le;have m8:(kpt V.a V.o).length<=V.a.al.length:=LJ _ _;have m9:=gb.lt;have gs:Qu (bm::ob vl) ↑m6 kt (kpt V.a V.o):=Qh.ints m7 oa m9;refine Zg (kpt V.a V.o) λks pc=>?_;rw[pc]at ha gs m8;refine QG gs O<|Qa<|xe ?_;have pd:=h6.lt;have pf:hZ∉bm::ob vl:=λI=>oo (pd _ I)
 refine QX (α:=Nat×O0×List DqV) [(10,10),(15,16),(48,99)] (λz=>[(10,z.2.1),(48,sS z.1)]) (λz w'=>z.1<=ks.length/\DqI bm w z.2.1 z.2.2 w'/\DqP n (dqL z.2.2)/\d∈z.2.2/\q.length<=z.2.2.length/\QK ↑w' hZ 361 (dqC d)/\hZ∉bm::ob z.2.1/\Qu (bm::ob z.2.1) ↑w' kt ks/\(ks.drop z.1).foldl (dfE V.a V.o V.un d.1) (dqL z.2.2)=ks.foldl (dfE V.a V.o V.un d.1) (dqL q)) (λz=>ks.length - z.1) (0,vl,q) ov
  ⟨Lo _,gb.I ku,hJ,hN,Lp _,kr.I ku,pf,gs,O⟩ ?_
 rintro⟨j,vj,qj⟩ g J ⟨hj,ht,h7,gc,kv,h8,hC,ge,hg⟩;simp only[]at hj ht h7 gc kv hC ge hg;have hqjl:qj.length<=2 ^ (n+n):=by have:=h7.le;rwa [Lm]at this
 refine Zi rfl O (λgt=>?_) (λgt=>?_)
 ·refine Qt ?_;have pg:ks.length<=j:=by have hK:¬(j:Int)<(ks.length:Int):=gt;omega
  rw[Lr pg]at hg;have ph:dqL qj=ks.foldl (dfE V.a V.o V.un d.1) (dqL q):=hg;rw[<-ph]at ha;refine Qr<|Qa<|QB O O<|Qb<|⟨(i+1,vj,qj),by show 2 ^ (n+n)+1 - (i+1)<2 ^ (n+n)+1 - i;omega,ov,by show i+1<=qj.length;omega,ht,h7,ha⟩
 have hO:j<ks.length:=by have hK:(j:Int)<(ks.length:Int):=gt;omega
 rw[QY hO,LO]at hg;refine Qf<|Qe<|Qn<|Qc<|xii (i:=j) ge O O hO λa50 kw=>?_;refine Zg (ks[j]'hO) λv hv=>?_;rw[hv]at kw hg;refine x (Qq kw O)<|Qb ?_;obtain⟨⟨pj,pn,_⟩,po⟩:=ht.e d gc;have pp:=(po [] (λ_ hb=>by cases hb)).1;have kx:∀l:LI,Ss n (vnx V.a V.o V.un l v):=λl=>by rw[<-hn];exact QgM _ _ _ _ _
 have hD:=kx d.1.1;have hE:=kx d.1.2.1;have kz:dfE V.a V.o V.un d.1 (dqL qj) v=if(vnx V.a V.o V.un d.1.1 v).length+(vnx V.a V.o V.un d.1.2.1 v).length > 0/\Kr (dqL qj) (vnx V.a V.o V.un d.1.1 v) (vnx V.a V.o V.un d.1.2.1 v)=false then dqL qj++[(vnx V.a V.o V.un d.1.1 v,vnx V.a V.o V.un d.1.2.1 v,d.1.2.2++[v])]else dqL qj:=rfl
 have pt:∀z∈d.1.1,0<=z/\z<V.a.st:=λz hz=>oo (hY.1.2 z hz)
 have pu:∀z∈d.1.2.1,0<=z/\z<V.a.st:=λz hz=>oo (hY.2.2 z hz)
 have k0:∀W:OZ,sW J W->QS sV 136 [.pointer (some ⟨V.b,0,none⟩),d.2.1,sS v] W λr w'=>sW W w'/\Qh 3 ↑W w' r (vnx V.a V.o V.un d.1.1 v):=λW hW=>Us (est:=d.1.1) (h.I (ht.st.D hW)) (hr (pj.I hW)) pt oa g8 v;have k4:∀W:OZ,sW J W->QS sV 136 [.pointer (some ⟨V.b,0,none⟩),d.2.2.1,sS v] W λr w'=>sW W w'/\Qh 3 ↑W w' r (vnx V.a V.o V.un d.1.2.1 v):=λW hW=>Us (est:=d.1.2.1) (h.I (ht.st.D hW)) (hr (pn.I hW)) pu oa g8 v;refine Zg (vnx V.a V.o V.un d.1.1 v) λA' gu=>?_;refine Zg (vnx V.a V.o V.un d.1.2.1 v) λB' gv=>?_;rw[gu,gv]at kz;rw[gu]at hD;rw[gv]at hE;simp only[gu]at k0;simp only[gv]at k4;rw[kz]at hg;have hAl':=hD.len;have hBl':=hE.len;have pw:=ht.st.size;refine Qe<|ye (α:=O0×O0×O0×Nat) (sW J) (sW J) ↑J [oz 0,oz 1,oz 2,oz 3,oz 5,oz 6,oz 7,oz 8,oz 10,oz 11,oz 13] (λi=>if i=9 then[4]else if i=12 then[9]else if i=15 then[12,14]else if i=16 then[4,9,15]else[]) (λi=>if i=15 then[12]else[]) [4,9,12,14,15,16,17] [16,17] [16] [oA 18] [(56,56),(61,61),(64,64),(66,68),(16,16)] (dfP ↑J A' B' d.1.2.2 v)
  (λz=>[(68,.agg #[z.1,z.2.1,z.2.2.1]),(16,.pointer (some ⟨z.2.2.2,0,none⟩))]) (λz w'=>Qh 3 ↑J w' z.1 A'/\Qh 3 ↑J w' z.2.1 B'/\Qh 3 ↑J w' z.2.2.1 (d.1.2.2++[v])/\↑J<=z.2.2.2/\QK ↑w' z.2.2.2 361 QeB)
  mixed oh oc (O3.X _ _) (λ_ h=>h) (λ_ _ _ _ _ E S hb _=>E.O S λb pz=>.inr (hb b pz)) (λ_ E=>E.size) (λi _=>Qjg i) ?_ ?_
 ·rintro g w' ⟨⟨he,hf,hh,p0,h1,h2,h3⟩,⟨b,p4,hb,U⟩,_⟩ _ _;exact⟨(he,hf,hh,b),⟨p0,p4,Z⟩,h1,h2,h3,hb,U⟩
 refine p Qx<|p (QH O)<|pq (λ_ E=>Qj (h8.I E) O O)<|p Qx<|p Qx<|p (QH O)<|pq (λ_ E=>Qj (h8.I E) O O)<|p Qx <|
  p (QH rfl)<|pq (λ_ E=>Qj (h8.I E) O O)<|p Qx<|pe ⟨⟨?_,?_,?_,?_,?_,?_,?_,Z⟩,?_⟩
 ·rintro g w' E _ _;exact xf<|(k0 w' E).S λr hP ⟨S,G⟩=>⟨S,Q9 G E.size,λb hb=>⟨.inl (XS G b hb).1,(XS G b hb).2⟩⟩
 ·rintro g w' E _ _;exact xf<|(k4 w' E).S λr hP ⟨S,G⟩=>⟨S,Q9 G E.size,λb hb=>⟨.inl (XS G b hb).1,(XS G b hb).2⟩⟩
 ·rintro g w' E _ _;exact xf<|(ZT (pp.I E)).S λr hP ⟨S,G⟩=>⟨S,Q9 G E.size,λb hb=>⟨.inl (XS G b hb).1,(XS G b hb).2⟩⟩
 ·rintro g w' E _ _;exact Q2 [[sS v]] λb hP S hb U=>⟨S,⟨b,O,Lx E.size hb,U⟩,λc hQ=>by rw[Lb.1 (show c∈[b] from hQ)];exact⟨.inl hb,U.lt⟩⟩
 ·rintro g w' E ⟨p5,⟨b,p6,hb14,p7⟩,_⟩ _;refine QZ (m:=1) (news:=[sS v]) (L:=[]) (show Qh _ _ _ _ _ from p5) O p6 O (p7.at od) om oa E.size λr hP G S hn=>⟨S.S λb hb=>Ma.2 ⟨12,Ll,zh hb⟩,Qh.snoc G,λb hb=>⟨?_,(XS G b hb).2⟩⟩;exact(hn b (Qda G hb)).symm.imp id λh=>Ma.2 ⟨12,Ll,zh h⟩
 ·rintro g w' E ⟨h4,h9,k5,_⟩ _;refine xv (QC ⟨xL (show Qh _ _ _ _ _ from h4),xL (show Qh _ _ _ _ _ from h9),xL (show Qh _ _ _ _ _ from k5),Z⟩) ?_;exact⟨O3.Y _ _,⟨_,_,_,O,h4,h9,k5⟩,λc hQ=>by cases hQ⟩
 ·rintro g w' E _ _;exact YN (us:=QeB) O λb hP S hb U=>⟨S,⟨b,O,Lx E.size hb,U⟩,λc hQ=>by rw[Lb.1 (show c∈[b] from hQ)];exact⟨.inl hb,U.lt⟩⟩
 rintro⟨he,hf,hh,b16⟩ g p8 k6 ⟨gx,gy,gz,gg,g0⟩;simp only[]at gx gy gz gg g0;refine pk<|UG [he,hf,hh] g0 ⟨QA gx,QA gy,QA gz,Z⟩ λhF h5 hG=>⟨k6.Q h5 gg,pe ?_⟩;have hS:sW J hF:=k6.Q h5 gg;have g2:∀{u:O0} {l:LI},Qh 3 ↑J p8 u l->Qh 3 ↑J hF u l:=λG=>Qg G h5 λb hb I=>Vv G g0 og (Lb.1 I ▸ hb);have p9:=g2 gx;have qf:=g2 gy;have k9:=g2 gz;have ql:(d.1.2.2++[v]).length<=qj.length+1:=by rw[Lc,Lu];omega
 have g3:=ht.I hS;have hT:=ht.lt;have hy:Qu (bm::ob vj) ↑hF he A':=Qh.ints p9 oa hT;have h0:Qu (bm::ob vj) ↑hF hf B':=Qh.ints qf oa hT;have q0:Qu (bm::ob vj) ↑hF hh (d.1.2.2++[v]):=Qh.ints k9 oa hT;have gh:∀{l:LI},Ss n l->∀z∈l,0<=z/\z<(100:Int):=λhl z hz=>oo (hl.2 z hz)
 refine QW (α:=Unit) [(69,87)] (λ_=>[(87,.bool (decide (A'.length+B'.length > 0/\Kr (dqL qj) A' B'=false)))]) (λ_ w'=>sW hF w') oh ?_ ?_
 ·refine Qr<|Qs O hG O O<|QG hy O<|Qs O hG O O<|QG h0 O<|QB O O<|xb (Z5 O O) (λg4=>?_) (λg4=>?_)
  ·refine Qa<|Qa<|Qs O hG O O<|Qs O hG O O<|Qo<|Yd (us:=[[he],[hf]]) O O og od ⟨hy.cells,rfl,h0.cells,rfl,Z⟩ λb83 q4 hq hb83 q5=>?_;refine Kz<|(VX (m:=100) (q5.arr od (n:=2) (cap:=2) (sz:=1) rfl og (Lp _)) (hr (hy.I hq)) (hr (h0.I hq)) (.inl (Mx _)) (gh hD) (gh hE) oa oa).S ?_;rintro _ j1 ⟨rfl,gi⟩;refine x (j0 (k:=koA A' B') ((g3.m.I hq).I gi) O O)<|x (Zj O)<|Qz O<|xe<|⟨(),⟨OT Value.bool ?_,Z⟩,hq.D gi⟩;refine(Qei (f:=Prod.fst) h7 hD hE).D ?_;have j2:A'.length+B'.length > 0:=by have hK:(A'.length:Int)+(B'.length:Int) > 0:=g4;omega
   cases hse:Kr (dqL qj) A' B' with
   | true=>exact bF λh=>by cases h.2
   | false=>exact bT ⟨j2,O⟩
  refine Qa<|Zw<|Zw<|Zw<|Qz O<|xe ?_;exact⟨(),⟨OT Value.bool (bF λh=>by have hK:¬(A'.length:Int)+(B'.length:Int) > 0:=g4;have:=h.1;omega),Z⟩,O3.Y _ _⟩
 rintro _ g q4 hq;have ma:=hS.D hq;have j3:=g3.I hq;refine Zn rfl (λgj=>?_) (λgj=>?_)
 ·rw[OR gj]at hg;refine Qf<|Qr<|QB O O<|Qa<|xe ?_;exact⟨(j+1,vj,qj),by show ks.length - (j+1)<ks.length - j;omega,ov,hO,j3,h7,gc,kv,h8.I ma,hC,ge.I ma,hg⟩
 rw[OS gj]at hg;have mc:=hG.I hq;refine Ql<|Qs O mc O O<|Qs O mc O O<|Qo<|Yd (us:=[[he],[hf]]) O O og od ⟨hy.cells,rfl,h0.cells,rfl,Z⟩ λb93 j1 gi hb93 j4=>?_;have g5:=hq.D gi;refine Kz<|(VX (m:=100) (j4.arr od (n:=2) (cap:=2) (sz:=1) rfl og (Lp _)) (hr (hy.I g5)) (hr (h0.I g5)) (.inl (Mx _)) (gh hD) (gh hE) oa oa).S ?_;rintro _ w16 ⟨rfl,za⟩;have hw:=g5.D za;have gk:=g3.I hw;refine Qo<|zk (k:=koA A' B') gk.m O O O λw17 hH z0=>xe ?_;have z2:b16∉[bm]:=λI=>by have:=hT bm Ll;rw[Lb.1 I]at gg;omega
 have z3:=(hG.I hw).J hH z2;have hz13:=hS.size;have hz16:=hw.size;have hz17:=hH.size;refine Qr<|Qa<|Q3 z3 O O<|Qo<|Q2 [[he,hf,hh]] λb97 w18 hI hb97 z4 =>
  Qo<|QZ (m:=1) (news:=[he,hf,hh]) (L:=[]) (Qm (Qg gk.o hH λb hb I=>gk.nm (Lb.1 I ▸ hb)) hI) O O O (z4.at od) (λu hu=>ZK.all (us:=[he,hf,hh]) ⟨hy.one,h0.one,q0.one,Z⟩ u hu) oa (oo hI.size) λvr w19 z5 g6 g7=>Qb<|Qr<|QB O O<|Qa<|xe ?_
 have hz18:=hI.size;have hnew:=gk.add (p:=((A',B',d.1.2.2++[v]),he,hf,hh)) hH z0 hI g6 z5 g7 ⟨⟨hy.I hw,h0.I hw,Z⟩,λL hL=>⟨(Qh.ints k9 oa λb hb=>(Le.1 hb).elim (λh=>LQ (hL b h) pw) (hT b)).I hw,Z⟩⟩;have h13w:hZ<J.heap.size:=h8.lt;have mf:∀b∈[bm],b∈bm::ob vj:=λb hb=>by rw[Lb.1 hb];exact Ll
 refine⟨(j+1,vr,qj++[((A',B',d.1.2.2++[v]),he,hf,hh)]),by show ks.length - (j+1)<ks.length - j;omega,ov,hO,hnew,?_,Le.2 (.inl gc),by rw[Lc];omega,?_,λI=>?_,?_,?_⟩
 ·show DqP n (OQ _ (qj++[_]));rw[Lv];exact h7.add hD hE (by rw[Lm];exact ql) gj.2
 ·exact((((h8.I hS).I hw).J hH λI=>hC (mf _ I)).I hI).J g6 λI=>hC (Lj _ I)
 ·rcases Ln.1 I with e|I
  ·exact hC (e ▸ Ll)
  rcases g7 _ I with h1|h1
  ·exact hC (Lj _ h1)
  omega
 ·exact Zs.grow ((((ge.I hS).I hw).J hH mf).I hI) g6 (λb hb=>Lj _ hb) (j8 g7)
 show(ks.drop (j+1)).foldl (dfE V.a V.o V.un d.1) (OQ _ (qj++[_]))=_;rw[Lv];exact hg
theorem Qnx {b:Bool}(h:(!b)=true):b=false:=by cases b <;> first|rfl|cases h
theorem Qny {b:Bool}(h:(!b)=false):b=true:=by cases b <;> first|rfl|cases h
theorem jM (a:QD)(o un l:LI)(b:Bool):Ss a.st.toNat (vcl a o un l b):=jR _ _
theorem QgG {V:jD}{est:LI}(h:jE ↑w V)(hE:Qu [] ↑w ve est)(hs:Ss V.a.st.toNat est)(h0:0<=s)(h1:s<V.a.st)(h9:V.a.st<=9)(hf:V.a.ed.length<=1000):
  QS sV 134 [.pointer (some ⟨V.b,0,none⟩),ve,sS s] w λr w'=>sW w w'/\∃vw,r=.tuple #[vw,.bool (rft V.a V.o V.un est s).isSome]/\Yn ↑w ↑w' vw ((rft V.a V.o V.un est s).getD []):=by
 have hm:=h.ok.st0;have S:=jM V.a V.o V.un [s] false;have hn:=S.len;refine Zl func134 ?_;refine Qc<|Zc [.pointer (some ⟨V.b,0,none⟩)] λb3 w1 T ho I=>x Qd<|Qb<|Qe<|ZH [] [oz 0,oz 1,oz 2,oz 3,oz 6,oA 4,oA 5,oA 7,oz 8,oz 9,oz 10,oz 11]<|pq (λ_ J=>Qj (I.I J) O O)<|p Qx<|pq (λ_ J=>Qj (I.I J) O O)<|p Qx <|
  p (λ_=>Zk (l:=[]) (l':=[.tmp 3]))<|pk<|Q2 [[sS s]] λhp w2 U hq hg=>⟨(O3.X _ _).D U,?_⟩
 have ha:sW w1 w2:=(O3.X _ _).D U;have hh:=T.D ha;refine pk<|xg<|(KB (only:=false) (l:=[s]) (h.I hh) (hg.arr od (n:=1) (cap:=1) (sz:=1) rfl og (Oz _)) (λz hz=>by rw[List.mem_singleton.1 hz];exact⟨h0,h1⟩) od).S ?_;rintro v3 w3 ⟨hj,hk⟩;have G:=ha.D hj;have E:=T.D G;refine⟨G,?_⟩;refine pk<|xg<|(Qf9 (cap:=[sP b3]) (bad:=Qbq V.a) (h.I E) (hE.I E) (Qh.ints hk oa od) hs S h9 hf
  (λX Y vx vy W hW hx hy=>QgK (h.I (E.D hW)) ((I.I G).I hW) hx hy)).S ?_
 rintro r4 w4 ⟨he,vw,rfl,hw⟩;refine⟨G.D he,?_⟩;refine p (λ_=>QV O O)<|p (λ_=>QV O O)<|p ZA<|p ZA<|pe ?_;exact Qk ⟨[vw,_],ov,E.D he,vw,O,hw.S E.size⟩
theorem QgJ {V:jD}{v:Int}(h:jE ↑w V)(h0:0<=s)(h1:s<V.a.st)(h9:V.a.st<=9):
  QS sV 137 [.pointer (some ⟨V.b,0,none⟩),sS s,sS v] w λr w'=>r=.bool (ctd V.a V.o V.un s v)/\sW w w':=by
 have hB:=h.ok.st0;have ho:=jM V.a V.o V.un [s] false;have hp:=jM V.a V.o V.un [s] true;have hC:=ho.len;have hD:=hp.len;have hq:∀z∈[s],0<=z/\z<V.a.st:=λz J=>by rw[Lb.1 J];exact⟨h0,h1⟩
 refine Zl func137 ?_;refine Qc<|Zc [.pointer (some ⟨V.b,0,none⟩)] λb3 w1 hv hE hw=>Zc [sS v] λb5 G hr hF hh=>Qb ?_;have T:=hv.D hr;have S:=hw.I hr;have I:sW G { G with drawn:=G.drawn+1 }:=O3.X _ _
 refine Qe<|QW (α:=Unit) [(8,20)] (λ_=>[(20,.bool (!(decide (v∈V.o) && decide (v∈V.un))))]) (λ_ w'=>sW G w') oh ?_ ?_
 ·refine ZH [] (Y0 0 13 [2,10])<|pq (λ_ E=>Qj (S.I E) O O)<|pq (λ_ E=>Qj (hh.I E) O O)<|pk<|xg<|(qK (w:={ G with drawn:=G.drawn+1 }) ((h.I T).I I) v).S ?_
  rintro _ w3 ⟨rfl,rfl⟩;refine⟨I,?_⟩;refine pB (λ_=>Zj O) (λhj=>?_) (λhj=>?_)
  ·refine p Qx<|ps<|ps<|ps<|ps<|ps<|ps<|ps<|p (YL O)<|pe ?_;exact⟨(),⟨OT Value.bool (by rw[OX (K4 hj)];rfl),Z⟩,I⟩
  refine p Qx<|pq (λ_ E=>Qj (S.I E) O O)<|p (YE O)<|p (QH O)<|pq (λ_ E=>Qj ((h.blk.I T).I E) O O) <|
   pq (λ_ E=>Qj (hh.I E) O O)<|pk<|xg<|(ZG (w:={ G with drawn:=G.drawn+1 }) ((h.u.I T).I I) v).S ?_
  rintro _ w4 ⟨rfl,rfl⟩;refine⟨I,?_⟩;refine p (λ_=>Zj O)<|p (YL O)<|pe ?_;exact⟨(),⟨OT Value.bool (by rw[OV (JZ hj),Nx]),Z⟩,I⟩
 rintro _ g w3 hk;have U:=T.D hk;have hct:ctd V.a V.o V.un s v=((decide (v∈V.o) && decide (v∈V.un)) && (psb V.a v (vcl V.a V.o V.un [s] false) && !psb V.a v (vcl V.a V.o V.un [s] true))):=(Bool.and_assoc _ _ _).symm;refine Q0 rfl (λhm=>?_) (λhm=>?_)
 ·refine Qc<|Qb<|Qk ⟨[.bool false],La,OT Value.bool ?_,U⟩;rw[hct,Qnx hm];rfl
 rw[Qny hm,Nx]at hct;rw[hct];refine Qf<|Qc<|x (Zk (l:=[]) (l':=[.tmp 3,.tmp 5]))<|Qb ?_;have Y:=S.I hk;have hs:=hh.I hk;have h3:=h.I U;refine QW (α:=Unit) [(6,6),(22,36)] (λ_=>[(6,.bool (psb V.a v (vcl V.a V.o V.un [s] false) && !psb V.a v (vcl V.a V.o V.un [s] true)))]) (λ_ w'=>sW w w') oh ?_ ?_
 ·refine Qr<|Qa<|ZB Y O O<|Qa<|Qo<|Q2 [[sS s]] λhG w6 ht hH hy =>
   Qw<|(KB (only:=false) (l:=[s]) (h3.I ht) (hy.arr od (n:=1) (cap:=1) (sz:=1) rfl og (Lp _)) hq od).S ?_
  rintro v7 w7 ⟨h2,h4⟩;have ha:=ht.D h2;refine Qo<|xc (first:=[]) (capt:=[sP b3,sP b5]) O<|(Qa3 (h3.I ha) (Y.I ha) (hs.I ha) (Qh.ints h4 oa od) (λz J=>oo (ho.2 z J))).S ?_;rintro r8 w8 ⟨he,h5⟩;have hf:=ha.D h5;refine Qdx (psb V.a v (vcl V.a V.o V.un [s] false)) (λhn=>?_) (λhn=>?_)
  ·rw[hn]at he ⊢;subst he;refine Qa<|Qa<|ZB (Y.I hf) O O<|Qa<|Qo<|Q2 [[sS s]] λhI w9 hu hJ S =>
    Qw<|(KB (only:=true) (l:=[s]) ((h3.I hf).I hu) (S.arr od (n:=1) (cap:=1) (sz:=1) rfl og (Lp _)) hq od).S ?_
   rintro hK hL ⟨h6,h7⟩;have hg:=(hf.D hu).D h6;refine Qo<|xc (first:=[]) (capt:=[sP b3,sP b5]) O<|(Qa3 (h3.I hg) (Y.I hg) (hs.I hg) (Qh.ints h7 oa od) (λz J=>oo (hp.2 z J))).S ?_;rintro _ hM ⟨rfl,h8⟩;refine x (Zj O)<|Qz O<|Qb<|⟨(),La,U.D (hg.D h8)⟩
  rw[hn]at he ⊢;subst he;refine Qa<|Zw<|Zw<|Jr<|Qz O<|Qb<|⟨(),La,U.D hf⟩
 rintro _ g hN hA;exact Qk ⟨[_],La,O,hA⟩
abbrev QdV:=Plc×O0×O0
abbrev pcC (q:QdV):LV:=[sS q.1.1,q.2.1,q.2.2]
abbrev pcD (z:Plc):Dq:=([z.1],z.2.1,z.2.2)
abbrev pcF (p:QdV):Dq:=pcD p.1
abbrev pcK (p:QdV):ByteArray:=koA [p.1.1] p.1.2.1
abbrev pcP (p:QdV):List (O0×LI):=[(p.2.1,p.1.2.1)]
abbrev pcN (p:QdV):List (O0×LI):=[(p.2.2,p.1.2.2)]
abbrev PcI:=QI 239 3 pcC Xl pcK pcP pcN
theorem Qej (l:List Plc)(s:Int)(t:LI):Qbn l s t=Kr (l.map pcD) [s] t:=by
 unfold Qbn Kr;rw[List.any_map];congr 1;funext z;exact decide_eq_decide.2 ⟨λh=>⟨by show[z.1]=_;rw[h.1],h.2⟩,λh=>⟨(List.cons.inj h.1).1,h.2⟩⟩
theorem Ss.one (E:0<=s)(G:s<(n:Int)):Ss n [s]:=⟨M2 _ _,λx hx=>by rw[Lb.1 hx];exact⟨E,G⟩⟩
theorem QhN {f:Nat}{l:List Plc}(h:l.length<=i):obL a o un f i l=none:=by
 cases f with
 | zero=>rfl
 | succ f=>rw[obL,Mm h]
theorem QhM {f:Nat}{l:List Plc}{z:Plc}{t:LI}(h:l[i]?=some z)(E:rft a o un z.2.1 z.1=some t):obL a o un (f+1) i l=some (z.2.2,t):=by
 rw[obL,h];simp only[E]
theorem QhO {f:Nat}{l:List Plc}{z:Plc}(h:l[i]?=some z)(E:rft a o un z.2.1 z.1=none):obL a o un (f+1) i l=obL a o un f (i+1) ((QO a.ed z.1).foldl (obE a o un z) l):=by
 rw[obL,h];simp only[E]
def Qk7 (N:Nat)(W:LI)(e s:Int)(ve:O0)(i:Nat)(v:O0)(w:OZ):Prop :=
 if i=6 then Qh 3 N w v W else
 if i=9 then ∃b,v=sL b 1 1/\N<=b/\QK ↑w b 3 [sS e]else
 if i=10 then Qh 3 N w v (W++[e]) else
 if i=11 then ∃vw,v=.agg #[sS s,ve,vw]/\Qh 3 N w vw (W++[e]) else
 ∃b,v=sP b/\N<=b/\QK ↑w b 239 [sS 0,ZS,ZS]
theorem QfJ {W:LI}{e:Int}(i:Nat)(v:O0)(own:LN)(w w':OZ)(h:Qk7 N W e s ve i v w)(G:O3 own w w')(hb:∀b∈ow v,b∉own)(J:i∈[11]->own=[]):Qk7 N W e s ve i v w':=by
 have k:∀{l:LI},Qh 3 N w v l->Qh 3 N w' v l:=λS=>Qg S G λb T=>hb b (zh T);unfold Qk7 at *;by_cases e6:i=6
 ·rw[OS e6]at *;exact k h
 rw[OR e6]at *;by_cases e9:i=9
 ·rw[OS e9]at *;obtain⟨b,rfl,E,I⟩:=h;exact⟨b,rfl,E,I.J G (hb b Ll)⟩
 rw[OR e9]at *;by_cases e10:i=10
 ·rw[OS e10]at *;exact k h
 rw[OR e10]at *;by_cases e11:i=11
 ·rw[OS e11]at *;obtain⟨vw,rfl,E⟩:=h;have:=J (by rw[e11];exact Ll);subst this;exact⟨vw,O,Qm E G⟩
 rw[OR e11]at *;obtain⟨b,rfl,E,I⟩:=h;exact⟨b,O,E,I.J G (hb b Ll)⟩
theorem QhJ {o:Option α}(h:¬o.isSome=true):o=none:=by cases o with|none=>rfl|some x=>exact OU rfl h
theorem QhI {o:Option α}(h:o.isSome=true):∃x,o=some x:=by cases o with|none=>cases h|some x=>exact⟨x,rfl⟩
theorem Qa4 {V:jD}(h:jE ↑w V)(h9:V.a.st<=9)(ka:V.a.ed.length<=1000):
  QS sV 57 [.pointer (some ⟨V.b,0,none⟩)] w λr w'=>sW w w'/\∃vw vo,r=.tuple #[vw,vo,.bool (obs V.a V.o V.un).isNone]/\Yn ↑w ↑w' vw ((obs V.a V.o V.un).elim [] (·.1))/\Yn ↑w ↑w' vo ((obs V.a V.o V.un).elim [] (·.2)):=by
 have hok:=h.ok;have hst0:=hok.st0;obtain⟨n,hn⟩:∃n:Nat,V.a.st.toNat=n:=⟨_,O⟩;have m9:n<=9:=oa
 have hna:V.a.st=(n:Int):=oa
 have hp18:=QmF m9;have pc:=hok.ed;obtain⟨rv,kb,kc⟩:=h.r;rw[hn]at kb kc;have hg:obs V.a V.o V.un=if V.a.st=0 then none else obL V.a V.o V.un (2 ^ (n+n)+1) 0 [(0,vcl V.a V.o V.un [0] false,[])]:=by unfold obs;rw[hn,zH]
 refine Zg (obs V.a V.o V.un) λR hR=>?_;rw[hR]at hg ⊢;refine Zl func57 ?_;refine Qc<|x Qd<|x Qd<|Qb<|Qe<|Ql<|ZY O<|Q7 O<|Qs O h.blk O O<|x (Zd O O)<|xe<|Zh rfl (λga=>?_) (λga=>?_)
 ·have gb:V.a.st=0:=ga;rw[OS gb]at hg;rw[hg];refine Qc<|x Qd<|x Qd<|Qb<|Qk ⟨[ZS,ZS,.bool true],ox,O3.Y _ _,ZS,ZS,O,Yn.nil _ _,Yn.nil _ _⟩
 have gb:¬V.a.st=0:=ga;rw[OR gb]at hg;have hn0:0<n:=oa
 refine Qf<|Qc ?_;have hy:=jM V.a V.o V.un [0] false;rw[hn]at hy;have pd:=hy.len;refine Qa<|Qo<|Q2 [[sS 0]] λb22 w1 ke hb22 pf=>Qw<|(KB (only:=false) (l:=[0]) (h.I ke) (pf.arr od (n:=1) (cap:=1) (sz:=1) rfl og (Oz _)) (λz hz=>by rw[List.mem_singleton.1 hz];omega) od).S ?_;rintro Y w2 ⟨pg,kf⟩;refine Zg (vcl V.a V.o V.un [0] false) λe0 ph=>?_;rw[ph]at kf hy pd hg;have gc:Qu [] ↑w2 Y e0:=Qh.ints kf oa od;refine x (QC ⟨gc.cells,Z⟩)<|Qo<|Q2 [[sS 0,Y,ZS]] λhK w3 hM pj ge=>Qb ?_;have kg:=ke.D pg;have pn:=kg.D hM;refine Qc<|Qo<|ZU Xl λbm w4 kh ki kj=>Qo<|Q2 [[sS 0]] λpo w5 kk hb27 pp=>?_;have kn:=kh.D kk;have pt:Zs [] ↑w5 (sL hK 1 1) 1 3 [sS 0,Y,ZS]:=(ge.I kn).arr od (n:=1) (cap:=1) (sz:=3) rfl og (Lp _);have ko:=(gc.I hM).I kn;refine Qa<|O6 (g:=λ_:Nat=>[sS 0,Y,ZS]) (es:=[0]) (i:=0) (λ_=>O) pt O O og λa29 pu=>x (ZE O)<|x (Qq (u:=Y) (pu.fld 1 _ O) O)<|Qo<|Yd (us:=[[sL po 1 1],[Y]]) O O og od ⟨rfl,rfl,ko.cells,rfl,Z⟩ λb32 w6 gg hb32 pw=>?_;have hN:∀{l:LI},Ss n l->∀z∈l,0<=z/\z<(100:Int):=λhl z hz=>oo (hl.2 z hz)
 have kq:Ss n [(0:Int)]:=Ss.one (Mx _) oa;refine Qw<|(VX (m:=100) (pw.arr od (n:=2) (cap:=2) (sz:=1) rfl og (Oz _)) (show Qu [] ↑w6 _ [0] from(pp.I gg).arr od (n:=1) (cap:=1) (sz:=1) rfl og (Lp _)) (ko.I gg) (.inl (Mx _)) (hN kq) (hN hy) od oa).S ?_;rintro _ w7 ⟨rfl,pz⟩;have kr:=(kk.D gg).D pz;refine Qo<|Qag (k:=koA [0] e0) (Xw.zero (kj.I kr)) O O O λw8 kt p0=>Qa<|Qb ?_;have hz02:=kg.size;have hlm:=kj.lt;have hl25:=ge.lt;have ku:=kh.D kr;have kv:sW w3 w8:=ku.Q kt ki;have p4:PcI bm w (sL hK 1 1) [((0,e0,[]),Y,ZS)] w8:=by
  have kw:hK≠bm:=oa
  refine⟨pn.D kv,((ge.I ku).J kt (by simp only[oF];exact kw)).own (n:=1) (sz:=3) O oa oa,λp hp=>?_,p0,λG=>kw (Lb.1 G).symm,oa⟩;rw[Lb.1 hp];refine⟨⟨(gc.up λb hb=>.inr ?_).I (hM.D kv),Z⟩,λ_ _=>⟨Zs.nil _ _ _,Z⟩⟩;rcases Ln.1 hb with rfl|hb
  ·exact Lx hM.size ki
  rw[Lb.1 hb];exact pj
 refine Qe<|Qc<|Qb<|QX (α:=Nat×O0×List QdV) [(2,5),(7,10),(12,14),(35,111)] (λz=>[(5,z.2.1),(7,sS z.1)]) (λz w'=>z.1<=z.2.2.length/\PcI bm w z.2.1 z.2.2 w'/\DqP n (z.2.2.map pcF)/\R=obL V.a V.o V.un (2 ^ (n+n)+1 - z.1) z.1 (z.2.2.map Prod.fst)) (λz=>2 ^ (n+n)+1 - z.1) (0,sL hK 1 1,[((0,e0,[]),Y,ZS)]) ov ⟨Lo _,p4,DqP.one kq hy,hg⟩ ?_;rintro⟨i,vl,q⟩ g w9 ⟨hi,hh,h0,S⟩;simp only[]at hi hh h0 S;have hql:q.length<=2 ^ (n+n):=by have:=h0.le;rwa [Lm]at this
 have kx:Zs [] ↑w9 vl q.length 3 (q.flatMap pcC):=QM hh.o oa od;refine Qe<|Ql<|Qa<|QG kx O<|ZP O O<|xe<|Zn rfl (λgh=>?_) (λgh=>?_)
 ·refine Qt ?_;have p5:q.length<=i:=by have gi:¬(i:Int)<(q.length:Int):=gh;omega
  rw[QhN (by rw[Lm];exact p5)]at S;rw[S];refine Qc<|x Qd<|x Qd<|Qb<|Qk ⟨[ZS,ZS,.bool true],ox,hh.st,ZS,ZS,O,Yn.nil _ _,Yn.nil _ _⟩
 have h2:i<q.length:=by have gi:(i:Int)<(q.length:Int):=gh;omega
 have p6:2 ^ (n+n)+1 - i=(2 ^ (n+n)+1 - (i+1))+1:=oa
 have h3:=Lk h2;have gj:(q.map Prod.fst)[i]?=some (q[i]'h2).1:=by rw[ME,LE h2];rfl
 refine Zg (q[i]'h2) λd hp=>?_;rw[hp]at h3 gj;rw[p6]at S;obtain⟨⟨kz,_⟩,k0⟩:=hh.e d h3;have p7:=(k0 [] (λ_ hb=>by cases hb)).1;have k4:=h0.s (pcF d) (LG h3);have k5:=h0.w (pcF d) (LG h3);rw[Lm]at k5;have k6:=k4.1.2 d.1.1 Ll;have hO:Ss n d.1.2.1:=k4.2;have hl2:=hO.len;have hP:∀{v:O0} {l:LI} {L:LN} {H:xz},Qu L H v l->Qu [] H v l:=λhv=>hv.up λb hb=>by cases hb
 refine Qf<|Qe<|Qn<|Ql<|Qa<|O6 (g:=pcC) (i:=i) (λ_=>O) kx O O h2 λa43 k9=>?_;rw[hp]at k9;refine x (QF (us:=pcC d) k9 O O)<|QT [sS 0,ZS,ZS] λb8 w10 p8 p9 qf=>Q5 (pcC d) qf ⟨O,kz.one,p7.one,Z⟩ λql q0 gk=>xe ?_;have gl:sW w9 ql:=p8.Q q0 p9;have gm:=hh.I gl;refine Qe<|Ql<|Qs O gk O O<|Qs O gk O O<|Qw<|(QgG (est:=d.1.2.1) (h.I gm.st) (hP (kz.I gl)) (by rw[hn];exact hO) k6.1 oa h9 ka).S ?_;rintro _ gn ⟨go,vt,rfl,ma⟩;refine Qa<|QQ O O<|QQ O O<|x Qd<|Qb ?_;have h4:=gm.I go;have gq:=gk.I go;have q4:=gl.D go;refine Ql<|xe<|Q0 rfl (λgr=>?_) (λgr=>?_)
 ·refine Exists.elim (QhI gr) λt ht=>?_;rw[QhM gj ht]at S;rw[ht]at ma;rw[S];refine Qc<|Qs O gq O O<|Qa<|x Qd<|x Qd<|Qb<|Qk ⟨[d.2.2,vt,.bool false],ox,h4.st,d.2.2,vt,O,λL hL=>((k0 L hL).1.I q4).up λb hb=>.inl (Le.2 (.inl hb)),ma.S gm.st.size⟩
 rw[QhO gj (QhJ λh=>My (gr.symm.D h))]at S;refine Qf ?_;have gs:=h.I h4.st;obtain⟨s,J⟩:∃s,d.1.1=s:=⟨_,O⟩;rw[J]at k6 S;have mc:s=(s.toNat:Int):=oa
 have mf:s.toNat<n:=oa
 have hE:=kc s.toNat mf;rw[<-mc]at hE;have hol:=Ya V.a.ed s;have q5:s.toNat<(oJ n).length:=by rw[L5];exact mf
 have j1:(sS d.1.1)=sS (s.toNat:Int):=by rw[J];exact OT _ mc
 refine Qe<|ZH [] (Y0 0 10 [])<|p Qx<|p (YE O)<|p (QH O)<|pq (λ_ E=>Qj (gs.blk.I E) O O)<|p (QH O)<|pq (λ_ E=>Qj (gq.I E) O O) <|
  Lg.pig (g:=λj:Nat=>[rv j]) (i:=s.toNat) O (λ_=>O) (kb.I h4.st) O (show Go.Lg.ev _ _=_ from j1) q5 λa64 mg=>?_
 rw[Mt]at mg;refine pq (λ_ E=>Qq (u:=rv s.toNat) (mg.I E) O)<|p (λ_=>YR (hE.I h4.st) O)<|p Qx<|pe ?_;have mh:sW gn { gn with drawn:=gn.drawn+1 }:=O3.X _ _
 have j2:b8∉bm::ob vl:=λG=>oo (hh.lt _ G)
 refine QX (α:=Nat×O0×List QdV) [(5,5),(12,14),(67,111)] (λz=>[(5,z.2.1),(67,sS z.1)]) (λz w'=>z.1<=(QO V.a.ed s).length/\PcI bm w z.2.1 z.2.2 w'/\DqP n (z.2.2.map pcF)/\d∈z.2.2/\q.length<=z.2.2.length/\QK ↑w' b8 239 (pcC d)/\b8∉bm::ob z.2.1/\((QO V.a.ed s).drop z.1).foldl (obE V.a V.o V.un d.1) (z.2.2.map Prod.fst)=(QO V.a.ed s).foldl (obE V.a V.o V.un d.1) (q.map Prod.fst)) (λz=>(QO V.a.ed s).length - z.1) (0,vl,q) ov
  ⟨Lo _,h4.I mh,h0,h3,Lp _,gq.I mh,j2,O⟩ ?_
 rintro⟨j,vj,qj⟩ g j3 ⟨hj,hQ,hk,hS,mj,hT,h5,T⟩;simp only[]at hj hQ hk hS mj h5 T;have hqjl:qj.length<=2 ^ (n+n):=by have:=hk.le;rwa [Lm]at this
 refine Zi rfl O (λgt=>?_) (λgt=>?_)
 ·refine Qt ?_;have j4:(QO V.a.ed s).length<=j:=by have gi:¬(j:Int)<((QO V.a.ed s).length:Int):=gt;omega
  rw[Lr j4]at T;have za:qj.map Prod.fst=(QO V.a.ed s).foldl (obE V.a V.o V.un d.1) (q.map Prod.fst):=T;rw[<-za]at S;refine Qr<|Qa<|QB O O<|Qb<|⟨(i+1,vj,qj),by show 2 ^ (n+n)+1 - (i+1)<2 ^ (n+n)+1 - i;omega,ov,by show i+1<=qj.length;omega,hQ,hk,S⟩
 have hq:j<(QO V.a.ed s).length:=by have gi:(j:Int)<((QO V.a.ed s).length:Int):=gt;omega
 have z0:=ZD (Lk hq);have mo:=pc _ z0.1;rw[QY hq,LO]at T;refine Zg ((QO V.a.ed s)[j]'hq) λe he=>?_;rw[he]at mo T;refine Qf<|Qe<|Qn<|Qc<|xie (hE.I hQ.st) O O hq λa69 mq=>?_;rw[he]at mq;refine x (QF mq O O)<|QT [sS 0,sS 0,sS 0] λb12 w14 z2 z3 z4=>Q5 (Qp e) z4 ox λU z5 gu=>xe ?_;have gv:sW j3 U:=z2.Q z5 z3;have ha:=hQ.I gv;have gx:=hT.I gv;obtain⟨⟨gy,_⟩,he15N⟩:=ha.e d hS;have he15W:=(he15N [] (λ_ hb=>by cases hb)).1;have ms:(d.1.2.2++[e.2.1]).length<=qj.length+1:=by rw[Lc,Lu];have:d.1.2.2.length<=q.length:=k5;omega
 refine Qe<|ye (α:=O0×Nat) (sW U) (sW U) ↑U [oz 0,oz 1,oz 2,oz 3,oz 4,oz 5,oz 7,oz 8] (λi=>if i=10 then[6,9]else if i=11 then[10]else[]) (λi=>if i=10 then[6]else[]) [6,9,10,11,12] [11,12] [11] [oA 13] [(77,77),(80,82),(13,13)] (Qk7 ↑U d.1.2.2 e.2.1 e.2.2 d.2.1)
  (λz=>[(82,.agg #[sS e.2.2,d.2.1,z.1]),(13,.pointer (some ⟨z.2,0,none⟩))]) (λz w'=>Qh 3 ↑U w' z.1 (d.1.2.2++[e.2.1])/\↑U<=z.2/\QK ↑w' z.2 239 [sS 0,ZS,ZS])
  mixed oh oc (O3.X _ _) (λ_ h=>h) (λ_ _ _ _ _ E J hb _=>E.O J λb hb'=>.inr (hb b hb')) (λ_ E=>E.size) (λi _=>QfJ i) ?_ ?_
 ·rintro g w' ⟨⟨I,e16,h1⟩,⟨b,e17,hb,hB⟩,_⟩ _ _;exact⟨(I,b),⟨e16,e17,Z⟩,h1,hb,hB⟩
 refine p (QH O)<|pq (λ_ E=>Qj (gu.I E) O O)<|p (QH O)<|pq (λ_ E=>Qj (gx.I E) O O)<|p (QH O)<|pq (λ_ E=>Qj (gx.I E) O O) <|
  p (QH rfl)<|pq (λ_ E=>Qj (gu.I E) O O)<|pe ⟨⟨?_,?_,?_,?_,?_,Z⟩,?_⟩
 ·rintro g w' E _ _;exact xg<|(ZT ((hP he15W).I E)).S λr gz ⟨J,ho⟩=>⟨J,Q9 ho E.size,λb hb=>⟨.inl (XS ho b hb).1,(XS ho b hb).2⟩⟩
 ·rintro g w' E _ _;exact Q2 [[sS e.2.1]] λb gz J hb hB=>⟨J,⟨b,O,Lx E.size hb,hB⟩,λc h6=>by rw[Lb.1 (show c∈[b] from h6)];exact⟨.inl hb,hB.lt⟩⟩
 ·rintro g w' E ⟨gs,⟨b,e14,hb14,hB14⟩,_⟩ _;rw[Lc,Lu]at ms;refine QZ (m:=1) (news:=[sS e.2.1]) (L:=[]) (show Qh _ _ _ _ _ from gs) O e14 O (hB14.at od) om oa E.size λr gz ho J hn=>⟨J.S λb hb=>Ma.2 ⟨6,Ll,zh hb⟩,Qh.snoc ho,λb hb=>⟨?_,(XS ho b hb).2⟩⟩;exact(hn b (Qda ho hb)).symm.imp id λh=>Ma.2 ⟨6,Ll,zh h⟩
 ·rintro g w' E ⟨mt,_⟩ _;refine xv (QC ⟨O,gy.cells,xL (show Qh _ _ _ _ _ from mt),Z⟩) ?_;exact⟨O3.Y _ _,⟨_,O,mt⟩,λc h6=>by cases h6⟩
 ·rintro g w' E _ _;exact YN (us:=[sS 0,ZS,ZS]) O λb gz J hb hB=>⟨J,⟨b,O,Lx E.size hb,hB⟩,λc h6=>by rw[Lb.1 (show c∈[b] from h6)];exact⟨.inl hb,hB.lt⟩⟩
 rintro⟨I,hU⟩ g w16 mu ⟨h7,hV,hW⟩;simp only[]at h7 hV hW;refine pk<|UG [sS e.2.2,d.2.1,I] hW ⟨O,gy.one,QA h7,Z⟩ λh8 g0 g2=>⟨mu.Q g0 hV,pe ?_⟩;have hA:sW U h8:=mu.Q g0 hV;have mv:Qh 3 ↑U h8 I (d.1.2.2++[e.2.1]):=Qg h7 g0 λb hb G=>Vv h7 hW og (Lb.1 G ▸ hb);have hC:=ha.I hA;have hW7:Qu (bm::ob vj) ↑h8 I (d.1.2.2++[e.2.1]):=Qh.ints mv oa ha.lt;have mw:Qu (bm::ob vj) ↑h8 d.2.1 d.1.2.1:=gy.I hA;have hB817:=gx.I hA;have my:=gu.I hA;have h13b:∀b∈bm::ob vj,b≠hU:=λb hb=>oo (ha.lt b hb)
 have h13w:hU∉ob I:=Vv h7 hW og;have hr:(obN V.a V.o V.un d.1 e).2.1=if e.2.1∈V.o then vnx V.a V.o V.un d.1.2.1 e.2.1 else d.1.2.1:=rfl
 have hD:Ss n (obN V.a V.o V.un d.1 e).2.1:=by
  rw[hr];split
  ·rw[<-hn];exact QgM _ _ _ _ _
  exact hO
 have mz:obE V.a V.o V.un d.1 (qj.map Prod.fst) e=if Qbn (qj.map Prod.fst) e.2.2 (obN V.a V.o V.un d.1 e).2.1=true then qj.map Prod.fst else qj.map Prod.fst++[(e.2.2,(obN V.a V.o V.un d.1 e).2.1,d.1.2.2++[e.2.1])]:=rfl
 refine Zg (obN V.a V.o V.un d.1 e).2.1 λest hest=>?_;rw[hest]at hr hD mz;rw[mz]at T;have hesl:=hD.len;have hz17:=hC.st.size;refine QW (α:=O0) [(83,93)] (λ_=>[]) (λz w'=>O3 [hU] h8 w'/\QK ↑w' hU 239 [sS e.2.2,z,I]/\Qu (bm::ob vj) ↑w' z est) oh ?_ ?_
 ·refine Ql<|Qs O my O O<|Qw<|(qK (h.I hC.st) e.2.1).S ?_;rintro _ hX ⟨rfl,rfl⟩;refine xe<|Zn O (λg3=>?_) (λg3=>?_)
  ·rw[OR g3]at hr;refine Qf ?_;exact⟨d.2.1,Z,O3.Y _ _,g2,by rw[hr];exact mw⟩
  rw[OS g3]at hr;refine Qr<|Qa<|Qs O hB817 O O<|Qs O my O O<|Qw<|(Us (est:=d.1.2.1) (h.I hC.st) (hP mw) (λz hz=>oo (hO.2 z hz)) oa ka e.2.1).S ?_;rintro g4 w19 ⟨g5,hY⟩;rw[<-hr]at hY;have hA19:Qu (bm::ob vj) ↑w19 g4 est:=Qh.ints hY oa hC.lt;refine Q7 O<|Qo<|Qv (u:=g4) (g2.I g5) O O (L3 O) hA19.one λw20 hF hB1320=>xe ?_;exact⟨g4,Z,(g5.S λb hb=>by cases hb).V hF,hB1320,Qh.ints (Qg hY hF λb hb G=>Vv hY (g2.I g5) og (Lb.1 G ▸ hb)) oa hC.lt⟩
 rintro hw g hX ⟨m0,g6,hZ⟩;have m1:sW U hX:=hA.Q m0 hV;have hI18:PcI bm w vj qj hX:=ha.I m1;have m2:=Qg mv m0 λb hb G=>h13w (Lb.1 G ▸ hb);have hW18:Qu (bm::ob vj) ↑hX I (d.1.2.2++[e.2.1]):=Qh.ints m2 oa ha.lt;have g7:Ss n [e.2.2]:=Ss.one mo.2.2.2.1 oa;refine Qc<|Qs O g6 O O<|Qo<|Q2 [[sS e.2.2]] λb96 w20 hF hb96 hB96 =>
  Qs rfl (g6.I hF) O O<|Qo<|Yd (us:=[[sL b96 1 1],[hw]]) O O og od ⟨rfl,rfl,hZ.cells,rfl,Z⟩ λb99 w21 m3 hb99 hB99=>?_
 have m4:=hF.D m3;refine Qw<|(VX (m:=100) (hB99.arr od (n:=2) (cap:=2) (sz:=1) rfl og (Oz _)) (show Qu [] ↑w21 _ [e.2.2] from(hB96.I m3).arr od (n:=1) (cap:=1) (sz:=1) rfl og (Lp _)) (hP (hZ.I m4)) (.inl (Mx _)) (hN g7) (hN hD) od oa).S ?_;rintro _ w22 ⟨rfl,hs22⟩;refine Qb ?_;have hG:=m4.D hs22;have hf:=hI18.I hG;have g8:=(gv.D m1).D hG;refine Ql<|Qa<|x (j0 (k:=koA [e.2.2] est) hf.m O O)<|x (Zj O)<|xe ?_;have m5:∀{i:Decidable (koA [e.2.2] est∈qj.map pcK)},(!@decide _ i)=!Qbn (qj.map Prod.fst) e.2.2 est:=by
  intro i;rw[Qej,Mu];exact Qei (f:=pcF) hk g7 hD
 refine Q0 rfl (λg9=>?_) (λg9=>?_)
 ·have hH:=Qnx (m5.symm.D g9);rw[OR (by rw[hH];exact My)]at T;refine Ql<|Qa<|Qo<|zk (k:=koA [e.2.2] est) hf.m O O O λw23 hI hM23=>xe ?_;have m6:∀b∈[bm],b∈bm::ob vj:=λb hb=>by rw[Lb.1 hb];exact Ll
  have hB1323:=(g6.I hG).J hI λG=>h13b _ (m6 _ G) O;have hz23:=hI.size;have hz22:=hf.st.size;refine Qr<|Qa<|Q3 hB1323 O O<|Qo<|Q2 [[sS e.2.2,hw,I]] λb109 w24 hJ hb109 hB109 =>
   Qo<|QZ (m:=1) (news:=[sS e.2.2,hw,I]) (L:=[]) (Qm (Qg hf.o hI λb hb G=>hf.nm (Lb.1 G ▸ hb)) hJ) O O O (hB109.at od) (λu hu=>ZK.all (us:=[sS e.2.2,hw,I]) ⟨rfl,hZ.one,hW18.one,Z⟩ u hu) oa (oo hJ.size) λvr w25 ho25 m7 m8=>Qb<|Qr<|QB O O<|Qa<|xe ?_
  have hz24:=hJ.size;have hz13:=g8.size;have h8w:=hT.lt;have hnew:=hf.add (p:=((e.2.2,est,d.1.2.2++[e.2.1]),hw,I)) hI hM23 hJ m7 ho25 m8 ⟨⟨hZ.I hG,Z⟩,λL hL=>⟨(Qh.ints m2 oa λb hb=>(Le.1 hb).elim (λh=>LQ (hL b h) ha.st.size) (ha.lt b)).I hG,Z⟩⟩;refine⟨(j+1,vr,qj++[((e.2.2,est,d.1.2.2++[e.2.1]),hw,I)]),by show(QO V.a.ed s).length - (j+1)<(QO V.a.ed s).length - j;omega,ov,hq,hnew,?_,Le.2 (.inl hS),by rw[Lc];omega,?_,λG=>?_,?_⟩
  ·show DqP n (OQ _ (qj++[_]));rw[Lv];refine hk.add g7 hD (by rw[Lm];exact ms) ?_;rw[Qej,Mu]at hH;exact hH
  ·exact(((hT.I g8).J hI λG=>h5 (m6 _ G)).I hJ).J m7 λG=>h5 (Lj _ G)
  ·rcases j8 m8 _ G with h1|h1
   ·exact h5 h1
   omega
  show((QO V.a.ed s).drop (j+1)).foldl (obE V.a V.o V.un d.1) (OQ _ (qj++[_]))=_;rw[Lv];exact T
 have hH:=Qny (m5.symm.D g9);rw[OS hH]at T;refine Qf<|Qr<|QB O O<|Qa<|xe ?_;exact⟨(j+1,vj,qj),by show(QO V.a.ed s).length - (j+1)<(QO V.a.ed s).length - j;omega,ov,hq,hf,hk,hS,mj,hT.I g8,h5,T⟩
abbrev CqV:=Cq×O0
abbrev cqC (q:CqV):LV:=[sS q.1.1,ZS,q.2]
abbrev cqK (p:CqV):Int:=p.1.1
abbrev cqN (p:CqV):List (O0×LI):=[(p.2,p.1.2)]
abbrev CqI:=QI 239 3 cqC Xq cqK (λ_=>[]) cqN
structure CqO (n:Nat)(l:List Cq):Prop where
 s:∀d∈l,0<=d.1/\d.1<(n:Int)
 w:∀d∈l,d.2.length<=l.length
 d:(l.map (·.1)).Nodup
theorem CqO.le {l:List Cq}(h:CqO n l):l.length<=n:=by
 have:=xG n _ h.d λx hx=>by
  obtain⟨d,hd,rfl⟩:=Ly.1 hx;exact h.s d hd
 rwa [Lm]at this
theorem CqO.add {l:List Cq}(h:CqO n l){w:LI}(E:0<=s)(G:s<(n:Int))(I:w.length<=l.length+1)(J:s∉l.map (·.1)):CqO n (l++[(s,w)]):=by
 refine⟨λd hd=>?_,λd hd=>?_,?_⟩
 ·rcases Le.1 hd with hd|hd
  ·exact h.s d hd
  rw[Lb.1 hd];exact⟨E,G⟩
 ·rw[Lc,Lu];rcases Le.1 hd with hd|hd
  ·have:=h.w d hd;omega
  rw[Lb.1 hd];exact I
 rw[Lv,Md];exact⟨h.d,od,λa S b hb e=>J ((show b=s by simpa using hb) ▸ e ▸ S)⟩
theorem Qjk {f:Nat}{l:List Cq}(h:l.length<=i):csL a o un f i l=none:=by
 cases f with
 | zero=>rfl
 | succ f=>rw[csL,Mm h]
theorem Qjj {f:Nat}{l:List Cq}{z:Cq}{v:Int}(h:l[i]?=some z)(E:a.al.find? (ctd a o un z.1)=some v):csL a o un (f+1) i l=some (z.2,v):=by
 rw[csL,h];simp only[E]
theorem Qjl {f:Nat}{l:List Cq}{z:Cq}(h:l[i]?=some z)(E:a.al.find? (ctd a o un z.1)=none):csL a o un (f+1) i l=csL a o un f (i+1) ((QO a.ed z.1).foldl (csE z) l):=by
 rw[csL,h];simp only[E]
theorem QlQ {p:Int->Bool}{k:Nat}(h:k<l.length):(l.drop k).find? p=if p (l[k]'h)=true then some (l[k]'h) else(l.drop (k+1)).find? p:=by
 rw[QY h,List.find?_cons];cases E:p (l[k]'h) with
 | true=>rw[OS rfl]
 | false=>rw[OR My]
def cnP (N:Nat)(W:LI)(e:Int)(i:Nat)(v:O0)(w:OZ):Prop :=
 if i=5 then Qh 3 N w v W else
 ∃b,v=sL b 1 1/\N<=b/\QK ↑w b 3 [sS e]
theorem Qjs {W:LI}{e:Int}(i:Nat)(v:O0)(w w':OZ)(h:cnP N W e i v w)(E:sW w w'):cnP N W e i v w':=by
 unfold cnP at *;by_cases e5:i=5
 ·rw[OS e5]at *;exact Qm h E
 rw[OR e5]at *;obtain⟨b,G,I,J⟩:=h;exact⟨b,G,I,J.I E⟩
theorem Qa5 {V:jD}(h:jE ↑w V)(h9:V.a.st<=9)(pd:V.a.ed.length<=1000):
  QS sV 58 [.pointer (some ⟨V.b,0,none⟩)] w λr w'=>sW w w'/\∃vw,r=.tuple #[vw,sS ((cns V.a V.o V.un).elim (-1) (·.2)),.bool (cns V.a V.o V.un).isNone]/\Yn ↑w ↑w' vw ((cns V.a V.o V.un).elim [] (·.1)):=by
 have hok:=h.ok;have pf:=hok.st0;have pg:=hok.al_le;obtain⟨n,hn⟩:∃n:Nat,V.a.st.toNat=n:=⟨_,O⟩;have ph:n<=9:=oa
 have pj:V.a.st=(n:Int):=oa
 have ki:=hok.ed;obtain⟨rv,gc,ge⟩:=h.r;rw[hn]at gc ge;have h0:cns V.a V.o V.un=if V.a.st=0 then none else csL V.a V.o V.un (n+1) 0 [(0,[])]:=by unfold cns;rw[hn]
 refine Zg (cns V.a V.o V.un) λR hR=>?_;rw[hR]at h0 ⊢;refine Zl func58 ?_;refine Qc<|x Qd<|x Qd<|Qb<|Qe<|Ql<|ZY O<|Q7 O<|Qs O h.blk O O<|x (Zd O O)<|xe<|Zh rfl (λT=>?_) (λT=>?_)
 ·have hI:V.a.st=0:=T;rw[OS hI]at h0;rw[h0];refine Qc<|x Qd<|x Qd<|Qb<|Qk ⟨[ZS,sS (-1),.bool true],ox,O3.Y _ _,ZS,O,Yn.nil _ _⟩
 have hI:¬V.a.st=0:=T;rw[OR hI]at h0;have pn:0<n:=oa
 refine Qf<|Qc<|x (QC Z)<|Qo<|Q2 [[sS 0,ZS,ZS]] λhJ w1 gg po gh=>Qb<|Qc<|Qo<|ZU Xq λbm w2 gi pp kj=>Qo<|Qag (k:=(0:Int)) (Xw.zero kj) O O O λw3 gj kk=>Qa<|Qb ?_;have pt:=gg.size;have kn:sW w w3:=(gg.D gi).Q gj oa;have ko:CqI bm w (sL hJ 1 1) [((0,[]),ZS)] w3:=by
  have pu:=gh.lt;have gk:hJ≠bm:=oa
  refine⟨kn,((gh.I gi).J gj (by simp only[oF];exact gk)).own (n:=1) (sz:=3) O oa oa,λp hp=>?_,kk,λE=>gk (Lb.1 E).symm,oa⟩;rw[Lb.1 hp];exact⟨Z,λ_ _=>⟨Zs.nil _ _ _,Z⟩⟩
 have kq:CqO n [((0:Int),([]:LI))]:=⟨λd hd=>by rw[Lb.1 hd];exact⟨Mx _,by show(0:Int)<n;omega⟩,λd hd=>by rw[Lb.1 hd];exact Lo _,od⟩;refine Qe<|Qc<|Qb<|QX (α:=Nat×O0×List CqV) [(2,5),(7,8),(10,10),(12,12),(23,86)] (λz=>[(5,z.2.1),(7,sS z.1)]) (λz w'=>z.1<=z.2.2.length/\CqI bm w z.2.1 z.2.2 w'/\CqO n (z.2.2.map Prod.fst)/\R=csL V.a V.o V.un (n+1 - z.1) z.1 (z.2.2.map Prod.fst)) (λz=>n+1 - z.1) (0,sL hJ 1 1,[((0,[]),ZS)]) ov ⟨Lo _,ko,kq,h0⟩ ?_;rintro⟨i,vl,q⟩ g w4 ⟨hi,hr,h2,U⟩;simp only[]at hi hr h2 U;have pw:q.length<=n:=by have:=h2.le;rwa [Lm]at this
 have gl:Zs [] ↑w4 vl q.length 3 (q.flatMap cqC):=QM hr.o oa od;refine Qe<|Ql<|Qa<|QG gl O<|ZP O O<|xe<|Zn rfl (λhK=>?_) (λhK=>?_)
 ·refine Qt ?_;have kr:q.length<=i:=by have T:¬(i:Int)<(q.length:Int):=hK;omega
  rw[Qjk (by rw[Lm];exact kr)]at U;rw[U];refine Qc<|x Qd<|x Qd<|Qb<|Qk ⟨[ZS,sS (-1),.bool true],ox,hr.st,ZS,O,Yn.nil _ _⟩
 have h3:i<q.length:=by have T:(i:Int)<(q.length:Int):=hK;omega
 have kt:n+1 - i=(n+1 - (i+1))+1:=oa
 have h4:=Lk h3;have hM:(q.map Prod.fst)[i]?=some (q[i]'h3).1:=by rw[ME,LE h3];rfl
 refine Zg (q[i]'h3) λd hp=>?_;rw[hp]at h4 hM;rw[kt]at U;have gm:=(hr.e d h4).2;have ku:=(gm [] (λ_ hb=>by cases hb)).1;have gn:=h2.s d.1 (LG h4);have hN:=h2.w d.1 (LG h4);rw[Lm]at hN;have kv:∀{v:O0} {l:LI} {L:LN} {H:xz},Qu L H v l->Qu [] H v l:=λhv=>hv.up λb hb=>by cases hb
 refine Qf<|Qe<|Qn<|Ql<|Qa<|O6 (g:=cqC) (i:=i) (λ_=>O) gl O O h3 λpz go=>?_;rw[hp]at go;refine x (QF (us:=cqC d) go O O)<|QT [sS 0,ZS,ZS] λb8 w5 kw kx kz=>Q5 (cqC d) kz ⟨O,O,ku.one,Z⟩ λw6 k0 k4=>xe ?_;have gq:sW w4 w6:=kw.Q k0 kx;have hO:=hr.I gq;have gr:=(h.I hO.st).a.al;refine Qe<|Ql<|ZY O<|Q7 O<|Qs O (h.blk.I hO.st) O O<|QG gr O<|Qa<|xe ?_;obtain⟨s,I⟩:∃s,d.1.1=s:=⟨_,O⟩;rw[I]at gn;have k5:(V.a.al.drop 0).find? (ctd V.a V.o V.un s)=V.a.al.find? (ctd V.a V.o V.un d.1.1):=by rw[I,NE]
 refine QX (α:=Nat) [(2,4),(10,10),(39,51)] (λz=>[(39,sS z)]) (λz w'=>z<=V.a.al.length/\sW w6 w'/\(V.a.al.drop z).find? (ctd V.a V.o V.un s)=V.a.al.find? (ctd V.a V.o V.un d.1.1)) (λz=>V.a.al.length - z) 0 La ⟨Lo _,O3.Y _ _,k5⟩ ?_;rintro k g w7 ⟨hk,h6,Y⟩;have ht:=hO.I h6;have hA:=k4.I h6;have k6:=gq.D h6;refine Zi rfl O (λhP=>?_) (λhP=>?_)
 ·refine Qt ?_;have k9:V.a.al.length<=k:=by have T:¬(k:Int)<(V.a.al.length:Int):=hP;omega
  rw[Lr k9]at Y;rw[Qjl hM Y.symm,I]at U;have gs:s=(s.toNat:Int):=oa
  have gt:s.toNat<n:=oa
  have hE:=ge s.toNat gt;rw[<-gs]at hE;have p0:=Ya V.a.ed s;have ma:s.toNat<(oJ n).length:=by rw[L5];exact gt
  have mc:(sS d.1.1)=sS (s.toNat:Int):=by rw[I];exact OT _ gs
  refine Qe<|ZH [] (Y0 0 10 [])<|p Qx<|p (YE O)<|p (QH O)<|pq (λ_ G=>Qj ((h.blk.I ht.st).I G) O O)<|p (QH O)<|pq (λ_ G=>Qj (hA.I G) O O) <|
   Lg.pig (g:=λj:Nat=>[rv j]) (i:=s.toNat) O (λ_=>O) (gc.I ht.st) O (show Go.Lg.ev _ _=_ from mc) ma λp4 gu=>?_
  rw[Mt]at gu;refine pq (λ_ G=>Qq (u:=rv s.toNat) (gu.I G) O)<|p (λ_=>YR (hE.I ht.st) O)<|p Qx<|pe ?_;have gv:sW w7 { w7 with drawn:=w7.drawn+1 }:=O3.X _ _
  have mf:b8∉bm::ob vl:=λE=>oo (hr.lt _ E)
  refine QX (α:=Nat×O0×List CqV) [(5,5),(12,12),(61,86)] (λz=>[(5,z.2.1),(61,sS z.1)]) (λz w'=>z.1<=(QO V.a.ed s).length/\CqI bm w z.2.1 z.2.2 w'/\CqO n (z.2.2.map Prod.fst)/\d∈z.2.2/\q.length<=z.2.2.length/\QK ↑w' b8 239 (cqC d)/\b8∉bm::ob z.2.1/\((QO V.a.ed s).drop z.1).foldl (csE d.1) (z.2.2.map Prod.fst)=(QO V.a.ed s).foldl (csE d.1) (q.map Prod.fst)) (λz=>(QO V.a.ed s).length - z.1) (0,vl,q) ov
   ⟨Lo _,ht.I gv,h2,h4,Lp _,hA.I gv,mf,O⟩ ?_
  rintro⟨j,vj,qj⟩ g w8 ⟨hj,hg,h7,hC,gx,gy,hw,S⟩;simp only[]at hj hg h7 hC gx hw S;have p5:qj.length<=n:=by have:=h7.le;rwa [Lm]at this
  refine Zi O O (λhQ=>?_) (λhQ=>?_)
  ·refine Qt ?_;have mg:(QO V.a.ed s).length<=j:=by have T:¬(j:Int)<((QO V.a.ed s).length:Int):=hQ;omega
   rw[Lr mg]at S;have mh:qj.map Prod.fst=(QO V.a.ed s).foldl (csE d.1) (q.map Prod.fst):=S;rw[<-mh]at U;refine Qr<|Qa<|QB O O<|Qb<|⟨(i+1,vj,qj),by show n+1 - (i+1)<n+1 - i;omega,ov,by show i+1<=qj.length;omega,hg,h7,U⟩
  have hy:j<(QO V.a.ed s).length:=by have T:(j:Int)<((QO V.a.ed s).length:Int):=hQ;omega
  have mj:=ZD (Lk hy);have gz:=ki _ mj.1;rw[QY hy,LO]at S;refine Zg ((QO V.a.ed s)[j]'hy) λe he=>?_;rw[he]at gz S;refine Qf<|Qe<|Qn<|Qc<|xie (hE.I hg.st) O O hy λp6 g0=>?_;rw[he]at g0;refine x (QF g0 O O)<|QT [sS 0,sS 0,sS 0] λhS w9 mo g2 mq=>Q5 (Qp e) mq ox λms mt hT=>xe ?_;have hU:sW w8 ms:=mo.Q mt g2;have J:=hg.I hU;have g3:=gy.I hU;have g4:csE d.1 (qj.map Prod.fst) e=if e.2.2∈(qj.map Prod.fst).map Prod.fst then qj.map Prod.fst else qj.map Prod.fst++[(e.2.2,d.1.2++[e.2.1])]:=rfl
  have g5:(qj.map Prod.fst).map Prod.fst=qj.map cqK:=Mu;rw[g5]at g4;rw[g4]at S;refine Ql<|Qs O hT O O<|x (j0 (k:=e.2.2) J.m O O)<|x (Zj O)<|xe<|Q0 O (λhV=>?_) (λhV=>?_)
  ·have hD:=K4 hV;rw[OR hD]at S;refine Ql<|Qs O hT O O<|Qo<|zk (k:=e.2.2) J.m O O O λha hh mu=>xe ?_;have hW:∀b∈[bm],b∈bm::ob vj:=λb hb=>by rw[Lb.1 hb];exact Ll
   have mv:hS∉[bm]:=λE=>by have:=hg.lt bm Ll;rw[Lb.1 E]at g2;omega
   have g6:=hT.J hh mv;have g7:=g3.J hh λE=>hw (hW _ E);have mw:=((J.e d hC).2 [] (λ_ hb=>by cases hb)).1;have my:Qu [] ↑ha d.2 d.1.2:=kv (mw.J hh hW);have p7:=J.st.size;have p8:=hh.size;have mz:=Qg J.o hh λb hb E=>J.nm (Lb.1 E ▸ hb);refine Qcx (α:=O0×Nat) (O3 (ob vj) ha) (sW ha) [oz 0,oz 1,oz 2,oz 3,oz 4,oz 6,oz 7] (λ_=>[]) [5,8] [oA 9,oz 10,oA 11,oA 12,oz 13] [(78,78),(81,81)] (cnP ↑ha d.1.2 e.2.1)
    (λz=>[(78,z.1),(81,.slice (some ⟨z.2,0,none⟩) 1 1)]) (λz w'=>Qh 3 ↑ha w' z.1 d.1.2/\z.2∉ob z.1/\QK ↑w' z.2 3 [sS e.2.1])
    mixed oh oc (O3.X _ _) (λ_ h=>h.any) (λ_ _ G I=>G.D I) Qjs ?_ ?_
   ·rintro g w' ⟨h5,⟨b,e8,hb,hB⟩,_⟩ m0;refine⟨(_,b),⟨O,e8,Z⟩,h5,λE=>?_,hB⟩;have:=m0 5 od 8 od og b (zh E);rw[e8]at this;exact this Ll
   refine p Qx<|p (QH O)<|pq (λ_ G=>Qj (g6.J G ?_) O O)<|p (QH O)<|pq (λ_ G=>Qj (g7.J G λE=>hw (Lj _ E)) O O) <|
    p (QH rfl)<|pq (λ_ G=>Qj (g6.J G ?_) O O)<|pe ⟨⟨?_,?_,Z⟩,?_⟩
   ·exact λE=>oo (hg.lt hS (Lj _ E))
   ·exact λE=>oo (hg.lt hS (Lj _ E))
   ·rintro g w' G _;exact xg<|(ZT (my.I G)).S λr m1 ⟨I,ho⟩=>⟨I,Q9 ho G.size,XS ho⟩
   ·rintro g w' G _;exact Q2 [[sS e.2.1]] λb m1 I hb hB=>⟨I,⟨b,O,Lx G.size hb,hB⟩,λc m2=>by rw[Lb.1 (show c∈[b] from m2)];exact⟨hb,hB.lt⟩⟩
   rintro⟨vc,p9⟩ g m3 hX ⟨hY,m4,g8⟩;simp only[]at hY m4 g8;have g9:=Qi hY;have qf:d.1.2.length<=9:=by have:d.1.2.length<=q.length:=hN;omega
   refine pk<|QZ (m:=1) (news:=[sS e.2.1]) (L:=[]) hY O O O (g8.at od) om oa hX.size λhq ka m5 kb ql=>⟨(hX.O kb λb hb=>.inr (g9 b hb).1).any,?_⟩;have kc:sW ha ka:=hX.O kb λb hb=>.inr (g9 b hb).1;have hZ:Qh 3 ↑ha ka hq (d.1.2++[e.2.1]):=Qh.snoc m5;refine p (λ_=>QC ⟨O,xL hZ,Z⟩)<|pk<|Q2 [[sS e.2.2,ZS,hq]] λq0 q4 ga q5 m6=>⟨(kc.D ga).any,?_⟩;have hf:=kc.D ga;refine pk<|QZ (m:=1) (news:=[sS e.2.2,ZS,hq]) (L:=[]) (Qm mz hf) O O O (m6.at od) (λu hu=>ZK.all (us:=[sS e.2.2,ZS,hq]) ⟨rfl,rfl,QA hZ,Z⟩ u hu) oa (oo hf.size) λvr ke m7 hz hF=>⟨hf.any.V hz,?_⟩;refine p ZA<|pe ?_;refine Qr<|QB O O<|Qa<|xe ?_;have j1:=hf.size;have j2:=hU.size;have j3:=gy.lt;have kf:=J.nm;have kg:∀b∈bm::ob vj,b<ha.heap.size:=λb hb=>oo (J.lt b hb)
   have m8:∀L:LN,(∀b∈L,b<↑w)->Qu (L++bm::ob vr) ↑ke hq (d.1.2++[e.2.1]):=λL hL=>Zs.grow ((Qh.ints hZ (by rw[Lc,Lu];omega) λb hb=>(Le.1 hb).elim (λh=>oo (hL b h)) (kg b)).I ga) hz (λb hb=>Le.2 (.inr (Lj _ hb))) (j7 L hF);have m9:CqI bm w vr (qj++[((e.2.2,d.1.2++[e.2.1]),hq)]) ke:=by
    refine⟨((J.st.O hh λb hb=>.inr (by rw[Lb.1 hb];exact J.hb)).D hf).O hz λb hb=>.inr (Qi J.o b hb).1,?_,λp' h8=>?_,?_,λpc=>?_,J.hb⟩
    ·rw[LD,M6,Lc,Lu];exact m7
    ·rcases Le.1 h8 with h8|h8
     ·exact⟨Z,λL hL=>((((J.e p' h8).2 L hL).J hh λb hb=>Le.2 (.inr (hW b hb))).I hf).grow hz (λb hb=>Le.2 (.inr (Lj _ hb))) (j7 L hF)⟩
     rw[Lb.1 h8];exact⟨Z,λL hL=>⟨m8 L hL,Z⟩⟩
    ·rw[Lv];exact(mu.I hf).J hz kf
    rcases hF _ pc with h1|h1
    ·exact kf h1
    have:=kg bm Ll;omega
   refine⟨(j+1,vr,qj++[((e.2.2,d.1.2++[e.2.1]),hq)]),by show(QO V.a.ed s).length - (j+1)<(QO V.a.ed s).length - j;omega,ov,hy,m9,?_,Le.2 (.inl hC),by rw[Lc];omega,?_,λE=>?_,?_⟩
   ·show CqO n (OQ _ (qj++[_]));rw[Lv];refine h7.add gz.2.2.2.1 oa (by rw[Lc,Lu,Lm];have:d.1.2.length<=q.length:=hN;omega) ?_;rw[g5];exact hD
   ·exact(g7.I hf).J hz λE=>hw (Lj _ E)
   ·rcases j8 hF _ E with h1|h1
    ·exact hw h1
    omega
   show((QO V.a.ed s).drop (j+1)).foldl (csE d.1) (OQ _ (qj++[_]))=_;rw[Lv];exact S
  have hD:=JZ hV;rw[OS hD]at S;refine Qf<|Qr<|QB O O<|Qa<|xe ?_;exact⟨(j+1,vj,qj),by show(QO V.a.ed s).length - (j+1)<(QO V.a.ed s).length - j;omega,ov,hy,J,h7,hC,gx,g3,hw,S⟩
 have hG:k<V.a.al.length:=by have T:(k:Int)<(V.a.al.length:Int):=hP;omega
 rw[QlQ hG]at Y;refine Qf<|Qe<|Qn<|Qc<|xii (i:=k) (gr.I h6) O O hG λj4 kh=>?_;refine Zg (V.a.al[k]'hG) λv hv=>?_;rw[hv]at kh Y;refine x (Qq kh O)<|Qb ?_;have hct:=QgJ (v:=v) (h.I ht.st) gn.1 oa h9;rw[<-I]at hct;refine Ql<|Qs O hA O O<|Qa<|Qw<|hct.S ?_;rintro _ m3 ⟨rfl,hH⟩;refine xe ?_;rw[<-I]at Y;refine Q0 rfl (λgb=>?_) (λgb=>?_)
 ·rw[OS gb]at Y;rw[Qjj hM Y.symm]at U;rw[U];refine Qc<|Qs O (hA.I hH) O O<|Qa<|x Qd<|x Qd<|Qb<|Qk ⟨[d.2,sS v,.bool false],ox,ht.st.D hH,d.2,O,λL hL=>((gm L hL).1.I (k6.D hH)).up λb hb=>.inl (Le.2 (.inl hb))⟩
 rw[OR (λh=>My (gb.symm.D h)),I]at Y;refine Qf<|Qr<|QB O O<|Qa<|xe ?_;exact⟨k+1,by show V.a.al.length - (k+1)<V.a.al.length - k;omega,La,hG,h6.D hH,by rw[I];exact Y⟩
structure Yb (l:LI):Prop where
 b:∀x∈l,0<=x/\x<32
 i:Yw l
theorem Yb.ck (h:Yb l):JO 32 none l=0:=QaM h.b h.i
theorem Yb.nil:Yb []:=⟨(λ_ h=>by cases h),List.Pairwise.nil⟩
structure Pl9 (a:QD):Prop where
 ok:Q8 a
 s9:a.st<=9
 e:a.ed.length<=1000
theorem K3 (h:Zp [] ↑w va vm ve a)(I:Qu [] ↑w vo o)(hU:Qu [] ↑w vu un)(E:Pl9 a)(U:Yb o)(hu:Yb un):
  QS sV 56 [.agg #[va,sS a.st,vm,ve],vo,vu] w λr w'=>sW w w'/\∃V:jD,r=.tuple #[.pointer (some ⟨V.b,0,none⟩),sS 0]/\jE ↑w' V/\V.a=a/\V.o=o/\V.un=un:=by
 refine Zl func56 ?_;refine Qc<|Zc [va,sS a.st,vm,ve] λb3 w1 ha h9 hc=>x Qd<|Qb ?_;have hA:=YV (h.I ha);rw[(Zy a).2 E.ok]at hA;refine Qe<|Qc<|Q3 hc O O<|Qw<|hA.S ?_;rintro _ w2 ⟨rfl,he⟩;refine Qb<|Ql<|ZL O O<|xe<|Zz rfl<|Qf ?_;have hn:=ha.D he;refine Qe<|Ql<|Qa<|Qo<|Yd (us:=[[vo],[vu]]) O O og od ⟨I.cells,rfl,hU.cells,rfl,Z⟩ λhq w3 hf hB hr=>?_;have hg:Zs [] ↑w3 (sL hq 2 2) 2 1 [vo,vu]:=hr.arr od (n:=2) (cap:=2) (sz:=1) rfl og (Lp _);have hs:=hn.D hf;refine QG hg O<|Qa<|xe<|QX (α:=Nat) [(6,7),(10,11),(24,33)] (λz=>[(24,sS z)]) (λz w'=>z<=2/\sW w3 w') (λz=>2 - z) 0 La ⟨Lo _,O3.Y _ _⟩ ?_;rintro i g w4 ⟨hi,J⟩;have G:=hs.D J;have hh:=((hc.I he).I hf).I J;refine Zi rfl O (λhj=>?_) (λhj=>?_)
 ·refine Qt<|Qe<|Qc<|Q3 hh O O<|Qa<|Qw<|(yj (h.I G) (I.I G) E.ok U.b U.i E.s9 E.e).S ?_;rintro _ w5 ⟨ht,_,vt,rfl,hD,hw,hy,hz,rfl,h0⟩;have Y:=h0 [] (λ_ h=>by cases h);refine Qa<|QQ O O<|QQ O O<|QQ O O<|QT Js λhE w6 h1 h2 h3=>Q5 [hw,sS (Vf a o).st,hy,hz] h3 ⟨Y.al.one,O,Y.mr.one,Y.ed.one,Z⟩ λw7 h4 hF=>x Qd<|Qb ?_;have h5:sW w5 w7:=h1.Q h4 h2;have hk:=ht.D h5;have S:=G.D hk;refine Ql<|ZL O O<|xe<|Zz O<|Qf<|Qc<|Q3 (hh.I hk) O O<|Qa<|Qa<|Qw<|(Qnf (h.I S) (I.I S) (hU.I S) E.ok).S ?_;rintro _ w8 ⟨h6,V,rfl,hV,e1,e2,e3⟩;refine x Qd<|Qb<|Qk ⟨[_,sS 0],ov,S.D h6,V,O,hV,e1,e2,e3⟩
 have T:i<2:=by have hG:(i:Int)<(2:Nat):=hj;omega
 have h7:∃l,Qu [] ↑w4 ([vo,vu][i]'T) l/\JO 32 none l=0:=by
  have h8:i=0\/i=1:=oa
  rcases h8 with rfl|rfl
  ·exact⟨o,I.I G,U.ck⟩
  exact⟨un,hU.I G,hu.ck⟩
 obtain⟨l,hl,hck⟩:=h7;refine Qf<|Qe<|Qn<|Qc<|O6 (g:=λv:O0=>[v]) (es:=[vo,vu]) (i:=i) (λ_=>O) (hg.I J) O O T λhH hm=>?_;refine Zg ([vo,vu][i]'T) λv hv=>?_;rw[hv]at hl hm;refine x (Qq (u:=v) hm O)<|Qb ?_;have hC:=qb hl 32;rw[hck]at hC;refine Ql<|Qw<|hC.S ?_;rintro _ w9 ⟨rfl,rfl⟩;refine Qb<|Ql<|ZL O O<|xe<|Zz rfl<|Qf<|Qr<|QB O O<|Qa<|xe ?_;exact⟨i+1,by show 2 - (i+1)<2 - i;omega,La,T,J⟩
theorem qa (h:Zp [] ↑w va vm ve a)(J:Qu [] ↑w vo o)(G:Pl9 a)(S:Yb o):
  QS sV 17 [.agg #[va,sS a.st,vm,ve],vo] w λr w'=>sW w w'/\∃vw vt,r=.tuple #[vw,vt,.bool (obs a o []).isNone,sS 0]/\Yn ↑w ↑w' vw ((obs a o []).elim [] (·.1))/\Yn ↑w ↑w' vt ((obs a o []).elim [] (·.2)):=by
 refine Zl func17 ?_;refine Qc<|Zc [va,sS a.st,vm,ve] λb2 T E hc U=>x Qd<|x Qd<|x Qd<|Qb<|Qc<|Q3 U O O<|Qa<|Qw<|(K3 (h.I E) (J.I E) (Qal [] ↑T) G S Yb.nil).S ?_;rintro _ w2 ⟨I,V,rfl,Y,rfl,rfl,e3⟩;refine Qa<|QQ O O<|QQ O O<|x Qd<|Qb<|Qe<|Ql<|ZL O O<|xe<|Zz rfl<|Qf ?_;have hR:=Qa4 Y G.s9 G.e;rw[e3]at hR;refine Ql<|Qw<|hR.S ?_;rintro _ w3 ⟨ha,vw,vt,rfl,hw,ht⟩;refine Qa<|QQ O O<|QQ O O<|QQ O O<|x Qd<|x Qd<|Qb<|Ql<|Qa<|Qa<|x Qd<|x Qd<|x Qd<|Qb<|Qk ⟨[vw,vt,_,sS 0],oy,(E.D I).D ha,vw,vt,O,hw.S (E.D I).size,ht.S (E.D I).size⟩
theorem Kv (h:Zp [] ↑w va vm ve a)(J:Qu [] ↑w vo o)(hU:Qu [] ↑w vu un)(G:Pl9 a)(S:Yb o)(T:Yb un):
  QS sV 18 [.agg #[va,sS a.st,vm,ve],vo,vu] w λr w'=>sW w w'/\∃vw,r=.tuple #[vw,sS ((cns a o un).elim (-1) (·.2)),.bool (cns a o un).isNone,sS 0]/\Yn ↑w ↑w' vw ((cns a o un).elim [] (·.1)):=by
 refine Zl func18 ?_;refine Qc<|Zc [va,sS a.st,vm,ve] λb3 w1 E hc U=>x Qd<|x Qd<|x Qd<|Qb<|Qc<|Q3 U O O<|Qa<|Qa<|Qw<|(K3 (h.I E) (J.I E) (hU.I E) G S T).S ?_;rintro _ w2 ⟨I,V,rfl,Y,rfl,rfl,rfl⟩;refine Qa<|QQ O O<|QQ O O<|x Qd<|Qb<|Qe<|Ql<|ZL O O<|xe<|Zz rfl<|Qf<|Ql<|Qw<|(Qa5 Y G.s9 G.e).S ?_;rintro _ w3 ⟨ha,vw,rfl,hw⟩;refine Qa<|QQ O O<|QQ O O<|QQ O O<|x Qd<|x Qd<|Qb<|Ql<|Qa<|Qa<|x Qd<|x Qd<|x Qd<|Qb<|Qk ⟨[vw,_,_,sS 0],oy,(E.D I).D ha,vw,O,hw.S (E.D I).size⟩
theorem Yb.len (h:Yb l):l.length<=32:=xG 32 l (h.i.imp λE e=>oa) h.b
theorem Yb.fil (h:Yb l)(p:Int->Bool):Yb (l.filter p):=⟨λx hx=>h.b x (LW.1 hx).1,h.i.filter p⟩
theorem Yb.ins {l:LI}(v:Int):Yb (ins l v):=⟨λ_ hx=>(jP.1 hx).1,jQ 32 _⟩
theorem QiC {v:Int}(h:Yb l)(E:v∉l)(G:0<=v)(I:v<32):((l++[v]).mergeSort λx y=>decide (x<=y))=ins l v:=by
 refine jc ?_ λx hx=>?_
 ·rw[Md];exact⟨h.i.imp λS e=>oa,od,λa J b hb e=>E ((Lb.1 hb) ▸ e ▸ J)⟩
 rcases Le.1 hx with hx|hx
 ·exact h.b x hx
 rw[Lb.1 hx];exact⟨G,I⟩
theorem Qn5 {W:OZ}{I J:Nat}{set:LI}(h:Zp [] ↑W va vm ve a)(U:QK ↑W I 53 [va,sS a.st,vm,ve])(Y:QK ↑W J 47 [vu])(hU:Qu [] ↑W vu un)(hS:Qu [] ↑W vs set)(E:Pl9 a)(ho:Yb set)(hu:Yb un):
  QS sV 59 [vs,sP I,sP J] W λr w'=>r=.tuple #[.bool (hld a un set),sS 0]/\sW W w':=by
 refine Zl func59 ?_;refine Qc<|x Qd<|Qb<|Qc<|Q3 U O O<|Qa<|ZB Y O O<|Qw<|(K3 h hS hU E ho hu).S ?_;rintro _ w1 ⟨ha,V,rfl,S,rfl,rfl,rfl⟩;refine Qa<|QQ O O<|QQ O O<|x Qd<|Qb<|Qe<|Ql<|ZL O O<|xe<|Zz rfl<|Qf<|Ql<|Qw<|(Qa4 S E.s9 E.e).S ?_;rintro _ w2 ⟨T,vw,vt,rfl,_,_⟩;refine Qa<|QQ O O<|QQ O O<|QQ O O<|x Qd<|x Qd<|Qb<|Ql<|Qw<|(Qa5 (S.I T) E.s9 E.e).S ?_;rintro _ w3 ⟨hc,hf,rfl,_⟩;refine Qa<|QQ O O<|QQ O O<|QQ O O<|x Qd<|x Qd<|Qb ?_;have he:=(ha.D T).D hc;refine QW (α:=Unit) [(4,5),(36,39)] (λ_=>[(4,.bool (hld V.a V.un V.o)),(5,sS 0)]) (λ_ w'=>w'=w3) oh ?_ ?_
 ·refine Qr<|xB Kd (λG=>?_) (λG=>?_)
  ·refine Qa<|Qa<|Qz O<|x Qd<|Qb<|⟨(),⟨OT Value.bool (by unfold hld;rw[G];rfl),O,Z⟩,O⟩
  refine Qa<|Jr<|Qz O<|x Qd<|Qb<|⟨(),⟨OT Value.bool (by unfold hld;rw[G];rfl),O,Z⟩,O⟩
 rintro _ g _ rfl;exact Qk ⟨[_,_],ov,O,he⟩
theorem QlT {W:OZ}{b:Nat}{v:Int}(E:QK ↑W b 3 [sS v])(e:Int):
  QS sV 65 [sS e,sP b] W λr w'=>r=.bool (decide (e=v))/\w'=W:=by
 refine Zl func65 ?_;refine Qc<|Qb<|Ql<|ZB E O O<|x (Zd O O)<|Qb<|Qk ⟨[_],La,O,O⟩
theorem QgD {z:LI×LI}(h:hld a un z.1=true):xtA a un l z=z:=by
 cases l with
 | nil=>rfl
 | cons v l=>rw[xtA,OS h]
theorem QmZ {z:LI×LI}{k:Nat}(E:k<l.length)(h:hld a un z.1=false):xtA a un (l.drop k) z=xtA a un (l.drop (k+1)) (if l[k]'E∈z.1 then z else(ins z.1 (l[k]'E),z.2++[l[k]'E])):=by
 rw[QY E,xtA,OR (by rw[h];exact My)]
theorem jJ (h:Zp [] ↑w va vm ve a)(hO:Qu [] ↑w vo o)(hU:Qu [] ↑w vu un)(hp:Pl9 a)(ho:Yb o)(hu:Yb un):
  QS sV 22 [.agg #[va,sS a.st,vm,ve],vo,vu] w λr w'=>sW w w'/\∃vw,r=.tuple #[vw,sS 0]/\Qh 3 ↑w w' vw (QbX a o un)/\Yb (QbX a o un):=by
 have hok:=hp.ok;have kz:=hok.al_le;have hN:Yb a.al:=⟨hok.al,hok.ali⟩;refine Zg (QbX a o un) λE hE=>?_;refine Zl func22 ?_;refine Qc<|Zc [va,sS a.st,vm,ve] λb3 w1 gs k0 gt=>Qo<|U2 (us:=[vu]) hU.cells λb5 w2 hP k4 hQ=>x Qd<|Qb ?_;have hw:=gs.D hP;have h5:=gt.I hP;refine Qc<|Q3 h5 O O<|Qa<|ZB hQ O O<|Qw<|(K3 (h.I hw) (hO.I hw) (hU.I hw) hp ho hu).S ?_;rintro _ G ⟨hy,V,rfl,hV,gu,gv,k5⟩;have hj:=hw.D hy;have gx:=hj.size;refine Qa<|QQ O O<|QQ O O<|x Qd<|Qb<|Qe<|Ql<|ZL O O<|xe<|Zz rfl<|Qf<|Qc<|x (Zk (l:=[]) (l':=[.tmp 3,.tmp 5]))<|Qb ?_;have hK:=yG hV;rw[gu,gv]at hK;refine Ql<|Qw<|hK.S ?_;rintro v4 w4 ⟨h6,gy⟩;refine Qb ?_;have gz:=hj.D h6;have g0:=(h5.I hy).I h6;have g2:Yb (kpt a o):=hN.fil _;refine Qc<|Qb ?_;have g3:=h6;have g4:=h5.I hy;have g5:=hQ.I hy;have hT:∀{W:OZ} {vs:O0} {set:LI},sW G W->Qh 3 ↑G W vs set->Yb set->QS sV 59 [vs,sP b3,sP b5] W λr w'=>r=.tuple #[.bool (hld a un set),sS 0]/\sW W w' :=
  λhW hS hs=>Qn5 (h.I (hj.D hW)) (g4.I hW) (g5.I hW) (hU.I (hj.D hW)) (Qh.ints hS (oo hs.len) od) hp hs hu
 have h7:QbX a o un=(xtA a un a.al (kpt a o,[])).2.foldl (xtD a un) (xtA a un a.al (kpt a o,[])).1:=rfl;rw[hE]at h7 ⊢;have hX:xtA a un (a.al.drop 0) (kpt a o,[])=xtA a un a.al (kpt a o,[]):=by rw[NE]
 refine Zg (xtA a un a.al (kpt a o,[])) λR hR=>?_;rw[hR]at h7 hX;refine QW (α:=O0×O0) [(6,7),(11,12),(14,16),(32,66)] (λz=>[(11,z.1),(12,z.2)]) (λz w'=>sW G w'/\Qh 3 ↑G w' z.1 R.1/\Qh 3 ↑G w' z.2 R.2/\Yb R.1/\R.2.length<=32) oh ?_ ?_
 ·refine Qc<|Qs O g0 O O<|QG (h.al.I gz) O<|Qa<|xe<|QX (α:=Nat×O0×O0×LI×LI) [(6,7),(11,12),(14,16),(38,66)] (λz=>[(11,z.2.1),(12,z.2.2.1),(38,sS z.1)]) (λz w'=>z.1<=a.al.length/\sW G w'/\Qh 3 ↑G w' z.2.1 z.2.2.2.1/\Qh 3 ↑G w' z.2.2.1 z.2.2.2.2/\Dj z.2.1 z.2.2.1/\Yb z.2.2.2.1/\z.2.2.2.2.length<=z.1/\xtA a un (a.al.drop z.1) (z.2.2.2.1,z.2.2.2.2)=R) (λz=>a.al.length - z.1) (0,v4,ZS,kpt a o,[]) ox
   ⟨Lo _,g3,gy,QL _ _ _ _,Dj.nil' _,g2,Lp _,hX⟩ ?_
  rintro⟨k,vs,vd,set,add⟩ g w5 ⟨hk,hn,S,ha,hz,hsE,g6,U⟩;simp only[]at hk S ha hz hsE g6 U;have g7:=hsE.len;refine Zi O O (λh8=>?_) (λh8=>?_)
  ·refine Qt ?_;have h9:a.al.length<=k:=by have hA:¬(k:Int)<(a.al.length:Int):=h8;omega
   rw[Lr h9]at U;have hc:R=(set,add):=U.symm;exact⟨(vs,vd),ov,hn,by rw[hc];exact S,by rw[hc];exact ha,by rw[hc];exact hsE,by rw[hc];show add.length<=32;omega⟩
  have T:k<a.al.length:=by have hA:(k:Int)<(a.al.length:Int):=h8;omega
  have hB:=hN.b _ (Lk T);refine Qf<|Qe<|Qn<|Qc<|xii (i:=k) (h.al.I (hj.D hn)) O O T λk6 hY=>?_;have hZ:=QmZ (a:=a) (un:=un) (z:=(set,add)) T;refine Zg (a.al[k]'T) λv hv=>?_;rw[hv]at hY hZ hB;refine x (Qq hY O)<|Qb<|Ql<|Qa<|Qo<|xc (first:=[]) (capt:=[sP b3,sP b5]) O<|(hT hn S hsE).S ?_;rintro _ w6 ⟨rfl,I⟩;refine Qa<|QQ O O<|QQ O O<|x Qd<|Qb ?_;have he:=hn.D I;refine Qe<|Ql<|ZL O O<|xe<|Zz O<|Qf<|Qe<|Ql<|xe<|Q0 O (λhC=>?_) (λhC=>?_)
  ·refine Qt ?_;have hD:hld a un (set,add).1=true:=hC;rw[QgD hD]at U;have hc:R=(set,add):=U.symm;exact⟨(vs,vd),ov,he,by rw[hc];exact Qm S I,by rw[hc];exact Qm ha I,by rw[hc];exact hsE,by rw[hc];show add.length<=32;omega⟩
  have hD:hld a un (set,add).1=false:=hC;rw[hZ hD]at U;refine Qf<|Ql<|Qa<|Qw<|(ZG (Qh.ints (L:=[]) (Qm S I) oa od) v).S ?_;rintro _ w7 ⟨rfl,rfl⟩;refine x (Zj O)<|xe<|Q0 O (λhF=>?_) (λhF=>?_)
  ·have ga:=K4 hF;rw[OR ga]at U;have hG:=Qi S;have g8:=Qi ha;have k9:=I.size;have ma:=he.size;refine Ql<|Qa<|Qo<|Q2 [[sS v]] λmc w8 hf mf g9 =>
    Qo<|QZ (m:=1) (news:=[sS v]) (L:=[]) (Qm ha (I.D hf)) O O O (g9.at od) om oa (oo hf.size) λv9 w9 h0 hr ka=>Qb ?_
   have mg:=hf.size;have gb:sW G w9:=(he.D hf).O hr λb hb=>.inr (g8 b hb).1;have mh:=gb.size;have kb:=Qg (Qm S (I.D hf)) hr λb hb J=>hz b hb J;have gc:Dj v9 vs:=λb hb J=>by
    rcases ka b hb with h1|h1
    ·exact hz b J h1
    have:=(hG b J).2;omega
   have ge:Qh 3 ↑G w9 v9 (add++[v]):=Qh.snoc h0;refine Ql<|Qa<|Qo<|Q2 [[sS v]] λmj hH hg mo kc =>
    Qo<|QZ (m:=1) (news:=[sS v]) (L:=[]) (Qm kb hg) O O O (kc.at od) om oa (oo hg.size) λhI hJ ke hh kf=>Qb ?_
   have kg:sW G hJ:=(gb.D hg).O hh λb hb=>.inr (hG b hb).1;have gg:Qh 3 ↑G hJ hI (set++[v]):=Qh.snoc ke;have kh:=Qg (Qm ge hg) hh λb hb J=>gc b hb J;have gh:Dj hI v9:=λb hb J=>by
    rcases kf b hb with h1|h1
    ·exact gc b J h1
    have:=(Qi ge b J).2;have:=hg.size;omega
   refine Qr<|Qa<|Qw<|(JT gg (by rw[Lc,Lu];omega)).S ?_;rintro _ mq ⟨gi,gj⟩;rw[QiC hsE ga hB.1 hB.2]at gj;refine xe<|Qr<|QB O O<|Qa<|xe ?_;exact⟨(k+1,hI,v9,ins set v,add++[v]),by show a.al.length - (k+1)<a.al.length - k;omega,ox,T,kg.O gi λb hb=>.inr (Qi gg b hb).1,gj,Qg kh gi λb hb J=>gh b J hb,gh,Yb.ins v,by show(add++[v]).length<=k+1;rw[Lc,Lu];omega,U⟩
  have ki:=JZ hF;rw[OS ki]at U;refine Qf<|Qr<|QB O O<|Qa<|xe ?_;exact⟨(k+1,vs,vd,set,add),by show a.al.length - (k+1)<a.al.length - k;omega,ox,T,he,Qm S I,Qm ha I,hz,hsE,by show add.length<=k+1;omega,U⟩
 rintro⟨vs,vd⟩ g w5 ⟨hn,S,ha,hsE,ms⟩;simp only[]at S ha;have gk:Qu [] ↑w5 vd R.2:=Qh.ints ha oa od;have hG:=Qi S;refine Qe<|Ql<|QG gk O<|Qa<|xe<|QX (α:=Nat×O0×LI) [(6,7),(11,11),(18,21),(69,88)] (λz=>[(11,z.2.1),(69,sS z.1)]) (λz w'=>z.1<=R.2.length/\sW w5 w'/\Qh 3 ↑G w' z.2.1 z.2.2/\Yb z.2.2/\(R.2.drop z.1).foldl (xtD a un) z.2.2=E) (λz=>R.2.length - z.1) (0,vs,R.1) ov ⟨Lo _,O3.Y _ _,S,hsE,h7.symm⟩ ?_;rintro⟨k,h2,set⟩ g w6 ⟨hk,I,ht,hq,Y⟩;simp only[]at hk ht hq Y;have he:=hn.D I;have g7:=hq.len;have kj:Qu [] ↑w6 h2 set:=Qh.ints ht oa od;refine Zi rfl O (λhL=>?_) (λhL=>?_)
 ·refine Qt ?_;have h9:R.2.length<=k:=by have hA:¬(k:Int)<(R.2.length:Int):=hL;omega
  rw[Lr h9]at Y;have kk:set=E:=Y;rw[kk]at ht hq;refine Ql<|x Qd<|Qb<|Qk ⟨[h2,sS 0],ov,hj.D he,h2,O,Q9 ht gx,hq⟩
 have T:k<R.2.length:=by have hA:(k:Int)<(R.2.length:Int):=hL;omega
 rw[QY T,LO]at Y;refine Qf<|Qe<|Qn<|Qc<|xii (i:=k) (gk.I I) O O T λmt gl=>?_;refine Zg (R.2[k]'T) λv hv=>?_;rw[hv]at gl Y;refine x (Qq gl O)<|QT [sS 0] λkn w7 ko kq kr=>Qo<|Qv (u:=sS v) kr O O (L3 O) O λw8 hf gm=>xe ?_;have h3:sW w6 w8:=ko.Q hf kq;refine Ql<|Qw<|(ZT (kj.I h3)).S ?_;rintro v9 w9 ⟨hr,h0⟩;have gn:=Qi h0;have kt:=gm.I hr;have mu:=gm.lt;refine x (Zk (l:=[]) (l':=[.tmp 18]))<|Qw<|(QeZ (gp:=65) (cap:=[sP kn]) (p:=λe=>decide (e=v)) (enters_of func65 oc O) h0 oa
  (λe W hW=>QlT (kt.J hW λJ=>oo (gn _ J).1) e)).S ?_
 rintro go hH ⟨hg,ku⟩;refine Qb ?_;have kv:=h3.D hr;have h4:sW w6 hH:=kv.O hg λb hb=>.inr (oq (gn b hb).1 h3.size);have kw:=he.D h4;have gq:Yb (set.filter λe=>!decide (e=v)):=hq.fil _;have gr:Qh 3 ↑G hH go (set.filter λe=>!decide (e=v)):=Q9 ku (he.D h3).size;have kx:xtD a un set v=if hld a un (set.filter λe=>!decide (e=v))=true then set.filter λe=>!decide (e=v) else set:=rfl
 rw[kx]at Y;refine Ql<|Qa<|Qo<|xc (first:=[]) (capt:=[sP b3,sP b5]) O<|(hT kw gr gq).S ?_;rintro _ hJ ⟨rfl,hh⟩;refine Qa<|QQ O O<|QQ O O<|x Qd<|Qb<|Qe<|Ql<|ZL O O<|xe<|Zz rfl<|Qf<|Ql<|xe<|Q0 rfl (λhM=>?_) (λhM=>?_)
 ·rw[OS hM]at Y;refine Qr<|Qa<|Qb<|Qr<|QB O O<|Qa<|xe ?_;exact⟨(k+1,go,set.filter λe=>!decide (e=v)),by show R.2.length - (k+1)<R.2.length - k;omega,ov,T,(I.D h4).D hh,Qm gr hh,gq,Y⟩
 rw[OR (λh=>My (hM.symm.D h))]at Y;refine Qf<|Qr<|QB O O<|Qa<|xe ?_;exact⟨(k+1,h2,set),by show R.2.length - (k+1)<R.2.length - k;omega,ov,T,(I.D h4).D hh,Qm ht (h4.D hh),hq,Y⟩
open Go.RowKit
section
variable {e bys:Nat}
theorem Qhm [h:Sl P t e 1 bys z]{x E G I:O1}{b cap:Nat}{k0 k1 k2:IntKind}(hx:ev f x=sL b n cap)(J:ev f E=.int k0 lo)(S:ev f G=.int k1 lo)(T:ev f I=.int k2 hi)(ha:lo<=hi)(hc:hi<=cap)(w:OZ):
  (execOp (ev f) ⟨d,.slice t x (some E) (some G) (some I),ty,pS,af,gd⟩).run P w=.ok (.value (.slice (some ⟨b,if hi=lo then 0 else lo,none⟩) 0 (hi - lo))) w:=by
 obtain⟨ii,U,_,hs,_⟩:=Sl.info h;by_cases V:hi=lo
 ·subst V;simp[execOp,hx,J,S,T,Instr.sliceAt,Instr.slice,Instr.sliceBounds,Instr.sliceBound,asIntOf,run_underlying h.u,sizeOf,typeInfo,U];intro Y;omega
 simp[execOp,hx,J,S,T,Instr.sliceAt,Instr.slice,Instr.sliceBounds,Instr.sliceBound,asIntOf,run_underlying h.u,sizeOf,typeInfo,U,hs,ha,hc,V,Addr.add];intro Y;exact Y.symm
theorem Qnv [h:Sl P t e 1 bys z]{s:O1}{b cap:Nat}{u:O0}{a:Addr}{c:Nat}(G:QK ↑w b e us)(S:ev f s=.slice (some ⟨b,off,none⟩) n cap)(T:ev f y=.slice (some a) 1 c)(U:At [] ↑w a [u])(V:u.oneCell'=true)(Y:n+1<=cap)(ha:off+n<us.length)
  (hK:∀w',O3 [b] w w'->QK ↑w' b e (us.set (off+n) u)->K (QN f d (.slice (some ⟨b,off,none⟩) (n+1) cap)) w'):XO P ⟨d,.call ⟨.builtin .append,#[s,y],#[t,t]⟩,ty,pS,af,gd⟩ f w K:=by
 obtain⟨ii,hc,_,E,_⟩:=Sl.info h;have I:=run_firstCells_some (P:=P) w ii.size 1 a 1 c [u] (by rw[E];rfl) U.cells;rw[E]at I;have J:=run_storeCells_at P b (off+n) e [u] 0 us.toArray w G (by simp;omega) (by simp[V]);simp only[Ou,oL,Vi us (off+n) u ha]at J;refine xv (v:=.slice (some ⟨b,off,none⟩) (n+1) cap) (w':=w.setRow b (us.set (off+n) u).toArray) ?_ (hK _ (O3.setRow _ _ _) (Jf G));have he:(Builtin.append_ #[t,t] ty #[.slice (some ⟨b,off,none⟩) n cap,.slice (some a) 1 c]).run P w=.ok (.slice (some ⟨b,off,none⟩) (n+1) cap) (w.setRow b (us.set (off+n) u).toArray):=by
  simp[Builtin.append_,run_underlying h.u,sizeOf,typeInfo,hc,Builtin.lenOf,Y,I,Addr.add_lit,E,J]
 simp[execOp,resolve,invoke,builtin,S,T,he]
end
abbrev cstv (n:Nat)(f:Nat->Int):LV:=(oJ n).map λi=>sS (f i)
theorem X7 {f:Nat->Int}(hi:i<n):(cstv n f)[0+i*1]?=some (sS (f i)):=by simp[hi]
theorem Vc {f:Nat->Int}{v:Int}:(cstv n f).set (0+i*1) (sS v)=cstv n (Xf f i v):=by
 rw[LS,OO];exact JR (λv=>sS v) n f i v
def pre (ed:List Ed)(s:Nat):LI:=(ed.filter λe=>decide (e.2.2=(s:Int))).map (·.1)
def pos (ed:List Ed)(s:Nat):Nat:=(ed.filter λe=>decide (e.2.2<(s:Int))).length
def num (ed:List Ed)(s:Nat):Nat:=(pre ed s).length
theorem Jh (s:Nat):∀ed:List Ed,pos ed (s+1)=pos ed s+num ed s
 | []=>rfl
 | e::ed=>by
  have ih:=Jh s ed;unfold pos num pre at *;rw[Lm]at *;simp only[OF,decide_eq_true_eq];by_cases E:e.2.2<(s:Int)
  ·rw[OS E,OS (show e.2.2<((s+1:Nat):Int) by omega),OR (show ¬e.2.2=(s:Int) by omega),LL,LL];omega
  by_cases G:e.2.2=(s:Int)
  ·rw[OR E,OS (show e.2.2<((s+1:Nat):Int) by omega),OS G,LL,LL];omega
  rw[OR E,OR (show ¬e.2.2<((s+1:Nat):Int) by omega),OR G];exact ih
theorem QbA (ed:List Ed){s:Nat}(h:s<=t):pos ed s<=pos ed t:=by
 induction t with
 | zero=>rw[Nat.le_zero.1 h];exact Lp _
 | succ t ih =>
  rcases OK t s with E|E
  ·rw[show s=t+1 by omega];exact Lp _
  have:=ih E;have:=Jh t ed;omega
theorem Qhy (h:∀e∈ed,0<=e.2.2):pos ed 0=0:=by
 unfold pos;rw[List.length_eq_zero_iff,MJ];intro e E hd;have:=OW hd;have:=h e E;omega
theorem Qc4 (ed:List Ed)(s:Nat):pos ed s<=ed.length:=LJ _ _
theorem Qbz {k:Nat}(h:k<ed.length)(s:Nat):pre (ed.take (k+1)) s=pre (ed.take k) s++if(ed[k]'h).2.2=(s:Int) then[(ed[k]'h).1]else[]:=by
 unfold pre;rw[Lh h,LR,Lv];congr 1;by_cases e:(ed[k]'h).2.2=(s:Int) <;> simp[e]
theorem zl {k:Nat}(s:Nat):num (ed.take k) s<=num ed s:=by
 unfold num pre;rw[Lm,Lm];exact((List.take_sublist k ed).filter _).length_le
def offs (ed:List Ed)(s:Nat):Nat:=if num ed s=0 then 0 else pos ed s
theorem Qk5 {s:Nat}(h:j<num ed s):offs ed s+j<ed.length:=by
 unfold offs;rw[OR oa];have:=Jh s ed;have:=Qc4 ed (s+1);omega
theorem Qk4 {s:Nat}(E:s≠t)(hi:i<num ed s)(G:j<num ed t):offs ed s+i≠offs ed t+j:=by
 unfold offs;rw[OR oa,OR oa];have I:=Jh s ed;have J:=Jh t ed;rcases Nat.lt_or_gt_of_ne E with h|h
 ·have:=QbA ed (show s+1<=t by omega);omega
 have:=QbA ed (show t+1<=s by omega);omega
def cnb (ed:List Ed):Nat->Int
 | 0=>0
 | i+1=>(num ed i:Int)
theorem Qjr {k:Nat}(h:k<ed.length)(E:(ed[k]'h).2.2=(t:Int))(i:Nat):cnb (ed.take (k+1)) i=if i=t+1 then cnb (ed.take k) i+1 else cnb (ed.take k) i:=by
 cases i with
 | zero=>rw[OR oa];rfl
 | succ i =>
  show((num (ed.take (k+1)) i:Nat):Int)=_;unfold num;rw[Qbz h i];by_cases e:i=t
  ·subst e;rw[OS E,OS rfl,Lc];rfl
  rw[OR (by rw[E];omega),LF,OR oa];rfl
theorem QlF (h:Zp [] ↑w va vm ve a)(hok:Q8 a)(hn:a.st=(n:Int)):
  QS sV 129 [.agg #[va,sS a.st,vm,ve]] w λr w'=>sW w w'/\∃rv:Nat->O0,Zs [] ↑w' r (oJ n).length 1 ((oJ n).flatMap λi=>[rv i])/\∀i,i<n->Qu [] ↑w' (rv i) (pre a.ed i):=by
 have pf:=hok.st1;have g9:=hok.ed_le;have hC:=hok.ed;have ka:∀e∈a.ed,0<=e.2.2:=λe J=>(hC e J).2.2.2.1;refine Zl func129 ?_;refine Qc<|Zc [va,sS a.st,vm,ve] λb1 w1 kb pg hD=>Qb ?_;have ph:=hD.lt;refine Qc ?_;have ga:(sS (a.st+1))=sS ((n+1:Nat):Int):=OT _ oa;refine Qs rfl hD O O<|QB O O<|Qo<|YS (n:=n+1) ga ga oa λbC w2 gb pj gc=>Qb ?_;have pn:=gc.lt;have kc:QK ↑w2 bC 3 (cstv (n+1) λ_=>0):=by
  have e:(oG (n+1) (sS 0).cells.toList).flatten=cstv (n+1) λ_=>0:=by
   apply LX
   ·simp[Value.cells]
   intro i h1 h2;simp[Value.cells]
  rw[<-e];exact gc
 have hE:=kb.D gb;have hF:=hD.I gb;refine Qe<|Qc<|Qs O hF O O<|QG (h.ed.I hE) O<|Qa<|xe<|QX (α:=Nat×(Nat->Int)) [(5,5),(19,31)] (λz=>[(19,sS z.1)]) (λz w'=>z.1<=a.ed.length/\O3 [bC] w2 w'/\QK ↑w' bC 3 (cstv (n+1) z.2)/\∀i,z.2 i=cnb (a.ed.take z.1) i) (λz=>a.ed.length - z.1) (0,λ_=>0) La
  ⟨Lo _,O3.Y _ _,kc,λi=>by cases i <;> rfl⟩ ?_
 rintro⟨k,fc⟩ g w3 ⟨hk,h0,h4,U⟩;simp only[]at hk h4 U;have ke:sW w w3:=hE.Q h0 oa;have ge:b1∉[bC]:=ol
 have kf:=hF.J h0 ge;refine Zi rfl O (λhG=>?_) (λhG=>?_)
 ·refine Qt ?_;have kg:a.ed.length<=k:=by have T:¬(k:Int)<(a.ed.length:Int):=hG;omega
  rw[Lq kg]at U;refine Qe<|Qc<|Qs O kf O O<|Qa<|xe<|QX (α:=Nat×(Nat->Int)) [(6,6),(34,48)] (λz=>[(34,sS z.1)]) (λz w'=>z.1<=n/\O3 [bC] w2 w'/\QK ↑w' bC 3 (cstv (n+1) z.2)/\∀i,i<=n->z.2 i=if i<=z.1 then(pos a.ed i:Int) else cnb a.ed i) (λz=>n - z.1) (0,fc) La
   ⟨Lo _,h0,h4,λi _=>by
    show fc i=if i<=0 then(pos a.ed i:Int) else cnb a.ed i
    rw[U i];cases i with
    | zero=>rw[OS (Lp 0),Qhy ka];rfl
    | succ i=>rw[OR oa]⟩ ?_
  rintro⟨s,I⟩ g w4 ⟨hs,h5,ha,hf⟩;simp only[]at hs ha hf;have gg:sW w w4:=hE.Q h5 oa;have hg:=hF.J h5 ge;refine Qc<|x (Ys (b:=a.st) O O)<|xe<|Qe<|Zn O (λhH=>?_) (λhH=>?_)
  ·refine Qt ?_;have kh:s=n:=by have T:¬(s:Int)<a.st:=hH;omega
   subst kh;have gh:∀i,i<=s->I i=(pos a.ed i:Int):=λi hi=>by rw[hf i hi,OS hi]
   have po:=h5.size;refine Qc<|Qs O hg O O<|QG (h.ed.I gg) O<|Qo<|YS (n:=a.ed.length) O O oa λbA w5 gi pp gj=>Qb<|Qc ?_;have gk:(sS a.st)=sS (s:Int):=OT _ hn;refine Qs O (hg.I gi) O O<|Qo<|YS (n:=s) gk gk oa λbO w6 gl pt hI=>Qb ?_;rw[VP]at hI;have pu:=gj.lt;have hJ:=gi.D gl;have ki:=gg.D hJ;have kj:=ha.I hJ;have kk:=hg.I hJ;have hK:bA≠bO:=oa
   have kn:bC≠bO:=oa
   have ko:b1≠bO:=oa
   have kq:Zs [] ↑w6 (sL bO s s) s 1 ((oJ s).map λ_=>nS):=hI.arr od (n:=s) (cap:=s) (sz:=1) od oa (Lp _);refine Qe<|Ql<|QG kq O<|Qa<|xe<|QX (α:=Nat×(Nat->O0)) [(9,9),(58,79)] (λz=>[(58,sS z.1)]) (λz w'=>z.1<=s/\O3 [bO] w6 w'/\QK ↑w' bO 47 ((oJ s).map z.2)/\∀i,i<z.1->z.2 i=.slice (some ⟨bA,offs a.ed i,none⟩) 0 (num a.ed i)) (λz=>s - z.1) (0,λ_=>nS) La
    ⟨Lo _,O3.Y _ _,hI,λi hi=>OU hi (NJ _)⟩ ?_
   rintro⟨r,rv⟩ g V ⟨hr,hh,hL,hM⟩;simp only[]at hr hL hM;have gm:sW w V:=ki.Q hh oa;have gn:=kk.J hh (by simp only[oF];exact ko);have hN:=kj.J hh (by simp only[oF];exact kn);refine Zi O O (λhO=>?_) (λhO=>?_)
   ·refine Qt ?_;have kr:r=s:=by have T:¬(r:Int)<(s:Int):=hO;omega
    subst kr;have kt:=((gj.I gl).J hh (by simp only[oF];exact hK));refine Qe<|Qc<|Qs O gn O O<|QG (h.ed.I gm) O<|Qa<|xe<|QX (α:=Nat×(Nat->O0)×LV) [(11,11),(83,100)] (λz=>[(83,sS z.1)]) (λz w'=>z.1<=a.ed.length/\O3 [bA,bO] V w'/\QK ↑w' bO 47 ((oJ r).map z.2.1)/\QK ↑w' bA 3 z.2.2/\z.2.2.length=a.ed.length/\(∀i,i<r->z.2.1 i=.slice (some ⟨bA,offs a.ed i,none⟩) (num (a.ed.take z.1) i) (num a.ed i))/\∀i j u,i<r->(pre (a.ed.take z.1) i)[j]?=some u->z.2.2[offs a.ed i+j]?=some (sS u)) (λz=>a.ed.length - z.1) (0,rv,_) La
     ⟨Lo _,O3.Y _ _,hL,kt,by simp[Value.cells],λi hi=>hM i hi,λi j u _ E=>by simp[pre]at E⟩ ?_
    rintro⟨m,Y,cs⟩ g w8 ⟨hm,hP,hQ,hj,h6,ho,hp⟩;simp only[]at hm hQ hj h6 ho hp;have go:sW w w8:=gm.O hP λb hb=>.inr (by simp only[oK,oH,or_false]at hb;omega);have hR:=gn.J hP (by simp only[oK,oH,or_false];omega);refine Zi O O (λhS=>?_) (λhS=>?_)
    ·refine Qt ?_;have ku:a.ed.length<=m:=by have T:¬(m:Int)<(a.ed.length:Int):=hS;omega
     rw[Lq ku]at ho hp;refine Ql<|Qb<|Qk ⟨[_],La,go,Y,?_,λi hi=>?_⟩
     ·rw[zc];have:=hQ.arr (L:=[]) od (n:=(oJ r).length) (cap:=r) (sz:=1) od (by simp;omega) od;rw[L5]at this ⊢;exact this
     rw[ho i hi];have h7:num a.ed i<=1000000:=by unfold num pre;rw[Lm];exact Lx (LJ _ _) (Lx g9 og)
     refine⟨od,Lx h7 og,.inr ⟨_,_,rfl,Lp _,(λu _=>od),(λu _=>hj.lt),λj u E=>?_⟩⟩;rw[ME]at E;cases hq:(pre a.ed i)[j]? with
     | none=>rw[hq]at E;cases E
     | some v =>
      rw[hq]at E;cases E
      rw[Addr.add_lit,hj.cell];exact hp i j v hi hq
    have hv:m<a.ed.length:=by have T:(m:Int)<(a.ed.length:Int):=hS;omega
    have hT:=hC _ (Lk hv);have h8:=Qbz hv;refine Zg (a.ed[m]'hv) λe J=>?_;rw[J]at hT;simp only[J]at h8;obtain⟨t,S⟩:∃t:Nat,e.2.2=(t:Int):=⟨e.2.2.toNat,oa⟩;have h9:t<r:=oa
    have kv:num (a.ed.take (m+1)) t=num (a.ed.take m) t+1:=by unfold num;rw[h8,OS S,Lc];rfl
    have h7:num (a.ed.take m) t<num a.ed t:=by have:=zl (ed:=a.ed) (k:=m+1) t;omega
    have gq:=Qk5 h7;have kw:=ho t h9;refine Qf<|Qe<|Qn<|Qc<|xie (h.ed.I go) O O hv λpw gr=>?_;rw[J]at gr;refine x (QF gr O O)<|QT [sS 0,sS 0,sS 0] λb11 w9 kx kz k0=>Q5 (Qp e) k0 ox λhw k4 hU=>xe ?_;have hV:sW w8 hw:=kx.Q k4 kz;have gs:=hQ.I hV;have k5:=hj.I hV;have k6:=hj.lt;have k9:∀{b:Nat},b<↑w8->b11≠b:=λhb=>oa
    have hy:(sS e.2.2)=sS (t:Int):=OT _ S;refine ZH [bA] (Y0 0 14 [10,11,13]) ?_;have hW:b11∉[bA]:=by simp only[oF];exact k9 k6
    have gt:bO∉[bA]:=by simp only[oF];exact λh=>hK h.symm
    have gu:sW hw { hw with drawn:=hw.drawn+1 }:=O3.X _ _
    refine p Qx<|p (QH O)<|pq (λ_ G=>Qj (hU.J G hW) O O)<|p Qx<|p (QH O)<|pq (λ_ G=>Qj (hU.J G hW) O O) <|
     p (λ_=>QE (i:=t) O (show Go.Lg.ev _ _=_ from hy) h9)<|pq (λ_ G=>Qj (u:=Y t) (gs.J G gt) O (KD h9))<|p (QH O)<|pq (λ_ G=>Qj (hU.J G hW) O O) <|
     pk<|Q2 [[sS e.1]] λpz hX gv p0 ma=>⟨(gu.D gv).any,?_⟩
    have hA:sW hw hX:=gu.D gv;refine pk<|Qnv (u:=sS e.1) (k5.I hA) (show Go.Lg.ev _ _=_ from kw) O (ma.at od) rfl oa (by rw[h6];exact gq) λgx hY mc=>⟨hA.any.V hY,?_⟩;have mf:((oJ r).map Y).length=r:=od
    refine p (λ_=>QE (i:=t) O (show Go.Lg.ev _ _=_ from hy) h9)<|pkk<|Qv (j:=0+t*1) (u:=.slice (some ⟨bA,offs a.ed t,none⟩) (num (a.ed.take m) t+1) (num a.ed t)) ((gs.I hA).J hY gt) O O (by rw[mf];omega) O λgy gz mg=>pe ?_;have mh:QK ↑gy bO 47 ((oJ r).map (Xf Y t (.slice (some ⟨bA,offs a.ed t,none⟩) (num (a.ed.take m) t+1) (num a.ed t)))):=by
     have e1:=JR id r Y t (.slice (some ⟨bA,offs a.ed t,none⟩) (num (a.ed.take m) t+1) (num a.ed t));simp only[id]at e1;rw[<-e1];simpa using mg
    refine Qr<|QB O O<|Qa<|xe<|⟨(m+1,Xf Y t (.slice (some ⟨bA,offs a.ed t,none⟩) (num (a.ed.take m) t+1) (num a.ed t)),cs.set (offs a.ed t+num (a.ed.take m) t) (sS e.1)),by show a.ed.length - (m+1)<a.ed.length - m;omega,La,hv,?_,mh,mc.J gz (by simp only[oF];exact hK),by simp only[];rw[MV];exact h6,λi hi=>?_,λi j u hi E=>?_⟩
    ·have g0:∀b,b=bA\/b=bO->b∈[bA,bO]:=λb hb=>by simp only[oK,oH,or_false];exact hb
     have k1:O3 [bA,bO] V hX:=hP.V ((hV.D hA).S λb hb=>by cases hb);have k2:O3 [bA,bO] hX gx:=hY.S λb hb=>g0 b (.inl (Lb.1 hb));have k3:O3 [bA,bO] gx gy:=gz.S λb hb=>g0 b (.inr (Lb.1 hb));exact(k1.V k2).V k3
    ·simp only[];by_cases e1:i=t
     ·subst e1;rw[Zt,kv]
     rw[ZM _ _ e1,ho i hi];congr 1;unfold num;rw[h8,OR (by rw[S];omega),LF]
    simp only[]at E ⊢;rw[h8]at E;by_cases e1:i=t
    ·subst e1;rw[OS S]at E;rcases OK j (num (a.ed.take m) i) with h2|h2
     ·rw[LY h2]at E;rw[M4 oa];exact hp i j u hi E
     rw[Mk h2]at E;have mj:j - num (a.ed.take m) i=0:=by
      rcases Nat.eq_zero_or_pos (j - num (a.ed.take m) i) with h3|h3
      ·exact h3
      rw[Mm (by simp only[oL];exact h3)]at E;cases E
     have mo:j=num (a.ed.take m) i:=oa
     have mq:u=e.1:=by
      have:(pre (a.ed.take m) i).length=num (a.ed.take m) i:=rfl;rw[this,mj]at E;exact(Option.some.inj E).symm
     rw[mo,mq,List.getElem?_set_self (by rw[h6];exact gq)]
    rw[OR (by rw[S];omega),LF]at E;have ms:j<num a.ed i:=LQ (Mf.1 E).1 (zl i);rw[M4 (Qk4 (λh=>e1 h.symm) h7 ms)];exact hp i j u hi E
   have g2:r<s:=by have T:(r:Int)<(s:Int):=hO;omega
   refine Qf<|Qe<|Qn<|Ql<|Qb ?_;have mt:=Jh r a.ed;have g3:=Qc4 a.ed (r+1);have hfr:I r=(pos a.ed r:Int):=gh r oa;have mu:I (r+1)=(pos a.ed (r+1):Int):=gh (r+1) oa;have g4:(sS (I r))=sS (pos a.ed r:Int):=OT _ hfr;have mv:(sS (I (r+1)))=sS (pos a.ed (r+1):Int):=OT _ mu;have hB:(sS ((r:Int)+1))=sS ((r+1:Nat):Int):=rfl;refine ZH [] (Y0 0 19 [18])<|p Qx<|p Qx<|p Qx<|p Qx<|p Qx<|p (λ_=>QE (i:=r) O O oa) <|
    pq (λ_ G=>Qj (hN.I G) O (X7 oa))<|p Qx<|p Qx<|p (λ_=>QE (i:=r) O O oa)<|pq (λ_ G=>Qj (hN.I G) O (X7 oa)) <|
    p Qx<|p Qx<|p (λ_=>Xd O O ⟨oa,oa⟩)<|p (λ_=>QE (i:=r+1) O (show Go.Lg.ev _ _=_ from hB) oa) <|
    pq (λ_ G=>Qj (hN.I G) O (X7 oa))<|p (Qhm O (show Go.Lg.ev _ _=_ from g4) (show Go.Lg.ev _ _=_ from g4) (show Go.Lg.ev _ _=_ from mv) oa g3)<|p (λ_=>QE (i:=r) O O g2)<|pkk<|Qv (j:=0+r*1) (u:=.slice (some ⟨bA,if pos a.ed (r+1)=pos a.ed r then 0 else pos a.ed r,none⟩) 0 (pos a.ed (r+1) - pos a.ed r)) (hL.I (O3.X _ _)) O O (by simp;omega) O λmw my hg=>pe ?_
   have mz:sW V { V with drawn:=V.drawn+1 }:=O3.X _ _
   have m0:(Value.slice (some ⟨bA,if pos a.ed (r+1)=pos a.ed r then 0 else pos a.ed r,none⟩) 0 (pos a.ed (r+1) - pos a.ed r))=.slice (some ⟨bA,offs a.ed r,none⟩) 0 (num a.ed r):=by
    have e1:pos a.ed (r+1) - pos a.ed r=num a.ed r:=oa
    have e2:(if pos a.ed (r+1)=pos a.ed r then 0 else pos a.ed r)=offs a.ed r:=by
     unfold offs;by_cases e3:num a.ed r=0
     ·rw[OS e3,OS oa]
     rw[OR e3,OR oa]
    rw[e1,e2]
   have m1:QK ↑mw bO 47 ((oJ s).map (Xf rv r (.slice (some ⟨bA,offs a.ed r,none⟩) 0 (num a.ed r)))):=by
    have e1:=JR id s rv r (.slice (some ⟨bA,offs a.ed r,none⟩) 0 (num a.ed r));simp only[id]at e1;rw[<-e1,<-m0];simpa using hg
   refine Qr<|QB O O<|Qa<|xe<|⟨(r+1,Xf rv r (.slice (some ⟨bA,offs a.ed r,none⟩) 0 (num a.ed r))),by show s - (r+1)<s - r;omega,La,g2,(hh.V (mz.S λb hb=>by cases hb)).V my,m1,λi hi=>?_⟩;simp only[];by_cases e1:i=r
   ·subst e1;rw[Zt]
   rw[ZM _ _ e1];exact hM i (by have T:i<r+1:=hi;omega)
  have m2:s<n:=by have T:(s:Int)<a.st:=hH;omega
  refine Qf<|Qe<|Qn<|Ql<|Qb ?_;have mt:=Jh s a.ed;have g3:=Qc4 a.ed (s+1);have p4:I s=(pos a.ed s:Int):=by rw[hf s oa,OS (Lp _)]
  have p5:I (s+1)=(num a.ed s:Int):=by rw[hf (s+1) oa,OR oa];rfl
  have hB:(sS ((s:Int)+1))=sS ((s+1:Nat):Int):=rfl;refine ZH [] (Y0 0 12 [11])<|p Qx<|p Qx<|p (λ_=>Xd O O ⟨oa,oa⟩)<|p (λ_=>QE (i:=s+1) O (show Go.Lg.ev _ _=_ from hB) oa) <|
   pq (λ_ G=>Qj (ha.I G) O (X7 oa))<|p Qx<|p Qx<|p (λ_=>QE (i:=s) O O oa)<|pq (λ_ G=>Qj (ha.I G) O (X7 oa)) <|
   p (λ_=>Xd O O ⟨oa,oa⟩)<|p (λ_=>QE (i:=s+1) O (show Go.Lg.ev _ _=_ from hB) oa)<|pkk<|Qv (j:=0+(s+1)*1) (u:=sS (I (s+1)+I s)) (ha.I (O3.X _ _)) O O (by simp;omega) O λp6 m3 g5=>pe ?_
  rw[Vc]at g5;have m4:sW w4 { w4 with drawn:=w4.drawn+1 }:=O3.X _ _
  refine Qr<|QB O O<|Qa<|xe<|⟨(s+1,Xf I (s+1) (I (s+1)+I s)),by show n - (s+1)<n - s;omega,La,m2,(h5.V (m4.S λb hb=>by cases hb)).V m3,g5,λi hi=>?_⟩;simp only[];by_cases e1:i=s+1
  ·subst e1;rw[Zt,OS (Lp _)];omega
  rw[ZM _ _ e1,hf i hi];by_cases e2:i<=s
  ·rw[OS e2,OS oa]
  rw[OR e2,OR oa]
 have hz:k<a.ed.length:=by have T:(k:Int)<(a.ed.length:Int):=hG;omega
 have hT:=hC _ (Lk hz);have g6:=λt S=>Qjr (t:=t) hz S;refine Zg (a.ed[k]'hz) λe J=>?_;rw[J]at hT;simp only[J]at g6;obtain⟨t,S⟩:∃t:Nat,e.2.2=(t:Int):=⟨e.2.2.toNat,oa⟩;have p7:t<n:=oa
 refine Qf<|Qe<|Qn<|Qc<|xie (h.ed.I ke) O O hz λp8 g7=>?_;rw[J]at g7;refine x (QF g7 O O)<|QT [sS 0,sS 0,sS 0] λb5 p9 m5 m6 m7=>Q5 (Qp e) m7 ox λm8 m9 pc=>xe ?_;have hZ:sW w3 m8:=m5.Q m9 m6;have hy:(sS (e.2.2+1))=sS ((t+1:Nat):Int):=OT _ oa;have qf:0<=fc (t+1)/\fc (t+1)<=1000000:=by
  rw[U];have h1:=zl (ed:=a.ed) (k:=k) t;have h2:num a.ed t<=a.ed.length:=by unfold num pre;rw[Lm];exact LJ _ _
  show 0<=((num (a.ed.take k) t:Nat):Int)/\((num (a.ed.take k) t:Nat):Int)<=1000000;omega
 refine Qr<|Qa<|Qs O pc O O<|QB O O<|x (QE (i:=t+1) O (show Go.Lg.ev _ _=_ from hy) oa) <|
  ZB (h4.I hZ) O (X7 oa)<|QB O O<|x (QE (i:=t+1) O (show Go.Lg.ev _ _=_ from hy) oa)<|Qo<|Qv (j:=0+(t+1)*1) (u:=sS (fc (t+1)+1)) (h4.I hZ) O O (by simp;omega) O λqj pd hR=>xe ?_
 rw[Vc]at hR;refine Qr<|QB O O<|Qa<|xe<|⟨(k+1,Xf fc (t+1) (fc (t+1)+1)),by show a.ed.length - (k+1)<a.ed.length - k;omega,La,hz,(h0.V (hZ.S λb hb=>by cases hb)).V pd,hR,λi=>?_⟩;simp only[];rw[g6 t S i];by_cases e1:i=t+1
 ·subst e1;rw[Zt,OS rfl,U]
 rw[ZM _ _ e1,OR e1,U]
def bq (ed:List Ed):Nat->Nat->LI->LI
 | 0,_,l=>l
 | f+1,i,l=>if i<l.length then bq ed f (i+1) ((pre ed (O4 l i).toNat).foldl yx l) else l
theorem Qmi {f:Nat}(h:¬i<l.length):bq ed f i l=l:=by
 cases f with
 | zero=>rfl
 | succ f=>rw[bq,OR h]
def crq (a:QD)(tg:LI):LI:=bq a.ed (tg.length+a.st.toNat) 0 tg
def blkd (a:QD)(tg:LI):LI:=((oJ a.st.toNat).filter λi:Nat=>decide ((i:Int)∉crq a tg)).map λi:Nat=>(i:Int)
structure RkI (n:Nat)(l:LI)(f:Nat->Int):Prop where
 s:∀i:Nat,i<n->(f i<0↔(i:Int)∉l)
 lo:∀i:Nat,i<n->-1<=f i
 hi:∀i:Nat,i<n->f i<=(l.length:Int)
theorem Qfq {tg:LI}(h:Zp [] ↑w va vm ve a)(hok:Q8 a)(hn:a.st=(n:Int))(hT:Qu [] ↑w vt tg)(hO:∀x∈tg,0<=x/\x<(n:Int))(mc:tg.length<=1000000):
  QS sV 55 [.agg #[va,sS a.st,vm,ve],vt] w λr w'=>sW w w'/\∃b f,r=sL b n n/\↑w<=b/\QK ↑w' b 3 (cstv n f)/\∀i:Nat,i<n->(f i<0↔(i:Int)∉crq a tg):=by
 have mf:=hok.st1;have gx:=hok.ed_le;have gy:=hok.ed;refine Zg (crq a tg) λR hR=>?_;have gz:bq a.ed (tg.length+n) 0 tg=R:=by rw[<-hR];unfold crq;rw[hn];rfl
 rw[hR];refine Zl func55 ?_;refine Qc<|Zc [va,sS a.st,vm,ve] λb2 w1 hP mg hQ=>Qb<|Qc<|Q3 hQ O O<|Qw<|(QlF (h.I hP) hok hn).S ?_;rintro vr w2 ⟨hS,rv,g0,g2⟩;refine Qb ?_;have h6:=hP.D hS;have hU:(sS a.st)=sS (n:Int):=OT _ hn;refine Qc<|Qs O (hQ.I hS) O O<|Qo<|YS (n:=n) hU hU oa λbO w3 hV hW g3=>Qb ?_;have hX:QK ↑w3 bO 3 (cstv n λ_=>0):=by
  have e:(oG n (sS 0).cells.toList).flatten=cstv n λ_=>0:=by
   apply LX
   ·simp[Value.cells]
   intro i h1 S;simp[Value.cells]
  rw[<-e];exact g3
 have g4:=h6.D hV;have mh:=h6.size;have g5:Zs [] ↑w3 (sL bO n n) n 1 (cstv n λ_=>0):=hX.arr od (n:=n) (cap:=n) (sz:=1) od oa (Lp _);refine Qe<|Ql<|QG g5 O<|Qa<|xe<|QX (α:=Nat×(Nat->Int)) [(7,7),(21,27)] (λz=>[(21,sS z.1)]) (λz w'=>z.1<=n/\O3 [bO] w3 w'/\QK ↑w' bO 3 (cstv n z.2)/\∀i,i<z.1->z.2 i=-1) (λz=>n - z.1) (0,λ_=>0) La ⟨Lo _,O3.Y _ _,hX,λi hi=>OU hi (NJ _)⟩ ?_;rintro⟨k,f4⟩ g w4 ⟨hk,h7,hz,hu⟩;simp only[]at hk hz hu;refine Zi rfl O (λh8=>?_) (λh8=>?_)
 ·refine Qt ?_;have g6:k=n:=by have T:¬(k:Int)<(n:Int):=h8;omega
  subst g6;have g7:sW w w4:=g4.Q h7 oa;have hY:sW w2 w4:=hV.Q h7 hW;have g8:=hY.size;refine Ql<|Qw<|(ZT (hT.I g7)).S ?_;rintro v5 w5 ⟨hZ,h9⟩;refine Qb ?_;have g9:Qu [] ↑w5 v5 tg:=Qh.ints h9 oa od;have ga:bO∉ob v5:=λY=>oq (Qi h9 _ Y).1 hz.lt
  have ka:=hY.D hZ;refine Qe<|Ql<|QG g9 O<|Qa<|xe<|QX (α:=Nat×(Nat->Int)) [(10,10),(32,39)] (λz=>[(32,sS z.1)]) (λz w'=>z.1<=tg.length/\O3 [bO] w5 w'/\QK ↑w' bO 3 (cstv k z.2)/\RkI k (tg.take z.1) z.2) (λz=>tg.length - z.1) (0,f4) La
   ⟨Lo _,O3.Y _ _,hz.I hZ,⟨λi hi=>by show f4 i<0↔_;rw[hu i hi];simp,λi hi=>by show -1<=f4 i;rw[hu i hi];omega,λi hi=>by show f4 i<=_;rw[hu i hi];omega⟩⟩ ?_
  rintro⟨j,f6⟩ g w6 ⟨hj,hA,hB,hc⟩;simp only[]at hj hB hc;have gb:=Qg h9 hA λb hb Y=>ga (Lb.1 Y ▸ hb);have kb:Qu [] ↑w6 v5 tg:=Qh.ints gb oa od;refine Zi O O (λhC=>?_) (λhC=>?_)
  ·refine Qt ?_;have kc:tg.length<=j:=by have T:¬(j:Int)<(tg.length:Int):=hC;omega
   rw[Lq kc]at hc;have ke:sW w2 w6:=ka.Q hA hW;refine Qe<|Qc<|Qb<|QX (α:=Nat×O0×LI×(Nat->Int)) [(8,8),(11,11),(13,13),(40,78)] (λz=>[(8,z.2.1),(11,sS z.1)]) (λz w'=>z.1<=z.2.2.1.length/\sW w2 w'/\Qh 3 ↑w2 w' z.2.1 z.2.2.1/\bO∉ob z.2.1/\QK ↑w' bO 3 (cstv k z.2.2.2)/\RkI k z.2.2.1 z.2.2.2/\yq k tg z.2.2.1/\bq a.ed (tg.length+k - z.1) z.1 z.2.2.1=R) (λz=>tg.length+k+1 - z.1) (0,v5,tg,f6) ov
    ⟨Lo _,ke,Q9 gb g8,ga,hB,hc,yq.zero _ _,gz⟩ ?_
   rintro⟨i,vq,l,f7⟩ g w7 ⟨hi,h0,hD,gc,hF,hG,h4,U⟩;simp only[]at hi hD gc hF hG h4 U;have mj:=h4.len;have kf:=h4.all hO;have ge:Qu [] ↑w7 vq l:=Qh.ints hD oa od;refine Qe<|Ql<|Qa<|QG ge O<|ZP O O<|xe<|Zn O (λhH=>?_) (λhH=>?_)
   ·refine Qt ?_;have kg:¬i<l.length:=by have T:¬(i:Int)<(l.length:Int):=hH;omega
    rw[Qmi kg]at U;refine Ql<|Qb<|Qk ⟨[_],La,h6.D h0,bO,f7,O,oa,hF,λi hi=>by rw[<-U];exact hG.s i hi⟩
   have G:i<l.length:=by have T:(i:Int)<(l.length:Int):=hH;omega
   have kh:=kf _ (Xj G);have ki:tg.length+k - i=(tg.length+k - (i+1))+1:=oa
   rw[ki,bq,OS G]at U;have hI:=Zu G;refine Zg (O4 l i) λs hs=>?_;rw[hs]at kh U hI;have gg:s=(s.toNat:Int):=oa
   have hf:s.toNat<k:=oa
   have hE:=g2 s.toNat hf;have kj:(pre a.ed s.toNat).length<=131072:=by unfold pre;rw[Lm];exact Lx (LJ _ _) gx
   have gh:∀x∈pre a.ed s.toNat,0<=x/\x<(k:Int):=λx hx=>by
    obtain⟨e,he,rfl⟩:=Ly.1 hx;have:=gy e (LW.1 he).1;omega
   have gi:(sS s)=sS (s.toNat:Int):=OT _ gg;have kk:s.toNat<(oJ k).length:=by rw[L5];exact hf
   refine Zg (pre a.ed s.toNat) λps kn=>?_;rw[kn]at hE kj gh U;refine Qf<|Qe<|Qn<|Ql<|Qa<|Qa<|xii (i:=i) ge O O G λmo gj=>?_;rw[hI]at gj;refine x (Qq gj O)<|O6 (g:=λj:Nat=>[rv j]) (i:=s.toNat) (λ_=>O) (g0.I h0) O (show Go.Lg.ev _ _=_ from gi) kk λmq gk=>?_;rw[Mt]at gk;refine x (Qq (u:=rv s.toNat) gk O)<|QG (hE.I h0) O<|Qa<|xe<|QX (α:=Nat×O0×LI×(Nat->Int)) [(8,8),(13,13),(54,78)] (λz=>[(8,z.2.1),(54,sS z.1)]) (λz w'=>z.1<=ps.length/\sW w2 w'/\Qh 3 ↑w2 w' z.2.1 z.2.2.1/\bO∉ob z.2.1/\QK ↑w' bO 3 (cstv k z.2.2.2)/\RkI k z.2.2.1 z.2.2.2/\yq k tg z.2.2.1/\z.2.2.1[i]?=some s/\(ps.drop z.1).foldl yx z.2.2.1=ps.foldl yx l) (λz=>ps.length - z.1) (0,vq,l,f7) ov
    ⟨Lo _,h0,hD,gc,hF,hG,h4,by rw[LE G,hI],rfl⟩ ?_
   rintro⟨m,hJ,lm,f8⟩ g w8 ⟨Y,hg,hh,ho,ha,I,hv,hw,J⟩;simp only[]at Y hh ho ha I hv hw J;have ms:=hv.len;have hp:i<lm.length:=(Mf.1 hw).1;have gl:lm[i]'hp=s:=by have:=hw;rw[LE hp]at this;exact Option.some.inj this
   have ko:Qu [] ↑w8 hJ lm:=Qh.ints hh oa od;refine Zi O O (λhK=>?_) (λhK=>?_)
   ·refine Qt ?_;have kq:ps.length<=m:=by have T:¬(m:Int)<(ps.length:Int):=hK;omega
    rw[Lr kq]at J;have kr:lm=ps.foldl yx l:=J;rw[<-kr]at U;refine Qr<|Qa<|QB O O<|Qb<|⟨(i+1,hJ,lm,f8),by show tg.length+k+1 - (i+1)<tg.length+k+1 - i;omega,ov,hp,hg,hh,ho,ha,I,hv,U⟩
   have hr:m<ps.length:=by have T:(m:Int)<(ps.length:Int):=hK;omega
   have gm:=gh _ (Lk hr);rw[QY hr,LO]at J;refine Zg (ps[m]'hr) λq hq=>?_;rw[hq]at gm J;obtain⟨t,ht⟩:∃t:Nat,q=(t:Int):=⟨q.toNat,oa⟩;have V:t<k:=oa
   have h5:(sS q)=sS (t:Int):=OT _ ht;refine Qf<|Qe<|Qn<|Qc<|xii (i:=m) (hE.I hg) O O hr λmt gn=>?_;rw[hq]at gn;refine x (Qq gn O)<|Qb<|Ql<|Qa<|x (QE (i:=t) O (show Go.Lg.ev _ _=_ from h5) V)<|ZB ha O (X7 V)<|x (Ys (a:=f8 t) (b:=0) O O)<|xe<|Zn O (λhL=>?_) (λhL=>?_)
   ·have kt:q∈lm:=by rw[ht];exact Classical.byContradiction λhn=>hL ((I.s t V).2 hn)
    have hM:yx lm q=lm:=by unfold yx;rw[OR (not_not_intro kt)]
    rw[hM]at J;refine Qf<|Qr<|QB O O<|Qa<|xe ?_;exact⟨(m+1,hJ,lm,f8),by show ps.length - (m+1)<ps.length - m;omega,ov,hr,hg,hh,ho,ha,I,hv,hw,J⟩
   have go:q∉lm:=by rw[ht];exact(I.s t V).1 hL
   have hM:yx lm q=lm++[q]:=by unfold yx;rw[OS go]
   rw[hM]at J;have mu:=I.hi s.toNat hf;have mv:¬f8 s.toNat<0:=λh=>(I.s s.toNat hf).1 h (by rw[<-gg,<-gl];exact Lk hp);have ku:=Qi hh;have mw:=hg.size;refine Ql<|Qa<|Qa<|Qa<|Qa<|xii (i:=i) ko O O hp λmy gq=>?_;rw[gl]at gq;refine x (Qq gq O)<|x (QE (i:=s.toNat) O (show Go.Lg.ev _ _=_ from gi) hf)<|ZB ha O (X7 hf)<|QB O O<|x (QE (i:=t) O (show Go.Lg.ev _ _=_ from h5) V) <|
    Qo<|Qv (j:=0+t*1) (u:=sS (f8 s.toNat+1)) ha O O (by simp;omega) O λw9 hN gr=>xe ?_
   rw[Vc]at gr;have kv:=Qg hh hN λb hb Y=>ho (Lb.1 Y ▸ hb);have mz:=hN.size;refine Qr<|Qa<|Qa<|Qo<|Q2 [[sS q]] λm0 m1 hy m2 kw=>Qo<|QZ (m:=1) (news:=[sS q]) (L:=[]) (Qm kv hy) O O O (kw.at od) om oa (oq hy.size hg.size) λkx m3 kz gs k0=>Qb<|Qr<|QB O O<|Qa<|xe ?_;have m4:=hy.size;refine⟨(m+1,kx,lm++[q],Xf f8 t (f8 s.toNat+1)),by show ps.length - (m+1)<ps.length - m;omega,ov,hr,((hg.Q hN oa).D hy).O gs λb hb=>.inr (oo (ku b hb).1),Qh.snoc kz,λk4=>?_,(gr.I hy).J gs ho,⟨λE hi'=>?_,λE hi'=>?_,λE hi'=>?_⟩,hv.add gm go,?_,J⟩
   ·rcases k0 _ k4 with h1|h1
    ·exact ho h1
    have:=ha.lt;omega
   ·simp only[];rw[Le,Lb];by_cases e1:E=t
    ·subst e1;rw[Zt];exact⟨λh=>OU h oa,λh=>OU (Or.inr ht.symm) h⟩
    rw[ZM _ _ e1,I.s E hi'];exact⟨λh S=>S.elim h λh3=>e1 oa,λh S=>h (.inl S)⟩
   ·simp only[];by_cases e1:E=t
    ·subst e1;rw[Zt];omega
    rw[ZM _ _ e1];exact I.lo E hi'
   ·simp only[];rw[Lc,Lu];by_cases e1:E=t
    ·subst e1;rw[Zt];omega
    rw[ZM _ _ e1];have:=I.hi E hi';omega
   simp only[];rw[LY hp];exact hw
  have G:j<tg.length:=by have T:(j:Int)<(tg.length:Int):=hC;omega
  have V:tg.take (j+1)=tg.take j++[tg[j]'G]:=Lh G;have k5:=hO _ (Lk G);refine Qf<|Qe<|Qn<|Qc<|xii (i:=j) kb O O G λm5 gt=>?_;refine Zg (tg[j]'G) λq hq=>?_;rw[hq]at gt V k5;obtain⟨t,ht⟩:∃t:Nat,q=(t:Int):=⟨q.toNat,oa⟩;have k6:t<k:=oa
  have h5:(sS q)=sS (t:Int):=OT _ ht;refine x (Qq gt O)<|Qb<|Qr<|Qa<|Qa<|x (QE (i:=t) O (show Go.Lg.ev _ _=_ from h5) k6)<|Qo<|Qv (j:=0+t*1) (u:=sS 0) hB O O (by simp;omega) O λm6 k9 gu=>xe ?_;rw[Vc]at gu;refine Qr<|QB O O<|Qa<|xe<|⟨(j+1,Xf f6 t 0),by show tg.length - (j+1)<tg.length - j;omega,La,G,hA.V k9,gu,?_⟩;simp only[];rw[V];refine⟨λE hi'=>?_,λE hi'=>?_,λE hi'=>?_⟩
  ·rw[Le,Lb];by_cases e1:E=t
   ·subst e1;rw[Zt];exact⟨λh=>OU h oa,λh=>OU (Or.inr ht.symm) h⟩
   rw[ZM _ _ e1,hc.s E hi'];exact⟨λh S=>S.elim h λh3=>e1 oa,λh S=>h (.inl S)⟩
  ·by_cases e1:E=t
   ·subst e1;rw[Zt];omega
   rw[ZM _ _ e1];exact hc.lo E hi'
  rw[Lc,Lu];by_cases e1:E=t
  ·subst e1;rw[Zt];omega
  rw[ZM _ _ e1];have:=hc.hi E hi';omega
 have G:k<n:=by have T:(k:Int)<(n:Int):=h8;omega
 refine Qf<|Qe<|Qn<|Ql<|Qb<|Qr<|Qa<|Qa<|x (QE (i:=k) O O G)<|Qo<|Qv (j:=0+k*1) (u:=sS (-1)) hz O O (by simp;omega) O λm7 ma gv=>xe ?_;rw[Vc]at gv;refine Qr<|QB O O<|Qa<|xe<|⟨(k+1,Xf f4 k (-1)),by show n - (k+1)<n - k;omega,La,G,h7.V ma,gv,λi hi=>?_⟩;simp only[];by_cases e1:i=k
 ·subst e1;rw[Zt]
 rw[ZM _ _ e1];exact hu i (by have T:i<k+1:=hi;omega)
theorem Qgj (f:Nat->Int)(k:Nat):(((oJ (k+1)).filter λi=>decide (f i<0)).map λi:Nat=>(i:Int))=((oJ k).filter λi=>decide (f i<0)).map (λi:Nat=>(i:Int))++if f k<0 then[(k:Int)]else[]:=by
 rw[Nb,LR,Lv];congr 1;by_cases e:f k<0 <;> simp[e]
theorem QdL {b:Nat}{f:Nat->Int}(V:QK ↑w b 3 (cstv n f))(hn:n<=4096):
  QS sV 54 [sL b n n] w λr w'=>sW w w'/\Qh 3 ↑w w' r (((oJ n).filter λi=>decide (f i<0)).map λi:Nat=>(i:Int)):=by
 have hA:Zs [] ↑w (sL b n n) n 1 (cstv n f):=V.arr od (n:=n) (cap:=n) (sz:=1) od oa (Lp _);refine Zl func54 ?_;refine Qc<|Qb<|Qc<|Qb<|Qe<|Ql<|QG hA O<|Qa<|xe<|QX (α:=Nat×O0) [(3,5),(8,19)] (λz=>[(3,z.2),(8,sS z.1)]) (λz w'=>z.1<=n/\sW w w'/\Qh 3 ↑w w' z.2 (((oJ z.1).filter λi=>decide (f i<0)).map λi:Nat=>(i:Int))) (λz=>n - z.1) (0,ZS) ov ⟨Lo _,O3.Y _ _,QL _ _ _ _⟩ ?_;rintro⟨k,vo⟩ g w1 ⟨Y,G,E⟩;simp only[]at Y E;refine Zi rfl O (λS=>?_) (λS=>?_)
 ·refine Qt ?_;have ha:k=n:=by have hc:¬(k:Int)<(n:Int):=S;omega
  rw[ha]at E;refine Ql<|Qb<|Qk ⟨[_],La,G,E⟩
 have I:k<n:=by have hc:(k:Int)<(n:Int):=S;omega
 have J:=Qgj f k;have hh:(((oJ k).filter λi=>decide (f i<0)).map λi:Nat=>(i:Int)).length<=4096:=by
  rw[Lm];exact Lx (LJ _ _) (by rw[L5];omega)
 refine Qf<|Qe<|Qn<|Ql<|x (QE (i:=k) O O I)<|ZB (V.I G) O (X7 I)<|x Qd<|Qb<|Ql<|x (Ys (a:=f k) (b:=0) O O)<|xe<|Zn rfl (λT=>?_) (λT=>?_)
 ·rw[OR T,LF]at J;refine Qf<|Qr<|QB O O<|Qa<|xe ?_;exact⟨(k+1,vo),by show n - (k+1)<n - k;omega,ov,I,G,by simp only[];rw[J];exact E⟩
 rw[OS T]at J;refine Qr<|Qa<|Qa<|Qo<|Q2 [[sS k]] λhj w2 U hm he=>Qo<|QZ (m:=1) (news:=[sS k]) (L:=[]) (Qm E U) O O O (he.at od) om oa (oq G.size U.size) λv3 w3 hf hg ho=>Qb<|Qr<|QB O O<|Qa<|xe ?_;exact⟨(k+1,v3),by show n - (k+1)<n - k;omega,ov,I,(G.D U).O hg λb hb=>.inr (Qi E b hb).1,by simp only[];rw[J];exact Qh.snoc hf⟩
def qo (n:Nat):LI:=(oJ n).map λi:Nat=>(i:Int)
theorem QoH {st:Int}(hn:st=(n:Int))(hl:n<=4096):
  QS sV 128 [.agg #[va,sS st,vm,ve]] w λr w'=>sW w w'/\Qh 3 ↑w w' r (qo n):=by
 refine Zl func128 ?_;refine Qc<|Zc [va,sS st,vm,ve] λb1 w1 S hp hf=>Qb ?_;have T:(sS st)=sS (n:Int):=OT _ hn;refine Qc<|Qs O hf O O<|Qo<|YS (n:=n) T T oa λbO G hg hq hh=>Qb ?_;have U:QK ↑G bO 3 (cstv n λ_=>0):=by
  have e:(oG n (sS 0).cells.toList).flatten=cstv n λ_=>0:=by
   apply LX
   ·simp[Value.cells]
   intro i h1 h2;simp[Value.cells]
  rw[<-e];exact hh
 have hr:=S.size;have hj:Zs [] ↑G (sL bO n n) n 1 (cstv n λ_=>0):=U.arr od (n:=n) (cap:=n) (sz:=1) od oa (Lp _);refine Qe<|Ql<|QG hj O<|Qa<|xe<|QX (α:=Nat×(Nat->Int)) [(4,4),(10,17)] (λz=>[(10,sS z.1)]) (λz w'=>z.1<=n/\O3 [bO] G w'/\QK ↑w' bO 3 (cstv n z.2)/\∀i,i<z.1->z.2 i=(i:Int)) (λz=>n - z.1) (0,λ_=>0) La ⟨Lo _,O3.Y _ _,U,λi hi=>OU hi (NJ _)⟩ ?_;rintro⟨k,f3⟩ g w3 ⟨hk,V,E,I⟩;simp only[]at hk E I;refine Zi rfl O (λJ=>?_) (λJ=>?_)
 ·refine Qt ?_;have hm:k=n:=by have Y:¬(k:Int)<(n:Int):=J;omega
  subst hm;refine Ql<|Qb<|Qk ⟨[_],La,(S.D hg).Q V oa,?_⟩;have e:cstv k f3=(qo k).map (Value.int .i64):=by
   unfold cstv qo;rw[Mu];exact List.map_congr_left λi hi=>OT _ (I i (MD.1 hi))
  rw[e]at E;have ha:(qo k).length=k:=by simp[qo]
  have:=E.own (n:=k) (sz:=1) (by rw[Lm,ha,OO]) oa (base:=↑w) oa;show w3.ownsRow _ _ 1 _ (qo k).length _;rw[ha];exact this
 have hc:k<n:=by have Y:(k:Int)<(n:Int):=J;omega
 refine Qf<|Qe<|Qn<|Ql<|Qb<|Qr<|Qa<|Qa<|Qa<|x (QE (i:=k) O O hc)<|Qo<|Qv (j:=0+k*1) (u:=sS (k:Int)) E O O (by simp;omega) O λw4 ho he=>xe ?_;rw[Vc]at he;refine Qr<|QB O O<|Qa<|xe<|⟨(k+1,Xf f3 k (k:Int)),by show n - (k+1)<n - k;omega,La,hc,V.V ho,he,λi hi=>?_⟩;simp only[];by_cases e1:i=k
 ·subst e1;rw[Zt]
 rw[ZM _ _ e1];exact I i (by have Y:i<k+1:=hi;omega)
section
variable {P:LI->Prop}
structure SyB (P:LI->Prop)(s:Sy):Prop where
 nd:s.tup.Nodup
 p:∀t∈s.tup,P t
theorem Qm8 (hB:B<=4096)(T:∀l:List (LI),l.Nodup->(∀t∈l,P t)->l.length<=B){t:LI}{v:Int}{z:Sy}(E:SyB P z)(U:∀u,Yk v aa t=some u->P u):
  ∃z',syE aa i t z v=some z'/\SyB P z':=by
 unfold syE;cases V:Yk v aa t with
 | none=>exact⟨z,O,E⟩
 | some u =>
  simp only[];by_cases I:u∈z.tup
  ·rw[OS I];exact⟨_,O,E.nd,E.p⟩
  have J:(z.tup++[u]).Nodup:=Kg E.nd I;have S:∀t∈z.tup++[u],P t:=λt G=>by
   rcases Le.1 G with G|G
   ·exact E.p t G
   rw[Lb.1 G];exact U u V
  have Y:=T _ J S;rw[Lc,Lu]at Y;rw[OR I,OR oa];exact⟨_,O,J,S⟩
theorem Qed (G:B<=4096)(I:∀l:List (LI),l.Nodup->(∀t∈l,P t)->l.length<=B){i:Nat}{t:LI}:∀(vs:LI) (z:Sy),SyB P z->(∀v∈vs,∀u,Yk v aa t=some u->P u)->∃z',Uv aa i t vs z=some z'/\SyB P z'
 | [],z,E,_=>⟨z,O,E⟩
 | v::vs,z,E,J=>by
  obtain⟨S,T,U⟩:=Qm8 (i:=i) G I E (J v Ll);obtain⟨V,Y,h4⟩:=Qed G I vs S U (λw hw=>J w (Lj _ hw));exact⟨V,by rw[Uv,T];exact Y,h4⟩
theorem QgY (G:B<=4096)(I:∀l:List (LI),l.Nodup->(∀t∈l,P t)->l.length<=B)(J:∀t,P t->∀v∈evs aa,∀u,Yk v aa t=some u->P u):∀(f i:Nat) (z:Sy),SyB P z->∃z',syL aa f i z=some z'
 | 0,_,z,_=>⟨z,O⟩
 | f+1,i,z,E=>by
  rw[syL];split
  ·rename_i hi;have T:P (UZ z i):=E.p _ (by unfold UZ;simp[oO,hi]);have S:(ZZ aa i (UZ z i) z).tup=z.tup:=by unfold ZZ;split <;> rfl
   obtain⟨U,V,Y⟩:=Qed (i:=i) G I (evs aa) (ZZ aa i (UZ z i) z) ⟨by rw[S];exact E.nd,by rw[S];exact E.p⟩ (J _ T);obtain⟨s2,h3⟩:=QgY G I J f (i+1) U Y;exact⟨s2,by rw[V];exact h3⟩
  exact⟨z,O⟩
theorem Qkx (G:B<=4096)(I:∀l:List (LI),l.Nodup->(∀t∈l,P t)->l.length<=B)(J:(∀a∈aa,a.st≠0)->P (oG aa.length 0))(S:∀t,P t->∀v∈evs aa,∀u,Yk v aa t=some u->P u):
  ∃z,xj aa=some z:=by
 unfold xj;split
 ·exact⟨_,rfl⟩
 rename_i T;have U:P (oG aa.length 0):=J (λa V e=>T ⟨a,V,e⟩);obtain⟨z,Y⟩:=QgY G I S 4096 0 (qU aa) ⟨by simp[qU],λt E=>by simp[qU]at E;subst E;exact U⟩;exact⟨_,by rw[Y];rfl⟩
end
def Vg (k:Nat):LI->Int
 | []=>0
 | x::t=>x+(k:Int)*Vg k t
theorem QeW {k:Nat}:∀{t:LI},(∀x∈t,0<=x/\x<(k:Int))->0<=Vg k t/\Vg k t<((k ^ t.length:Nat):Int)
 | [],_=>by simp[Vg]
 | x::t,h=>by
  have hx:=h x Ll;obtain⟨E,S⟩:=QeW (t:=t) (λy G=>h y (Lj _ G));have T:(0:Int)<(k:Int):=oa
  rw[Vg,LL,OM];have I:(k:Int)*Vg k t<=(k:Int)*(((k ^ t.length:Nat):Int) - 1):=Int.mul_le_mul_of_nonneg_left oa oa;have U:0<=(k:Int)*Vg k t:=Int.mul_nonneg oa E;rw[Int.mul_sub,Int.mul_one]at I;have J:((k ^ t.length*k:Nat):Int)=(k:Int)*((k ^ t.length:Nat):Int):=by rw[Int.natCast_mul,Int.mul_comm]
  rw[J];exact⟨oa,oa⟩
theorem Qb2 {k:Nat}:∀{t u:LI},t.length=u.length->(∀x∈t,0<=x/\x<(k:Int))->(∀x∈u,0<=x/\x<(k:Int))->Vg k t=Vg k u->t=u
 | [],[],_,_,_,_=>rfl
 | [],_::_,h,_,_,_=>by cases h
 | _::_,[],h,_,_,_=>by cases h
 | x::t,y::u,hl,G,I,J=>by
  have hx:=G x Ll;have S:=I y Ll;rw[Vg,Vg]at J;have T:(x+(k:Int)*Vg k t) % (k:Int)=x:=by rw[Int.add_mul_emod_self_left];exact Int.emod_eq_of_lt hx.1 hx.2
  have m2:(y+(k:Int)*Vg k u) % (k:Int)=y:=by rw[Int.add_mul_emod_self_left];exact Int.emod_eq_of_lt S.1 S.2
  rw[J]at T;have U:x=y:=oa
  subst U;have V:(k:Int)*Vg k t=(k:Int)*Vg k u:=oa
  have Y:(k:Int)≠0:=oa
  rw[Qb2 (ou hl) (λz E=>G z (Lj _ E)) (λz E=>I z (Lj _ E)) (Int.eq_of_mul_eq_mul_left Y V)]
theorem Qa9 {k:Nat}(U:∀a∈aa,Q8 a)(hk:∀a∈aa,a.st<=(k:Int))(hB:k ^ aa.length<=4096):∃z,xj aa=some z:=by
 have S:∀t,Vt aa t->∀x∈t,0<=x/\x<(k:Int):=λt E x hx=>by
  obtain⟨i,hi,e⟩:=LP hx;have V:i<aa.length:=by rw[<-E.1];exact hi
  have I:=E.2 i hi V;have J:=hk _ (Lk V);rw[e]at I;omega
 refine Qkx (P:=Vt aa) hB (λl hn G=>?_) (λhz=>?_) (λt E v _ u T=>XH U E T)
 ·have I:(l.map (Vg k)).Nodup:=by
   unfold List.Nodup;rw[L8];refine List.Pairwise.imp_of_mem (λ{a b} Y hb hc e=>hc ?_) hn;exact Qb2 (by rw[(G a Y).1,(G b hb).1]) (S a (G a Y)) (S b (G b hb)) e
  have J:=xG (k ^ aa.length) _ I (λu T=>by
   obtain⟨t,E,rfl⟩:=Ly.1 T;have h3:=QeW (S t (G t E));rw[(G t E).1]at h3;exact h3)
  rw[Lm]at J;exact J
 refine⟨od,λi h h'=>?_⟩;have I:=hz _ (Lk h');have J:=(U _ (Lk h')).st0;simp only[List.getElem_replicate];omega
def bpt (a:QD)(tg:LI):LI×Bool:=if a.st=0 then([],false) else ptR a a.st.toNat 0 tg (qo a.st.toNat)
theorem Qmp {m:Int}(E:(n:Int)<=m):JO m none (qo n)=0:=by
 refine QaM (λx hx=>?_) ?_
 ·obtain⟨i,hi,rfl⟩:=Ly.1 hx;have:=MD.1 hi;omega
 unfold qo Yw;rw[L8];exact List.pairwise_lt_range.imp λh=>oa
theorem QjL {tg:LI}(h:Zp [] ↑w va vm ve a)(hok:Q8 a)(hT:Qu [] ↑w vt tg)(hg:JO a.st none tg=0):
  QS sV 53 [.agg #[va,sS a.st,vm,ve],sS 0,vt] w λr w'=>sW w w'/\∃v,r=.tuple #[v,.bool (bpt a tg).2]/\Yn ↑w ↑w' v (bpt a tg).1:=by
 have hp:=hok.st0;have hq:=hok.st1;obtain⟨n,hn⟩:∃n:Nat,a.st=n:=⟨a.st.toNat,oa⟩;have hh:a.st.toNat=n:=oa
 have E:bpt a tg=if a.st=0 then([],false) else ptR a n 0 tg (qo n):=by unfold bpt;rw[hh]
 refine Zg (bpt a tg) λR hR=>?_;rw[hR]at E ⊢;refine Zl func53 ?_;refine Qc<|Zc [va,sS a.st,vm,ve] λb3 G ha hr J=>x Qd<|Qb<|Qe<|Ql<|Qs O J O O<|x (Yh (a:=0) (b:=a.st) O O)<|xe<|Zh rfl (λS=>?_) (λS=>?_)
 ·have T:a.st=0:=by have hj:(0:Int)≥a.st:=S;omega
  rw[OS T]at E;rw[E];refine Qc<|x Qd<|Qb<|Qk ⟨[ZS,.bool false],ov,ha,ZS,O,Yn.nil _ _⟩
 have T:¬a.st=0:=by have hj:¬(0:Int)≥a.st:=S;omega
 rw[OR T]at E;have he:0<n:=oa
 refine Qf<|Qe<|ZH [] (Y0 0 13 [4,5]) ?_;have hk:sW G { G with drawn:=G.drawn+1 }:=O3.X _ _
 refine pq (λ_ U=>Zb (J.I U) O O)<|p Qx<|p Qx<|pq (λ_ U=>Zb (J.I U) O O)<|pk<|xg<|(QoH (w:={ G with drawn:=G.drawn+1 }) hn oa).S ?_
 rintro v2 w2 ⟨hm,ho⟩;have V:=hk.D hm;have I:=ha.D V;have hs:(qo n).length<=4096:=by simp[qo];omega
 refine⟨V,?_⟩;refine pk<|xg<|(Qmv (n:=n) (from0:=0) (h.I I) ((Zy a).2 hok) hn he (hT.I I) (Qh.ints ho oa od) hg (Qmp oa) (Ly.2 ⟨0,MD.2 he,rfl⟩)).S ?_;rintro _ w3 ⟨hf,v,rfl,Y⟩;rw[<-E]at Y ⊢;refine⟨V.D hf,?_⟩;refine p Qx<|p (λ_=>QV O O)<|p (λ_=>QV O O)<|p (λ_=>QV O O)<|p ZA<|p ZA<|p ZA<|pe ?_;refine Ql<|Qa<|x Qd<|Qb<|Qk ⟨[v,_],ov,I.D hf,v,O,?_⟩;rw[E]at Y ⊢;exact λL hL=>Qh.ints Y (Lx (QkN a n tg _) oa) λb hb=>LQ (hL b hb) I.size
def nbl (a:QD):LI×Bool:=((bpt (JS [a]) (blkd (JS [a]) (JS [a]).mr)).1,!(bpt (JS [a]) (blkd (JS [a]) (JS [a]).mr)).2)
theorem Qmj (a:QD)(h:0<=a.st)(tg:LI):JO a.st none (blkd a tg)=0:=by
 refine QaM (λx hx=>?_) ?_
 ·obtain⟨i,hi,rfl⟩:=Ly.1 hx;have:=MD.1 (LW.1 hi).1;omega
 unfold blkd Yw;rw[L8];exact(List.pairwise_lt_range.filter _).imp λh=>oa
theorem QhK (hok:Q8 a):∃Q,xj [a]=some (JS [a],Q)/\Q8 (JS [a]):=by
 have G:=hok.st0;obtain⟨z,E⟩:=Qa9 (aa:=[a]) (k:=a.st.toNat) (λb hb=>by rw[Lb.1 hb];exact hok) (λb hb=>by rw[Lb.1 hb];omega) (by have:=hok.st1;simp only[oL,Nat.pow_one];omega);have e:JS [a]=z.1:=by unfold JS;rw[E]
 rw[e];exact⟨z.2,E,(YK (λb hb=>by rw[Lb.1 hb];exact hok) (A:=z.1) (Q:=z.2) E).1.okay (λb hb=>by rw[Lb.1 hb];exact hok)⟩
theorem KW {q:AV}(h:XN [] ↑w vl [q])(hok:Q8 q.a)(h9:q.a.st<=100):
  QS sV 16 [vl] w λr w'=>sW w w'/\∃v,r=.tuple #[v,.bool (nbl q.a).2,sS 0]/\Yn ↑w ↑w' v (nbl q.a).1:=by
 obtain⟨Q,hz,E⟩:=QhK hok;have Y:=E.st0;have hk:=E.st1;have ho:(JS [q.a]).mr.length<=4096:=by
  have:=xG (JS [q.a]).st.toNat _ (E.mri.imp λhB e=>oa) λx hx=>oo (E.mr x hx)
  omega
 refine Zl func16 ?_;refine Qc<|x Qd<|x Qd<|Qb<|Ql<|Qw<|(yg h λp hp=>by rw[Lb.1 hp];exact h9).S ?_;rintro _ w1 ⟨hq,va,vt,c,rfl,hR⟩;have G:c=0/\Y5 ↑w ↑w1 va (JS [q.a]):=by
  unfold Yq at hR;have hck:Vd ([q].map (·.a))=0:=by
   show Vd [q.a]=0;unfold Vd ckL;rw[OR od,OR (by rw[(Zy _).2 hok];simp)];rfl
  rw[OR (by rw[hck];simp)]at hR;have hm:[q].map (·.a)=[q.a]:=rfl;rw[hm,hz]at hR;exact⟨hR.1,hR.2.1⟩
 obtain⟨rfl,hr,hs,ht,rfl,hu⟩:=G;have I:=hu [] od;refine Zg (JS [q.a]) λS hS=>?_;have hw:nbl q.a=((bpt S (blkd S S.mr)).1,!(bpt S (blkd S S.mr)).2):=by unfold nbl;rw[hS]
 rw[hS]at I E Y hk ho;obtain⟨n,hn⟩:∃n:Nat,S.st=n:=⟨S.st.toNat,oa⟩;have hy:S.st.toNat=n:=oa
 have h0:∀x∈S.mr,0<=x/\x<(n:Int):=λx hx=>oo (E.mr x hx)
 rw[hw,hS];refine Qa<|QQ O O<|QQ O O<|QQ O O<|QT Js λb5 w2 h1 h2 h3=>Q5 [hr,sS S.st,hs,ht] h3 ⟨I.al.one,O,I.mr.one,I.ed.one,Z⟩ λJ h4 U=>x Qd<|Qb ?_;have V:sW w1 J:=h1.Q h4 h2;have ha:=hq.D V;refine Qe<|Ql<|ZL O O<|xe<|Zz rfl<|Qf<|Qe<|ZH [] (Y0 0 12 [4,5,6]) ?_;have he:sW J { J with drawn:=J.drawn+1 }:=O3.X _ _
 have hf:=V.D he;refine pq (λ_ G=>Zb (U.I G) O O)<|pq (λ_ G=>Zb (U.I G) O O)<|p (QH O)<|pq (λ_ G=>Qj (U.I G) O O)<|pk<|xg<|(Qfq (w:={ J with drawn:=J.drawn+1 }) (I.I hf) E hn (I.mr.I hf) h0 oa).S ?_
 rintro _ w4 ⟨h5,b,f,rfl,hb,h6,h7⟩;have hg:=he.D h5;refine⟨hg,?_⟩;refine pk<|xg<|(QdL h6 oa).S ?_;rintro v5 w5 ⟨h8,hh⟩;have hA:(((oJ n).filter λi=>decide (f i<0)).map λi:Nat=>(i:Int))=blkd S S.mr:=by
  unfold blkd;rw[hy];congr 1;exact List.filter_congr λi hi=>bD (h7 i (MD.1 hi))
 rw[hA]at hh;have T:=hg.D h8;refine⟨T,?_⟩;have hC:(blkd S S.mr).length<=4096:=by
  unfold blkd;rw[Lm];exact Lx (LJ _ _) (by rw[L5];omega)
 refine pk<|xg<|(QjL (I.I (V.D T)) E (Qh.ints hh oa od) (Qmj S Y _)).S ?_;rintro _ w6 ⟨hj,v,rfl,hv⟩;refine⟨T.D hj,?_⟩;refine p Qx<|p (λ_=>QV O O)<|p (λ_=>QV O O)<|p ZA<|p ZA<|pe ?_;refine Ql<|Qa<|x (Zj O)<|x Qd<|x Qd<|Qb<|Qk ⟨[v,_,sS 0],ox,(ha.D T).D hj,v,O,hv.S (ha.D T).size⟩
end Go.Lg
namespace Go.Proofs
open Go.Proofs.Tryz
open Go.Shelf
def Tryz.sortEd_ren:Go.Shelf.Ren:=⟨λ|6=>244|15=>141|14=>278|28=>220|29=>221|20=>300|21=>301|22=>302|23=>303|24=>304|25=>305|26=>306|27=>307|46=>318|47=>258|48=>259|49=>319|50=>320|57=>325|n=>n,λ|22=>51|24=>179|25=>345|3=>3|39=>246|0=>0|53=>317|55=>319|4=>4|46=>311|45=>310|50=>205|5=>5|9=>9|66=>363|70=>367|76=>389|77=>379|n=>n,λ|n=>n⟩
theorem Tryz.sortEd:Go.Proofs.SlLaysF0.n6 sV Tryz.sortEd_ren:=lyS
end Go.Proofs
namespace Go.Lg
open Go.Lg Go.Sort
abbrev Ez:={ x:Ed // (0<=x.1/\x.1<1099511627776)/\0<=x.2.1/\x.2.1<1099511627776 }
instance:Inhabited Ez:=⟨⟨(0,0,0),og⟩⟩
abbrev qm (x:Ez):LV:=[sS x.1.1,sS x.1.2.1,sS x.1.2.2]
abbrev EzO (base:Nat)(w:OZ)(v:O0)(l:List Ez):Prop:=w.ownsRow base 179 3 v l.length (l.flatMap qm)
def ecf (x y:Ez):Int:=if x.1.1=y.1.1 then x.1.2.1 - y.1.2.1 else x.1.1 - y.1.1
theorem QpS (x y:Ez)(W:OZ):Calls sV 310 #[sT (qm x),sT (qm y)] W λe w'=>e=.returned (sS (ecf x y))/\∃q os',w'=grow (W.drewN q) os':=by
 have E:IntKind.i64.wrap (x.1.1 - y.1.1)=x.1.1 - y.1.1:=Xz ⟨oq x.2 y.2,oq x.2 y.2⟩;have G:IntKind.i64.wrap (x.1.2.1 - y.1.2.1)=x.1.2.1 - y.1.2.1:=Xz ⟨oq x.2 y.2,oq x.2 y.2⟩
 go_enter func310,ntmps310
 go_wp2
 ·go_ret;rename_i h;exact⟨by rw[ecf,OR (ou h)];rfl,0,_,by rw[alloc_eq_grow,alloc_eq_grow,grow_grow];rfl⟩
 go_ret;rename_i h;exact⟨by rw[ecf,OS (ou h)];rfl,0,_,by rw[alloc_eq_grow,alloc_eq_grow,grow_grow];rfl⟩
theorem QpT (x y:Ez)(W:OZ):Calls sV 245 #[sT (qm x),sT (qm y)] W λe w'=>e=.returned (sS (ecf x y))/\∃q os',w'=grow (W.drewN q) os':=by
 have E:IntKind.i64.wrap (x.1.1 - y.1.1)=x.1.1 - y.1.1:=Xz ⟨oq x.2 y.2,oq x.2 y.2⟩;have G:IntKind.i64.wrap (x.1.2.1 - y.1.2.1)=x.1.2.1 - y.1.2.1:=Xz ⟨oq x.2 y.2,oq x.2 y.2⟩
 go_enter func245,ntmps245
 go_wp2
 ·go_ret;rename_i h;exact⟨by rw[ecf,OR (ou h)];rfl,0,_,by rw[alloc_eq_grow,alloc_eq_grow,grow_grow];rfl⟩
 go_ret;rename_i h;exact⟨by rw[ecf,OS (ou h)];rfl,0,_,by rw[alloc_eq_grow,alloc_eq_grow,grow_grow];rfl⟩
theorem QaC (x:Ez):(qm x).length=3:=rfl
theorem Qdv:∀l:List Ez,(l.flatMap qm).length=l.length*3
 | []=>rfl
 | x::l=>by rw[LK,Lc,Qdv l,QaC,LL];omega
theorem QeV {l:List Ez}(J:j<l.length*3):(l.flatMap qm)[j]?=some ((flatK qm 3 l.toArray)[j]!):=by
 have E:j / 3<l.length:=Nat.div_lt_of_lt_mul oa;have G:j % 3<3:=Nat.mod_lt _ og;rw[get_flatK _ _ _ _ (ou J)];have S:(l.flatMap qm)[j]?=(qm (l[j / 3]'E))[j % 3]?:=by
  rw[<-(X5 qm 3 QaC l (j / 3) E),LZ,OS G,MI];congr 1;omega
 rw[S];have T:(l.toArray)[j / 3]! = l[j / 3]'E:=by simp[E]
 rw[T];have I:j % 3<(qm (l[j / 3]'E)).length:=G;exact(LE I).D (OT some (getElem!_pos (qm (l[j / 3]'E)) (j % 3) I).symm)
theorem Qjd (x y:Ez):ltOf ecf x y=true↔x.1.1<y.1.1\/x.1.1=y.1.1/\x.1.2.1<y.1.2.1:=by
 unfold ltOf ecf;rw[decide_eq_true_iff];split <;> omega
theorem QaH (x y:Ez):ltOf ecf x y=false↔y.1.1<x.1.1\/y.1.1=x.1.1/\y.1.2.1<=x.1.2.1:=by
 rw[<-Bool.not_eq_true,Qjd];omega
theorem Qod:SWO (ltOf ecf) where
 irrefl x:=by rw[QaH];omega
 trans x y z h1 h2:=by rw[Qjd]at *;omega
 ntrans x y z h1 h2:=by rw[QaH]at *;omega
theorem QkV [Inhabited α]{lt:α->α->Bool}{d E:Array α}(I:PermIn 0 d.size d E)(J:SortedIn lt 0 d.size E):E.toList.Perm d.toList/\E.toList.Pairwise (λx y=>lt y x=false):=by
 obtain⟨S,_,G⟩:=I;have e1:E.extract 0 d.size=E:=by rw[<-S];exact Array.extract_size
 rw[e1,Array.extract_size]at G;refine⟨G,?_⟩;rw[Mg];intro i j hi T U;have hi':i<E.size:=by simpa using hi
 have V:j<E.size:=by simpa using T
 have:=J i j (Lo _) U oa;rw[getElem!_pos E j V,getElem!_pos E i hi']at this;simpa using this
theorem QcZ (eg:∀args w,(callFunc g args).run sV w=.ok (.enter g args) w)(hf:∀(x y:Ez) (W:OZ),Calls sV g #[sT (qm x),sT (qm y)] W λe w'=>e=.returned (sS (ecf x y))/\∃q os',w'=grow (W.drewN q) os')
    {v:O0} {l:List Ez} (h:EzO base w v l) (hl:l.length<=1099511627776):
  QS sV 244 [v,.func (.func g) #[] #[]] w λ_ w'=>O3 (ob v) w w'/\∃l':List Ez,l'.Perm l/\l'.Pairwise (λx y=>ltOf ecf y x=false)/\EzO base w' v l':=by
 unfold QS;rcases h.2 with⟨rfl,h0⟩|⟨gb,cap,cur,rfl,hh,J,hm,ho,hq,hr⟩
 ·have hs:l=[]:=Ls h0;subst hs;have I:=AnyF.slices_SortFunc_none Tryz.sortEd none 0 (.func (.func g) #[] #[]) w;change Calls sV 244 _ _ _ at I;refine Calls.mono I λe w' S=>?_;obtain⟨rfl,rfl⟩:=S;exact⟨O3.Y _ _,[],List.Perm.refl _,List.Pairwise.nil,h⟩
 have V:gb<w.heap.size:=(LH.1 J).1;have hH:HoldsK qm 3 w gb 0 l.toArray:=by
  intro j E;rw[size_flatK,LT]at E;have Y:=QeV E;rw[<-hr,LZ,OS E]at Y;constructor
  ·show(match w.heap[gb]? with|some (.cells c _ _)=>if(none:Option _).isSome then none else c[0+j]?|_=>none)=_
   rw[J];simp only[oX,Option.isSome_none,Oi,if_false];rw[<-MK,Y];rfl
  show(match w.heap[gb]? with|some (.cells _ _ (lo,hi))=>decide (lo<=0+j) && decide (0+j<hi)|_=>false)=false
  rw[J];simp
 have I:=AnyQ.slices_SortFunc Tryz.sortEd 3 isAgg179 sizeOf179 qm QaC (λx v hv=>by simp at hv;rcases hv with rfl|rfl|rfl <;> rfl) ecf Qod g #[] gb 0 cap l.toArray w eg (λm os dk _ x y=>hf x y _) hH V (by simp;omega)
 change Calls sV 244 _ _ _ at I;rw[LT]at I;refine Calls.mono I λe w' S=>?_;obtain⟨rfl,G,n,os,hp,ht,rfl⟩:=S;have T:G.size=l.length:=by have:=hp.1;simpa using this
 have ha:=QkV (d:=l.toArray) (by rw[LT];exact hp) (by rw[LT];exact ht);have U:(sortWorldK qm 3 w gb 0 n G os).heap=w.heap.modify gb (onCells (putCells id 0 (flatK qm 3 G)))++os:=rfl;refine⟨⟨rfl,O,O,?_,λk hk hn=>?_⟩,G.toList,ha.1,ha.2,?_⟩
 ·rw[U,Nv,MF];omega
 ·rw[U,MA,MF,OS hk,MU,OR (λe=>hn (by simp[ob,e]))]
 refine⟨Qdv _,.inr ⟨gb,cap,putCells id 0 (flatK qm 3 G) cur,by simp[T],hh,?_,by simp[T];exact hm,ho,by simp[putCells,hq],?_⟩⟩
 ·rw[U,MA,MF,OS V,MU,OS rfl,J];rfl
 apply Nj;intro j;rw[LZ];by_cases E:j<G.toList.length*3
 ·rw[OS E,QeV E,MK];have hu:j<cur.size:=by simp[T]at E;omega
  have hw:j<(flatK qm 3 G).size:=by simpa using E
  simp only[putCells,Array.getElem?_mapIdx,Array.getElem?_eq_getElem hu,OC,Nat.zero_le,oX,true_and,OS hw,OL,id]
 rw[OR E,Mm];rw[Qdv];omega
theorem Qi2:∀l:List Ez,(l.map (·.1)).flatMap Qp=l.flatMap qm
 | []=>rfl
 | x::l=>by rw[LU,LK,LK,Qi2 l];rfl
theorem QeU:∀l:List Ed,(∀e∈l,(0<=e.1/\e.1<1099511627776)/\0<=e.2.1/\e.2.1<1099511627776)->∃zs:List Ez,zs.map (·.1)=l
 | [],_=>⟨[],O⟩
 | e::l,h=>by
  obtain⟨zs,E⟩:=QeU l (λd hd=>h d (Lj _ hd));exact⟨⟨e,h e Ll⟩::zs,by rw[LU,E]⟩
abbrev Qb7 (x y:Ed):Prop:=x.1<y.1\/x.1=y.1/\x.2.1<=y.2.1
theorem yP (eg:∀args w,(callFunc g args).run sV w=.ok (.enter g args) w)(E:∀(x y:Ez) (W:OZ),Calls sV g #[sT (qm x),sT (qm y)] W λe w'=>e=.returned (sS (ecf x y))/\∃q os',w'=grow (W.drewN q) os')
    {v:O0} {l:List Ed} (h:w.ownsRow base 179 3 v l.length (l.flatMap Qp)) (hl:l.length<=1099511627776) (hb:∀e∈l,(0<=e.1/\e.1<1099511627776)/\0<=e.2.1/\e.2.1<1099511627776):
  QS sV 244 [v,.func (.func g) #[] #[]] w λ_ w'=>O3 (ob v) w w'/\∃l':List Ed,l'.Perm l/\l'.Pairwise Qb7/\w'.ownsRow base 179 3 v l'.length (l'.flatMap Qp):=by
 obtain⟨zs,rfl⟩:=QeU l hb;rw[Lm]at hl;rw[Lm,Qi2]at h;refine(QcZ eg E h hl).S λ_ _ ⟨G,l',I,J,S⟩=>⟨G,l'.map (·.1),I.map _,?_,by rw[Lm,Qi2];exact S⟩;rw[L8];refine J.imp λ{x y} T=>?_;have:=(QaH y x).1 T;exact this
theorem jU {v:O0}{l:List Ed}(h:w.ownsRow base 179 3 v l.length (l.flatMap Qp))(hl:l.length<=1099511627776)(hb:∀e∈l,(0<=e.1/\e.1<1099511627776)/\0<=e.2.1/\e.2.1<1099511627776):
  QS sV 283 [v] w λ_ w'=>O3 (ob v) w w'/\∃l':List Ed,l'.Perm l/\l'.Pairwise Qb7/\w'.ownsRow base 179 3 v l'.length (l'.flatMap Qp):=by
 refine Zl func283 ?_;refine Qr<|Qa<|Qw<|(yP (enters_of func310 oc O) QpS h hl hb).S ?_;rintro G I E;refine xe ?_;exact⟨[],Z,E⟩
theorem Qfu {v:O0}{l:List Ed}(h:w.ownsRow base 179 3 v l.length (l.flatMap Qp))(hl:l.length<=1099511627776)(hb:∀e∈l,(0<=e.1/\e.1<1099511627776)/\0<=e.2.1/\e.2.1<1099511627776):
  QS sV 244 [v,.func (.func 245) #[] #[]] w λ_ w'=>O3 (ob v) w w'/\∃l':List Ed,l'.Perm l/\l'.Pairwise Qb7/\w'.ownsRow base 179 3 v l'.length (l'.flatMap Qp):=
 yP (enters_of func245 oc O) QpT h hl hb
def cmF (c:Z3)(l:List (LI)):LI:=l.zipIdx.filterMap λp=>if(VI c.ex c.cs p.1).2.2=true then some (p.2:Int) else none
theorem Qjt {c:Z3}{l:List (LI)}{k:Nat}(h:k<l.length):cmF c (l.take (k+1))=cmF c (l.take k)++(if(VI c.ex c.cs (l[k]'h)).2.2=true then[(k:Int)]else[]):=by
 unfold cmF;rw[Lh h,List.zipIdx_append,List.filterMap_append];have e:0+(l.take k).length=k:=by rw[LA];omega
 rw[e];simp only[List.zipIdx_cons,List.zipIdx_nil,List.filterMap_cons,List.filterMap_nil];by_cases E:(VI c.ex c.cs (l[k]'h)).2.2=true
 ·rw[OS E,OS E]
 rw[OR E,OR E]
theorem Qmc (c:Z3)(l:List (LI)):(cmF c l).length<=l.length:=by
 unfold cmF;refine Lx (List.length_filterMap_le _ _) ?_;rw[List.length_zipIdx];exact Lp _
def Qe3 (c:Z3):Bool:=match xj (O5 c.co),xj (O5 c.co++O5 c.rq) with
 | some (pa,ps),some (_,ts)=>ts.all λt=>decide ((wrf c.rq (t.drop c.co.length) (enb pa (plx ps (t.take c.co.length)))).length<=1)
 | _,_=>false
def cmB (c:Z3):LI:=match xj (O5 c.co++O5 c.rq) with
 | some (sa,ts)=>cmF c (ts.map (·.take c.co.length))++[sa.st]
 | none=>[]
structure CmI (b2 base:Nat)(W:OZ)(xa:O0)(st:Int)(xm vb ve:O0)(bad:LI)(es:List Ed):Prop where
 B:QK ↑W b2 53 [xa,sS st,xm,ve]
 b:Qh 3 base W vb bad
 e:W.ownsRow base 179 3 ve es.length (es.flatMap Qp)
 dj:Dj vb ve
 bd:∀e∈es,(0<=e.1/\e.1<1099511627776)/\0<=e.2.1/\e.2.1<1099511627776
theorem CmI.I {G base:Nat}{W W':OZ}{xa:O0}{st:Int}{xm vb ve:O0}{bad:LI}{es:List Ed}(h:CmI G base W xa st xm vb ve bad es)(E:sW W W'):CmI G base W' xa st xm vb ve bad es :=
 ⟨h.B.I E,Qm h.b E,Qm h.e E,h.dj,h.bd⟩
theorem CmI.addB {W:OZ}{xa:O0}{st:Int}{xm G:O0}{bad bad':LI}(h:CmI E base W xa st xm vb ve bad es)(hb:E<base)(I:O3 (ob vb) W W')(T:Qh 3 base W' G bad')(U:∀b∈ob G,b∈ob vb\/↑W<=b):CmI E base W' xa st xm G ve bad' es :=
 ⟨h.B.J I (QJ h.b hb),T,Qg h.e I (λb hb V=>h.dj b V hb),λb Y J=>(U b Y).elim (λS=>h.dj b S J) (λS=>oo (QU h.e b J)),h.bd⟩
theorem CmI.addE {W W1:OZ}{xa:O0}{st:Int}{xm I:O0}{bad:LI}{e:Ed}(h:CmI E base W xa st xm vb ve bad es)(hb:E<base)(Y:O3 (ob ve) W W1)(S:W1.ownsRow base 179 3 I (es.length+1) (es.flatMap Qp++Qp e))(hn:∀b∈ob I,b∈ob ve\/↑W<=b)
  (T:O3 [E] W1 W') (hB:QK ↑W' E 53 [xa,sS st,xm,I]) (he:(0<=e.1/\e.1<1099511627776)/\0<=e.2.1/\e.2.1<1099511627776):CmI E base W' xa st xm vb I bad (es++[e]):=by
 refine⟨hB,Qg (Qg h.b Y (λb hb G=>h.dj b hb G)) T (λb J G=>by have:=(Qi h.b b J).1;rw[Lb.1 G]at this;omega),?_,λb U ha=>(hn b ha).elim (λV=>h.dj b U V) (λV=>oo (QU h.b b U)),λd hd=>?_⟩
 ·have h9:=Qg S T (λb J G=>by have:=((Qi S) b J).1;rw[Lb.1 G]at this;omega);rw[Lc,LD];simpa using h9
 rcases Le.1 hd with hd|hd
 ·exact h.bd d hd
 rw[Lb.1 hd];exact he
theorem CmI.stb {xa:O0}{st:Int}{xm:O0}{bad:LI}:Z9 B (λW=>CmI G base W xa st xm vb ve bad es):=
 λW W' X h E hX=>⟨Z9.blk W W' X h.B E hX,Z9.row W W' X h.b E hX,Z9.row W W' X h.e E hX,h.dj,h.bd⟩
theorem QcD (h0:Z0 [] ↑w c)(ko:Kb w 4096)(kq:YQ c.C=0)(hf:(spc c.C).a.st<4096)(h1:Qe3 c.C=true):
  QS sV 183 [c.val] w λr w'=>sW w w'/\∃xa xm xe vb,r=.tuple #[.agg #[xa,sS ((spc c.C).a.st+1),xm,xe],vb,sS 0]/\ZK [xa,xm,xe]/\Qh 3 ↑w w' vb (cmB c.C):=by
 refine QS.of_G 20 func183 O ntmps183 results183 od ?_;refine QP<|Qy oh oh<|Zc c.cells λb1 w1 pf hb1 kr=>QT qk λE w2 kt hb2 ku=>x Qd<|Qb ?_;have hO:=pf.D kt;have hl1:=kr.lt;have pg:=ku.lt;have ph:=kr.I kt;have kv:Z0 [E] ↑w2 c:=(h0.up (L':=[E]) (λb hb=>.inr (by rw[Lb.1 hb];omega))).I hO;refine QP<|Qy oh oh<|Q3 ph O O<|Qw<|(Qcn (h0.I hO) (ko.I hO)).S ?_;rintro r3 w3 ⟨gn,vp,rfl,_,pj⟩;obtain⟨b,q,rfl,rfl,S,_,pn⟩:=pj kq;rw[kq];have hz:=hO.D gn;have kw:Jv [E] b ↑w3 q:=(pn [E] (λx hx=>by rw[Lb.1 hx];exact pg)).2 kv;have hsp:=jT S.p S.s;have hst':q.s.a.st<4096:=by rw[hsp]at hf;exact hf
 have po:cmB q.c.C=cmF q.c.C ((q.ts.map (·.2)).map (·.take q.c.C.co.length))++[q.s.a.st]:=by unfold cmB;rw[S.s]
 have pp:∀t∈q.ts.map (·.2),(wrf q.c.C.rq (t.drop q.c.C.co.length) (enb q.p.a (plx (q.qs.map (·.2)) (t.take q.c.C.co.length)))).length<=1:=λt ht=>by
  unfold Qe3 at h1;rw[S.p,S.s]at h1;exact OW (L9.1 h1 t ht)
 have pt:(spc q.c.C).a.st=q.s.a.st:=by rw[hsp]
 rw[pt,po];refine Qa<|QQ O O<|QQ O O<|x Qd<|Qb<|QP<|QP<|Qy oh oh<|Qa<|ZL O O<|xe<|JK rfl<|Z6 ?_;refine QP<|Qy oh oh<|Qa<|ZY O<|Q7 O<|Qs O kw.B O O<|QT [sS 0] λb6 w4 pu pw pz=>Qo<|Qv (j:=0) (u:=sS q.s.a.st) pz O O od rfl λG p0 kx=>xe ?_;have hP:sW w3 G:=pu.Q p0 pw;have hq:=kw.I hP;have hz3:=gn.size;have kz:=kx.lt;have p4:QK ↑G E 53 qk:=(ku.I gn).I hP;have hR:QK ↑G b6 3 [sS q.s.a.st]:=kx;have hst0:0<=q.s.a.st:=by
  have:=(YK (λa Y=>by
   rcases Le.1 Y with Y|Y
   ·exact YO (YI S.ok).co a Y
   exact YO (YI S.ok).rq a Y) S.s).1.st
  omega
 refine QP<|QP<|Qy oh oh<|ZB hR O O<|x (Yh O O)<|xe<|Qmx O (λk0=>OU (show q.s.a.st≥4096 from k0) oa) (λk0=>?_);refine Z6 ?_;have go:sW G { G with drawn:=G.drawn+1 }:=O3.X _ _
 refine QP<|VE (sW G) [oz 0,oz 1,oz 2,oz 3,oz 4,oz 6,oz 7,oz 8,oz 9,oz 10,oz 11,oz 12,oz 14,oz 15,oz 16,oz 17,oz 18,oA 5,oA 13,oA 19,oz 20,oA 21] mixed oh oh oc go ?_;refine p Qx<|p (YE O)<|p (QH O)<|p (QH O)<|pq (λ_ U=>Qj (hq.B.I U) O O)<|pq (λ_ U=>Qj (hR.I U) O O)<|p (λ_=>Xd O O ⟨oa,oa⟩)<|p Qx<|p (YE O)<|p (QH O)<|p (QH O) <|
  pq (λ_ U=>Qj (hq.B.I U) O O)<|p Qx<|p (YE O)<|p (QH O)<|p (QH O)<|pq (λ_ U=>Qj (hq.B.I U) O O)<|pk<|xg<|(ZT (hq.s.al.I go)).S ?_
 rintro xa w6 ⟨p5,gq⟩;have gr:=go.D p5;refine⟨gr,?_⟩;refine pk<|xg<|(ZT (hq.s.mr.I gr)).S ?_;rintro xm w7 ⟨p6,gs⟩;have hS:=gr.D p6;refine⟨hS,?_⟩;refine pk<|xg<|(zV (hq.s.ed.I hS)).S ?_;rintro hT w8 ⟨p7,hU⟩;have gt:=hS.D p7;refine⟨gt,?_⟩;refine p (λ_=>QC ⟨xL gq,O,xL gs,xL hU,Z⟩)<|pkk<|UG [xa,sS (q.s.a.st+1),xm,hT] (p4.I gt) ⟨QA gq,O,QA gs,QA hU,Z⟩ λw9 k4 p8=>pe ?_;have k5:O3 [E] G w9:=gt.any.V k4;have hz7:=hS.size;have hA:E<G.heap.size:=oa
 have k6:=hq.st k5;have hX:ZK [xa,xm]:=⟨QA gq,QA gs,Z⟩;have p9:w9.ownsRow ↑G 179 3 hT q.s.a.ed.length (q.s.a.ed.flatMap Qp):=Qg (Q9 hU oa) k4 (λb hb I=>by have:=(Qi hU b hb).1;rw[Lb.1 I]at this;omega);have hok:=YI S.ok;have hB:∀a∈O5 q.c.C.co++O5 q.c.C.rq,Q8 a:=λa Y=>by
  rcases Le.1 Y with Y|Y
  ·exact YO hok.co a Y
  exact YO hok.rq a Y
 have gu:=(YK hB S.s).1.okay hB;have qf:∀e∈q.s.a.ed,(0<=e.1/\e.1<1099511627776)/\0<=e.2.1/\e.2.1<1099511627776:=λe he=>by
  have h1:=gu.ed e he;have h2:=gu.al _ h1.2.2.1;omega
 have qj:CmI E ↑G w9 xa (q.s.a.st+1) xm Zo hT [] q.s.a.ed:=⟨p8,QL _ _ _ _,p9,λb hb=>(by cases hb),qf⟩;have k9:=qw hB S.s;have ma:=k9.1;have ql:=k9.2;simp only[]at ma ql;have hckc:=hok.c8;have hY:q.c.C.co.length=q.c.co.length:=Lm ..;have q0:q.c.C.rq.length=q.c.rq.length:=Lm ..;have hcr:=hok.cr;have q4:(O5 q.c.C.co++O5 q.c.C.rq).length=q.c.co.length+q.c.rq.length:=by rw[Lc];unfold O5;rw[Lm,Lm,hY,q0]
 refine QP<|QP<|Qy oh oh<|Qa<|ZY O<|Qs O k6.B O O<|QG k6.ts.arr O<|Qa<|xe<|Zg ((q.ts.map (·.2)).map (·.take q.c.C.co.length)) λtcs gv=>?_;rw[gv];have htcl:tcs.length=q.ts.length:=by rw[<-gv,Lm,Lm]
 have hTn:q.ts.length<=4096:=by have h2:=(YK hB S.s).1.st;have h3:(q.ts.map (·.2)).length=q.ts.length:=Lm ..;omega
 refine ZI<|Kn (α:=Nat×O0×O0×List Ed) [(3,3),(7,16),(60,109)] (λz=>[(3,z.2.1),(60,sS z.1)])
  (λz ds W'=>z.1<=q.ts.length/\O3 [E] G W'/\Kp ↑G ↑W' ds W'/\CmI E ↑G W' xa (q.s.a.st+1) xm z.2.1 z.2.2.1 (cmF q.c.C (tcs.take z.1)) z.2.2.2/\z.2.2.2.length<=131072+z.1)
  (λz=>q.ts.length - z.1) oh (0,Zo,hT,q.s.a.ed) ov ⟨Lo _,k5,⟨Mn,λD hD=>by cases hD⟩,qj,gu.ed_le⟩ ?_
 rintro⟨k,vb,ve,es⟩ g ds h4 ⟨hk,hC,mc,J,q5⟩;simp only[]at hk J q5;have hz10:=hC.size;have hZ:=Qmc q.c.C (tcs.take k);rw[LA]at hZ;refine QP<|Qy oh oh<|ZP O O<|xe<|QP<|Up O (λmf=>?_) (λmf=>?_)
 ·refine Jq ?_;rw[Lq oa]at J hZ;refine Zg (cmF q.c.C tcs) λbad ga=>?_;rw[ga]at J hZ;have gx:E∉ob ve:=QJ J.e hA;have j1:E∉ob vb:=QJ J.b hA;have gb:b6∉[E]:=ol
  have j2:b6∉ob ve:=QJ J.e kz;have j3:b6∉ob vb:=QJ J.b kz;refine QP<|Qy oh oh<|Qs O J.B O O<|Qw<|(Qfu J.e oa J.bd).S ?_;rintro r11 h5 ⟨hr,hj,hp,_,ho11⟩;refine xe ?_;have gc:=J.B.J hr gx;have gy:=(hR.J hC gb).J hr j2;have gz:=Qg J.b hr (λb hb I=>J.dj b hb I);have hz11:=hr.size;have hv:=Qi J.e;have hE:=Qi gz;have j4:Kp ↑G ↑h4 ds h5:=mc.J hr (Go.Lg.Q6 J.e);refine QP<|VE (λw'=>O3 (E::ob vb) h5 w'/\QK ↑w' E 53 [xa,sS (q.s.a.st+1),xm,ve]/\QK ↑w' b6 3 [sS q.s.a.st]) [oz 0,oz 1,oz 2,oA 3,oA 4,oA 5,oz 6,oz 7] mixed oh oh oc ⟨O3.X _ _,gc.I (O3.X _ _),gy.I (O3.X _ _)⟩ ?_;refine pq (λ_ U=>Zb U.2.1 O O)<|p Qx<|pq (λ_ U=>Qj U.2.2 O O)<|pk<|Q2 [[sS q.s.a.st]] λb116 g0 g4 hb116 za=>?_;have h6:=(O3.X [] h5).D g4;have hz12:=h6.size;refine⟨⟨h6.any,gc.I h6,gy.I h6⟩,?_⟩;refine pk<|QZ (m:=1) (news:=[sS q.s.a.st]) (L:=[]) (Qm gz h6) O O O (za.at od) om oa oa λmg hG mh ge hn13=>?_;have gg:O3 (ob vb) h5 hG:=h6.any.V ge;have mj:=gc.J gg j1;have mo:=gy.J gg j3;refine⟨⟨gg.S (λb hb=>Lj _ hb),mj,mo⟩,?_⟩;refine pk<|UG [xa,sS (q.s.a.st+1),xm,ve] mj ⟨hX.1,O,hX.2.1,QA J.e,Z⟩ λhg T mq=>?_;have g5:O3 (E::ob vb) h5 hg:=(gg.S (λb hb=>Lj _ hb)).V (T.S od);refine⟨⟨g5,mq,mo.J T gb⟩,?_⟩;refine p ZA<|p ZA<|pe ?_;have hw:Kp ↑G ↑h4 ds hg:=j4.J g5 (λb hb=>by
   rcases Ln.1 hb with rfl|hb
   ·exact gc.cells
   exact Go.Lg.Q6 gz b hb)
  have z0:E∉ds:=λI=>oo (hw.2 E I).1
  have hH:sW w hg:=(((hz.D hP).Q hC oa).O hr (λb hb=>.inr (oq (hv b hb).1 hz.size))).O g5 (λb hb=>.inr (by
   rcases Ln.1 hb with rfl|hb
   ·omega
   have:=(hE b hb).1;have:=hz.size;omega))
  refine JJ ⟨λD hD=>(hw.2 D hD).2.2,hw.1,[.agg #[xa,sS (q.s.a.st+1),xm,ve],mg,sS 0],λW' g6=>?_⟩;refine⟨⟨JN (mq.J g6 z0),O,O,Z⟩,hH.O g6 (λD hD=>.inr (oq (hw.2 D hD).1 hz.size)),xa,xm,ve,mg,O,⟨hX.1,hX.2.1,QA J.e,Z⟩,?_⟩;have h9:=Qh.snoc (Qg mh T (λb hb I=>by have:=(Qi mh b hb).1;rw[Lb.1 I]at this;omega));have ms:=Qg h9 g6 (λb hb I=>by
   obtain⟨o,g1,g2⟩:=Go.Lg.Q6 h9 b hb;rw[(hw.2 b I).2.2]at g1;cases g1
   cases g2)
  rw[<-ga]at ms;exact Q9 ms (oo hz.size)
 have hI:k<q.ts.length:=by have h62:(k:Int)<(q.ts.length:Int):=mf;omega
 have mt:k<tcs.length:=oa
 have hh:=Qjt (c:=q.c.C) mt;have z2:tcs[k]'mt=(q.ts[k]'hI).2.take q.c.C.co.length:=by subst gv;simp
 have gh:=Lk hI;have hJ:=ma _ (LG (f:=(·.2)) gh);have hy:=pp _ (LG (f:=(·.2)) gh);rw[z2]at hh;refine Zg (cmF q.c.C (tcs.take k)) λbad ga=>?_;rw[ga]at J hZ hh;refine Zg (ob vb++ob ve) λav g7=>?_;have hE:=Qi J.b;have hv:=Qi J.e;have z3:∀x∈av,↑G<=x/\x<h4.heap.size:=λx hx=>by
  rw[<-g7]at hx;exact(Le.1 hx).elim (hE x) (hv x)
 have z4:Jv (E::av) b ↑G q:=hq.up (λx hx=>by
  rcases Ln.1 hx with rfl|hx
  ·exact .inl Ll
  exact .inr (z3 x hx).1)
 have gi:Jv (E::av) b ↑h4 q:=z4.st (hC.S od);refine Zg (cmF q.c.C (tcs.take (k+1))) λg8 mu=>?_;rw[mu]at hh;refine Z6<|Qfj (α:=O0×O0×List Ed) [(3,3),(7,16),(61,109)] (λz=>[(3,z.1),(60,sS k)]) (λz h7 W'=>O3 [E] G W'/\Kp ↑G ↑W' h7 W'/\CmI E ↑G W' xa (q.s.a.st+1) xm z.1 z.2.1 g8 z.2.2/\z.2.2.length<=131072+(k+1)) oh ?_ ?_
 rotate_left
 ·rintro⟨gj,hs,hj⟩ g h7 W ⟨z5,hDW,hIW,hlW⟩;refine Qy oh oh<|QB O O<|Qa<|xe ?_;exact⟨(k+1,gj,hs,hj),oe,ov,hI,z5,hDW,by simp only[];rw[mu];exact hIW,hlW⟩
 refine ZI<|QP<|Qy oh oh<|Qa<|O6 (g:=YB) Kc gi.ts.arr O O hI λa63 mv=>?_;refine Zg (q.ts[k]'hI) λt ht=>?_;rw[ht]at mv gh hJ hy hh;have htl:t.2.length=q.c.co.length+q.c.rq.length:=by rw[hJ.1,q4]
 refine x (Qq mv O)<|QT [sS 0] λb7 h5 hr hb7 hB7=>Qo<|Qv (j:=0) (u:=sS k) hB7 O O od rfl λg0 g4 hB712=>Qb ?_;have g9:sW h4 g0:=hr.Q g4 hb7;have hB712':QK ↑g0 b7 3 [sS k]:=hB712;refine QP<|Qy oh oh<|Qa<|Qa<|Qw<|(Qbh (gi.I g9) ((gi.ts.each t gh).I g9) oa).S ?_;rintro r13 hG ⟨ge,v9,mw,rfl,ka,my⟩;refine Qa<|QQ O O<|QQ O O<|x Qd<|Qb ?_;have hK:=g9.D ge;have mz:=gi.I hK;rw[hY]at hy hh;refine Zg (t.2.take q.c.co.length) λtc gk=>?_;refine Zg (t.2.drop q.c.co.length) λtr m0=>?_;rw[gk]at ka hy hh;rw[m0]at my hy;have htcl2:tc.length=q.c.co.length:=by rw[<-gk,LA];omega
 have m1:∀x∈tc,0<=x/\x<4096:=λx hx=>(hJ.bd (m:=4096) (λa Y=>(hB a Y).st1)) x (L2 (by rw[gk];exact hx));have hVc:Vt (O5 q.c.C.co) tc:=by
  have h1:=hJ.take;rw[show(O5 q.c.C.co).length=q.c.co.length by unfold O5;rw[Lm];exact hY,gk]at h1;exact h1
 have hVr:Vt (O5 q.c.C.rq) tr:=by
  have h1:=hJ.drop;rw[show(O5 q.c.C.co).length=q.c.co.length by unfold O5;rw[Lm];exact hY,m0]at h1;exact h1
 have gl:Jv [] b ↑hG q:=mz.up od;have hvo:=U8 gl.k1 gl.k2 gl.k3 (ka.up (L':=[]) od) (by rw[S.ex,S.cs];exact hok.cd) hVc.tpOk;rw[S.ex,S.cs]at hvo;refine Zg (VI q.c.C.ex q.c.C.cs tc) λV hV=>?_;rw[hV]at hvo hh;have kb:=J.I hK;have hz13:=hK.size;have m2:=hB712'.I ge;refine Qfj (α:=O0) [(3,3),(11,14),(71,86)] (λz=>[(3,z)]) (λz h7 W=>h7=ds/\O3 (ob vb) hG W/\Qh 3 ↑G W z g8/\∀x∈ob z,x∈ob vb\/↑hG<=x) oh ?_ ?_
 ·refine QP<|Qy oh oh<|Qa<|ZY O<|Q7 O<|x (ZQ (us:=[q.vs,q.vx,q.vk]) gl.B O O O)<|Qa<|Qw<|hvo.S ?_;rintro r14 hg ⟨T,rfl⟩;refine Qa<|QQ O O<|QQ O O<|QQ O O<|QQ O O<|x Qd<|x Qd<|x Qd<|Qb<|QP<|Qy oh oh<|Qa<|xe ?_;have m3:=Qm kb.b T;refine Ko O (λkc=>?_) (λkc=>?_)
  ·rw[OS kc]at hh;refine Qy oh oh<|Qa<|ZB (m2.I T) O O<|Qo<|Q2 [[sS k]] λb85 y1 hn hb85 hB85=>?_;have zy1:=hn.size;have hz14:=T.size;refine Qo<|QZ (m:=1) (news:=[sS k]) (L:=[]) (Qm m3 hn) O O O (hB85.at od) om oa oa λz y2 gm hL ke=>Qb<|⟨z,⟨rfl,Z⟩,rfl,(T.D hn).any.V hL,by rw[hh];exact Qh.snoc gm,λx hx=>(ke x hx).imp id (λh=>oa)⟩
  rw[OR (by rw[kc];decide),LF]at hh;refine Z6 ?_;exact⟨vb,La,O,T.any,by rw[hh];exact m3,λx hx=>.inl hx⟩
 rintro gj g h7 hg ⟨rfl,T,hbO,hbn⟩;have hI14:=kb.addB hA T hbO hbn;have hz14:=T.size;have kf:∀x∈ob vb,x∈E::av:=λx hx=>Lj _ (by rw[<-g7];exact Le.2 (.inl hx));have m4:∀x∈E::ob ve,x∈E::av:=λx hx=>by
  rcases Ln.1 hx with rfl|hx
  ·exact Ll
  exact Lj _ (by rw[<-g7];exact Le.2 (.inr hx))
 have kg:=mz.st (T.S kf);have hI9a:=ka.st (T.S kf);have m5:=my.st (T.S kf);have hH:O3 [E] G hg:=(hC.D hK.any).O T (λx hx=>.inr (hE x hx).1);have hs014:sW w hg:=(hz.D hP).Q hH oa;have hn7b:b7∉ob vb:=λI=>oo (hE b7 I).2
 have gb:b6∉[E]:=ol
 have hw:Kp ↑G ↑h4 h7 hg:=(mc.I hK).J T (Go.Lg.Q6 kb.b);refine QP<|VE (sW hg) [oz 0,oz 1,oz 2,oz 3,oz 4,oA 5,oz 6,oz 7] mixed oh oh oc (O3.X _ _) ?_;refine p Qx<|p (YE O)<|p (QH O)<|pq (λ_ U=>Qj (kg.B.I U) O O)<|p Qx<|pk<|xg<|(QaO (hI9a.I (O3.X _ _)) ((ko.I hs014).I (O3.X _ _)) m1 oa).S ?_;rintro r15 w15 ⟨rfl,hs15⟩;have kh:=(O3.X [] hg).D hs15;refine⟨kh,?_⟩;have m6:(match O8 q.mm (Kw tc) with|some u=>u|none=>sS 0)=sS (plx (q.qs.map (·.2)) tc):=by
  rw[S.m tc htcl2 (λx hx=>(m1 x hx).1)];unfold plx;by_cases I:tc∈q.qs.map (·.2)
  ·rw[OS I,OS I]
  rw[OR I,OR I]
 have hM:=QbB S.ok S.p;have m7:=Qhz hM.2.2.1 tc;refine Zg (plx (q.qs.map (·.2)) tc) λpi hpi=>?_;rw[hpi]at m6 hy m7;rw[<-hM.2.1]at m7;have hckp:cks q.p.a pi=0:=by
  unfold cks;rw[OR (by rw[(Zy q.p.a).2 hM.1];decide),OR oa]
 refine pq (λ_ U=>(X8 (k:=Kw tc) (kg.m.I U) O O).D (OT (λv=>Result.ok (Next.value v) _) m6))<|p ZA<|pe ?_;refine QP<|Qy oh oh<|Qa<|Qa<|Qa<|Qw<|(U1 (b:=b) (st:=pi) (vr:=mw) m5.cells).S ?_;rintro r16 h8 ⟨hs16,c1,c2,c3,rfl,hc1,kv,hc3,hR1,hR2,hR3⟩;refine xe ?_;have hu:=kh.D hs16;have hz1415:=kh.size;have hz16:=hu.size;have ki:=hI14.I hu;have hD16:=hw.I hu;have hB716:=(m2.J T hn7b).I hu;have hB616:=(hR.J hH gb).I hu;have hs516:O3 [E] G h8:=hH.D hu.any;refine Zg (wrf q.c.C.rq tr (enb q.p.a pi)) λfl kj=>?_;rw[kj]at hy;have kk:∀x∈E::ob ve,x<hg.heap.size:=λx hx=>by
  rcases Ln.1 hx with rfl|hx
  ·omega
  have:=(hv x hx).2;omega
 have hSt16:Jv (E::ob ve) b ↑h8 q:=(kg.I hu).up (λx hx=>.inl (m4 x hx));have hIr16:Qu (E::ob ve) ↑h8 mw tr:=(m5.I hu).up (λx hx=>.inl (m4 x hx));have hEv:∀p∈fl,0<=p.1/\p.1<32:=λp hp=>by
  rw[<-kj]at hp;have g1:=(qv.1 hp).1;unfold enb at g1;obtain⟨e,he,g2⟩:=Ly.1 g1;have g3:=hM.1.al _ (hM.1.ed e (ZD he).1).2.2.1;rw[g2]at g3;exact g3
 have hn7L:b7∉E::ob ve:=λI=>by
  rcases Ln.1 I with g1|g1
  ·omega
  have:=(hv b7 g1).2;omega
 have hn6L:b6∉E::ob ve:=λI=>by
  rcases Ln.1 I with g1|g1
  ·omega
  have:=(hv b6 g1).1;omega
 have gx:E∉ob ve:=QJ J.e hA;have hb016:G.heap.size<=h8.heap.size:=oa
 have hel2:es.length+1<=1099511627776:=oa
 have hkb2:(0:Int)<=(k:Int)/\(k:Int)<1099511627776:=oa
 refine ZI<|QcB (α:={ x:Int×Int // x∈fl }) (E::ob ve) oa (capt:=[sP c1,sP c2,sP c3]) O (encs:=λx=>[sS x.1.1,sS x.1.2]) og (λ_=>O)
  (VQ hR1 hR2 hR3 (λI=>oo (kk _ I)) (λI=>oo (kk _ I)) (λx hx=>oo (kk _ hx)) hSt16 hIr16 (λx hx=>hok.rq x.it (LG hx)) hVr hckp O kj)
  (λpre W=>∃hs hj,O3 (E::ob ve) h8 W/\CmI E ↑G W xa (q.s.a.st+1) xm gj hs g8 hj/\(pre=[]->hs=ve/\hj=es)/\hj.length<=es.length+pre.length)
  (λpre=>Z9.ex λhs=>Z9.ex λhj=>(Z9.J (Lp _)).and (CmI.stb.and ((Z9.pure _).and (Z9.pure _))))
  (λ_ _ _=>False) (λ_ _=>Z9.pure _)
  ⟨ve,es,O3.Y _ _,ki,λ_=>⟨O,O⟩,Lp _⟩
  (λf x f' W=>f'=upd (upd (upd f 98 (sS x.1.1)) 99 (sS x.1.2)) 16 (sS x.1.1)) (λx f'=>Z9.pure _) ?_ ?_ ?_ ?_
 ·rintro l pre ⟨⟨e,i⟩,he⟩ W hW;refine Qy oh oh<|Qb<|⟨O,XD.refl _ _ _,Lg.Jw.refl _ _,hW,O⟩
 ·rintro l pre ⟨⟨e,i⟩,he⟩ f' W ⟨hs,hj,hf,ho,m8,hlen⟩ rfl hN;have m9:pre=[]:=Ls (Nat.lt_one_iff.1 (LQ hN hy));rw[((m8 m9).1),((m8 m9).2)]at ho;have pc:=hf.size;have hee:=hEv _ he;refine ZI<|Qy oh oh<|Qs O ho.B O O<|ZB (hB716.J hf hn7L) O O<|Qa<|ZB (hB616.J hf hn6L) O O<|x (QC ⟨O,O,O,Z⟩)<|Qo<|Q2 [Qp ((k:Int),e,q.s.a.st)] λb106 y1 hn hb106 hB106=>?_;have zy1:=hn.size;refine Qo<|QZ (m:=1) (news:=Qp ((k:Int),e,q.s.a.st)) (L:=[]) (Qm ho.e hn) O O O (hB106.at od) (by simp[Qp,Value.oneCell']) hel2 oa λu y2 gm hL ke=>?_;refine Q7 O<|Qo<|Qv (u:=u) ((ho.B.I hn).J hL gx) O O od (QA gm) λy3 pd hB3=>xe ?_;have kn:O3 (E::ob ve) W y3:=(hn.any.V (hL.S λx hx=>Lj _ hx)).V (pd.S od);have hnw:∀x∈ob u,x∈ob ve\/↑W<=x:=λx hx=>(ke x hx).imp id (λh=>oa);refine⟨XD.J kn pc (λx hx=>⟨.inl hx,?_⟩),Lg.Jw.J kn,u,es++[((k:Int),e,q.s.a.st)],hf.V kn,ho.addE hA (hn.any.V hL) gm hnw pd hB3 ⟨hkb2,oe⟩,λh=>OU h od,by simp only[oM,oL];omega⟩;rcases Ln.1 hx with rfl|hx
  ·exact ho.B.cells
  exact Go.Lg.Q6 ho.e x hx
 ·rintro D xs W hD hxs ⟨hs,hj,hf,ho,_,hlen⟩ hdD;have hxl:xs.length=fl.length:=by have g1:=OT oW hxs;rw[Lm]at g1;exact g1
  have pc:=hf.size;refine⟨(gj,hs,hj),ov,hs516.O hf (λx hx=>?_),((hD16.J hf (λx hx=>?_)).up oa).cons oa (show ↑h8<=D from hD) hdD,ho,oe⟩
  ·rcases Ln.1 hx with rfl|hx
   ·exact .inl Ll
   exact .inr (hv x hx).1
  rcases Ln.1 hx with rfl|hx
  ·exact ki.B.cells
  exact Go.Lg.Q6 ki.e x hx
 rintro D e pre W hD hSp hF;exact hF.elim
instance ayZi1:Ay sV 29 3 28 27:=⟨oc,oc⟩
theorem Qeu (p:Int×Int):∀u∈Zf p,u.oneCell'=true:=by
 intro y E;simp only[Zf,oK,oH,or_false]at E;rcases E with rfl|rfl <;> rfl
instance ayAv1:Ay sV 23 5 5 1:=⟨underlying23,oc⟩
def nm1 (c k:Nat):ByteArray:=⟨#[UInt8.ofNat (c+k)]⟩
def Ki (k n:Nat):J9:=if 48<=n/\n<52 then⟨nm1 97 k,false,false,false,(n:Int) - 47⟩else
 ⟨nm1 97 k,decide (((n &&& 1:Nat):Int)=1),decide (((n &&& 2:Nat):Int)=2),decide (((n &&& 4:Nat):Int)=4),0⟩
def Jl (ns:LN)(i:Nat):List J9:=(oJ i).map λk=>Ki k (ns.getD k 0)
theorem Qdy (ns:LN)(i:Nat):Jl ns (i+1)=Jl ns i++[Ki i (ns.getD i 0)]:=by
 unfold Jl;rw[Nb,Lv];rfl
theorem Va (ns:LN)(i:Nat):(Jl ns i).length=i:=by unfold Jl;simp
theorem QcC (hn:ns.length=5)(hb:∀n∈ns,n<256):
  QS sV 82 [sT (bys ns)] w λr w'=>sW w w'/\w'.ownsRow ↑w 94 5 r (Jl ns 5).length ((Jl ns 5).flatMap Zr):=by
 refine Zl func82 ?_;refine Qc<|Zc (bys ns) λb1 w1 ho hK hp=>Qb<|Qc<|Qb<|Qe<|Qc<|Qb<|QX (α:=Nat×O0) [(3,53)] (λz=>[(3,z.2),(4,sS z.1)]) (λz w'=>z.1<=5/\sW w1 w'/\w'.ownsRow ↑w1 94 5 z.2 (Jl ns z.1).length ((Jl ns z.1).flatMap Zr)) (λz=>5 - z.1) (0,Zo) ov
  ⟨Lo _,O3.Y _ _,QL _ _ _ _⟩ ?_
 rintro⟨k,v⟩ g w2 ⟨hk,V,S⟩;simp only[]at hk S;refine Qe<|Ql<|ZP O O<|xe<|Zn rfl (λh7=>?_) (λh7=>?_)
 ·refine Qt ?_;have hu:k=5:=by have h8:¬(k:Int)<5:=h7;omega
  rw[hu]at S;refine Ql<|Qb<|Qk ⟨[v],La,ho.D V,Q9 S ho.size⟩
 have G:k<5:=by have h8:(k:Int)<5:=h7;omega
 have q:=UU (ns:=ns) (j:=0+k*1) oa;have ql:=X4 hb (0+k*1);have hv:ns.getD (0+k*1) 0=ns.getD k 0:=by rw[show 0+k*1=k by omega]
 rw[hv]at q ql;have hq:=Qdy ns k;have hL:=Va ns k;refine Zg (ns.getD k 0) λn hw=>?_;rw[hw]at q ql hq;have hy:=hp.I V;refine Qf<|Qe<|Qn<|Ql<|x (Yc (k':=.u8) O ⟨oa,oa⟩)<|QB O O<|Qo<|Q2 [[.int .u8 ((97:Int)+(k:Int))]] λh0 w3 he hM h1=>?_;have h2:((97:Int)+(k:Int))=((97+k:Nat):Int):=oa
 have h3:QK ↑w3 h0 5 [.int .u8 ((97+k:Nat):Int)]:=by rw[<-h2];exact h1
 refine x (Qnl (n:=97+k) h3 oa O)<|x (QC ⟨O,Z⟩)<|Qo<|YN (us:=[.string ⟨#[]⟩,.bool false,.bool false,.bool false,sS 0]) O λI w4 h4 hN h5=>Q5 (Zr ⟨nm1 97 k,false,false,false,0⟩) h5 ⟨O,O,O,O,O,Z⟩ λw5 h6 hr =>
  xe ?_
 have hf:sW w2 w5:=(he.D h4).Q h6 (oo he.size);have J:=hy.I hf;have hO:=hf.size;have hP:=he.size;have hQ:=hp.lt;have hR:=V.size;have hg:b1∉[I]:=ol
 refine QW (α:=Unit) [(16,49)] (λ_=>[]) (λ_ w'=>O3 [I] w5 w'/\QK ↑w' I 94 (Zr (Ki k n))) oh ?_ ?_
 ·refine QW (α:=Bool) [(16,25)] (λz=>[(25,.bool z)]) (λz w'=>w'=w5/\(z=true↔48<=n/\n<52)) oh ?_ ?_
  ·refine Qr<|Qa<|x (ZR (i:=k) O O G)<|ZB J O q<|xb (Yh O O) (λhh=>?_) (λhh=>?_)
   ·have hs:(48:Int)<=(n:Int):=hh;refine Qa<|Qa<|x (ZR (i:=k) O O G)<|ZB J O q<|ZP O O<|Qz O<|xe<|⟨decide ((n:Int)<52),La,O,?_⟩;rw[decide_eq_true_eq];omega
   have hs:¬(48:Int)<=(n:Int):=hh;refine Qa<|Zw<|Jr<|Qz O<|xe ?_;exact⟨false,La,O,⟨λh=>(by cases h),λh=>OU oa hs⟩⟩
  rintro z g6 T ⟨rfl,hz⟩;refine Q0 O (λY=>?_) (λY=>?_)
  ·have E:=hz.1 Y;refine Qr<|Qa<|x (ZR (i:=k) O O G)<|ZB J O q<|x (Yc (k':=.i64) O ⟨oa,oa⟩)<|x (Jg O O ⟨oa,oa⟩)<|Q7 O<|Qo<|Qv hr O O od rfl λw7 U hj =>
    xe ?_
   refine⟨(),Z,U,?_⟩;unfold Ki;rw[OS E];exact hj
  have E:¬(48<=n/\n<52):=λh=>by have:=hz.2 h;rw[this]at Y;cases Y
  have ha:sW T { T with drawn:=T.drawn+1 }:=O3.X _ _
  refine ZH [I] (Y0 0 21 [16,18,20])<|p Qx<|p (λ_=>ZR (i:=k) O O G)<|pq (λ_ E=>Qj (J.J E hg) O q)<|p (λ_=>UD (a:=n) (b:=1) O O ql og)<|p (λ_=>Zd O O) <|
   p Qx<|p (λ_=>ZR (i:=k) O O G)<|pq (λ_ E=>Qj (J.J E hg) O q)<|p (λ_=>UD (a:=n) (b:=2) O O ql og)<|p (λ_=>Zd O O) <|
   p Qx<|p (λ_=>ZR (i:=k) O O G)<|pq (λ_ E=>Qj (J.J E hg) O q)<|p (λ_=>UD (a:=n) (b:=4) O O ql og)<|p (λ_=>Zd O O)<|?_
  refine p (QH O)<|pk<|Qv (hr.I ha) O O od rfl λw7 U hj=>⟨(ha.any (L:=[I])).V U,?_⟩;refine p (QH O)<|pk<|Qv hj O O od rfl λw8 ht h9=>⟨((ha.any (L:=[I])).V U).V ht,?_⟩;refine p (QH O)<|pkk<|Qv h9 O O od rfl λw9 hA hB=>pe ?_;refine⟨(),Z,(((ha.any (L:=[I])).V U).V ht).V hA,?_⟩;unfold Ki;rw[OR E];exact hB
 rintro _ g6 T ⟨hC,hD⟩;have hE:sW w2 T:=hf.Q hC oa;refine Qr<|Qa<|Q3 hD O O<|Qo<|Q2 [Zr (Ki k n)] λhS hT hF hU hG=>?_;have hm:=hE.D hF;have hV:=hm.size;refine Qo<|QZ (news:=Zr (Ki k n)) (L:=[]) (Qm S hm) O O O (hG.at od) (Qb0 _) oa oa λhH hW hI hJ hX =>
  Qb<|Qr<|Qa<|QB O O<|Qb<|⟨(k+1,hH),oe,ov,G,(V.D hm).O hJ (λc E=>.inr (Qi S c E).1),?_⟩
 simp only[];rw[hq,Lc,LD];simpa using hI
def XJ (n m:Nat):LI:=(oJ n).map λk:Nat=>if k<m then(k:Int) else -1
theorem jn {k:Nat}(h:k<m):Z7 (Xh m) (k:Int)=k:=by
 unfold Z7 Xh;simp[oO,h]
theorem QpI {fd R:LI}{t:Int}(G:fd=out++R)(E:t∈out):zz fd t=(out.idxOf t:Nat):=by
 subst G;unfold zz;rw[OS (LM _ E),Mc,OS E]
theorem Qn1 {fd R:LI}{t:Int}(E:fd=out++[t]++R)(G:t∉out):zz fd t=(out.length:Nat):=by
 subst E;unfold zz;rw[OS od,LC,Mc,OR G];simp
theorem jm {k:Nat}(h:k<n):Z7 (XJ n m) (k:Int)=if k<m then(k:Int) else -1:=by
 unfold Z7 XJ;simp[oO,h]
theorem Qh1 :(XJ n m).set m (m:Int)=XJ n (m+1):=by
 apply LX
 ·simp[XJ]
 intro k I G;have J:k<n:=by simpa[XJ]using G
 rw[M1];by_cases e:m=k
 ·subst e;simp[XJ]
 rw[OR e];simp only[XJ,List.getElem_map,List.getElem_range];by_cases E:k<m
 ·rw[OS E,OS oa]
 rw[OR E,OR oa]
theorem yY {R:Nat->List Ed}(hR:∀i,∀e∈R i,e.1=(i:Int))(j:Nat):∀n,QO ((oN 0 n).flatMap R) j=if j<n then R j else[]
 | 0=>by simp[QO]
 | n+1=>by
  have E:QO (R n) j=if n=j then R n else[]:=by
   unfold QO;by_cases e:n=j
   ·rw[OS e];exact Nz.2 λx hx=>OV (by rw[hR n x hx,e])
   rw[OR e];exact MJ.2 λx hx=>by rw[decide_eq_true_eq,hR n x hx];omega
  rw[Mo,LD,LS];unfold QO at E ⊢;rw[LR];have ih:=yY hR j n;unfold QO at ih;rw[ih];simp only[oT,OI,Ol];rw[E];by_cases G:j<n
  ·rw[OS G,OR oa,OS oa,LF]
  rw[OR G];by_cases I:n=j
  ·subst I;rw[OS rfl,OS oa,Mr]
  rw[OR I,OR oa];rfl
theorem qN {s:Int}:∀(vs:LI) (out:LI),∃r,vs.foldl (VG a s) out=out++r
 | [],out=>⟨[],od⟩
 | v::vs,out=>by
  rw[LO];obtain⟨r,E⟩:=qN vs (VG a s out v);rw[E];unfold VG;split
  ·exact⟨[xd a.ed s v]++r,by rw[LC]⟩
  exact⟨r,O⟩
theorem qM:∀(f i:Nat) (out:LI),∃r,js a f i out=out++r
 | 0,i,out=>⟨[],by simp[js]⟩
 | f+1,i,out=>by
  rw[js];split
  ·obtain⟨r,E⟩:=qM f (i+1) (fdR a out (O4 out i));obtain⟨r',G⟩:=qN (a:=a) (s:=O4 out i) a.al out;refine⟨r'++r,?_⟩;rw[E];unfold fdR;rw[G,LC]
  exact⟨[],od⟩
theorem qA {fd:LI}{i:Nat}:∀(vs out:LI) (c:Cs),(∃r,fd=vs.foldl (VG a (O4 fd i)) out++r)->c.ord=Xh out.length->c.num=XJ fd.length out.length ->
  (vs.filterMap (Kl a fd i)).foldl (Zq i) c=⟨Xh (vs.foldl (VG a (O4 fd i)) out).length,XJ fd.length (vs.foldl (VG a (O4 fd i)) out).length,c.mk',c.ed++vs.filterMap (Kl a fd i)⟩
 | [],out,c,_,J,G=>by
  obtain⟨o,n,m,e⟩:=c;subst J G;simp
 | v::vs,out,c,E,J,G=>by
  rw[LO]at E ⊢;obtain⟨r,E⟩:=E;obtain⟨r2,hc⟩:=qN (a:=a) (s:=O4 fd i) vs (VG a (O4 fd i) out v);have I:fd=VG a (O4 fd i) out v++(r2++r):=by rw[<-LC,<-hc];exact E
  by_cases U:0<=xd a.ed (O4 fd i) v
  ·have V:Kl a fd i v=some ((i:Int),v,zz fd (xd a.ed (O4 fd i) v)):=by unfold Kl;rw[OS U]
   rw[Mi,V];simp only[];rw[LO];by_cases S:xd a.ed (O4 fd i) v∈out
   ·have T:VG a (O4 fd i) out v=out:=by unfold VG;rw[OR (λh=>h.2 S)]
    rw[T]at E I ⊢;have hix:zz fd (xd a.ed (O4 fd i) v)=(out.idxOf (xd a.ed (O4 fd i) v):Nat):=QpI I S;have he:=Mz S;have ha:out.length<=fd.length:=by rw[I];simp
    have Y:Zq i c ((i:Int),v,zz fd (xd a.ed (O4 fd i) v))=⟨c.ord,c.num,c.mk',c.ed++[((i:Int),v,zz fd (xd a.ed (O4 fd i) v))]⟩:=by
     unfold Zq;simp only[];rw[G,hix,jm oa,OS he,OR oa]
    rw[Y,qA vs out ⟨c.ord,c.num,c.mk',c.ed++[((i:Int),v,zz fd (xd a.ed (O4 fd i) v))]⟩ ⟨r,E⟩ J G];simp only[Of,Oo]
   have T:VG a (O4 fd i) out v=out++[xd a.ed (O4 fd i) v]:=by unfold VG;rw[OS ⟨U,S⟩]
   rw[T]at E I ⊢;have hix:zz fd (xd a.ed (O4 fd i) v)=(out.length:Nat):=Qn1 I S;have ha:out.length<fd.length:=by rw[I];simp
   have Y:Zq i c ((i:Int),v,zz fd (xd a.ed (O4 fd i) v))=⟨Xh (out.length+1),XJ fd.length (out.length+1),c.mk',c.ed++[((i:Int),v,zz fd (xd a.ed (O4 fd i) v))]⟩:=by
    unfold Zq;simp only[];rw[J,G,hix,jm ha,OR (Nat.lt_irrefl _),OS oa,zo,y9];simp only[Ov];rw[Qh1]
   rw[Y,qA vs (out++[xd a.ed (O4 fd i) v]) _ ⟨r,E⟩ od od];simp only[Of,Oo]
  have V:Kl a fd i v=none:=by unfold Kl;rw[OR U]
  have T:VG a (O4 fd i) out v=out:=by unfold VG;rw[OR (λh=>U h.1)]
  rw[T]at E ⊢;rw[Mi,V];exact qA vs out c ⟨r,E⟩ J G
theorem QjD (fd:LI)(i:Nat):YZ a fd (i+1)=YZ a fd i++(if O4 fd i∈a.mr then[(i:Int)]else[]):=by
 unfold YZ;rw[Mo,LR,Lv,LS];by_cases h:O4 fd i∈a.mr <;> simp[h]
theorem QjF (fd:LI)(i:Nat):Xb a fd (i+1)=Xb a fd i++a.al.filterMap (Kl a fd i):=by
 unfold Xb;rw[Mo,LD,LS];simp
theorem Qcl {fd:LI}(h:i<n):(i:Int)∈YZ a fd n↔O4 fd i∈a.mr:=by
 unfold YZ;simp only[Ow,Ot,Ox,decide_eq_true_eq];constructor
 ·rintro⟨k,⟨_,E⟩,G⟩;have:k=i:=oa
  subst this;exact E
 intro E;exact⟨i,⟨oa,E⟩,O⟩
theorem QjE {fd:LI}(V:fd=xo a)(hp:fd.length<=a.st.toNat):∀(f g i:Nat) (out:LI),i<=out.length->js a g i out=fd->i+g=a.st.toNat->fd.length<=i+f ->
  Xv (Y2 a) f i ⟨Xh out.length,XJ fd.length out.length,YZ a fd i,Xb a fd i⟩=⟨Xh fd.length,XJ fd.length fd.length,YZ a fd fd.length,Xb a fd fd.length⟩:=by
 have hf:(Y2 a).ed=Xb a fd fd.length:=by rw[V];rfl
 have hg:(Y2 a).mr=YZ a fd fd.length:=by rw[V];rfl
 have done:∀(i:Nat) (out:LI),i<=out.length->out=fd->¬i<out.length->(⟨Xh out.length,XJ fd.length out.length,YZ a fd i,Xb a fd i⟩:Cs)=⟨Xh fd.length,XJ fd.length fd.length,YZ a fd fd.length,Xb a fd fd.length⟩:=by
  intro i out I E Y;have:i=fd.length:=by rw[<-E];omega
  rw[this,E]
 intro f;induction f with
 | zero =>
  intro g i out I E Y h4;obtain⟨r,G⟩:=qM (a:=a) g i out;rw[E]at G;have hl:fd.length=out.length+r.length:=by rw[G,Lc]
  have hh:r=[]:=Ls oa;rw[Xv];exact done i out I (by rw[G,hh,LF]) oa
 | succ f ih =>
  intro g i out I E Y h4;obtain⟨r,G⟩:=qM (a:=a) g i out;rw[E]at G;have hl:fd.length=out.length+r.length:=by rw[G,Lc]
  rw[Xv];simp only[zo];by_cases hi:i<out.length
  ·rw[OS hi];obtain⟨J,rfl⟩:∃J,g=J+1:=⟨g - 1,oa⟩;rw[js,OS hi]at E;have hj:O4 out i=O4 fd i:=by
    rw[G];unfold O4;simp[oO,Oa hi]
   rw[hj]at E;have U:i<fd.length:=oa
   have hk:QO (Y2 a).ed (i:Int)=a.al.filterMap (Kl a fd i):=by
    rw[hf];unfold Xb;rw[yY (λj e he=>by
     obtain⟨v,_,S⟩:=MO.1 he;unfold Kl at S;split at S
     ·cases S;rfl
     cases S),OS U]
   have hm:Yi (Y2 a) i ⟨Xh out.length,XJ fd.length out.length,YZ a fd i,Xb a fd i⟩=⟨Xh out.length,XJ fd.length out.length,YZ a fd (i+1),Xb a fd i⟩:=by
    unfold Yi;simp only[];rw[jn hi,hg,QjD];by_cases T:O4 fd i∈a.mr
    ·rw[OS ((Qcl U).2 T),OS T]
    rw[OR (λh=>T ((Qcl U).1 h)),OR T];simp
   have hn:qi (Y2 a) i ⟨Xh out.length,XJ fd.length out.length,YZ a fd i,Xb a fd i⟩=⟨Xh (fdR a out (O4 fd i)).length,XJ fd.length (fdR a out (O4 fd i)).length,YZ a fd (i+1),Xb a fd (i+1)⟩:=by
    unfold qi;rw[hm];simp only[];rw[jn hi,hk];obtain⟨r3,ha⟩:=qM (a:=a) J (i+1) (fdR a out (O4 fd i));rw[E]at ha;rw[qA a.al out ⟨Xh out.length,XJ fd.length out.length,YZ a fd (i+1),Xb a fd i⟩ ⟨r3,ha⟩ rfl rfl,QjF];rfl
   rw[hn];obtain⟨r4,ho⟩:=qN (a:=a) (s:=O4 fd i) a.al out;exact ih J (i+1) _ (by unfold fdR;rw[ho,Lc];omega) E oa oa
  rw[OR hi];have h5:js a g i out=out:=by
   cases g with
   | zero=>rfl
   | succ g=>rw[js,OR hi]
  exact done i out I (h5.symm.D E) hi
theorem QjC (E:Q8 a)(G:0<a.st):XM (Y2 a)=Y2 a:=by
 have U:=Qck E G;have V:(Y2 a).st=((xo a).length:Int):=rfl;have I:(Y2 a).st.toNat=(xo a).length:=oa
 have h:=QjE (a:=a) O ((zI E).1.len E.st0) (xo a).length a.st.toNat 0 (fd0 a) (Lo _) O oa oa;have J:fd0 a=[0]:=by unfold fd0;rw[OS G]
 rw[J]at h;have S:YJ (Y2 a)=⟨Xh 1,XJ (xo a).length 1,YZ a (xo a) 0,Xb a (xo a) 0⟩:=by
  unfold YJ;rw[I];have e:(oG (xo a).length (-1:Int)).set 0 0=XJ (xo a).length 1:=by
   apply LX
   ·simp[XJ]
   intro k Y h2;rw[M1];simp only[XJ,List.getElem_map,List.getElem_range,List.getElem_replicate];by_cases e:k=0
   ·subst e;simp
   rw[OR oa,OR oa]
  rw[e];simp[Xh,YZ,Xb]
 unfold XM;rw[OR oa];simp only[];rw[S,I];have T:Xv (Y2 a) (xo a).length 0 ⟨Xh 1,XJ (xo a).length 1,YZ a (xo a) 0,Xb a (xo a) 0⟩=⟨Xh (xo a).length,XJ (xo a).length (xo a).length,YZ a (xo a) (xo a).length,Xb a (xo a) (xo a).length⟩:=h;rw[T];simp only[zo];rfl
theorem Qdm (E:Q8 a)(G:0<a.st):KL (Y2 a)=true:=by
 unfold KL;rw[QjC E G];simp[(Zy _).2 (QaN E).1]
theorem GdA.can (h:GdA a):KL a=true:=by
 obtain⟨I,E,G,rfl⟩:=h.c;exact Qdm E G
structure D25 (c:Z3):Prop where
 ev:c.ev.length=5/\Xu c.ev=0
 c0:c.co.length≠0
 c3:c.co.length<=3
 r2:c.rq.length<=2
 co:∀x∈c.co,Y9 x.nm=true/\GdA x.a/\∀e∈x.a.al,e<5
 rq:∀x∈c.rq,Y9 x.nm=true/\GdA x.a/\∀e∈x.a.al,∃y∈c.co,e∈y.a.al
 nd:(c.co.map (·.nm)++c.rq.map (·.nm)).Nodup
 x2:c.ex.length<=2
 ex:∀x∈c.ex,Y9 x.nm=true/\x.ls≠[]/\Xm (szs c.co) none x.ls=0
 xn:(c.ex.map (·.nm)).Nodup
 k1:c.cs.length<=1
 cs:∀x∈c.cs,Y9 x.nm=true/\Xn (szs c.co) x=0
theorem Qkq (n:Nat)(x:Int):x∈VJ n↔0<=x/\x<(n:Int):=zn n x
theorem Qks (n:Nat):Yw (VJ n):=Qh7 n
theorem QeF {a b:LI}(ia:Yw a)(ib:Yw b)(h:∀e∈a,e∈b):(mns a b).length=0:=by
 refine Nat.eq_zero_of_not_pos λG=>?_;obtain⟨x,hx⟩:=List.exists_mem_of_length_pos G;have:=(qG ia ib x).1 hx;by_cases E:x∈a
 ·simp[E,h x E]at this
 simp[E]at this
theorem Qe7 {nev:Nat}{amg:LI}{seen:List ByteArray}{x:Jp}(G:Y9 x.nm=true)(I:x.nm∉seen)(E:GdA x.a)(J:∀e∈x.a.al,e<(nev:Int))(hi:Yw amg)(S:∀e∈x.a.al,e∈amg):Yu nev amg seen x=0:=by
 have V:=E.p;unfold Yu;rw[OR (by rw[G];decide),OR I,OR (by simpa using(Zy _).2 E.ok),OR (by rw[E.can];decide),OR oa,OR,OR (ou (QeF E.ok.ali hi S))];intro h;obtain⟨e,T,U⟩:=Nq.1 h;have:=J e T;have:=OW U;omega
theorem Qe8 {nev:Nat}{al:LI}(Y:Yw al):∀(l:List Jp) (s:List ByteArray) (u:LI),Yw u->(∀x∈l,Y9 x.nm=true/\GdA x.a/\∀e∈x.a.al,e<(nev:Int)/\e∈al)->(s++l.map (·.nm)).Nodup ->
  ∃I,Yy nev al s u l=(0,s++l.map (·.nm),I)/\Yw I/\∀e,e∈I↔e∈u\/∃y∈l,e∈y.a.al
 | [],s,u,S,_,_=>⟨u,by simp[Yy],S,od⟩
 | x::l,s,u,S,hx,T=>by
  obtain⟨h1,U,h3⟩:=hx x Ll;have ha:x.nm∉s:=by
   intro hm;rw[LU,Md]at T;exact T.2.2 _ hm _ Ll O
  obtain⟨I,k1,k2,k3⟩:=Qe8 Y l (s++[x.nm]) (mrg (· || ·) u x.a.al) (QeE _ _ _ _ (Lp _) S U.ok.ali) (λy E=>hx y (Lj _ E)) (ou T);refine⟨I,?_,k2,λe=>?_⟩
  ·rw[Yy,OR (by simpa using(Qe7 h1 ha U (λe V=>(h3 e V).1) Y (λe V=>(h3 e V).2))),k1];simp
  rw[k3,qG S U.ok.ali];constructor
  ·rintro(⟨G|G,_⟩|⟨y,E,J⟩)
   ·exact .inl G
   ·exact .inr ⟨x,Ll,G⟩
   exact .inr ⟨y,Lj _ E,J⟩
  rintro(G|⟨y,E,J⟩)
  ·exact .inl ⟨.inl G,by simp[G]⟩
  rcases Ln.1 E with rfl|E
  ·exact .inl ⟨.inr J,by simp[J]⟩
  exact .inr ⟨y,E,J⟩
theorem Qe5 {nev:Nat}{u:LI}(I:Yw u):∀(l:List Jp) (s:List ByteArray),(∀x∈l,Y9 x.nm=true/\GdA x.a/\∀e∈x.a.al,e<(nev:Int)/\e∈u)->(s++l.map (·.nm)).Nodup->J2 nev u s l=0
 | [],s,_,_=>rfl
 | x::l,s,hx,E=>by
  obtain⟨S,T,J⟩:=hx x Ll;have U:x.nm∉s:=by
   intro V;rw[LU,Md]at E;exact E.2.2 _ V _ Ll O
  rw[J2,OR (by simpa using(Qe7 S U T (λe G=>(J e G).1) I (λe G=>(J e G).2)))];exact Qe5 I l (s++[x.nm]) (λy Y=>hx y (Lj _ Y)) (ou E)
theorem ju {sz:LI}:∀(l:List Exc) (s:List ByteArray),(∀x∈l,Y9 x.nm=true/\x.ls≠[]/\Xm sz none x.ls=0)->(s++l.map (·.nm)).Nodup->YF sz s l=0
 | [],s,_,_=>rfl
 | x::l,s,hx,E=>by
  obtain⟨G,I,J⟩:=hx x Ll;have S:x.nm∉s:=by
   intro T;rw[LU,Md]at E;exact E.2.2 _ T _ Ll O
  have U:KR s x.nm=0:=by unfold KR;rw[OR (by rw[G];decide),OR S]
  have hl:x.ls.length≠0:=λh=>I (Ls h);have V:JF sz x.ls=0:=by unfold JF;rw[OR hl];exact J
  rw[YF,OR (ou U),OR (ou V)];exact ju l (s++[x.nm]) (λy Y=>hx y (Lj _ Y)) (ou E)
theorem Qh3:∀{k:Nat},k<5->Y9 (nm1 97 k)=true
 | 0,_=>og
 | 1,_=>og
 | 2,_=>og
 | 3,_=>og
 | 4,_=>og
theorem Uf {seen:List ByteArray}{k:Nat}(E:k<5)(G:nm1 97 k∉seen):XZ seen (Ki k n)=0:=by
 have I:(Ki k n).nm=nm1 97 k:=by unfold Ki;split <;> rfl
 unfold XZ;rw[I,OR (by rw[Qh3 E];decide),OR G];unfold Ki;by_cases h:48<=n/\n<52
 ·rw[OS h];simp only[];rw[OR oa,OR od]
 rw[OR h];simp only[];rw[OR oa,OR od]
theorem Qi8 (ns:LN):Xu (Jl ns 5)=0:=by
 have e:Jl ns 5=[Ki 0 (ns.getD 0 0),Ki 1 (ns.getD 1 0),Ki 2 (ns.getD 2 0),Ki 3 (ns.getD 3 0),Ki 4 (ns.getD 4 0)]:=rfl;have E:∀k n,(Ki k n).nm=nm1 97 k:=λk n=>by unfold Ki;split <;> rfl
 unfold Xu;rw[OR (by rw[Va];decide),e];simp only[U5,E];rw[Uf og og,Uf og og,Uf og og,Uf og og,Uf og og];simp
theorem D25.ck {c:Z3}(h:D25 c):Z2 c=0:=by
 have hc:=h.c3;have hf:=h.r2;have V:c.ev.length=5:=h.ev.1;obtain⟨u',k1,k2,k3⟩:=Qe8 (nev:=c.ev.length) (al:=VJ c.ev.length) (Qks _) c.co [] [] List.Pairwise.nil (λx hx=>by
  obtain⟨G,E,I⟩:=h.co x hx;refine⟨G,E,λe J=>?_⟩;have:=I e J;have:=(E.ok.al e J).1;rw[V,Qkq];exact⟨oa,oa,oa⟩) (by
  have:=h.nd;rw[Md]at this;simpa using this.1)
 have Y:=Qe5 (nev:=c.ev.length) k2 c.rq (c.co.map (·.nm)) (λx hx=>by
  obtain⟨G,E,I⟩:=h.rq x hx;refine⟨G,E,λe J=>?_⟩;obtain⟨y,T,S⟩:=I e J;have:=(h.co y T).2.2 e S;exact⟨oa,(k3 e).2 (.inr ⟨y,T,S⟩)⟩) h.nd
 unfold Z2;rw[OR (not_not_intro h.ev.2),OR h.c0,OR oa,k1];simp only[Ok];rw[OR od,OR (ou Y)];unfold Y1;have hg:(szs c.co).length=c.co.length:=by unfold szs;simp
 have hh:=h.x2;have hk1:=h.k1;have ha:¬(szs c.co).any Ku=true:=by
  intro hb;obtain⟨n,G,E⟩:=Nq.1 hb;unfold szs at G;obtain⟨x,hx,rfl⟩:=Ly.1 G;have:=(h.co x hx).2.1;have I:=this.p;have S:=this.s;unfold Ku at E;simp at E;omega
 rw[OR oa,OR ha,OR oa,OR (by simpa using ju c.ex [] h.ex (ou h.xn))];rcases U:c.cs with _|⟨x,l⟩
 ·rfl
 have hl:l=[]:=Ls (by rw[U,LL]at hk1;omega);obtain⟨G,E⟩:=h.cs x (by rw[U];exact Ll);have hz:KR [] x.nm=0:=by unfold KR;rw[OR (by rw[G];decide),OR od]
 rw[hl,Xa,OR (ou hz),OR (ou E)];rfl
theorem Uz {k:IntKind}[h:Ik P t k][h':St P E]{x:O1}{G:IntKind}(hx:ev f x=.int G n)(I:n<128):
  (execOp (ev f) ⟨d,.convert t E x,ty,pS,af,gd⟩).run P w=.ok (.value (.string ⟨#[UInt8.ofNat n]⟩)) w:=by
 refine qD hx ?_;rw[run_convert_int_string w t E G n (by rw[h.u];rfl) h'.u];have J:Utf8.valid (n:Int)=true:=by
  unfold Utf8.valid;simp;omega
 unfold Utf8.encode;simp only[J,if_true,Ov,I]
theorem Qhq {x:O1}{k:IntKind}{a b:Int}(hx:ev f x=.int k a)(G:ev f y=.int k b)(hb:b≠0):
  (execOp (ev f) ⟨d,.binOp .rem t x y E,ty,pS,af,gd⟩).run P w=.ok (.value (.int k (a.tmod b))) w:=by
 refine JU hx G ?_;simp[binOp,Op.intDiv,hb]
theorem Qk9 {e bys:Nat}[h:Sl P t e sz bys z](ha:∀u∈z.cells,u.oneCell'=true){s:O1}{b o c:Nat}(J:QK ↑w b T cs)(G:∃E,ev f s=.slice (some ⟨b,E,none⟩) m c/\(0<m->E=o/\o+m*sz<=cs.length))
  (hK:∀w' cs',O3 [b] w w'->QK ↑w' b T cs'->cs'.length=cs.length->cs'.take o=cs.take o->K (QN f d (.tuple #[])) w'):XO P ⟨d,.call ⟨.builtin .clear,#[s],#[t]⟩,ty,pS,af,gd⟩ f w K:=by
 obtain⟨E,G,hm⟩:=G;obtain⟨i,hi,hz,hf,_⟩:=Sl.info h;have hc:=h.zs;rcases Nat.eq_zero_or_pos m with rfl|hmp
 ·have S:(execOp (ev f) ⟨d,.call ⟨.builtin .clear,#[s],#[t]⟩,ty,pS,af,gd⟩).run P w=.ok (.value (.tuple #[])) w:=by
   simp[execOp,resolve,invoke,builtin,G,Builtin.clear_,run_underlying h.u]
  exact xv S (hK w cs (O3.Y _ _) J O O)
 obtain⟨rfl,hg⟩:=hm hmp;have he:(Builtin.zeroCells z.cells m).toList.length=m*sz:=by simp[Builtin.zeroCells,hc]
 have U:=run_storeCells_at P b E T (Builtin.zeroCells z.cells m).toList 0 cs.toArray w J (by simp only[Od];omega) (λu V=>by
  simp only[Builtin.zeroCells,Array.toList_map,Ow]at V;obtain⟨j,hj,rfl⟩:=V;have hh:=h.pos;have Y:j % z.cells.size<z.cells.size:=Nat.mod_lt _ oa;rw[getElem!_pos z.cells _ Y];exact ha _ (Array.getElem_mem Y))
 simp only[Ou]at U;obtain⟨I,rfl⟩:∃I,m=I+1:=⟨m - 1,oa⟩;have S:(execOp (ev f) ⟨d,.call ⟨.builtin .clear,#[s],#[t]⟩,ty,pS,af,gd⟩).run P w=.ok (.value (.tuple #[])) (w.setRow b ((cs.take E++(Builtin.zeroCells z.cells (I+1)).toList++cs.drop (E+(Builtin.zeroCells z.cells (I+1)).toList.length))).toArray):=by
  simp[execOp,resolve,invoke,builtin,G,Builtin.clear_,run_underlying h.u,zeroValue,typeInfo,hi,hz]at U ⊢;simp[U]
 refine xv S (hK _ _ (O3.setRow _ _ _) (Jf J) ?_ ?_)
 ·simp only[oM,OE,OD,he];omega
 rw[LC,List.take_append_of_le_length (by simp;omega),List.take_take,Nat.min_self]
theorem KO {α:Type}{sz:Nat}{g:α->LV}(E:∀x,(g x).length=sz):∀(l:List α) (i:Nat) (u:α),i<l.length->(l.set i u).flatMap g=(l.flatMap g).take (i*sz)++g u++(l.flatMap g).drop (i*sz+sz)
 | [],i,u,h=>OU h od
 | a::l,0,u,h=>by
  rw[List.set_cons_zero,LK,LK,Nat.zero_mul,Ng,Mr,LS,List.drop_append_of_le_length (by rw[E a];exact Lp _),Lr (by rw[E a];exact Lp _),Mr]
 | a::l,i+1,u,h=>by
  have G:(i+1)*sz=(g a).length+i*sz:=by rw[E a,ON];omega
  have I:(i+1)*sz+sz=(g a).length+(i*sz+sz):=oa
  have J:∀(F:LV) k,(g a++F).take ((g a).length+k)=g a++F.take k:=λF k=>by rw[NA,Lq (l:=g a) oa,M0]
  have S:∀(F:LV) k,(g a++F).drop ((g a).length+k)=F.drop k:=λF k=>by rw[List.drop_append,Lr (l:=g a) oa,Mr,M0]
  rw[List.set_cons_succ,LK,LK,I,G,J,S,KO E l i u (ou h)];simp only[Of]
theorem QfK [h1:Ag P t sz]{g:α->LV}(E:∀x,(g x).length=sz){x:O1}{e b cap:Nat}{l:List α}{u:α}(h:w.ownsRow base e sz (sL b l.length cap) l.length (l.flatMap g))(hx:ev f x=.pointer (some ⟨b,i*sz,none⟩))(J:ev f y=sT (g u))(hi:i<l.length)(S:ZK (g u))
  (hK:∀w',O3 [b] w w'->w'.ownsRow base e sz (sL b l.length cap) l.length ((l.set i u).flatMap g)->K (QN f d undef) w'):XO P ⟨d,.store t x y,ty,pS,af,gd⟩ f w K:=by
 rcases h.2 with⟨e1,_⟩|⟨g',cap',cur,e1,T,U,G,V,Y,ha⟩
 ·cases e1
 cases e1
 have hB:QK ↑w b e cur.toList:=U;have hf:l.length*sz<=cap*sz:=MN _ G;have hc:(i+1)*sz<=l.length*sz:=MN _ hi;rw[ON]at hc;have I:cur.toList.length=cap*sz:=by rw[Array.length_toList];exact Y
 refine JW hB hx J (E u) oa S O λw' hs he=>hK w' hs ⟨?_,.inr ⟨b,cap,_,O,T,he,G,V,?_,?_⟩⟩
 ·rw[KO E l i u hi];simp only[oM,OE,OD,E u,h.1];omega
 ·simp only[Od,oM,OE,OD,E u,I];omega
 have hX:(cur.toList.take (i*sz)++g u).length=i*sz+sz:=by simp only[oM,OE,E u,I];omega
 rw[KO E l i u hi,<-ha];show(cur.toList.take (i*sz)++g u++cur.toList.drop (i*sz+sz)).take (l.length*sz)=_;rw[NA,Lq oa,hX,List.take_take,MX oa,List.drop_take]
theorem Qh8 (p:Int×Int)(w:OZ):QS sV 88 [sT (Zf p)] w λr w'=>r=.bool (decide (p.2=0))/\sW w w':=by
 refine Zl func88 ?_;refine Qc<|Zc (Zf p) λI J E S G=>Qb<|Qc<|Qs O G O O<|x (Zd O O)<|Qb<|Qk ⟨[_],La,O,E⟩
theorem QlD [Fu sV gp fn]{q:(Int×Int)->Bool}{v:O0}{l:xu}(h:Zs L ↑w v l.length 2 (l.flatMap Zf))
  (G:∀e∈l,∀(E:OZ),sW w E->QS sV gp ([sT (Zf e)]++cap) E λr w'=>r=.bool (q e)/\sW E w'):
  QS sV 163 [v,.func (.func gp) #[] cap.toArray] w λr w'=>r=sS (fix q 0 l)/\sW w w' :=
 ixG ⟨_,O,func163⟩ XR (ldA XR) h G
end Go.Lg
